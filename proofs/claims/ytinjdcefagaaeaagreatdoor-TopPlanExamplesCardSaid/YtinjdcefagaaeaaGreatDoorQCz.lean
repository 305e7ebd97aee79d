import Derived.Test.YtinjdcefagaaeaaGreatDoorQCy
set_option linter.unusedVariables false
set_option linter.unusedSimpArgs false
namespace Go.Proofs.YtinjdcefagaaeaaGreatDoor
open Go.RowKit
/-! cycles.Tree, Forest -/
theorem find_selfB (g : Nat) (w : World) (h : Blk w g 3 (i2 0 0)) : Calls Tryz.prog 117 #[.slice (some ⟨g, 0, none⟩) 2 2, .int .i64 0] w fun e w' => e = .returned (.int .i64 0) ∧ Below w.heap.size w w' :=
  (find_self g 0 0 0 w h (.inl ⟨rfl, rfl⟩)).mono (by rintro e w' ⟨rfl, rfl⟩; exact ⟨rfl, Below.refl _ _⟩)
theorem find_rootB (g : Nat) (w : World) (h : Blk w g 3 (i2 0 0)) : Calls Tryz.prog 117 #[.slice (some ⟨g, 0, none⟩) 2 2, .int .i64 1] w fun e w' => e = .returned (.int .i64 0) ∧ Below w.heap.size w w' :=
  (find_root g w h).mono (by rintro e w' ⟨rfl, rfl⟩; exact ⟨rfl, Below.refl _ _⟩)
theorem find_01B (g : Nat) (i : Int) (w : World) (h : Blk w g 3 (i2 0 0)) (hi : i = 0 ∨ i = 1) : Calls Tryz.prog 117 #[.slice (some ⟨g, 0, none⟩) 2 2, .int .i64 i] w fun e w' => e = .returned (.int .i64 0) ∧ Below w.heap.size w w' := by
  rcases hi with rfl | rfl
  · exact find_selfB g w h
  · exact find_rootB g w h
structure TeS (w wr : World) (N : NtA) (go gp : Nat) (a b : Int) : Prop where
  c : CmS w wr N gp a b
  o : Blk wr go 3 #[.int .i64 0]
  g : w.heap.size < go
  n : go ≠ gp
theorem TeS.go {w wr w' : World} {N : NtA} {go gp : Nat} {a b : Int} (h : TeS w wr N go gp a b) (hb : Below wr.heap.size wr w') : TeS w w' N go gp a b := ⟨h.c.go hb, h.o.same (hb.block _ h.o.lt), h.g, h.n⟩
theorem TeS.tw {w wr w' : World} {N : NtA} {go gp : Nat} {a b a' b' : Int} (h : TeS w wr N go gp a b) (ht : Tw gp wr w') (hp : Blk w' gp 3 (i2 a' b')) : TeS w w' N go gp a' b' :=
  ⟨h.c.tw ht hp, h.o.same (ht.block _ h.o.lt h.n), h.g, h.n⟩
def Te1 (w : World) (N : NtA) (go : Nat) (k : Nat) (v : Value) (wr : World) : Prop := NcS w wr N ∧ Blk wr go 3 #[.int .i64 0] ∧ w.heap.size < go ∧ ((k = 1 ∧ v = .int .i64 0) ∨ (k = 0 ∧ v = .int .i64 1))
def Te2 (w : World) (N : NtA) (go gp : Nat) (k : Nat) (v7 v : Value) (wr : World) : Prop := (k = 1 ∧ v = .int .i64 0 ∧ v7 = .slice none 0 0 ∧ TeS w wr N go gp 0 1) ∨
  (k = 0 ∧ v = .int .i64 1 ∧ TeS w wr N go gp 0 0 ∧ ∃ g c, v7 = .slice (some ⟨g, 0, none⟩) 1 c ∧ Cs wr g [.int .i64 0])
set_option maxRecDepth 100000 in
set_option maxHeartbeats 6400000 in
theorem ctree_ok (N : NtA) (w : World) (h : NtM w N) : Calls Tryz.prog 16 #[N.v] w fun e w' => ∃ g c, e = .returned (.slice (some ⟨g, 0, none⟩) 1 c) ∧ Cs w' g [.int .i64 0] ∧ Below w.heap.size w w' := by
  have H := Lib.hid h
  clear h
  obtain ⟨i0, b1, b2, b3, b4⟩ := info_parts infoI
  have HI := Lib.hid (And.intro b1 (And.intro b2 (And.intro b3 b4)))
  clear b1 b2 b3 b4
  go_enter Tryz.func16, Tryz.ntmps16
  go_upto_region 1 with fail
  refine world_gen (fun w0 => NcS w w0 N) ⟨(by repeat (first | exact Below.refl _ _ | (with_reducible refine Below.drew ?_) | (with_reducible refine below_drewN ?_ _) | (with_reducible refine Below.alloc ?_ (by first | omega | (simp; done) | (simp; omega)) _) | (with_reducible refine Below.setCell ?_ (by first | omega | (simp; done) | (simp; omega)) _) | (refine Below.trans ?_ (Below.mono (by with_reducible assumption) (by first | omega | (simp; done) | (simp; omega)))))), (by repeat (first | (refine Blk.new' _ _ _ _ ?_; first | rfl | (simp <;> omega)) | refine Blk.al ?_ _ | refine Blk.dr ?_ | refine Blk.drN ?_ _ | refine Blk.far ?_ (by first | omega | (simp; omega))))⟩ ?_
  rintro w0 hs0
  have HS0 := Lib.hid hs0
  have x0 := (hs0).x.cell 0
  have x1 := (hs0).x.cell 1
  have x2 := (hs0).x.cell 2
  have xl := (hs0).x.lt
  simp at x0 x1 x2
  clear hs0
  go_wp2_with fail
  refine (ncheck_ok N _ (H.out.go HS0.out.b)).mono ?_
  rintro e w1 ⟨rfl, hb1⟩
  have HS1 := Lib.hid (HS0.out.go hb1)
  clear hb1 HS0
  clear x0 x1 x2 xl
  have x0 := (HS1.out).x.cell 0
  have x1 := (HS1.out).x.cell 1
  have x2 := (HS1.out).x.cell 2
  have xl := (HS1.out).x.lt
  simp at x0 x1 x2
  go_upto_region 4 with (at_make; refine wpList_make_full _ rfl _ _ 47 rfl (w1.heap.size) 3 i0 _ 1 Tryz.underlying47 HI.out.1 HI.out.2.1 HI.out.2.2.1 .i64 .i64 _ _ 1 rfl rfl rfl rfl ?m1 ?m2 ?m3 ?_; rotate_right; intro w3 ho3 hg3)
  case m1 => rw [HI.out.2.2.2]; omega
  case m2 => simp only [maxLen]; omega
  case m3 => exact Nat.le_refl _
  have hmc : (madeCells (Value.int .i64 0).cells (1 * 1)).toList = [.int .i64 0] := by first | rfl | decide | kernel_rfl
  rw [hmc] at ho3
  have HS3 := Lib.hid (HS1.out.go (bel_grow hg3))
  have HO3 := Lib.hid (own_full ho3)
  have HG := Lib.hid HS1.out.x.lt
  clear hmc ho3 hg3 HS1
  clear x0 x1 x2 xl
  generalize w1.heap.size = go at *
  go_wp2_with fail
  go_loopg [19] 1 (fun k v wr => Te1 w N go k v wr)
  case atStart => exact ⟨HS3.out, HO3.out, HG.out, .inl ⟨rfl, rfl⟩⟩
  case round =>
    obtain ⟨hs, ho, hg, hor⟩ := hrel
    have HS := Lib.hid hs
    have HO := Lib.hid ho
    clear hs ho HS3 HO3 HG
    rcases hor with ⟨rfl, rfl⟩ | ⟨rfl, rfl⟩
    · have o0 := HO.out.cell 0
      have f0 := HO.out.frozen 0
      have ol := HO.out.lt
      simp at o0
      go_wp2_with fail
      go_roundg 0
      case measure => omega
      case rel => exact ⟨⟨HS.out.b.setCell (Nat.le_of_lt hg) _, HS.out.x.far (by omega)⟩, HO.out.set_ 0 (.int .i64 0), hg, .inr ⟨rfl, rfl⟩⟩
    · have HGo := Lib.hid hg
      clear hg
      go_upto_region 10 with fail
      refine world_gen (fun w4 => NcS w w4 N ∧ Blk w4 go 3 #[.int .i64 0]) ⟨HS.out.go (by repeat (first | exact Below.refl _ _ | (with_reducible refine Below.drew ?_) | (with_reducible refine below_drewN ?_ _) | (with_reducible refine Below.alloc ?_ (by first | omega | (simp; done) | (simp; omega)) _) | (with_reducible refine Below.setCell ?_ (by first | omega | (simp; done) | (simp; omega)) _) | (refine Below.trans ?_ (Below.mono (by with_reducible assumption) (by first | omega | (simp; done) | (simp; omega)))))), (by have hblk := HO.out; repeat (first | exact hblk | refine Blk.al ?_ _ | refine Blk.dr ?_ | refine Blk.drN ?_ _))⟩ ?_
      rintro w4 ⟨hs4, ho4⟩
      have HS4 := Lib.hid hs4
      have HO4 := Lib.hid ho4
      clear hs4 ho4 HS HO
      go_wp2_with fail
      refine (sortst_ok _ _ _ _).mono ?_
      rintro e w5 ⟨⟨v5, rfl⟩, hw⟩
      subst hw
      have x0 := (HS4.out).x.cell 0
      have x1 := (HS4.out).x.cell 1
      have x2 := (HS4.out).x.cell 2
      have xl := (HS4.out).x.lt
      simp at x0 x1 x2
      go_wp2_with fail
      refine (newpart_ok _).mono ?_
      rintro e w6 ⟨gp, rfl, hp6, hg6, hb6⟩
      have hxl := HS4.out.x.lt
      have hol := HO4.out.lt
      have HT6 := Lib.hid (show TeS w w6 N go gp 0 1 from ⟨⟨HS4.out.go hb6, hp6, by omega⟩, HO4.out.same (hb6.block _ HO4.out.lt), HGo.out, by omega⟩)
      clear hp6 hg6 hb6 HS4 HO4 HGo hxl hol
      clear x0 x1 x2 xl
      go_wp2_with fail
      go_loopg [7, 37] 1 (fun k v7 v wr => Te2 w N go gp k v7 v wr)
      case atStart => exact .inl ⟨rfl, rfl, rfl, HT6.out⟩
      case round =>
        rcases hrel with ⟨rfl, rfl, rfl, hs⟩ | ⟨rfl, rfl, hs, g, c, rfl, hc⟩
        · have HS := Lib.hid hs
          clear hs HT6
          have o0 := HS.out.o.cell 0
          have ol := HS.out.o.lt
          simp at o0
          have x0 := (HS.out.c.s).x.cell 0
          have x1 := (HS.out.c.s).x.cell 1
          have x2 := (HS.out.c.s).x.cell 2
          have xl := (HS.out.c.s).x.lt
          simp at x0 x1 x2
          have hnm := H.out.go HS.out.c.s.b
          obtain ⟨a0, a1, a2, a3, a4, a5⟩ := (hnm).act
          have al := (hnm).ac.lt
          clear hnm
          go_upto_region 16 with fail
          refine wp_region_overM 13 _ rfl (by kernel_rfl) (by kernel_rfl) ?_
          simp only [List.take_succ_cons, List.take_zero]
          repeat (go_big_quiet_step (fail))
          refine wpQuiet_nil ?_
          intro w7 hb7
          have HS7 := Lib.hid (HS.out.go hb7)
          clear hb7 HS
          clear a0 a1 a2 a3 a4 a5 al
          clear x0 x1 x2 xl
          clear o0 ol
          go_wp2_with (go_at_call 57; refine (join_ok gp _ HS7.out.c.p).mono ?_; rintro e w8 ⟨rfl, hp8, ht8⟩)
          simp only [midQ, List.drop_succ_cons, List.drop_zero]
          repeat (go_big_quiet_step (fail))
          refine wpQuiet_nil ?_
          have HS8 := Lib.hid (HS7.out.tw ht8 hp8)
          clear hp8 ht8 HS7
          go_upto_region 18 with ((at_builtin; refine wpList_append_own_at _ rfl _ _ 47 rfl w8.heap.size 3 i0 _ 1 8 Tryz.underlying47 HI.out.1 HI.out.2.1 HI.out.2.2.1 HI.out.2.2.2 rfl (by omega) _ 0 ([]) rfl (World.ownsRow_nil _ _ _ _) ⟨w8.heap.size, 0, none⟩ 1 1 [.int .i64 0] rfl rfl ?c0 ?c1 ?c2 ?c3 ?c4 ?_; rotate_right; intro va wa hoa hga hna hta); obtain ⟨ge, ce, rfl, hce, hge, _⟩ := own_cs hoa (by omega); have hba : Below w8.heap.size w8 wa := Below.trans ((Below.refl _ _).alloc (Nat.le_refl _) (.cells #[.int .i64 0] 3)) (Below.mono (bel_grow hga) (by simp)); have HBA := Lib.hid hba; have HCE := Lib.hid hce; clear hce hoa hga hna hta hba)
          case c0 => exact news_new _ _ _
          case c1 => exact (List.all_eq_true (p := fun (u : Value) => u.oneCell')).1 (by rfl)
          case c2 => simp only [maxLen]; omega
          case c3 => omega
          case c4 => first | omega | (simp; done) | (simp; omega)
          go_wp2_with fail
          go_roundg 0
          case measure => omega
          case rel => exact .inr ⟨rfl, rfl, HS8.out.go HBA.out, ge, ce, rfl, HCE.out⟩
        · have HS := Lib.hid hs
          have HC := Lib.hid hc
          clear hs hc HT6
          go_wp2_with fail
          refine (sort_ok _ _ _).mono ?_
          rintro e w9 ⟨⟨v9, rfl⟩, hw⟩
          subst hw
          go_wp2_with fail
          go_ret
          exact ⟨g, c, rfl, HC.out, HS.out.c.s.b⟩
def Fo1 (w : World) (N : NtA) (gp : Nat) (k : Nat) (v6 v : Value) (wr : World) : Prop := (k = 1 ∧ v = .int .i64 0 ∧ v6 = .int .i64 (-1) ∧ CmS w wr N gp 0 1) ∨ (k = 0 ∧ v = .int .i64 1 ∧ CmS w wr N gp 0 0)
def Fo2 (w : World) (N : NtA) (gp : Nat) (k : Nat) (v : Value) (wr : World) : Prop := CmS w wr N gp 0 0 ∧ ((k = 1 ∧ v = .int .i64 0) ∨ (k = 0 ∧ v = .int .i64 1))
set_option maxRecDepth 100000 in
set_option maxHeartbeats 6400000 in
theorem cforest_ok (N : NtA) (g c : Nat) (w : World) (h : NtM w N) (ht : Cs w g [.int .i64 0]) : Calls Tryz.prog 48 #[N.v, .slice (some ⟨g, 0, none⟩) 1 c] w fun e w' => e = .returned (.bool true) ∧ Below w.heap.size w w' := by
  have H := Lib.hid h
  have HT := Lib.hid ht
  clear h ht
  go_enter Tryz.func48, Tryz.ntmps48
  go_upto_region 1 with fail
  refine world_gen (fun w0 => NcS w w0 N) ⟨(by repeat (first | exact Below.refl _ _ | (with_reducible refine Below.drew ?_) | (with_reducible refine below_drewN ?_ _) | (with_reducible refine Below.alloc ?_ (by first | omega | (simp; done) | (simp; omega)) _) | (with_reducible refine Below.setCell ?_ (by first | omega | (simp; done) | (simp; omega)) _) | (refine Below.trans ?_ (Below.mono (by with_reducible assumption) (by first | omega | (simp; done) | (simp; omega)))))), (by repeat (first | (refine Blk.new' _ _ _ _ ?_; first | rfl | (simp <;> omega)) | refine Blk.al ?_ _ | refine Blk.dr ?_ | refine Blk.drN ?_ _ | refine Blk.far ?_ (by first | omega | (simp; omega))))⟩ ?_
  rintro w0 hs0
  have HS0 := Lib.hid hs0
  have x0 := (hs0).x.cell 0
  have x1 := (hs0).x.cell 1
  have x2 := (hs0).x.cell 2
  have xl := (hs0).x.lt
  simp at x0 x1 x2
  clear hs0
  go_wp2_with fail
  refine (ncheck_ok N _ (H.out.go HS0.out.b)).mono ?_
  rintro e w1 ⟨rfl, hb1⟩
  have HS1 := Lib.hid (HS0.out.go hb1)
  clear hb1 HS0
  clear x0 x1 x2 xl
  have x0 := (HS1.out).x.cell 0
  have x1 := (HS1.out).x.cell 1
  have x2 := (HS1.out).x.cell 2
  have xl := (HS1.out).x.lt
  simp at x0 x1 x2
  go_wp2_with fail
  refine (newpart_ok _).mono ?_
  rintro e w2 ⟨gp, rfl, hp2, hg2, hb2⟩
  have HC2 := Lib.hid (show CmS w w2 N gp 0 1 from ⟨HS1.out.go hb2, hp2, Nat.lt_of_lt_of_le HS1.out.x.lt hg2⟩)
  clear hp2 hg2 hb2 HS1
  clear x0 x1 x2 xl
  go_wp2_with fail
  go_loopg [6, 20] 1 (fun k v6 v wr => Fo1 w N gp k v6 v wr)
  case atStart => exact .inl ⟨rfl, rfl, rfl, HC2.out⟩
  case round =>
    rcases hrel with ⟨rfl, rfl, rfl, hs⟩ | ⟨rfl, rfl, hs⟩
    · have HS := Lib.hid hs
      clear hs HC2
      have htm := HT.out.go HS.out.s.b
      have t0 : wr.cell? ⟨g, 0, none⟩ = some (.int .i64 0) := htm.c 0 _ rfl
      have tl := htm.lt
      clear htm
      have x0 := (HS.out.s).x.cell 0
      have x1 := (HS.out.s).x.cell 1
      have x2 := (HS.out.s).x.cell 2
      have xl := (HS.out.s).x.lt
      simp at x0 x1 x2
      have hnm := H.out.go HS.out.s.b
      obtain ⟨a0, a1, a2, a3, a4, a5⟩ := (hnm).act
      have al := (hnm).ac.lt
      clear hnm
      go_upto_region 8 with fail
      refine wp_region_overM 24 _ rfl (by kernel_rfl) (by kernel_rfl) ?_
      simp only [List.take_succ_cons, List.take_zero]
      repeat (go_big_quiet_step (fail))
      refine wpQuiet_nil ?_
      intro w7 hb7
      have HS7 := Lib.hid (HS.out.go hb7)
      clear hb7 HS
      clear a0 a1 a2 a3 a4 a5 al
      clear x0 x1 x2 xl
      clear t0 tl
      go_wp2_with (go_at_call 57; refine (join_ok gp _ HS7.out.p).mono ?_; rintro e w8 ⟨rfl, hp8, ht8⟩)
      simp only [midQ, List.drop_succ_cons, List.drop_zero]
      repeat (go_big_quiet_step (fail))
      refine wpQuiet_nil ?_
      have HS8 := Lib.hid (HS7.out.tw ht8 hp8)
      clear hp8 ht8 HS7
      go_wp2_with fail
      go_roundg 0
      case measure => omega
      case rel => exact .inr ⟨rfl, rfl, HS8.out⟩
    · have HS := Lib.hid hs
      clear hs HC2
      have x0 := (HS.out.s).x.cell 0
      have x1 := (HS.out.s).x.cell 1
      have x2 := (HS.out.s).x.cell 2
      have xl := (HS.out.s).x.lt
      simp at x0 x1 x2
      go_wp2_with fail
      clear x0 x1 x2 xl
      go_loopg [56] 1 (fun k v wr => Fo2 w N gp k v wr)
      case atStart => exact ⟨HS.out, .inl ⟨rfl, rfl⟩⟩
      case round =>
        obtain ⟨hs, hor⟩ := hrel
        have HS2 := Lib.hid hs
        clear hs HS
        rcases hor with ⟨rfl, rfl⟩ | ⟨rfl, rfl⟩
        · have hnm := H.out.go HS2.out.s.b
          obtain ⟨a0, a1, a2, a3, a4, a5⟩ := (hnm).act
          have al := (hnm).ac.lt
          clear hnm
          go_upto_region 15 with fail
          refine world_gen (fun w3 => CmS w w3 N gp 0 0 ∧ Blk w3 wr.heap.size 138 acL.toArray) ⟨HS2.out.go ((Below.refl _ _).alloc (Nat.le_refl _) _), (by repeat (first | (refine Blk.new' _ _ _ _ ?_; first | rfl | (simp <;> omega)) | refine Blk.al ?_ _ | refine Blk.dr ?_ | refine Blk.drN ?_ _ | refine Blk.far ?_ (by first | omega | (simp; omega))))⟩ ?_
          rintro w3 ⟨hs3, hz3⟩
          have HS3 := Lib.hid hs3
          have z1 := hz3.cell 1
          have z2 := hz3.cell 2
          have zl := hz3.lt
          simp at z1 z2
          clear hs3 hz3 HS2
          clear a0 a1 a2 a3 a4 a5 al
          generalize wr.heap.size = Z at *
          refine wp_region_overL (by kernel_rfl) (by kernel_rfl) ?_
          repeat (go_big_quiet_step ((go_at_call 117; exact callsOver (find_01B gp _ _ (HS3.out.go (over_below _ _)).p (by decide)))))
          refine wpQuiet_nil ?_
          intro w4 hb4
          have HS4 := Lib.hid (HS3.out.go hb4)
          clear hb4 HS3 z1 z2 zl
          go_wp2_with fail
          go_roundg 0
          case measure => omega
          case rel => exact ⟨HS4.out, .inr ⟨rfl, rfl⟩⟩
        · go_wp2_with fail
          go_ret
          exact ⟨rfl, HS2.out.s.b⟩
end Go.Proofs.YtinjdcefagaaeaaGreatDoor
namespace Go.Proofs.YtinjdcefagaaeaaGreatDoor
open Go.RowKit
/-! cycles.leaving, Fundamental -/
theorem infoAr : (Tryz.prog.info? 144).map (fun i => (i.zero, i.size, i.bytes)) = some (some (.agg #[.int .i64 0, .int .i64 0]), 2, 16) := by kernel_rfl
theorem infoArs : (Tryz.prog.info? 141).map (fun i => (i.zero, i.size, i.bytes)) = some (some (.slice none 0 0), 1, 24) := by kernel_rfl
structure LvS (w wr : World) (N : NtA) (gA : Nat) (u v : Value) : Prop where
  s : NcS w wr N
  a : Blk wr gA 141 #[u, v]
  g : w.heap.size < gA
theorem LvS.go {w wr w' : World} {N : NtA} {gA : Nat} {u v : Value} (h : LvS w wr N gA u v) (hb : Below wr.heap.size wr w') : LvS w w' N gA u v := ⟨h.s.go hb, h.a.same (hb.block _ h.a.lt), h.g⟩
theorem LvS.st0 {w wr : World} {N : NtA} {gA : Nat} {u v : Value} (h : LvS w wr N gA u v) (x : Value) : LvS w (wr.setCell ⟨gA, 0, none⟩ x) N gA x v :=
  ⟨⟨h.s.b.setCell (Nat.le_of_lt h.g) _, h.s.x.far (by have := h.g; omega)⟩, h.a.set_ 0 x, h.g⟩
theorem LvS.st1 {w wr : World} {N : NtA} {gA : Nat} {u v : Value} (h : LvS w wr N gA u v) (x : Value) : LvS w (wr.setCell ⟨gA, 1, none⟩ x) N gA u x :=
  ⟨⟨h.s.b.setCell (Nat.le_of_lt h.g) _, h.s.x.far (by have := h.g; omega)⟩, h.a.set_ 1 x, h.g⟩
def Lv1 (w : World) (N : NtA) (gA : Nat) (k : Nat) (v : Value) (wr : World) : Prop := (k = 1 ∧ v = .int .i64 0 ∧ LvS w wr N gA (.slice none 0 0) (.slice none 0 0)) ∨ (k = 0 ∧ v = .int .i64 1 ∧ ∃ x y, LvS w wr N gA x y)
set_option maxRecDepth 100000 in
set_option maxHeartbeats 6400000 in
theorem leaving_ok (N : NtA) (g c : Nat) (w : World) (h : NtM w N) (ht : Cs w g [.int .i64 0]) : Calls Tryz.prog 49 #[N.v, .slice (some ⟨g, 0, none⟩) 1 c] w fun e w' => (∃ v, e = .returned v) ∧ Below w.heap.size w w' := by
  have H := Lib.hid h
  have HT := Lib.hid ht
  clear h ht
  obtain ⟨iR, b1, b2, b3, b4⟩ := info_parts infoAr
  have HIR := Lib.hid (And.intro b1 (And.intro b2 (And.intro b3 b4)))
  clear b1 b2 b3 b4
  obtain ⟨iS, b1, b2, b3, b4⟩ := info_parts infoArs
  have HIS := Lib.hid (And.intro b1 (And.intro b2 (And.intro b3 b4)))
  clear b1 b2 b3 b4
  go_enter Tryz.func49, Tryz.ntmps49
  go_upto_region 1 with fail
  refine world_gen (fun w0 => NcS w w0 N) ⟨(by repeat (first | exact Below.refl _ _ | (with_reducible refine Below.drew ?_) | (with_reducible refine below_drewN ?_ _) | (with_reducible refine Below.alloc ?_ (by first | omega | (simp; done) | (simp; omega)) _) | (with_reducible refine Below.setCell ?_ (by first | omega | (simp; done) | (simp; omega)) _) | (refine Below.trans ?_ (Below.mono (by with_reducible assumption) (by first | omega | (simp; done) | (simp; omega)))))), (by repeat (first | (refine Blk.new' _ _ _ _ ?_; first | rfl | (simp <;> omega)) | refine Blk.al ?_ _ | refine Blk.dr ?_ | refine Blk.drN ?_ _ | refine Blk.far ?_ (by first | omega | (simp; omega))))⟩ ?_
  rintro w0 hs0
  have HS0 := Lib.hid hs0
  have x0 := (hs0).x.cell 0
  have x1 := (hs0).x.cell 1
  have x2 := (hs0).x.cell 2
  have xl := (hs0).x.lt
  simp at x0 x1 x2
  clear hs0
  go_upto_region 2 with (at_make; refine wpList_make_full _ rfl _ _ 135 rfl (w0.heap.size) 141 iS _ 1 Tryz.underlying135 HIS.out.1 HIS.out.2.1 HIS.out.2.2.1 .i64 .i64 _ _ 2 rfl rfl rfl rfl ?m1 ?m2 ?m3 ?_; rotate_right; intro w3 ho3 hg3)
  case m1 => rw [HIS.out.2.2.2]; omega
  case m2 => simp only [maxLen]; omega
  case m3 => exact Nat.le_refl _
  have hmc : (madeCells (Value.slice none 0 0).cells (2 * 1)).toList = [.slice none 0 0, .slice none 0 0] := by first | rfl | decide | kernel_rfl
  rw [hmc] at ho3
  have HL3 := Lib.hid (show LvS w w3 N w0.heap.size (.slice none 0 0) (.slice none 0 0) from ⟨HS0.out.go (bel_grow hg3), own_full ho3, HS0.out.x.lt⟩)
  clear hmc ho3 hg3 HS0
  clear x0 x1 x2 xl
  generalize w0.heap.size = gA at *
  go_wp2_with fail
  go_loopg [15] 1 (fun k v wr => Lv1 w N gA k v wr)
  case atStart => exact .inl ⟨rfl, rfl, HL3.out⟩
  case round =>
    rcases hrel with ⟨rfl, rfl, hs⟩ | ⟨rfl, rfl, x, y, hs⟩
    · have HS := Lib.hid hs
      clear hs HL3
      have htm := HT.out.go HS.out.s.b
      have t0 : wr.cell? ⟨g, 0, none⟩ = some (.int .i64 0) := htm.c 0 _ rfl
      have tl := htm.lt
      clear htm
      have x0 := (HS.out.s).x.cell 0
      have x1 := (HS.out.s).x.cell 1
      have x2 := (HS.out.s).x.cell 2
      have xl := (HS.out.s).x.lt
      simp at x0 x1 x2
      have hnm := H.out.go HS.out.s.b
      obtain ⟨a0, a1, a2, a3, a4, a5⟩ := (hnm).act
      have al := (hnm).ac.lt
      clear hnm
      go_upto_region 6 with fail
      refine world_gen (fun w4 => LvS w w4 N gA (.slice none 0 0) (.slice none 0 0) ∧ Blk w4 wr.heap.size 138 acL.toArray) ⟨HS.out.go ((Below.refl _ _).alloc (Nat.le_refl _) _), (by repeat (first | (refine Blk.new' _ _ _ _ ?_; first | rfl | (simp <;> omega)) | refine Blk.al ?_ _ | refine Blk.dr ?_ | refine Blk.drN ?_ _ | refine Blk.far ?_ (by first | omega | (simp; omega))))⟩ ?_
      rintro w4 ⟨hs4, hz4⟩
      have hzg : wr.heap.size ≠ gA := by have := HS.out.a.lt; omega
      have HS4 := Lib.hid hs4
      have HZ4 := Lib.hid hz4
      have z1 := hz4.cell 1
      have zl := hz4.lt
      have q0 := hs4.a.cell 0
      have ql := hs4.a.lt
      simp at z1 q0
      clear hs4 hz4 HS t0 tl
      clear a0 a1 a2 a3 a4 a5 al
      clear x0 x1 x2 xl
      generalize wr.heap.size = Z at *
      have hbd : Below w4.heap.size w4 (w4.drew.alloc (.cells #[.int .i64 0, .int .i64 1] 144)) := (Below.refl _ w4).drew.alloc (Nat.le_refl _) _
      refine wp_region_cut 12 (by kernel_rfl) (by kernel_rfl) ?_
      simp only [dulled, dull, List.take_succ_cons, List.take_zero, List.drop_succ_cons, List.drop_zero, List.map_cons, List.map_nil, List.cons_append, List.nil_append]
      refine wpAny_of_held (S := fun W => W.cell? ⟨Z, 1, none⟩ = some (.int .i64 0) ∧ W.cell? ⟨gA, 0, none⟩ = some (.slice none 0 0)) _ _ _ _ ?_
      change wpAnyH _ _ _ _ _ 14 _ _ (World.drew w4)
      have hHeld : (fun W => W.cell? ⟨Z, 1, none⟩ = some (.int .i64 0) ∧ W.cell? ⟨gA, 0, none⟩ = some (.slice none 0 0)) (World.drew w4) := ⟨z1, q0⟩
      refine wpAnyH_take (i := 0) (oi := ⟨some _, _, _, _, _, _⟩) (v := ?_) rfl (by kernel_rfl) (by kernel_rfl) (by kernel_rfl) (fun _ _ _ h => h) (Or.inl ⟨by rfl, ?_⟩) (by assumption) ?_
      rotate_left
      · (intro w hSw; (try dsimp only at hSw); go_simp; try with_reducible rfl)
      simp only [Act.put, List.setIfInBounds_toArray, List.set_cons_zero, List.set_cons_succ]
      refine wpAnyH_take (i := 1) (oi := ⟨some _, _, _, _, _, _⟩) (v := ?_) rfl (by kernel_rfl) (by kernel_rfl) (by kernel_rfl) (fun _ _ _ h => h) (Or.inl ⟨by rfl, ?_⟩) (by assumption) ?_
      rotate_left
      · (intro w hSw; (try dsimp only at hSw); go_simp; try with_reducible rfl)
      simp only [Act.put, List.setIfInBounds_toArray, List.set_cons_zero, List.set_cons_succ]
      refine wpAnyH_take (i := 2) (oi := ⟨some _, _, _, _, _, _⟩) (v := ?_) rfl (by kernel_rfl) (by kernel_rfl) (by kernel_rfl) (fun _ _ _ h => h) (Or.inl ⟨by rfl, ?_⟩) (by assumption) ?_
      rotate_left
      · (intro w hSw; (try dsimp only at hSw); go_simp; try with_reducible rfl)
      simp only [Act.put, List.setIfInBounds_toArray, List.set_cons_zero, List.set_cons_succ]
      refine wpAnyH_take (i := 3) (oi := ⟨some _, _, _, _, _, _⟩) (v := ?_) rfl (by kernel_rfl) (by kernel_rfl) (by kernel_rfl) (fun _ _ _ h => h) (Or.inl ⟨by rfl, ?_⟩) (by assumption) ?_
      rotate_left
      · (intro w hSw; (try dsimp only at hSw); go_simp; try with_reducible rfl)
      simp only [Act.put, List.setIfInBounds_toArray, List.set_cons_zero, List.set_cons_succ]
      refine wpAnyH_take (i := 4) (oi := ⟨some _, _, _, _, _, _⟩) (v := ?_) rfl (by kernel_rfl) (by kernel_rfl) (by kernel_rfl) (fun _ _ _ h => h) (Or.inl ⟨by rfl, ?_⟩) (by assumption) ?_
      rotate_left
      · (intro w hSw; (try dsimp only at hSw); go_simp; try with_reducible rfl)
      simp only [Act.put, List.setIfInBounds_toArray, List.set_cons_zero, List.set_cons_succ]
      refine wpAnyH_take (i := 5) (oi := ⟨some _, _, _, _, _, _⟩) (v := ?_) rfl (by kernel_rfl) (by kernel_rfl) (by kernel_rfl) (fun _ _ _ h => h) (Or.inl ⟨by rfl, ?_⟩) (by assumption) ?_
      rotate_left
      · (intro w hSw; (try dsimp only at hSw); go_simp; try with_reducible rfl)
      simp only [Act.put, List.setIfInBounds_toArray, List.set_cons_zero, List.set_cons_succ]
      refine wpAnyH_take (i := 6) (oi := ⟨some _, _, _, _, _, _⟩) (v := ?_) rfl (by kernel_rfl) (by kernel_rfl) (by kernel_rfl) (fun _ _ _ h => h) (Or.inl ⟨by rfl, ?_⟩) (by assumption) ?_
      rotate_left
      · (intro w hSw; (try dsimp only at hSw); go_simp; try with_reducible rfl)
      simp only [Act.put, List.setIfInBounds_toArray, List.set_cons_zero, List.set_cons_succ]
      refine wpAnyH_take (i := 7) (oi := ⟨some _, _, _, _, _, _⟩) (v := ?_) rfl (by kernel_rfl) (by kernel_rfl) (by kernel_rfl) (fun _ _ _ h => h) (Or.inl ⟨by rfl, ?_⟩) (by assumption) ?_
      rotate_left
      · (intro w hSw; (try dsimp only at hSw); go_simp; try with_reducible rfl)
      simp only [Act.put, List.setIfInBounds_toArray, List.set_cons_zero, List.set_cons_succ]
      refine wpAnyH_take (i := 8) (oi := ⟨some _, _, _, _, _, _⟩) (v := ?_) rfl (by kernel_rfl) (by kernel_rfl) (by kernel_rfl) (fun _ _ _ h => h) (Or.inl ⟨by rfl, ?_⟩) (by assumption) ?_
      rotate_left
      · (intro w hSw; (try dsimp only at hSw); go_simp; try with_reducible rfl)
      simp only [Act.put, List.setIfInBounds_toArray, List.set_cons_zero, List.set_cons_succ]
      refine wpAnyH_take (i := 9) (oi := ⟨some _, _, _, _, _, _⟩) (v := ?_) rfl (by kernel_rfl) (by kernel_rfl) (by kernel_rfl) (fun _ _ _ h => h) (Or.inl ⟨by rfl, ?_⟩) (by assumption) ?_
      rotate_left
      · (intro w hSw; (try dsimp only at hSw); go_simp; try with_reducible rfl)
      simp only [Act.put, List.setIfInBounds_toArray, List.set_cons_zero, List.set_cons_succ]
      refine wpAnyH_ready (rs := [10]) (by kernel_rfl) (by simp) ?_
      refine AllReadyH.cons rfl (fun K hK => ?_) AllReadyH.nil
      go_simp
      refine hK.out _ _ ⟨cell_bel hbd z1, cell_bel hbd q0⟩ (fun hHeld => ?_)
      clear hK K
      try simp only [Act.put, List.setIfInBounds_toArray, List.set_cons_zero, List.set_cons_succ]
      refine wpAnyH_ready (rs := [11]) (by kernel_rfl) (by simp) ?_
      refine AllReadyH.cons (o := ⟨some _, _, _, _, _, _⟩) rfl (fun K hK => ?_) AllReadyH.nil
      refine step_append_any (by rfl) _ _ _ (by rfl) w4.heap.size 144 _ _ 2 16 Tryz.underlying141 HIR.out.1 HIR.out.2.1 HIR.out.2.2.1 HIR.out.2.2.2 rfl (by omega) (.slice none 0 0) 0 ([]) rfl (World.ownsRow_nil _ _ _ _) (some ⟨w4.drew.heap.size, 0, none⟩) 1 1 (w4.drew.heap.size + 1) [.int .i64 0, .int .i64 1] rfl (fun e => by cases e) (Rd.more (Rd.of_blk (cs := [.int .i64 0, .int .i64 1]) (n := 1) (sz := 2) (by repeat (first | (refine Blk.new' _ _ _ _ ?_; first | rfl | (simp <;> omega)) | refine Blk.al ?_ _ | refine Blk.dr ?_ | refine Blk.drN ?_ _ | refine Blk.far ?_ (by first | omega | (simp; omega)))) rfl) (by simp)) ((List.all_eq_true (p := fun (u : Value) => u.oneCell')).1 (by rfl)) (by simp only [maxLen]; omega) (by omega) (by simp; try omega) ?_; intro va wa hoa hga hta; obtain ⟨ga, ca, rfl, hca, hgA, _⟩ := own_cs hoa (by omega)
      have hba : Below w4.heap.size w4 wa := hbd.trans (Below.mono (bel_grow hga) (by simp))
      refine hK.out _ _ ⟨cell_bel hba z1, cell_bel hba q0⟩ (fun hHeld => ?_)
      clear hK K
      try simp only [Act.put, List.setIfInBounds_toArray, List.set_cons_zero, List.set_cons_succ]
      refine wpAnyH_ready (rs := [12]) (by kernel_rfl) (by simp) ?_
      refine AllReadyH.cons rfl (fun K hK => ?_) AllReadyH.nil
      go_simp
      refine hK.out _ _ hHeld (fun hHeld => ?_)
      clear hK K
      refine wpAnyH_ready (rs := [13]) (by kernel_rfl) (by simp) ?_
      refine AllReadyH.cons rfl (fun K hK => ?_) AllReadyH.nil
      go_simp
      refine hK.out _ _ hHeld (fun hHeld => ?_)
      clear hK K
      refine wpAnyH_done (by kernel_rfl) ?_ _
      simp only [cutQ, List.drop_succ_cons, List.drop_zero]
      have HSA := Lib.hid (HS4.out.go hba)
      have HZA := Lib.hid (HZ4.out.same (hba.block _ HZ4.out.lt))
      clear hHeld hoa hga hta hca hba hbd HS4 HZ4 z1 zl q0 ql
      have q0 := HSA.out.a.cell 0
      have fq0 := HSA.out.a.frozen 0
      have ql := HSA.out.a.lt
      simp at q0
      go_upto_region 7 with fail
      refine world_gen (fun w4 => LvS w w4 N gA (.slice (some ⟨ga, 0, none⟩) 1 ca) (.slice none 0 0) ∧ Blk w4 Z 138 acL.toArray) ⟨HSA.out.st0 _, HZA.out.far (by omega)⟩ ?_
      rintro w5 ⟨hs5, hz5⟩
      have HS5 := Lib.hid hs5
      have HZ5 := Lib.hid hz5
      have z2 := hz5.cell 2
      have zl := hz5.lt
      have q1 := hs5.a.cell 1
      clear q0 fq0 ql
      have ql := hs5.a.lt
      simp at z2 q1
      clear hs5 hz5 HSA HZA
      have hbd : Below w5.heap.size w5 (w5.drew.alloc (.cells #[.int .i64 0, .int .i64 (-1)] 144)) := (Below.refl _ w5).drew.alloc (Nat.le_refl _) _
      refine wp_region_cut 12 (by kernel_rfl) (by kernel_rfl) ?_
      simp only [dulled, dull, List.take_succ_cons, List.take_zero, List.drop_succ_cons, List.drop_zero, List.map_cons, List.map_nil, List.cons_append, List.nil_append]
      refine wpAny_of_held (S := fun W => W.cell? ⟨Z, 2, none⟩ = some (.int .i64 1) ∧ W.cell? ⟨gA, 1, none⟩ = some (.slice none 0 0)) _ _ _ _ ?_
      change wpAnyH _ _ _ _ _ 14 _ _ (World.drew w5)
      have hHeld : (fun W => W.cell? ⟨Z, 2, none⟩ = some (.int .i64 1) ∧ W.cell? ⟨gA, 1, none⟩ = some (.slice none 0 0)) (World.drew w5) := ⟨z2, q1⟩
      refine wpAnyH_take (i := 0) (oi := ⟨some _, _, _, _, _, _⟩) (v := ?_) rfl (by kernel_rfl) (by kernel_rfl) (by kernel_rfl) (fun _ _ _ h => h) (Or.inl ⟨by rfl, ?_⟩) (by assumption) ?_
      rotate_left
      · (intro w hSw; (try dsimp only at hSw); go_simp; try with_reducible rfl)
      simp only [Act.put, List.setIfInBounds_toArray, List.set_cons_zero, List.set_cons_succ]
      refine wpAnyH_take (i := 1) (oi := ⟨some _, _, _, _, _, _⟩) (v := ?_) rfl (by kernel_rfl) (by kernel_rfl) (by kernel_rfl) (fun _ _ _ h => h) (Or.inl ⟨by rfl, ?_⟩) (by assumption) ?_
      rotate_left
      · (intro w hSw; (try dsimp only at hSw); go_simp; try with_reducible rfl)
      simp only [Act.put, List.setIfInBounds_toArray, List.set_cons_zero, List.set_cons_succ]
      refine wpAnyH_take (i := 2) (oi := ⟨some _, _, _, _, _, _⟩) (v := ?_) rfl (by kernel_rfl) (by kernel_rfl) (by kernel_rfl) (fun _ _ _ h => h) (Or.inl ⟨by rfl, ?_⟩) (by assumption) ?_
      rotate_left
      · (intro w hSw; (try dsimp only at hSw); go_simp; try with_reducible rfl)
      simp only [Act.put, List.setIfInBounds_toArray, List.set_cons_zero, List.set_cons_succ]
      refine wpAnyH_take (i := 3) (oi := ⟨some _, _, _, _, _, _⟩) (v := ?_) rfl (by kernel_rfl) (by kernel_rfl) (by kernel_rfl) (fun _ _ _ h => h) (Or.inl ⟨by rfl, ?_⟩) (by assumption) ?_
      rotate_left
      · (intro w hSw; (try dsimp only at hSw); go_simp; try with_reducible rfl)
      simp only [Act.put, List.setIfInBounds_toArray, List.set_cons_zero, List.set_cons_succ]
      refine wpAnyH_take (i := 4) (oi := ⟨some _, _, _, _, _, _⟩) (v := ?_) rfl (by kernel_rfl) (by kernel_rfl) (by kernel_rfl) (fun _ _ _ h => h) (Or.inl ⟨by rfl, ?_⟩) (by assumption) ?_
      rotate_left
      · (intro w hSw; (try dsimp only at hSw); go_simp; try with_reducible rfl)
      simp only [Act.put, List.setIfInBounds_toArray, List.set_cons_zero, List.set_cons_succ]
      refine wpAnyH_take (i := 5) (oi := ⟨some _, _, _, _, _, _⟩) (v := ?_) rfl (by kernel_rfl) (by kernel_rfl) (by kernel_rfl) (fun _ _ _ h => h) (Or.inl ⟨by rfl, ?_⟩) (by assumption) ?_
      rotate_left
      · (intro w hSw; (try dsimp only at hSw); go_simp; try with_reducible rfl)
      simp only [Act.put, List.setIfInBounds_toArray, List.set_cons_zero, List.set_cons_succ]
      refine wpAnyH_take (i := 6) (oi := ⟨some _, _, _, _, _, _⟩) (v := ?_) rfl (by kernel_rfl) (by kernel_rfl) (by kernel_rfl) (fun _ _ _ h => h) (Or.inl ⟨by rfl, ?_⟩) (by assumption) ?_
      rotate_left
      · (intro w hSw; (try dsimp only at hSw); go_simp; try with_reducible rfl)
      simp only [Act.put, List.setIfInBounds_toArray, List.set_cons_zero, List.set_cons_succ]
      refine wpAnyH_take (i := 7) (oi := ⟨some _, _, _, _, _, _⟩) (v := ?_) rfl (by kernel_rfl) (by kernel_rfl) (by kernel_rfl) (fun _ _ _ h => h) (Or.inl ⟨by rfl, ?_⟩) (by assumption) ?_
      rotate_left
      · (intro w hSw; (try dsimp only at hSw); go_simp; try with_reducible rfl)
      simp only [Act.put, List.setIfInBounds_toArray, List.set_cons_zero, List.set_cons_succ]
      refine wpAnyH_take (i := 8) (oi := ⟨some _, _, _, _, _, _⟩) (v := ?_) rfl (by kernel_rfl) (by kernel_rfl) (by kernel_rfl) (fun _ _ _ h => h) (Or.inl ⟨by rfl, ?_⟩) (by assumption) ?_
      rotate_left
      · (intro w hSw; (try dsimp only at hSw); go_simp; try with_reducible rfl)
      simp only [Act.put, List.setIfInBounds_toArray, List.set_cons_zero, List.set_cons_succ]
      refine wpAnyH_take (i := 9) (oi := ⟨some _, _, _, _, _, _⟩) (v := ?_) rfl (by kernel_rfl) (by kernel_rfl) (by kernel_rfl) (fun _ _ _ h => h) (Or.inl ⟨by rfl, ?_⟩) (by assumption) ?_
      rotate_left
      · (intro w hSw; (try dsimp only at hSw); go_simp; try with_reducible rfl)
      simp only [Act.put, List.setIfInBounds_toArray, List.set_cons_zero, List.set_cons_succ]
      refine wpAnyH_ready (rs := [10]) (by kernel_rfl) (by simp) ?_
      refine AllReadyH.cons rfl (fun K hK => ?_) AllReadyH.nil
      go_simp
      refine hK.out _ _ ⟨cell_bel hbd z2, cell_bel hbd q1⟩ (fun hHeld => ?_)
      clear hK K
      try simp only [Act.put, List.setIfInBounds_toArray, List.set_cons_zero, List.set_cons_succ]
      refine wpAnyH_ready (rs := [11]) (by kernel_rfl) (by simp) ?_
      refine AllReadyH.cons (o := ⟨some _, _, _, _, _, _⟩) rfl (fun K hK => ?_) AllReadyH.nil
      refine step_append_any (by rfl) _ _ _ (by rfl) w5.heap.size 144 _ _ 2 16 Tryz.underlying141 HIR.out.1 HIR.out.2.1 HIR.out.2.2.1 HIR.out.2.2.2 rfl (by omega) (.slice none 0 0) 0 ([]) rfl (World.ownsRow_nil _ _ _ _) (some ⟨w5.drew.heap.size, 0, none⟩) 1 1 (w5.drew.heap.size + 1) [.int .i64 0, .int .i64 (-1)] rfl (fun e => by cases e) (Rd.more (Rd.of_blk (cs := [.int .i64 0, .int .i64 (-1)]) (n := 1) (sz := 2) (by repeat (first | (refine Blk.new' _ _ _ _ ?_; first | rfl | (simp <;> omega)) | refine Blk.al ?_ _ | refine Blk.dr ?_ | refine Blk.drN ?_ _ | refine Blk.far ?_ (by first | omega | (simp; omega)))) rfl) (by simp)) ((List.all_eq_true (p := fun (u : Value) => u.oneCell')).1 (by rfl)) (by simp only [maxLen]; omega) (by omega) (by simp; try omega) ?_; intro vb wb hob hgb htb; obtain ⟨gb, cb, rfl, hcb, hgB, _⟩ := own_cs hob (by omega)
      have hba : Below w5.heap.size w5 wb := hbd.trans (Below.mono (bel_grow hgb) (by simp))
      refine hK.out _ _ ⟨cell_bel hba z2, cell_bel hba q1⟩ (fun hHeld => ?_)
      clear hK K
      try simp only [Act.put, List.setIfInBounds_toArray, List.set_cons_zero, List.set_cons_succ]
      refine wpAnyH_ready (rs := [12]) (by kernel_rfl) (by simp) ?_
      refine AllReadyH.cons rfl (fun K hK => ?_) AllReadyH.nil
      go_simp
      refine hK.out _ _ hHeld (fun hHeld => ?_)
      clear hK K
      refine wpAnyH_ready (rs := [13]) (by kernel_rfl) (by simp) ?_
      refine AllReadyH.cons rfl (fun K hK => ?_) AllReadyH.nil
      go_simp
      refine hK.out _ _ hHeld (fun hHeld => ?_)
      clear hK K
      refine wpAnyH_done (by kernel_rfl) ?_ _
      simp only [cutQ, List.drop_succ_cons, List.drop_zero]
      have HSB := Lib.hid (HS5.out.go hba)
      clear hHeld hob hgb htb hcb hba hbd HS5 HZ5 z2 zl q1 ql
      have q1 := HSB.out.a.cell 1
      have fq1 := HSB.out.a.frozen 1
      have ql := HSB.out.a.lt
      simp at q1
      go_wp2_with fail
      go_roundg 0
      case measure => omega
      case rel => exact .inr ⟨rfl, rfl, _, _, HSB.out.st1 _⟩
    · have HS := Lib.hid hs
      clear hs
      go_wp2_with fail
      go_ret
      exact ⟨⟨_, rfl⟩, HS.out.s.b⟩
def Fu1' (w : World) (N : NtA) (k : Nat) (v7 v : Value) (wr : World) : Prop := v7 = .slice none 0 0 ∧ NcS w wr N ∧ ((k = 1 ∧ v = .int .i64 0) ∨ (k = 0 ∧ v = .int .i64 1))
set_option maxRecDepth 100000 in
set_option maxHeartbeats 6400000 in
theorem cfund_ok (N : NtA) (g c : Nat) (w : World) (h : NtM w N) (ht : Cs w g [.int .i64 0]) : Calls Tryz.prog 15 #[N.v, .slice (some ⟨g, 0, none⟩) 1 c] w fun e w' => e = .returned (.tuple #[.slice none 0 0, .int .i64 0]) ∧ Below w.heap.size w w' := by
  have H := Lib.hid h
  have HT := Lib.hid ht
  clear h ht
  go_enter Tryz.func15, Tryz.ntmps15
  go_upto_region 1 with fail
  refine world_gen (fun w0 => NcS w w0 N) ⟨(by repeat (first | exact Below.refl _ _ | (with_reducible refine Below.drew ?_) | (with_reducible refine below_drewN ?_ _) | (with_reducible refine Below.alloc ?_ (by first | omega | (simp; done) | (simp; omega)) _) | (with_reducible refine Below.setCell ?_ (by first | omega | (simp; done) | (simp; omega)) _) | (refine Below.trans ?_ (Below.mono (by with_reducible assumption) (by first | omega | (simp; done) | (simp; omega)))))), (by repeat (first | (refine Blk.new' _ _ _ _ ?_; first | rfl | (simp <;> omega)) | refine Blk.al ?_ _ | refine Blk.dr ?_ | refine Blk.drN ?_ _ | refine Blk.far ?_ (by first | omega | (simp; omega))))⟩ ?_
  rintro w0 hs0
  have HS0 := Lib.hid hs0
  have x0 := (hs0).x.cell 0
  have x1 := (hs0).x.cell 1
  have x2 := (hs0).x.cell 2
  have xl := (hs0).x.lt
  simp at x0 x1 x2
  clear hs0
  go_wp2_with fail
  refine (cforest_ok N g c _ (H.out.go HS0.out.b) (HT.out.go HS0.out.b)).mono ?_
  rintro e w1 ⟨rfl, hb1⟩
  have HS1 := Lib.hid (HS0.out.go hb1)
  clear hb1 HS0
  clear x0 x1 x2 xl
  have x0 := (HS1.out).x.cell 0
  have x1 := (HS1.out).x.cell 1
  have x2 := (HS1.out).x.cell 2
  have xl := (HS1.out).x.lt
  simp at x0 x1 x2
  go_wp2_with fail
  refine (leaving_ok N g c _ (H.out.go HS1.out.b) (HT.out.go HS1.out.b)).mono ?_
  rintro e w2 ⟨⟨v2, rfl⟩, hb2⟩
  have HS2 := Lib.hid (HS1.out.go hb2)
  clear hb2 HS1
  clear x0 x1 x2 xl
  have x0 := (HS2.out).x.cell 0
  have x1 := (HS2.out).x.cell 1
  have x2 := (HS2.out).x.cell 2
  have xl := (HS2.out).x.lt
  simp at x0 x1 x2
  go_wp2_with fail
  clear x0 x1 x2 xl
  go_loopg [7, 26] 1 (fun k v7 v wr => Fu1' w N k v7 v wr)
  case atStart => exact ⟨rfl, HS2.out, .inl ⟨rfl, rfl⟩⟩
  case round =>
    obtain ⟨rfl, hs, hor⟩ := hrel
    have HS := Lib.hid hs
    clear hs HS2
    rcases hor with ⟨rfl, rfl⟩ | ⟨rfl, rfl⟩
    · have hnm := H.out.go HS.out.b
      obtain ⟨a0, a1, a2, a3, a4, a5⟩ := (hnm).act
      have al := (hnm).ac.lt
      clear hnm
      go_upto_region 8 with fail
      refine world_gen (fun w3 => NcS w w3 N) (HS.out.go ((Below.refl _ _).alloc (Nat.le_refl _) _)) ?_
      intro w3 hs3
      have HS3 := Lib.hid hs3
      clear hs3 HS
      clear a0 a1 a2 a3 a4 a5 al
      generalize wr.heap.size = Z at *
      go_wp2_with fail
      refine (bins_ok g c _ (HT.out.go HS3.out.b)).mono ?_
      rintro e w4 ⟨rfl, hw⟩
      subst hw
      go_wp2_with fail
      go_roundg 0
      case measure => omega
      case rel => exact ⟨rfl, HS3.out, .inr ⟨rfl, rfl⟩⟩
    · go_wp2_with fail
      go_ret2
      exact ⟨rfl, HS.out.b⟩
end Go.Proofs.YtinjdcefagaaeaaGreatDoor
