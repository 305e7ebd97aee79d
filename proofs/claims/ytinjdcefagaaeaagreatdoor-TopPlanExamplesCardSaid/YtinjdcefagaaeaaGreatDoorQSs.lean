import Derived.Test.YtinjdcefagaaeaaGreatDoorQSr
set_option linter.unusedVariables false
set_option linter.unusedSimpArgs false
namespace Go.Proofs.YtinjdcefagaaeaaGreatDoor
open Go.RowKit
/-! search: extend from the beginning, run -/
def SrDone (A : SrA) (w wr : World) : Prop := T2 A.S A.gt w wr ∧ ∃ (t1 : Int) (res : Value), StM wr A 0 t1 301 res 82 true ∧ SrF wr A res
set_option maxRecDepth 100000 in
set_option maxHeartbeats 6400000 in
theorem ext0_ok (A : SrA) (w : World) (h : StM w A 0 0 0 (.slice none 0 0) 0 false) :
    Calls Tryz.prog 172 #[.pointer (some ⟨A.S, 0, none⟩), .int .i64 0, .int .i64 82] w fun e w' => e = .returned (.bool true) ∧ SrDone A w w' := by
  have HS := Lib.hid h
  have x3 := h.x.cell 3
  have x5 := h.x.cell 5
  have xl := h.x.lt
  have l1 : w.cell? ⟨A.gl, 0, none⟩ = some (.int .i64 1) := h.r.l.c 0 _ rfl
  have ll := h.r.l.lt
  have hl := h.hl
  simp at x3 x5
  clear h
  go_enter Tryz.func172, Tryz.ntmps172
  go_wp2_with fail
  clear x3 x5 xl l1 ll
  go_loopg [43] 1 (fun k v wr => (k = 1 ∧ v = .int .i64 0 ∧ wr = w) ∨ (k = 0 ∧ v = .int .i64 1 ∧ SrDone A w wr))
  case atStart => exact .inl ⟨rfl, rfl, rfl⟩
  case round =>
    rcases hrel with ⟨rfl, rfl, hw⟩ | ⟨rfl, rfl, hd⟩
    · subst hw
      have x3 := HS.out.x.cell 3
      have x5 := HS.out.x.cell 5
      have x6 := HS.out.x.cell 6
      have x7 := HS.out.x.cell 7
      have x8 := HS.out.x.cell 8
      have x11 := HS.out.x.cell 11
      have x12 := HS.out.x.cell 12
      have f8 := HS.out.x.frozen 8
      have xl := HS.out.x.lt
      have t1c := HS.out.t.cell 1
      have ft1 := HS.out.t.frozen 1
      have tl := HS.out.t.lt
      simp at x3 x5 x6 x7 x8 x11 x12 t1c
      have t0c := HS.out.t.cell 0
      have ft0 := HS.out.t.frozen 0
      simp at t0c
      go_upto_region 7 with fail
      refine wp_region_overL (by kernel_rfl) (by kernel_rfl) ?_
      repeat (go_big_quiet_step (fail))
      refine wpQuiet_nil ?_
      intro w2 hb2
      have HQ2 := Lib.hid (HS.out.go hb2)
      have HB2 := Lib.hid hb2
      clear hb2 t0c ft0
      clear x3 x5 x6 x7 x8 x11 x12 f8 xl t1c ft1 tl
      have x3 := HQ2.out.x.cell 3
      have x5 := HQ2.out.x.cell 5
      have x6 := HQ2.out.x.cell 6
      have x7 := HQ2.out.x.cell 7
      have x8 := HQ2.out.x.cell 8
      have x11 := HQ2.out.x.cell 11
      have x12 := HQ2.out.x.cell 12
      have f8 := HQ2.out.x.frozen 8
      have xl := HQ2.out.x.lt
      have t1c := HQ2.out.t.cell 1
      have ft1 := HQ2.out.t.frozen 1
      have tl := HQ2.out.t.lt
      simp at x3 x5 x6 x7 x8 x11 x12 t1c
      have t0c := HQ2.out.t.cell 0
      have ft0 := HQ2.out.t.frozen 0
      simp at t0c
      go_wp2_with fail
      have H3 := Lib.hid ((HQ2.out.stS 8 (.int .i64 1) (used' := 1) (res' := .slice none 0 0) (cost' := 0) (fd' := false) rfl).stT 0 (.int .i64 0) (t0' := 0) (t1' := 0) rfl)
      have HT3 := Lib.hid ((T2.of (a := A.S) (b := A.gt) HB2.out).tr ((T2.l (Tw.set A.S 8 w2 (.int .i64 1))).tr (T2.r (Tw.set A.gt 0 _ (.int .i64 0)))))
      refine (sadd0_ok A _ _ _ _ 82 _ _ _ H3.out).mono ?_
      rintro e w4 ⟨rfl, hw⟩
      subst hw
      clear HQ2 HB2 t0c ft0
      clear x3 x5 x6 x7 x8 x11 x12 f8 xl t1c ft1 tl
      have x3 := H3.out.x.cell 3
      have x5 := H3.out.x.cell 5
      have x6 := H3.out.x.cell 6
      have x7 := H3.out.x.cell 7
      have x8 := H3.out.x.cell 8
      have x11 := H3.out.x.cell 11
      have x12 := H3.out.x.cell 12
      have f8 := H3.out.x.frozen 8
      have xl := H3.out.x.lt
      have t1c := H3.out.t.cell 1
      have ft1 := H3.out.t.frozen 1
      have tl := H3.out.t.lt
      simp at x3 x5 x6 x7 x8 x11 x12 t1c
      generalize ((w2.setCell ⟨A.S, 8, none⟩ (.int .i64 1)).setCell ⟨A.gt, 0, none⟩ (.int .i64 0)) = w3 at *
      go_wp2_with fail
      refine (ext1_ok A _ H3.out).mono ?_
      rintro e w5 ⟨rfl, ht5, t1, u, res, hu, hor⟩
      have HD := Lib.hid (show SrDone A _ w5 from ⟨HT3.out.tr ht5, t1, res, by
        rcases hor with ⟨h, _⟩ | ⟨_, h1, h2⟩
        · omega
        · rw [show (301 : Int) = u by omega]; exact ⟨h1, h2⟩⟩)
      clear ht5 hu hor H3 HT3
      clear x3 x5 x6 x7 x8 x11 x12 f8 xl t1c ft1 tl
      go_wp2_with fail
      go_roundg 0
      case measure => omega
      case rel => exact .inr ⟨rfl, rfl, HD.out⟩
    · have HD := Lib.hid hd
      clear hd
      go_wp2_with fail
      go_ret
      exact ⟨rfl, HD.out⟩
def RnL (A : SrA) (w : World) (k : Nat) (v3 v : Value) (wr : World) : Prop := T2 A.S A.gt w wr ∧ StM wr A 0 0 0 (.slice none 0 0) 0 false ∧ ((k = 1 ∧ v = .int .i64 0 ∧ v3 = .int .i64 0) ∨ (k = 0 ∧ v = .int .i64 1 ∧ v3 = .int .i64 82))
set_option maxRecDepth 100000 in
set_option maxHeartbeats 6400000 in
theorem srun_ok (A : SrA) (w : World) (h : StM w A 0 0 0 (.slice none 0 0) 0 false) :
    Calls Tryz.prog 113 #[.pointer (some ⟨A.S, 0, none⟩)] w fun e w' => e = .returned (.int .i64 0) ∧ SrDone A w w' := by
  have HS := Lib.hid h
  have x2 := h.x.cell 2
  have xl := h.x.lt
  simp at x2
  clear h
  go_enter Tryz.func113, Tryz.ntmps113
  go_wp2_with fail
  clear x2 xl
  go_loopg [3, 12] 1 (fun k v3 v wr => RnL A w k v3 v wr)
  case atStart => exact ⟨T2.rf _ _ _, HS.out, .inl ⟨rfl, rfl, rfl⟩⟩
  case round =>
    obtain ⟨ht, hs, hor⟩ := hrel
    have HT := Lib.hid ht
    have HQ := Lib.hid hs
    clear ht hs HS
    rcases hor with ⟨rfl, rfl, rfl⟩ | ⟨rfl, rfl, rfl⟩
    · have hnm := HQ.out.r.n
      obtain ⟨a0, a1, a2, a3, a4, a5⟩ := (hnm).act
      have al := (hnm).ac.lt
      clear hnm
      have HB := Lib.hid (show Below wr.heap.size wr (wr.alloc (.cells acL.toArray 138)) from (Below.refl _ _).alloc (Nat.le_refl _) _)
      go_wp2_with fail
      go_roundg 0
      case measure => omega
      case rel => exact ⟨HT.out.tr (T2.of HB.out), HQ.out.go HB.out, .inr ⟨rfl, rfl, rfl⟩⟩
    · go_wp2_with fail
      refine (ext0_ok A _ HQ.out).mono ?_
      rintro e w5 ⟨rfl, ht5, t1, res, hs5, hf5⟩
      have HD := Lib.hid (show SrDone A w w5 from ⟨HT.out.tr ht5, t1, res, hs5, hf5⟩)
      have x9 := hs5.x.cell 9
      have x12 := hs5.x.cell 12
      have xl := hs5.x.lt
      simp at x9 x12
      clear ht5 hs5 hf5 HT HQ
      go_wp2_with fail
      go_ret
      exact ⟨rfl, HD.out⟩
end Go.Proofs.YtinjdcefagaaeaaGreatDoor
namespace Go.Proofs.YtinjdcefagaaeaaGreatDoor
open Go.RowKit
/-! search: newState -/
theorem infoIs : (Tryz.prog.info? 47).map (fun i => (i.zero, i.size, i.bytes)) = some (some (.slice none 0 0), 1, 24) := by kernel_rfl
abbrev snC (N : NtA) (vl vc vt : Value) : Array Value := srC N vl vc vt 0 (.slice none 0 0) 0 false
structure SnS (w wr : World) (N : NtA) (S : Nat) (vl vc vt : Value) : Prop where
  s : NcS w wr N
  x : Blk wr S 227 (snC N vl vc vt)
  g : w.heap.size < S
theorem SnS.go {w wr w' : World} {N : NtA} {S : Nat} {vl vc vt : Value} (h : SnS w wr N S vl vc vt) (hb : Below wr.heap.size wr w') : SnS w w' N S vl vc vt := ⟨h.s.go hb, h.x.same (hb.block _ h.x.lt), h.g⟩
theorem SnS.st {w wr : World} {N : NtA} {S : Nat} {vl vc vt vl' vc' vt' : Value} (h : SnS w wr N S vl vc vt) (i : Nat) (u : Value) (he : (snC N vl vc vt).setIfInBounds i u = snC N vl' vc' vt') : SnS w (wr.setCell ⟨S, i, none⟩ u) N S vl' vc' vt' :=
  ⟨⟨h.s.b.setCell (Nat.le_of_lt h.g) _, h.s.x.far (by have := h.g; omega)⟩, by have := h.x.set_ i u; rw [he] at this; exact this, h.g⟩
theorem SnS.far {w wr : World} {N : NtA} {S b i : Nat} {vl vc vt u : Value} (h : SnS w wr N S vl vc vt) (hb : w.heap.size < b) (hn : b ≠ S) : SnS w (wr.setCell ⟨b, i, none⟩ u) N S vl vc vt :=
  ⟨⟨h.s.b.setCell (Nat.le_of_lt hb) _, h.s.x.far (by omega)⟩, h.x.far hn, h.g⟩
/-- with the times and the row of the closing activities -/
structure SoS (w wr : World) (N : NtA) (S gt gc : Nat) (vl vq : Value) : Prop where
  s : SnS w wr N S vl (.slice (some ⟨gc, 0, none⟩) 2 2) (.slice (some ⟨gt, 0, none⟩) 2 2)
  t : Blk wr gt 3 (i2 0 0)
  c : Blk wr gc 47 #[.slice none 0 0, vq]
  g1 : S < gt
  g2 : gt < gc
theorem SoS.go {w wr w' : World} {N : NtA} {S gt gc : Nat} {vl vq : Value} (h : SoS w wr N S gt gc vl vq) (hb : Below wr.heap.size wr w') : SoS w w' N S gt gc vl vq := ⟨h.s.go hb, h.t.same (hb.block _ h.t.lt), h.c.same (hb.block _ h.c.lt), h.g1, h.g2⟩
theorem SoS.stq {w wr : World} {N : NtA} {S gt gc : Nat} {vl vq : Value} (h : SoS w wr N S gt gc vl vq) (u : Value) : SoS w (wr.setCell ⟨gc, 1, none⟩ u) N S gt gc vl u :=
  ⟨h.s.far (by have := h.s.g; have := h.g1; have := h.g2; omega) (by have := h.g1; have := h.g2; omega), h.t.far (by have := h.g2; omega), h.c.set_ 1 u, h.g1, h.g2⟩
theorem SoS.stl {w wr : World} {N : NtA} {S gt gc : Nat} {vl vq : Value} (h : SoS w wr N S gt gc vl vq) (u : Value) : SoS w (wr.setCell ⟨S, 3, none⟩ u) N S gt gc u vq :=
  ⟨h.s.st 3 u rfl, h.t.far (by have := h.g1; omega), h.c.far (by have := h.g1; have := h.g2; omega), h.g1, h.g2⟩
def Sq (wr : World) (vq : Value) : Prop := ∃ g c, vq = .slice (some ⟨g, 0, none⟩) 1 c ∧ Cs wr g [.int .i64 0]
def SoL (w : World) (N : NtA) (S gt gc : Nat) (k : Nat) (v : Value) (wr : World) : Prop := (k = 1 ∧ v = .int .i64 0 ∧ SoS w wr N S gt gc (.slice none 0 0) (.slice none 0 0)) ∨
  (k = 0 ∧ v = .int .i64 1 ∧ ∃ g c, SoS w wr N S gt gc (.slice none 0 0) (.slice (some ⟨g, 0, none⟩) 1 c) ∧ Cs wr g [.int .i64 0] ∧ gc < g)
structure SrP (w wr : World) (N : NtA) (S gt gc gq cq gk M : Nat) (vl : Value) (n : Nat) (xs : List Value) : Prop where
  s : SoS w wr N S gt gc vl (.slice (some ⟨gq, 0, none⟩) 1 cq)
  o : wr.ownsRow M 3 1 vl n xs
  k : Cs wr gk [.int .i64 0, .int .i64 0]
  q : Cs wr gq [.int .i64 0]
  z : M ≤ wr.heap.size
  g1 : gk < M
  g2 : gq < M
  g3 : gc < M
  n1 : gk ≠ S
  n2 : gq ≠ S
theorem cell_gr {w w' : World} {a : Addr} {v : Value} {row : Option Nat} (h : w.cell? a = some v) (hg : w.grownBy w' row) (hne : row ≠ some a.block) : w'.cell? a = some v :=
  (World.cell?_of_block (hg.block _ (World.block_lt_of_cell? _ _ h) (fun e => hne e.symm))).trans h
theorem SrP.app {w wr w' : World} {N : NtA} {S gt gc gq cq gk M n n' : Nat} {vl v' : Value} {xs xs' : List Value} (h : SrP w wr N S gt gc gq cq gk M vl n xs) (ht : ∀ k, k < M → w'.heap[k]? = wr.heap[k]?) (hb : Below w.heap.size w w') (hz : wr.heap.size ≤ w'.heap.size)
    (ho : w'.ownsRow M 3 1 v' n' xs') : SrP w (w'.setCell ⟨S, 3, none⟩ v') N S gt gc gq cq gk M v' n' xs' := by
  have g1 := h.s.g1
  have g2 := h.s.g2
  have g3 := h.g3
  have gs := h.s.s.g
  have hw : Blk w' w.heap.size 68 N.cells := h.s.s.s.x.same (ht _ (by omega))
  have hs' : SoS w w' N S gt gc vl (.slice (some ⟨gq, 0, none⟩) 1 cq) := ⟨⟨⟨hb, hw⟩, h.s.s.x.same (ht _ (by omega)), h.s.s.g⟩, h.s.t.same (ht _ (by omega)), h.s.c.same (ht _ (by omega)), g1, g2⟩
  exact ⟨hs'.stl v', own_far ho (fun e => by have := (own_block ho _ e).1; simp at this; omega), (h.k.same (ht _ h.g1) hz).tw (Tw.set _ _ _ _) h.n1, (h.q.same (ht _ h.g2) hz).tw (Tw.set _ _ _ _) h.n2, by show _ ≤ (w'.heap.modify _ _).size; rw [Array.size_modify]; exact Nat.le_trans h.z hz, h.g1, h.g2, h.g3, h.n1, h.n2⟩
def SrPL (w : World) (N : NtA) (S gt gc gq cq gk M : Nat) (k : Nat) (v12 v : Value) (wr : World) : Prop := (k = 2 ∧ v = .int .i64 0 ∧ v12 = .int .i64 0 ∧ SrP w wr N S gt gc gq cq gk M (.slice none 0 0) 0 []) ∨
  (k = 1 ∧ v = .int .i64 1 ∧ v12 = .int .i64 1 ∧ ∃ vl, SrP w wr N S gt gc gq cq gk M vl 1 [.int .i64 1]) ∨ (k = 0 ∧ v = .int .i64 2 ∧ ∃ vl, SrP w wr N S gt gc gq cq gk M vl 2 [.int .i64 1, .int .i64 300])
set_option maxRecDepth 100000 in
set_option maxHeartbeats 12800000 in
theorem newst_ok (N : NtA) (w : World) (h : NtM w N) : Calls Tryz.prog 112 #[N.v, .int .i64 1000, .bool true] w fun e w' => ∃ A : SrA, A.N = N ∧ e = .returned (.tuple #[.pointer (some ⟨A.S, 0, none⟩), .int .i64 0]) ∧ StM w' A 0 0 0 (.slice none 0 0) 0 false ∧ w.heap.size ≤ A.S ∧ w.heap.size ≤ A.gt ∧ Below w.heap.size w w' := by
  have H := Lib.hid h
  clear h
  obtain ⟨i0, b1, b2, b3, b4⟩ := info_parts infoI
  have HI := Lib.hid (And.intro b1 (And.intro b2 (And.intro b3 b4)))
  clear b1 b2 b3 b4
  obtain ⟨iS, b1, b2, b3, b4⟩ := info_parts infoIs
  have HIS := Lib.hid (And.intro b1 (And.intro b2 (And.intro b3 b4)))
  clear b1 b2 b3 b4
  go_enter Tryz.func112, Tryz.ntmps112
  go_upto_region 1 with fail
  refine world_gen (fun w0 => NcS w w0 N) ⟨(by repeat (first | exact Below.refl _ _ | (with_reducible refine Below.drew ?_) | (with_reducible refine below_drewN ?_ _) | (with_reducible refine Below.alloc ?_ (by first | omega | (simp; done) | (simp; omega)) _) | (with_reducible refine Below.setCell ?_ (by first | omega | (simp; done) | (simp; omega)) _) | (refine Below.trans ?_ (Below.mono (by with_reducible assumption) (by first | omega | (simp; done) | (simp; omega)))))), (by repeat (first | (refine Blk.new' _ _ _ _ ?_; first | rfl | (simp <;> omega)) | refine Blk.al ?_ _ | refine Blk.dr ?_ | refine Blk.drN ?_ _ | refine Blk.far ?_ (by first | omega | (simp; omega))))⟩ ?_
  rintro w0 hs0
  have HS0 := Lib.hid hs0
  have x0 := (hs0).x.cell 0
  have x1 := (hs0).x.cell 1
  have x2 := (hs0).x.cell 2
  have xl := (hs0).x.lt
  simp at x0 x1 x2
  clear hs0
  go_wp2_with fail
  refine (ncheck_ok N _ (H.out.go HS0.out.b)).mono ?_
  rintro e w1 ⟨rfl, hb1⟩
  have HS1 := Lib.hid (HS0.out.go hb1)
  clear hb1 HS0
  clear x0 x1 x2 xl
  have x0 := (HS1.out).x.cell 0
  have x1 := (HS1.out).x.cell 1
  have x2 := (HS1.out).x.cell 2
  have xl := (HS1.out).x.lt
  simp at x0 x1 x2
  go_upto_region 6 with fail
  clear x0 x1 x2 xl
  refine world_gen (fun w2 => SnS w w2 N w1.heap.size (.slice none 0 0) (.slice none 0 0) (.slice none 0 0)) ⟨HS1.out.go ((Below.refl _ _).alloc (Nat.le_refl _) _), Blk.new _ _ _, HS1.out.x.lt⟩ ?_
  intro w2 hs2
  have HS2 := Lib.hid hs2
  clear hs2 HS1
  generalize w1.heap.size = S at *
  have x0 := (HS2.out.s).x.cell 0
  have x1 := (HS2.out.s).x.cell 1
  have x2 := (HS2.out.s).x.cell 2
  have xl := (HS2.out.s).x.lt
  simp at x0 x1 x2
  go_upto_region 7 with ((at_make; refine wpList_make_full _ rfl _ _ 47 rfl (w2.heap.size) 3 i0 _ 1 Tryz.underlying47 HI.out.1 HI.out.2.1 HI.out.2.2.1 .i64 .i64 _ _ 2 rfl rfl rfl rfl ?m1 ?m2 ?m3 ?_; rotate_right; intro w3 ho3 hg3); have hb3 := bel_grow hg3; have HS3 := Lib.hid (HS2.out.go hb3); have HO3 := Lib.hid ho3; have y5 := HS3.out.x.cell 5; have fy5 := HS3.out.x.frozen 5; have yl := HS3.out.x.lt; simp at y5; clear ho3 hg3 hb3)
  case m1 => rw [HI.out.2.2.2]; omega
  case m2 => simp only [maxLen]; omega
  case m3 => exact Nat.le_refl _
  have hmc : (madeCells (Value.int .i64 0).cells (2 * 1)).toList = [.int .i64 0, .int .i64 0] := by first | rfl | decide | kernel_rfl
  rw [hmc] at HO3
  have hSl := HS2.out.x.lt
  refine world_gen (fun w4 => SnS w w4 N S (.slice none 0 0) (.slice none 0 0) (.slice (some ⟨w2.heap.size, 0, none⟩) 2 2) ∧ Blk w4 w2.heap.size 3 (i2 0 0)) ⟨HS3.out.st 5 _ rfl, (show Blk w3 w2.heap.size 3 (i2 0 0) from own_full HO3.out).far (by omega)⟩ ?_
  rintro w4 ⟨hs4, ht4⟩
  have HS4 := Lib.hid hs4
  have HT4 := Lib.hid ht4
  clear hs4 ht4 HS2 HS3 HO3 hmc y5 fy5 yl
  clear x0 x1 x2 xl
  generalize w2.heap.size = gt at *
  have x0 := (HS4.out.s).x.cell 0
  have x1 := (HS4.out.s).x.cell 1
  have x2 := (HS4.out.s).x.cell 2
  have xl := (HS4.out.s).x.lt
  simp at x0 x1 x2
  go_upto_region 8 with ((at_make; refine wpList_make_full _ rfl _ _ 51 rfl (w4.heap.size) 47 iS _ 1 Tryz.underlying51 HIS.out.1 HIS.out.2.1 HIS.out.2.2.1 .i64 .i64 _ _ 2 rfl rfl rfl rfl ?m1 ?m2 ?m3 ?_; rotate_right; intro w3 ho3 hg3); have hb3 := bel_grow hg3; have HT5 := Lib.hid (HT4.out.same (hb3.block _ HT4.out.lt)); have HS3 := Lib.hid (HS4.out.go hb3); have HO3 := Lib.hid ho3; have y4 := HS3.out.x.cell 4; have fy4 := HS3.out.x.frozen 4; have yl := HS3.out.x.lt; simp at y4; clear ho3 hg3 hb3)
  case m1 => rw [HIS.out.2.2.2]; omega
  case m2 => simp only [maxLen]; omega
  case m3 => exact Nat.le_refl _
  have hmc : (madeCells (Value.slice none 0 0).cells (2 * 1)).toList = [.slice none 0 0, .slice none 0 0] := by first | rfl | decide | kernel_rfl
  rw [hmc] at HO3
  have hgl := HT4.out.lt
  have hSl2 := HS4.out.x.lt
  refine world_gen (fun w5 => SoS w w5 N S gt w4.heap.size (.slice none 0 0) (.slice none 0 0)) ⟨HS3.out.st 4 _ rfl, HT5.out.far (by omega), (show Blk w3 w4.heap.size 47 #[.slice none 0 0, .slice none 0 0] from own_full HO3.out).far (by omega), hSl, hgl⟩ ?_
  intro w5 hs5
  have HS5 := Lib.hid hs5
  clear hs5 HS4 HS3 HO3 HT4 HT5 hmc y4 fy4 yl hSl2
  clear x0 x1 x2 xl
  generalize w4.heap.size = gc at *
  have x0 := (HS5.out.s.s).x.cell 0
  have x1 := (HS5.out.s.s).x.cell 1
  have x2 := (HS5.out.s.s).x.cell 2
  have xl := (HS5.out.s.s).x.lt
  simp at x0 x1 x2
  go_wp2_with fail
  clear x0 x1 x2 xl
  go_loopg [46] 1 (fun k v wr => SoL w N S gt gc k v wr)
  case atStart => exact .inl ⟨rfl, rfl, HS5.out⟩
  case round =>
    rcases hrel with ⟨rfl, rfl, hs⟩ | ⟨rfl, rfl, gq, cq, hs, hcq, hgq⟩
    · have HS := Lib.hid hs
      clear hs HS5
      have hnm := H.out.go HS.out.s.s.b
      obtain ⟨a0, a1, a2, a3, a4, a5⟩ := (hnm).act
      have al := (hnm).ac.lt
      clear hnm
      go_upto_region 11 with fail
      have hZc : gc < wr.heap.size := HS.out.c.lt
      refine world_gen (fun w6 => SoS w w6 N S gt gc (.slice none 0 0) (.slice none 0 0) ∧ Blk w6 wr.heap.size 138 acL.toArray) ⟨HS.out.go ((Below.refl _ _).alloc (Nat.le_refl _) _), (by repeat (first | (refine Blk.new' _ _ _ _ ?_; first | rfl | (simp <;> omega)) | refine Blk.al ?_ _ | refine Blk.dr ?_ | refine Blk.drN ?_ _ | refine Blk.far ?_ (by first | omega | (simp; omega))))⟩ ?_
      rintro w6 ⟨hs6, hz6⟩
      have HS6 := Lib.hid hs6
      have z1 := hz6.cell 1
      have z2 := hz6.cell 2
      have zl := hz6.lt
      simp at z1 z2
      clear hs6 hz6 HS
      clear a0 a1 a2 a3 a4 a5 al
      generalize wr.heap.size = Z at *
      have hmx : max (0 : Int) 1 = 1 := by decide
      go_upto_region 12 with fail
      clear z1 z2 zl hmx
      have x4 := HS6.out.s.x.cell 4
      have q1 := HS6.out.c.cell 1
      have xl := HS6.out.s.x.lt
      have ql := HS6.out.c.lt
      simp at x4 q1
      have hbd : Below w6.heap.size w6 (w6.drew.alloc (.cells #[.int .i64 0] 3)) := (Below.refl _ w6).drew.alloc (Nat.le_refl _) _
      refine wp_region_cut 15 (by kernel_rfl) (by kernel_rfl) ?_
      simp only [dulled, dull, List.take_succ_cons, List.take_zero, List.drop_succ_cons, List.drop_zero, List.map_cons, List.map_nil, List.cons_append, List.nil_append]
      refine wpAny_of_held (S := fun W => W.cell? ⟨S, 4, none⟩ = some (.slice (some ⟨gc, 0, none⟩) 2 2) ∧ W.cell? ⟨gc, 1, none⟩ = some (.slice none 0 0)) _ _ _ _ ?_
      change wpAnyH _ _ _ _ _ 17 _ _ (World.drew w6)
      have hHeld : (fun W => W.cell? ⟨S, 4, none⟩ = some (.slice (some ⟨gc, 0, none⟩) 2 2) ∧ W.cell? ⟨gc, 1, none⟩ = some (.slice none 0 0)) (World.drew w6) := ⟨x4, q1⟩
      refine wpAnyH_take (i := 0) (oi := ⟨some _, _, _, _, _, _⟩) (v := ?_) rfl (by kernel_rfl) (by kernel_rfl) (by kernel_rfl) (fun _ _ _ h => h) (Or.inl ⟨by rfl, ?_⟩) (by assumption) ?_
      rotate_left
      · (intro w hSw; (try dsimp only at hSw); go_simp; try with_reducible rfl)
      simp only [Act.put, List.setIfInBounds_toArray, List.set_cons_zero, List.set_cons_succ]
      refine wpAnyH_take (i := 1) (oi := ⟨some _, _, _, _, _, _⟩) (v := ?_) rfl (by kernel_rfl) (by kernel_rfl) (by kernel_rfl) (fun _ _ _ h => h) (Or.inl ⟨by rfl, ?_⟩) (by assumption) ?_
      rotate_left
      · (intro w hSw; (try dsimp only at hSw); go_simp; try with_reducible rfl)
      simp only [Act.put, List.setIfInBounds_toArray, List.set_cons_zero, List.set_cons_succ]
      refine wpAnyH_take (i := 2) (oi := ⟨some _, _, _, _, _, _⟩) (v := ?_) rfl (by kernel_rfl) (by kernel_rfl) (by kernel_rfl) (fun _ _ _ h => h) (Or.inl ⟨by rfl, ?_⟩) (by assumption) ?_
      rotate_left
      · (intro w hSw; (try dsimp only at hSw); go_simp; try with_reducible rfl)
      simp only [Act.put, List.setIfInBounds_toArray, List.set_cons_zero, List.set_cons_succ]
      refine wpAnyH_take (i := 3) (oi := ⟨some _, _, _, _, _, _⟩) (v := ?_) rfl (by kernel_rfl) (by kernel_rfl) (by kernel_rfl) (fun _ _ _ h => h) (Or.inl ⟨by rfl, ?_⟩) (by assumption) ?_
      rotate_left
      · (intro w hSw; (try dsimp only at hSw); go_simp; try with_reducible rfl)
      simp only [Act.put, List.setIfInBounds_toArray, List.set_cons_zero, List.set_cons_succ]
      refine wpAnyH_take (i := 4) (oi := ⟨some _, _, _, _, _, _⟩) (v := ?_) rfl (by kernel_rfl) (by kernel_rfl) (by kernel_rfl) (fun _ _ _ h => h) (Or.inl ⟨by rfl, ?_⟩) (by assumption) ?_
      rotate_left
      · (intro w hSw; (try dsimp only at hSw); go_simp; try with_reducible rfl)
      simp only [Act.put, List.setIfInBounds_toArray, List.set_cons_zero, List.set_cons_succ]
      refine wpAnyH_take (i := 5) (oi := ⟨some _, _, _, _, _, _⟩) (v := ?_) rfl (by kernel_rfl) (by kernel_rfl) (by kernel_rfl) (fun _ _ _ h => h) (Or.inl ⟨by rfl, ?_⟩) (by assumption) ?_
      rotate_left
      · (intro w hSw; (try dsimp only at hSw); go_simp; try with_reducible rfl)
      simp only [Act.put, List.setIfInBounds_toArray, List.set_cons_zero, List.set_cons_succ]
      refine wpAnyH_take (i := 6) (oi := ⟨some _, _, _, _, _, _⟩) (v := ?_) rfl (by kernel_rfl) (by kernel_rfl) (by kernel_rfl) (fun _ _ _ h => h) (Or.inl ⟨by rfl, ?_⟩) (by assumption) ?_
      rotate_left
      · (intro w hSw; (try dsimp only at hSw); go_simp; try with_reducible rfl)
      simp only [Act.put, List.setIfInBounds_toArray, List.set_cons_zero, List.set_cons_succ]
      refine wpAnyH_take (i := 7) (oi := ⟨some _, _, _, _, _, _⟩) (v := ?_) rfl (by kernel_rfl) (by kernel_rfl) (by kernel_rfl) (fun _ _ _ h => h) (Or.inl ⟨by rfl, ?_⟩) (by assumption) ?_
      rotate_left
      · (intro w hSw; (try dsimp only at hSw); go_simp; try with_reducible rfl)
      simp only [Act.put, List.setIfInBounds_toArray, List.set_cons_zero, List.set_cons_succ]
      refine wpAnyH_take (i := 8) (oi := ⟨some _, _, _, _, _, _⟩) (v := ?_) rfl (by kernel_rfl) (by kernel_rfl) (by kernel_rfl) (fun _ _ _ h => h) (Or.inl ⟨by rfl, ?_⟩) (by assumption) ?_
      rotate_left
      · (intro w hSw; (try dsimp only at hSw); go_simp; try with_reducible rfl)
      simp only [Act.put, List.setIfInBounds_toArray, List.set_cons_zero, List.set_cons_succ]
      refine wpAnyH_take (i := 9) (oi := ⟨some _, _, _, _, _, _⟩) (v := ?_) rfl (by kernel_rfl) (by kernel_rfl) (by kernel_rfl) (fun _ _ _ h => h) (Or.inl ⟨by rfl, ?_⟩) (by assumption) ?_
      rotate_left
      · (intro w hSw; (try dsimp only at hSw); go_simp; try with_reducible rfl)
      simp only [Act.put, List.setIfInBounds_toArray, List.set_cons_zero, List.set_cons_succ]
      refine wpAnyH_take (i := 10) (oi := ⟨some _, _, _, _, _, _⟩) (v := ?_) rfl (by kernel_rfl) (by kernel_rfl) (by kernel_rfl) (fun _ _ _ h => h) (Or.inl ⟨by rfl, ?_⟩) (by assumption) ?_
      rotate_left
      · (intro w hSw; (try dsimp only at hSw); go_simp; try with_reducible rfl)
      simp only [Act.put, List.setIfInBounds_toArray, List.set_cons_zero, List.set_cons_succ]
      refine wpAnyH_take (i := 11) (oi := ⟨some _, _, _, _, _, _⟩) (v := ?_) rfl (by kernel_rfl) (by kernel_rfl) (by kernel_rfl) (fun _ _ _ h => h) (Or.inl ⟨by rfl, ?_⟩) (by assumption) ?_
      rotate_left
      · (intro w hSw; (try dsimp only at hSw); go_simp; try with_reducible rfl)
      simp only [Act.put, List.setIfInBounds_toArray, List.set_cons_zero, List.set_cons_succ]
      refine wpAnyH_take (i := 12) (oi := ⟨some _, _, _, _, _, _⟩) (v := ?_) rfl (by kernel_rfl) (by kernel_rfl) (by kernel_rfl) (fun _ _ _ h => h) (Or.inl ⟨by rfl, ?_⟩) (by assumption) ?_
      rotate_left
      · (intro w hSw; (try dsimp only at hSw); go_simp; try with_reducible rfl)
      simp only [Act.put, List.setIfInBounds_toArray, List.set_cons_zero, List.set_cons_succ]
      refine wpAnyH_ready (rs := [13]) (by kernel_rfl) (by simp) ?_
      refine AllReadyH.cons rfl (fun K hK => ?_) AllReadyH.nil
      go_simp
      refine hK.out _ _ ⟨cell_bel hbd x4, cell_bel hbd q1⟩ (fun hHeld => ?_)
      clear hK K
      try simp only [Act.put, List.setIfInBounds_toArray, List.set_cons_zero, List.set_cons_succ]
      refine wpAnyH_ready (rs := [14]) (by kernel_rfl) (by simp) ?_
      refine AllReadyH.cons (o := ⟨some _, _, _, _, _, _⟩) rfl (fun K hK => ?_) AllReadyH.nil
      refine step_append_any (by rfl) _ _ _ (by rfl) w6.heap.size 3 _ _ 1 8 Tryz.underlying47 HI.out.1 HI.out.2.1 HI.out.2.2.1 HI.out.2.2.2 rfl (by omega) (.slice none 0 0) 0 ([]) rfl (World.ownsRow_nil _ _ _ _) (some ⟨w6.drew.heap.size, 0, none⟩) 1 1 (w6.drew.heap.size + 1) [.int .i64 0] rfl (fun e => by cases e) (Rd.more (Rd.of_blk (cs := [.int .i64 0]) (n := 1) (sz := 1) (by repeat (first | (refine Blk.new' _ _ _ _ ?_; first | rfl | (simp <;> omega)) | refine Blk.al ?_ _ | refine Blk.dr ?_ | refine Blk.drN ?_ _ | refine Blk.far ?_ (by first | omega | (simp; omega)))) rfl) (by simp)) ((List.all_eq_true (p := fun (u : Value) => u.oneCell')).1 (by rfl)) (by simp only [maxLen]; omega) (by omega) (by simp; try omega) ?_; intro va wa hoa hga hta; obtain ⟨ga, ca, rfl, hca, hgA, _⟩ := own_cs hoa (by omega)
      have hba : Below w6.heap.size w6 wa := hbd.trans (Below.mono (bel_grow hga) (by simp))
      refine hK.out _ _ ⟨cell_bel hba x4, cell_bel hba q1⟩ (fun hHeld => ?_)
      clear hK K
      try simp only [Act.put, List.setIfInBounds_toArray, List.set_cons_zero, List.set_cons_succ]
      refine wpAnyH_ready (rs := [15]) (by kernel_rfl) (by simp) ?_
      refine AllReadyH.cons rfl (fun K hK => ?_) AllReadyH.nil
      go_simp
      refine hK.out _ _ hHeld (fun hHeld => ?_)
      clear hK K
      refine wpAnyH_ready (rs := [16]) (by kernel_rfl) (by simp) ?_
      refine AllReadyH.cons rfl (fun K hK => ?_) AllReadyH.nil
      go_simp
      refine hK.out _ _ hHeld (fun hHeld => ?_)
      clear hK K
      refine wpAnyH_done (by kernel_rfl) ?_ _
      simp only [cutQ, List.drop_succ_cons, List.drop_zero]
      have HSA := Lib.hid (HS6.out.go hba)
      have HCA := Lib.hid hca
      have hgcl := HS6.out.c.lt
      clear hHeld hoa hga hta hca hba hbd HS6 x4 q1 xl ql
      have q1 := HSA.out.c.cell 1
      have fq1 := HSA.out.c.frozen 1
      have ql := HSA.out.c.lt
      simp at q1
      go_wp2_with fail
      go_roundg 0
      case measure => omega
      case rel => exact .inr ⟨rfl, rfl, ga, ca, HSA.out.stq _, HCA.out.tw (Tw.set _ _ _ _) (by omega), by omega⟩
    · have HS := Lib.hid hs
      have HCQ := Lib.hid hcq
      clear hs hcq HS5
      have x0 := (HS.out.s.s).x.cell 0
      have x1 := (HS.out.s.s).x.cell 1
      have x2 := (HS.out.s.s).x.cell 2
      have xl := (HS.out.s.s).x.lt
      simp at x0 x1 x2
      go_wp2_with fail
      have HNM := Lib.hid (H.out.go HS.out.s.s.b)
      refine (comps_ok N _ HNM.out).mono ?_
      rintro e w7 ⟨gk, rfl, hk7, hb7⟩
      clear x0 x1 x2 xl
      have hgk := hk7.lt
      have hgcl := HS.out.c.lt
      have hql := HCQ.out.lt
      have hb7s := hb7.size
      have hgkS : gk ≠ S := fun e => by
        have h1 : w7.cell? ⟨gk, 0, none⟩ = some (.int .i64 0) := hk7.c 0 _ rfl
        have h2 := (HS.out.go hb7).s.x.cell 0
        simp at h2
        rw [e, h2] at h1; simp at h1
      have hgS := HS.out.g1
      have hgS2 := HS.out.g2
      have HP7 := Lib.hid (show SrP w w7 N S gt gc gq cq gk w7.heap.size (.slice none 0 0) 0 [] from ⟨HS.out.go hb7, World.ownsRow_nil _ _ _ _, hk7, HCQ.out.go hb7, Nat.le_refl _, hgk, by omega, by omega, hgkS, by omega⟩)
      clear hk7 hb7 HS HCQ HNM hgk hgcl hql hb7s hgkS
      generalize w7.heap.size = M at *
      go_wp2_with fail
      go_loopg [12, 76] 2 (fun k v12 v wr => SrPL w N S gt gc gq cq gk M k v12 v wr)
      case atStart => exact .inl ⟨rfl, rfl, rfl, HP7.out⟩
      case round =>
        rcases hrel with ⟨rfl, rfl, rfl, hs⟩ | ⟨rfl, rfl, rfl, vl, hs⟩ | ⟨rfl, rfl, vl, hs⟩
        · have HS := Lib.hid hs
          have k0 : wr.cell? ⟨gk, 0, none⟩ = some (.int .i64 0) := hs.k.c 0 _ rfl
          have kl := hs.k.lt
          have x3 := hs.s.s.x.cell 3
          have xl := hs.s.s.x.lt
          have hMz := hs.z
          simp at x3
          clear hs HP7
          go_upto_region 20 with ((at_builtin; refine wpList_append_own_at _ rfl _ _ 47 rfl M 3 i0 _ 1 8 Tryz.underlying47 HI.out.1 HI.out.2.1 HI.out.2.2.1 HI.out.2.2.2 rfl (by omega) _ 0 ([]) rfl (World.ownsRow_nil _ _ _ _) ⟨wr.heap.size, 0, none⟩ 1 1 [.int .i64 1] rfl rfl ?c0 ?c1 ?c2 ?c3 ?c4 ?_; rotate_right; intro va wa hoa hga hna hta); obtain ⟨A4, c4, rfl, _, _⟩ := own_slice hoa; have hba : Below wr.heap.size wr wa := Below.trans ((Below.refl _ _).alloc (Nat.le_refl _) (.cells #[.int .i64 1] 3)) (Below.mono (bel_grow hga) (by simp)); have y3 := (HS.out.s.go hba).s.x.cell 3; have fy3 := (HS.out.s.go hba).s.x.frozen 3; have yl := (HS.out.s.go hba).s.x.lt; simp at y3; have HBA := Lib.hid hba; have HOA := Lib.hid hoa; clear hoa hga hna hta hba x3 xl)
          case c0 => exact news_new _ _ _
          case c1 => exact (List.all_eq_true (p := fun (u : Value) => u.oneCell')).1 (by rfl)
          case c2 => simp only [maxLen]; omega
          case c3 => omega
          case c4 => first | omega | (simp; done) | (simp; omega)
          have HF := Lib.hid (HS.out.app (v' := .slice A4 1 c4) (fun k hk => HBA.out.block k (by omega)) (HS.out.s.s.s.b.trans (HBA.out.mono HS.out.s.s.s.b.size)) HBA.out.size HOA.out)
          clear y3 fy3 yl k0 kl HBA HOA
          go_wp2_with fail
          go_roundg 1
          case measure => omega
          case rel => exact .inr (.inl ⟨rfl, rfl, rfl, _, HF.out⟩)
        · have HS := Lib.hid hs
          obtain ⟨Al, cl, rfl, _, _⟩ := own_slice hs.o
          have k1 : wr.cell? ⟨gk, 1, none⟩ = some (.int .i64 0) := hs.k.c 1 _ rfl
          have kl := hs.k.lt
          clear hs HP7
          go_upto_region 21 with fail
          clear k1 kl
          have x3 := HS.out.s.s.x.cell 3
          have n0 := HS.out.s.s.s.x.cell 0
          have xl := HS.out.s.s.x.lt
          have nl := HS.out.s.s.s.x.lt
          have hMz := HS.out.z
          have hSM : S < M := by have := HS.out.g3; omega
          have hwM : w.heap.size < M := by have := HS.out.s.s.g; omega
          simp at x3 n0
          have hbd : Below wr.heap.size wr (wr.drew.alloc (.cells #[.int .i64 300] 3)) := (Below.refl _ wr).drew.alloc (Nat.le_refl _) _
          have hnr : ∀ k, k < M → (Value.slice Al 1 cl).ownBlock ≠ some k := fun k hk e => by have := (own_block HS.out.o _ e).1; omega
          refine wp_region_cut 9 (by kernel_rfl) (by kernel_rfl) ?_
          simp only [dulled, dull, List.take_succ_cons, List.take_zero, List.drop_succ_cons, List.drop_zero, List.map_cons, List.map_nil, List.cons_append, List.nil_append]
          refine wpAny_of_held (S := fun W => W.cell? ⟨S, 3, none⟩ = some (.slice Al 1 cl) ∧ W.cell? ⟨w.heap.size, 0, none⟩ = some (.int .i64 300)) _ _ _ _ ?_
          change wpAnyH _ _ _ _ _ 12 _ _ (World.drew wr)
          have hHeld : (fun W => W.cell? ⟨S, 3, none⟩ = some (.slice Al 1 cl) ∧ W.cell? ⟨w.heap.size, 0, none⟩ = some (.int .i64 300)) (World.drew wr) := ⟨x3, n0⟩
          refine wpAnyH_take (i := 0) (oi := ⟨some _, _, _, _, _, _⟩) (v := ?_) rfl (by kernel_rfl) (by kernel_rfl) (by kernel_rfl) (fun _ _ _ h => h) (Or.inl ⟨by rfl, ?_⟩) (by assumption) ?_
          rotate_left
          · (intro w hSw; (try dsimp only at hSw); go_simp; try with_reducible rfl)
          simp only [Act.put, List.setIfInBounds_toArray, List.set_cons_zero, List.set_cons_succ]
          refine wpAnyH_take (i := 1) (oi := ⟨some _, _, _, _, _, _⟩) (v := ?_) rfl (by kernel_rfl) (by kernel_rfl) (by kernel_rfl) (fun _ _ _ h => h) (Or.inl ⟨by rfl, ?_⟩) (by assumption) ?_
          rotate_left
          · (intro w hSw; (try dsimp only at hSw); go_simp; try with_reducible rfl)
          simp only [Act.put, List.setIfInBounds_toArray, List.set_cons_zero, List.set_cons_succ]
          refine wpAnyH_take (i := 2) (oi := ⟨some _, _, _, _, _, _⟩) (v := ?_) rfl (by kernel_rfl) (by kernel_rfl) (by kernel_rfl) (fun _ _ _ h => h) (Or.inl ⟨by rfl, ?_⟩) (by assumption) ?_
          rotate_left
          · (intro w hSw; (try dsimp only at hSw); go_simp; try with_reducible rfl)
          simp only [Act.put, List.setIfInBounds_toArray, List.set_cons_zero, List.set_cons_succ]
          refine wpAnyH_take (i := 3) (oi := ⟨some _, _, _, _, _, _⟩) (v := ?_) rfl (by kernel_rfl) (by kernel_rfl) (by kernel_rfl) (fun _ _ _ h => h) (Or.inl ⟨by rfl, ?_⟩) (by assumption) ?_
          rotate_left
          · (intro w hSw; (try dsimp only at hSw); go_simp; try with_reducible rfl)
          simp only [Act.put, List.setIfInBounds_toArray, List.set_cons_zero, List.set_cons_succ]
          refine wpAnyH_take (i := 4) (oi := ⟨some _, _, _, _, _, _⟩) (v := ?_) rfl (by kernel_rfl) (by kernel_rfl) (by kernel_rfl) (fun _ _ _ h => h) (Or.inl ⟨by rfl, ?_⟩) (by assumption) ?_
          rotate_left
          · (intro w hSw; (try dsimp only at hSw); go_simp; try with_reducible rfl)
          simp only [Act.put, List.setIfInBounds_toArray, List.set_cons_zero, List.set_cons_succ]
          refine wpAnyH_take (i := 5) (oi := ⟨some _, _, _, _, _, _⟩) (v := ?_) rfl (by kernel_rfl) (by kernel_rfl) (by kernel_rfl) (fun _ _ _ h => h) (Or.inl ⟨by rfl, ?_⟩) (by assumption) ?_
          rotate_left
          · (intro w hSw; (try dsimp only at hSw); go_simp; try with_reducible rfl)
          simp only [Act.put, List.setIfInBounds_toArray, List.set_cons_zero, List.set_cons_succ]
          refine wpAnyH_take (i := 6) (oi := ⟨some _, _, _, _, _, _⟩) (v := ?_) rfl (by kernel_rfl) (by kernel_rfl) (by kernel_rfl) (fun _ _ _ h => h) (Or.inl ⟨by rfl, ?_⟩) (by assumption) ?_
          rotate_left
          · (intro w hSw; (try dsimp only at hSw); go_simp; try with_reducible rfl)
          simp only [Act.put, List.setIfInBounds_toArray, List.set_cons_zero, List.set_cons_succ]
          refine wpAnyH_ready (rs := [7]) (by kernel_rfl) (by simp) ?_
          refine AllReadyH.cons rfl (fun K hK => ?_) AllReadyH.nil
          go_simp
          refine hK.out _ _ ⟨cell_bel hbd x3, cell_bel hbd n0⟩ (fun hHeld => ?_)
          clear hK K
          try simp only [Act.put, List.setIfInBounds_toArray, List.set_cons_zero, List.set_cons_succ]
          refine wpAnyH_ready (rs := [8]) (by kernel_rfl) (by simp) ?_
          refine AllReadyH.cons (o := ⟨some _, _, _, _, _, _⟩) rfl (fun K hK => ?_) AllReadyH.nil
          refine step_append_any (by rfl) _ _ _ (by rfl) M 3 _ _ 1 8 Tryz.underlying47 HI.out.1 HI.out.2.1 HI.out.2.2.1 HI.out.2.2.2 rfl (by omega) (.slice Al 1 cl) 1 ([.int .i64 1]) rfl (HS.out.o.alloc _) (some ⟨wr.drew.heap.size, 0, none⟩) 1 1 (wr.drew.heap.size + 1) [.int .i64 300] rfl (fun e => by cases e) (Rd.more (Rd.of_blk (cs := [.int .i64 300]) (n := 1) (sz := 1) (by repeat (first | (refine Blk.new' _ _ _ _ ?_; first | rfl | (simp <;> omega)) | refine Blk.al ?_ _ | refine Blk.dr ?_ | refine Blk.drN ?_ _ | refine Blk.far ?_ (by first | omega | (simp; omega)))) rfl) (by simp)) ((List.all_eq_true (p := fun (u : Value) => u.oneCell')).1 (by rfl)) (by simp only [maxLen]; omega) (by omega) (by simp; try omega) ?_; intro va wa hoa hga hta; obtain ⟨Aa, ca, rfl, _, _⟩ := own_slice hoa
          have hgg : (wr.drew.alloc (.cells #[.int .i64 300] 3)).grownBy wa (Value.slice Al 1 cl).ownBlock := hga
          refine hK.out _ _ ⟨cell_gr (cell_bel hbd x3) hgg (hnr S hSM), cell_gr (cell_bel hbd n0) hgg (hnr _ hwM)⟩ (fun hHeld => ?_)
          clear hK K
          try simp only [Act.put, List.setIfInBounds_toArray, List.set_cons_zero, List.set_cons_succ]
          refine wpAnyH_ready (rs := [9]) (by kernel_rfl) (by simp) ?_
          refine AllReadyH.cons rfl (fun K hK => ?_) AllReadyH.nil
          go_simp
          refine hK.out _ _ hHeld (fun hHeld => ?_)
          clear hK K
          refine wpAnyH_ready (rs := [10]) (by kernel_rfl) (by simp) ?_
          refine AllReadyH.cons rfl (fun K hK => ?_) AllReadyH.nil
          go_simp
          refine hK.out _ _ hHeld (fun hHeld => ?_)
          clear hK K
          refine wpAnyH_ready (rs := [11]) (by kernel_rfl) (by simp) ?_
          refine AllReadyH.cons rfl (fun K hK => ?_) AllReadyH.nil
          go_simp
          refine hK.out _ _ hHeld (fun hHeld => ?_)
          clear hK K
          refine wpAnyH_done (by kernel_rfl) ?_ _
          simp only [cutQ, List.drop_succ_cons, List.drop_zero]
          have hkey : ∀ k, k < M → wa.heap[k]? = wr.heap[k]? := fun k hk => by
            rw [hgg.block k (Nat.lt_of_lt_of_le (by omega) hbd.size) (fun e => hnr k hk e.symm)]
            exact hbd.block k (by omega)
          have hba : Below w.heap.size w wa := ⟨hgg.os.trans (hbd.os.trans HS.out.s.s.s.b.os), hgg.tape.trans (hbd.tape.trans HS.out.s.s.s.b.tape), hgg.output.trans (hbd.output.trans HS.out.s.s.s.b.output), Nat.le_trans HS.out.s.s.s.b.size (Nat.le_trans hbd.size hgg.size), fun k hk => (hkey k (by omega)).trans (HS.out.s.s.s.b.block k hk)⟩
          have y3 : wa.cell? ⟨S, 3, none⟩ = some (.slice Al 1 cl) := hHeld.1
          have fy3 := (HS.out.s.s.x.same (hkey S hSM)).frozen 3
          have yl : S < wa.heap.size := Nat.lt_of_lt_of_le xl (Nat.le_trans hbd.size hgg.size)
          have HF := Lib.hid (HS.out.app (v' := .slice Aa 2 ca) hkey hba (Nat.le_trans hbd.size hgg.size) (show wa.ownsRow M 3 1 (.slice Aa 2 ca) 2 [.int .i64 1, .int .i64 300] from hoa))
          clear hHeld hoa hga hta hba hbd hgg hkey hnr x3 n0 xl nl
          go_wp2_with fail
          go_roundg 0
          case measure => omega
          case rel => exact .inr (.inr ⟨rfl, rfl, _, HF.out⟩)
        · have HS := Lib.hid hs
          obtain ⟨gl, cl, rfl, hcl, hgl, hcc⟩ := own_cs hs.o (by omega)
          have HCL := Lib.hid hcl
          clear hs hcl HP7
          go_wp2_with fail
          go_ret2
          have hNS := HS.out.s.s.s.b.size
          have hSg := HS.out.s.s.g
          have hg3 := HS.out.g3
          have hNM := H.out.go HS.out.s.s.s.b
          have e1 := H.out.ev.lt
          have e2 := H.out.ac.lt
          exact ⟨⟨N, S, gt, gl, cl, gc, gq, cq⟩, rfl, rfl, ⟨HS.out.s.s.x, HS.out.s.t, ⟨hNM, HCL.out, ⟨HS.out.s.c.lt, fun i v hi => (HS.out.s.c.cell i).trans (by simpa using hi)⟩, HS.out.q⟩, ⟨by show S ≠ gt; omega, by show N.ev ≠ S; omega, by show N.ev ≠ gt; omega, by show N.ac ≠ S; omega, by show N.ac ≠ gt; omega, by show gl ≠ S; omega, by show gl ≠ gt; omega, by show gc ≠ S; omega, by show gc ≠ gt; omega, by show gq ≠ S; omega, by show gq ≠ gt; omega⟩, hcc⟩, by show w.heap.size ≤ S; omega, by show w.heap.size ≤ gt; omega, HS.out.s.s.s.b⟩
end Go.Proofs.YtinjdcefagaaeaaGreatDoor
namespace Go.Proofs.YtinjdcefagaaeaaGreatDoor
open Go.RowKit
/-! search: find, Solve -/
theorem results_tmp4 {fn : Func} {t u v x : Tmp} (h : fn.results = #[.tmp t, .tmp u, .tmp v, .tmp x]) (tmps : Array Value) (P : Program) (w : World) :
    (results fn tmps).run P w = .ok (.tuple #[tmps.getD t undef, tmps.getD u undef, tmps.getD v undef, tmps.getD x undef]) w := by
  simp [results, h]
def SvOut (w : World) (e : Ending) (w' : World) : Prop := ∃ g c, e = .returned (.tuple #[.slice (some ⟨g, 0, none⟩) 2 c, .int .i64 82, .int .i64 301, .int .i64 0]) ∧ 2 ≤ c ∧ Cs w' g tmL ∧ Below w.heap.size w w'
set_option maxRecDepth 100000 in
set_option maxHeartbeats 6400000 in
theorem sfind_ok (N : NtA) (w : World) (h : NtM w N) : Calls Tryz.prog 43 #[N.v, .int .i64 1000, .bool true] w (SvOut w) := by
  have H := Lib.hid h
  clear h
  go_enter Tryz.func43, Tryz.ntmps43
  go_upto_region 1 with fail
  refine world_gen (fun w0 => NcS w w0 N) ⟨(by repeat (first | exact Below.refl _ _ | (with_reducible refine Below.drew ?_) | (with_reducible refine below_drewN ?_ _) | (with_reducible refine Below.alloc ?_ (by first | omega | (simp; done) | (simp; omega)) _) | (with_reducible refine Below.setCell ?_ (by first | omega | (simp; done) | (simp; omega)) _) | (refine Below.trans ?_ (Below.mono (by with_reducible assumption) (by first | omega | (simp; done) | (simp; omega)))))), (by repeat (first | (refine Blk.new' _ _ _ _ ?_; first | rfl | (simp <;> omega)) | refine Blk.al ?_ _ | refine Blk.dr ?_ | refine Blk.drN ?_ _ | refine Blk.far ?_ (by first | omega | (simp; omega))))⟩ ?_
  rintro w0 hs0
  have HS0 := Lib.hid hs0
  have x0 := (hs0).x.cell 0
  have x1 := (hs0).x.cell 1
  have x2 := (hs0).x.cell 2
  have xl := (hs0).x.lt
  simp at x0 x1 x2
  clear hs0
  go_wp2_with fail
  refine (newst_ok N _ (H.out.go HS0.out.b)).mono ?_
  rintro e w1 ⟨A, hA, rfl, hs1, hS1, hT1, hb1⟩
  have HS1 := Lib.hid hs1
  have hx := HS0.out.x.lt
  have hb0 := HS0.out.b.size
  have HB1 := Lib.hid (HS0.out.b.trans (hb1.mono hb0))
  clear hs1 hb1 hA HS0
  clear x0 x1 x2 xl
  go_wp2_with fail
  refine (srun_ok A _ HS1.out).mono ?_
  rintro e w2 ⟨rfl, ht2, t1, res, hs2, hf2⟩
  obtain ⟨g, c, rfl, hcc, hcg, hn1, hn2⟩ := hf2.r
  have HB2 := Lib.hid (ht2.below HB1.out (by omega) (by omega) HB1.out.size)
  have HC2 := Lib.hid hcg
  have x8 := hs2.x.cell 8
  have x10 := hs2.x.cell 10
  have x11 := hs2.x.cell 11
  have xl := hs2.x.lt
  simp at x8 x10 x11
  clear ht2 hs2 hf2 hcg HB1 HS1
  go_upto_region 8 with fail
  refine wp_region_overL (by kernel_rfl) (by kernel_rfl) ?_
  repeat (go_big_quiet_step (fail))
  refine wpQuiet_nil ?_
  intro w3 hb3
  have HB3 := Lib.hid (HB2.out.trans (hb3.mono HB2.out.size))
  have HC3 := Lib.hid (HC2.out.go hb3)
  clear hb3 x8 x10 x11 xl HB2 HC2
  go_wp2_with fail
  (try simp only [Exit.inBlock, Exit.then])
  refine bodyPost_ret (results_tmp4 rfl _ _ _) rfl ?_
  exact ⟨g, c, rfl, hcc, HC3.out, HB3.out⟩
set_option maxRecDepth 100000 in
set_option maxHeartbeats 6400000 in
theorem solve_ok (N : NtA) (w : World) (h : NtM w N) : Calls Tryz.prog 13 #[N.v, .int .i64 1000] w (SvOut w) := by
  have H := Lib.hid h
  clear h
  go_enter Tryz.func13, Tryz.ntmps13
  go_upto_region 1 with fail
  refine world_gen (fun w0 => NcS w w0 N) ⟨(by repeat (first | exact Below.refl _ _ | (with_reducible refine Below.drew ?_) | (with_reducible refine below_drewN ?_ _) | (with_reducible refine Below.alloc ?_ (by first | omega | (simp; done) | (simp; omega)) _) | (with_reducible refine Below.setCell ?_ (by first | omega | (simp; done) | (simp; omega)) _) | (refine Below.trans ?_ (Below.mono (by with_reducible assumption) (by first | omega | (simp; done) | (simp; omega)))))), (by repeat (first | (refine Blk.new' _ _ _ _ ?_; first | rfl | (simp <;> omega)) | refine Blk.al ?_ _ | refine Blk.dr ?_ | refine Blk.drN ?_ _ | refine Blk.far ?_ (by first | omega | (simp; omega))))⟩ ?_
  rintro w0 hs0
  have HS0 := Lib.hid hs0
  have x0 := (hs0).x.cell 0
  have x1 := (hs0).x.cell 1
  have x2 := (hs0).x.cell 2
  have xl := (hs0).x.lt
  simp at x0 x1 x2
  clear hs0
  go_wp2_with fail
  refine (sfind_ok N _ (H.out.go HS0.out.b)).mono ?_
  rintro e w1 ⟨g, c, rfl, hcc, hc1, hb1⟩
  have HC1 := Lib.hid hc1
  have HB1 := Lib.hid (HS0.out.b.trans (hb1.mono HS0.out.b.size))
  clear hc1 hb1 HS0
  go_wp2_with fail
  (try simp only [Exit.inBlock, Exit.then])
  refine bodyPost_ret (results_tmp4 rfl _ _ _) rfl ?_
  exact ⟨g, c, rfl, hcc, HC1.out, HB1.out⟩
end Go.Proofs.YtinjdcefagaaeaaGreatDoor
