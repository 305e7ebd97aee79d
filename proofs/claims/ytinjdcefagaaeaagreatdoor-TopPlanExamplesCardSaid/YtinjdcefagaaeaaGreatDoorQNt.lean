import Derived.Test.YtinjdcefagaaeaaGreatDoorQBm
import Derived.Test.YtinjdcefagaaeaaGreatDoorQPl
import Derived.Deep.CutRange
set_option linter.unusedVariables false
set_option linter.unusedSimpArgs false
namespace Go.Proofs.YtinjdcefagaaeaaGreatDoor
open Go.RowKit
/-! headway.Valid, headway.Alone at three occupations -/
structure OcOk (f t : Nat → Int) : Prop where
  lo : ∀ i, i < 3 → -65536 ≤ f i
  lt : ∀ i, i < 3 → f i < t i
  hi : ∀ i, i < 3 → t i ≤ 65536
  al : ∀ i, i < 3 → t i - f i ≤ 300
def VaL (w : World) (k : Nat) (v3 v : Value) (wr : World) : Prop := ∃ j : Nat, v = .int .i64 j ∧ v3 = .int .i64 ((j : Int) - 1) ∧ j + k = 3 ∧ Below w.heap.size w wr
set_option maxRecDepth 100000 in
set_option maxHeartbeats 3200000 in
theorem valid_ok (g c : Nat) (f t : Nat → Int) (w : World) (h : Cs w g (ocL f t 3)) (hf : OcOk f t) :
    Calls Tryz.prog 167 #[.slice (some ⟨g, 0, none⟩) 3 c] w fun e w' => e = .returned (.bool true) ∧ Below w.heap.size w w' := by
  have H := Lib.hid h
  have HF := Lib.hid hf
  clear h hf
  go_enter Tryz.func167, Tryz.ntmps167
  go_wp2_with fail
  go_loopg [3, 8] 3 (fun k v3 v wr => VaL w k v3 v wr)
  case atStart => exact ⟨0, rfl, rfl, rfl, Below.refl _ _⟩
  case round =>
    obtain ⟨j, rfl, rfl, hj, hb⟩ := hrel
    have HB := Lib.hid hb
    have Hj := Lib.hid hj
    clear hb hj
    by_cases hlt : j < 3
    · have hgc := H.out.go HB.out
      obtain ⟨g0, g1, g2⟩ := oc_get f t j hlt
      have d0 := hgc.c _ _ g0
      have d1 := hgc.c _ _ g1
      have d2 := hgc.c _ _ g2
      have dl := hgc.lt
      have b1 := HF.out.lo j hlt
      have b2 := HF.out.lt j hlt
      have b3 := HF.out.hi j hlt
      have b0 : ¬ ((j : Int) ≤ (j : Int) - 1) := by omega
      have b4 : ¬ (f j < -65536) := by omega
      have b5 : ¬ (t j ≤ f j) := by omega
      have b6 : ¬ (65536 < t j) := by omega
      have HB1 := Lib.hid (HB.out.trans ((show Below wr.heap.size wr (wr.alloc (.cells #[.int .i64 j, .int .i64 (f j), .int .i64 (t j)] 109)) from (Below.refl _ _).alloc (Nat.le_refl _) _).mono HB.out.size))
      clear hgc g0 g1 g2
      go_wp2_with fail
      go_roundg (3 - j - 1)
      case measure => have := Hj.out; omega
      case rel => exact ⟨j + 1, by first | rfl | go_num, by rw [show ((j + 1 : Nat) : Int) - 1 = (j : Int) by omega], by have := Hj.out; omega, HB1.out⟩
    · obtain rfl : j = 3 := by have := Hj.out; omega
      go_wp2_with fail
      go_ret
      exact ⟨rfl, HB.out⟩
def AlL (w : World) (k : Nat) (v : Value) (wr : World) : Prop := ∃ j : Nat, v = .int .i64 j ∧ j + k = 3 ∧ Below w.heap.size w wr
set_option maxRecDepth 100000 in
set_option maxHeartbeats 3200000 in
theorem alone_ok (g c : Nat) (f t : Nat → Int) (w : World) (h : Cs w g (ocL f t 3)) (hf : OcOk f t) :
    Calls Tryz.prog 103 #[.int .i64 300, .slice (some ⟨g, 0, none⟩) 3 c] w fun e w' => e = .returned (.bool true) ∧ Below w.heap.size w w' := by
  have H := Lib.hid h
  have HF := Lib.hid hf
  clear h hf
  go_enter Tryz.func103, Tryz.ntmps103
  go_wp2_with fail
  refine (valid_ok g c f t _ H.out HF.out).mono ?_
  rintro e w1 ⟨rfl, hb1⟩
  have HB1 := Lib.hid hb1
  clear hb1
  go_wp2_with fail
  go_loopg [20] 3 (fun k v wr => AlL w k v wr)
  case atStart => exact ⟨0, rfl, rfl, HB1.out⟩
  case round =>
    obtain ⟨j, rfl, hj, hb⟩ := hrel
    have HB := Lib.hid hb
    have Hj := Lib.hid hj
    clear hb hj HB1
    by_cases hlt : j < 3
    · have hgc := H.out.go HB.out
      obtain ⟨g0, g1, g2⟩ := oc_get f t j hlt
      have d0 := hgc.c _ _ g0
      have d1 := hgc.c _ _ g1
      have d2 := hgc.c _ _ g2
      have dl := hgc.lt
      have b1 := HF.out.lo j hlt
      have b2 := HF.out.lt j hlt
      have b3 := HF.out.hi j hlt
      have b0 : ¬ (300 < t j - f j) := by have := HF.out.al j hlt; omega
      have HB1 := Lib.hid (HB.out.trans ((show Below wr.heap.size wr (wr.alloc (.cells #[.int .i64 j, .int .i64 (f j), .int .i64 (t j)] 109)) from (Below.refl _ _).alloc (Nat.le_refl _) _).mono HB.out.size))
      clear hgc g0 g1 g2
      go_wp2_with fail
      go_roundg (3 - j - 1)
      case measure => have := Hj.out; omega
      case rel => exact ⟨j + 1, by first | rfl | go_num, by have := Hj.out; omega, HB1.out⟩
    · obtain rfl : j = 3 := by have := Hj.out; omega
      go_wp2_with fail
      go_ret
      exact ⟨rfl, HB.out⟩
end Go.Proofs.YtinjdcefagaaeaaGreatDoor
namespace Go.Proofs.YtinjdcefagaaeaaGreatDoor
open Go.RowKit
/-! network.rest, network.Rides -/
theorem infoOs : (Tryz.prog.info? 38).map (fun i => (i.zero, i.size, i.bytes)) = some (some (.slice none 0 0), 1, 24) := by kernel_rfl
def RsL (w : World) (k : Nat) (v : Value) (wr : World) : Prop := k = 0 ∧ v = .int .i64 0 ∧ Below w.heap.size w wr
set_option maxRecDepth 100000 in
set_option maxHeartbeats 3200000 in
theorem rest_ok (P : PlA) (i : Int) (w : World) : Calls Tryz.prog 98 #[P.v, .int .i64 i] w fun e w' => e = .returned (.int .i64 60) ∧ Below w.heap.size w w' := by
  go_enter Tryz.func98, Tryz.ntmps98
  go_wp2_with fail
  go_loopg [10] 0 (fun k v wr => RsL w k v wr)
  case atStart => exact ⟨rfl, rfl, (by repeat (first | exact Below.refl _ _ | (with_reducible refine Below.drew ?_) | (with_reducible refine below_drewN ?_ _) | (with_reducible refine Below.alloc ?_ (by first | omega | (simp; done) | (simp; omega)) _) | (with_reducible refine Below.setCell ?_ (by first | omega | (simp; done) | (simp; omega)) _) | (refine Below.trans ?_ (Below.mono (by with_reducible assumption) (by first | omega | (simp; done) | (simp; omega))))))⟩
  case round =>
    obtain ⟨hk, rfl, hb⟩ := hrel
    go_wp2_with fail
    go_ret
    exact ⟨rfl, hb⟩
def RiOut (w : World) (e : Ending) (w' : World) : Prop := ∃ g7 c7 g8 c8 g1 c1, e = .returned (.tuple #[.slice (some ⟨g7, 0, none⟩) 1 c7, .slice (some ⟨g8, 0, none⟩) 1 c8, .int .i64 0]) ∧
    Cs w' g7 [.slice (some ⟨g1, 0, none⟩) 3 c1] ∧ Cs w' g8 [.int .i64 41] ∧ Cs w' g1 (ocL (ocF 60) (ocT 65) 3) ∧ Below w.heap.size w w' ∧ w.heap.size ≤ g7 ∧ w.heap.size ≤ g8 ∧ w.heap.size ≤ g1
/-- the rows of Rides before and behind the one ride -/
def RiRow (w wr : World) (B : Nat) (v7 v8 : Value) (j : Nat) : Prop := B ≤ wr.heap.size ∧ w.heap.size + 2 ≤ B ∧ ((j = 0 ∧ v7 = .slice none 0 0 ∧ v8 = .slice none 0 0) ∨
  (j = 1 ∧ ∃ g7 c7 g8 c8 g1 c1, v7 = .slice (some ⟨g7, 0, none⟩) 1 c7 ∧ v8 = .slice (some ⟨g8, 0, none⟩) 1 c8 ∧ Cs wr g7 [.slice (some ⟨g1, 0, none⟩) 3 c1] ∧ Cs wr g8 [.int .i64 41] ∧ Cs wr g1 (ocL (ocF 60) (ocT 65) 3) ∧ B ≤ g7 ∧ B ≤ g8 ∧ B ≤ g1))
def RiL (w : World) (L : LyA) (P : PlA) (B k : Nat) (v7 v8 v : Value) (wr : World) : Prop := ∃ j : Nat, v = .int .i64 j ∧ j + k = 1 ∧ PcS w wr L P ∧ RiRow w wr B v7 v8 j
def Ri2 (w : World) (L : LyA) (P : PlA) (B Z k : Nat) (v7 v8 v : Value) (wr : World) : Prop := ∃ j : Nat, v = .int .i64 j ∧ j + k = 1 ∧ PcS w wr L P ∧ RiRow w wr B v7 v8 j ∧ (j = 0 → Blk wr Z 167 P.lC)
set_option maxRecDepth 100000 in
set_option maxHeartbeats 12800000 in
theorem rides_ok (L : LyA) (P : PlA) (w : World) (h : LayM w L) (hp : PlM w P) : Calls Tryz.prog 38 #[L.v, P.v] w (RiOut w) := by
  have H := Lib.hid h
  have HP := Lib.hid hp
  clear h hp
  obtain ⟨i0, b1, b2, b3, b4⟩ := info_parts infoI
  have HI := Lib.hid (And.intro b1 (And.intro b2 (And.intro b3 b4)))
  clear b1 b2 b3 b4
  obtain ⟨iS, b1, b2, b3, b4⟩ := info_parts infoOs
  have HIS := Lib.hid (And.intro b1 (And.intro b2 (And.intro b3 b4)))
  clear b1 b2 b3 b4
  go_enter Tryz.func38, Tryz.ntmps38
  go_upto_region 1 with fail
  refine world_gen (fun w0 => PcS w w0 L P) ⟨(by repeat (first | exact Below.refl _ _ | (with_reducible refine Below.drew ?_) | (with_reducible refine below_drewN ?_ _) | (with_reducible refine Below.alloc ?_ (by first | omega | (simp; done) | (simp; omega)) _) | (with_reducible refine Below.setCell ?_ (by first | omega | (simp; done) | (simp; omega)) _) | (refine Below.trans ?_ (Below.mono (by with_reducible assumption) (by first | omega | (simp; done) | (simp; omega)))))), (by repeat (first | (refine Blk.new' _ _ _ _ ?_; first | rfl | (simp <;> omega)) | refine Blk.al ?_ _ | refine Blk.dr ?_ | refine Blk.drN ?_ _ | refine Blk.far ?_ (by first | omega | (simp; omega)))), (by repeat (first | (refine Blk.new' _ _ _ _ ?_; first | rfl | (simp <;> omega)) | refine Blk.al ?_ _ | refine Blk.dr ?_ | refine Blk.drN ?_ _ | refine Blk.far ?_ (by first | omega | (simp; omega))))⟩ ?_
  rintro w0 hs0
  have HS0 := Lib.hid hs0
  have x0 := (hs0).x.cell 0
  have x1 := (hs0).x.cell 1
  have x2 := (hs0).x.cell 2
  have x3 := (hs0).x.cell 3
  have y0 := (hs0).y.cell 0
  have y1 := (hs0).y.cell 1
  have y2 := (hs0).y.cell 2
  have y3 := (hs0).y.cell 3
  have y4 := (hs0).y.cell 4
  have y5 := (hs0).y.cell 5
  have y6 := (hs0).y.cell 6
  have y7 := (hs0).y.cell 7
  have xl := (hs0).x.lt
  have yl := (hs0).y.lt
  simp at x0 x1 x2 x3 y0 y1 y2 y3 y4 y5 y6 y7
  clear hs0
  go_wp2_with fail
  refine (pcheck_ok L P _ (H.out.go HS0.out.b) (HP.out.go HS0.out.b)).mono ?_
  rintro e w1 ⟨rfl, hb1⟩
  have HS1 := Lib.hid (HS0.out.go hb1)
  clear hb1 HS0
  clear x0 x1 x2 x3 y0 y1 y2 y3 y4 y5 y6 y7 xl yl
  have x0 := (HS1.out).x.cell 0
  have x1 := (HS1.out).x.cell 1
  have x2 := (HS1.out).x.cell 2
  have x3 := (HS1.out).x.cell 3
  have y0 := (HS1.out).y.cell 0
  have y1 := (HS1.out).y.cell 1
  have y2 := (HS1.out).y.cell 2
  have y3 := (HS1.out).y.cell 3
  have y4 := (HS1.out).y.cell 4
  have y5 := (HS1.out).y.cell 5
  have y6 := (HS1.out).y.cell 6
  have y7 := (HS1.out).y.cell 7
  have xl := (HS1.out).x.lt
  have yl := (HS1.out).y.lt
  simp at x0 x1 x2 x3 y0 y1 y2 y3 y4 y5 y6 y7
  go_wp2_with fail
  clear x0 x1 x2 x3 y0 y1 y2 y3 y4 y5 y6 y7 xl yl
  have hB0 : w.heap.size + 2 ≤ w1.heap.size := HS1.out.y.lt
  have HBB := Lib.hid hB0
  go_loopg [7, 8, 25] 1 (fun k v7 v8 v wr => RiL w L P w1.heap.size k v7 v8 v wr)
  case atStart => exact ⟨0, rfl, rfl, HS1.out, Nat.le_refl _, HBB.out, .inl ⟨rfl, rfl, rfl⟩⟩
  case round =>
    obtain ⟨j, rfl, hj, hs, hr⟩ := hrel
    have HS := Lib.hid hs
    have HRR := Lib.hid hr
    have Hj := Lib.hid hj
    clear hs hj hr HS1
    generalize w1.heap.size = B at *
    by_cases hlt : j < 1
    · obtain rfl : j = 0 := by omega
      have hpm := HP.out.go HS.out.b
      have d0 : wr.cell? ⟨P.li, 0, none⟩ = some (.string ⟨#[65]⟩) := hpm.li.c 0 _ rfl
      have d1 : wr.cell? ⟨P.li, 1, none⟩ = some (.int .i64 0) := hpm.li.c 1 _ rfl
      have d2 : wr.cell? ⟨P.li, 2, none⟩ = some (.int .i64 2) := hpm.li.c 2 _ rfl
      have d3 : wr.cell? ⟨P.li, 3, none⟩ = some (.slice (some ⟨P.ri, 0, none⟩) 1 P.cr) := hpm.li.c 3 _ rfl
      have dl := hpm.li.lt
      clear hpm
      obtain ⟨hBw, _, ⟨_, h7, h8⟩ | ⟨hx, _⟩⟩ := HRR.out
      case inr => omega
      subst h7 h8
      go_upto_region 8 with fail
      refine world_gen (fun w2 => PcS w w2 L P ∧ Blk w2 wr.heap.size 167 P.lC) ⟨HS.out.go ((Below.refl _ _).alloc (Nat.le_refl _) _), (by repeat (first | (refine Blk.new' _ _ _ _ ?_; first | rfl | (simp <;> omega)) | refine Blk.al ?_ _ | refine Blk.dr ?_ | refine Blk.drN ?_ _ | refine Blk.far ?_ (by first | omega | (simp; omega))))⟩ ?_
      rintro w2 ⟨hs2, hz2⟩
      have HS2 := Lib.hid hs2
      have HZ2 := Lib.hid hz2
      have z3 := hz2.cell 3
      have hB2 : B ≤ w2.heap.size := by have := hz2.lt; omega
      simp at z3
      clear hs2 hz2 HS HRR d0 d1 d2 d3
      generalize wr.heap.size = Z at *
      go_wp2_with fail
      clear z3
      go_loopg [7, 8, 33] 1 (fun k v7 v8 v wr => Ri2 w L P B Z k v7 v8 v wr)
      case atStart => exact ⟨0, rfl, rfl, HS2.out, ⟨hB2, HBB.out, .inl ⟨rfl, rfl, rfl⟩⟩, fun _ => HZ2.out⟩
      case round =>
        obtain ⟨q, rfl, hq, hs, hr, hz⟩ := hrel
        have HS := Lib.hid hs
        have HRR := Lib.hid hr
        have HZ := Lib.hid hz
        have Hq := Lib.hid hq
        clear hs hq hr hz HS2 HZ2
        by_cases hql : q < 1
        · obtain rfl : q = 0 := by omega
          have hzz := HZ.out rfl
          have HZZ := Lib.hid hzz
          have hpm := HP.out.go HS.out.b
          have d0 : wr.cell? ⟨P.ri, 0, none⟩ = some (.int .i64 0) := hpm.ri.c 0 _ rfl
          have d1 : wr.cell? ⟨P.ri, 1, none⟩ = some (.int .i64 5) := hpm.ri.c 1 _ rfl
          have d2 : wr.cell? ⟨P.ri, 2, none⟩ = some (.int .i64 0) := hpm.ri.c 2 _ rfl
          have d3 : wr.cell? ⟨P.ri, 3, none⟩ = some (.int .i64 0) := hpm.ri.c 3 _ rfl
          have dl := hpm.ri.lt
          clear hpm hzz
          obtain ⟨hBw, _, ⟨_, h7, h8⟩ | ⟨hx, _⟩⟩ := HRR.out
          case inr => omega
          subst h7 h8
          go_upto_region 11 with fail
          refine world_gen (fun w3 => PcS w w3 L P ∧ Blk w3 Z 167 P.lC ∧ Blk w3 wr.heap.size 164 #[.int .i64 0, .int .i64 5, .int .i64 0, .int .i64 0]) ⟨HS.out.go ((Below.refl _ _).alloc (Nat.le_refl _) _), (by have hblk := HZZ.out; repeat (first | exact hblk | refine Blk.al ?_ _ | refine Blk.dr ?_ | refine Blk.drN ?_ _)), (by repeat (first | (refine Blk.new' _ _ _ _ ?_; first | rfl | (simp <;> omega)) | refine Blk.al ?_ _ | refine Blk.dr ?_ | refine Blk.drN ?_ _ | refine Blk.far ?_ (by first | omega | (simp; omega))))⟩ ?_
          rintro w3 ⟨hs3, hz3, hr3⟩
          have HS3 := Lib.hid hs3
          have HZ3 := Lib.hid hz3
          have HR3 := Lib.hid hr3
          have hB3 : B ≤ w3.heap.size := by have := hr3.lt; omega
          have r1 := hr3.cell 1
          have r3 := hr3.cell 3
          have rl := hr3.lt
          simp at r1 r3
          clear hs3 hz3 hr3 HS HZ HZZ HRR d0 d1 d2 d3
          generalize wr.heap.size = Y at *
          refine wp_region_overL (by kernel_rfl) (by kernel_rfl) ?_
          repeat (go_big_quiet_step (fail))
          refine wpQuiet_nil ?_
          intro w4 hb4
          have HS4 := Lib.hid (HS3.out.go hb4)
          have HZ4 := Lib.hid (HZ3.out.same (hb4.block _ HZ3.out.lt))
          have HR4 := Lib.hid (HR3.out.same (hb4.block _ HR3.out.lt))
          have hB4 : B ≤ w4.heap.size := Nat.le_trans hB3 hb4.size
          clear hb4 HS3 HZ3 HR3 r1 r3 rl
          have x0 := (HS4.out).x.cell 0
          have x1 := (HS4.out).x.cell 1
          have x2 := (HS4.out).x.cell 2
          have x3 := (HS4.out).x.cell 3
          have y0 := (HS4.out).y.cell 0
          have y1 := (HS4.out).y.cell 1
          have y2 := (HS4.out).y.cell 2
          have y3 := (HS4.out).y.cell 3
          have y4 := (HS4.out).y.cell 4
          have y5 := (HS4.out).y.cell 5
          have y6 := (HS4.out).y.cell 6
          have y7 := (HS4.out).y.cell 7
          have xl := (HS4.out).x.lt
          have yl := (HS4.out).y.lt
          simp at x0 x1 x2 x3 y0 y1 y2 y3 y4 y5 y6 y7
          have r1 := HR4.out.cell 1
          have rl := HR4.out.lt
          have z3 := HZ4.out.cell 3
          have zl := HZ4.out.lt
          simp at r1 z3
          go_upto_region 15 with fail
          refine wp_region_overL (by kernel_rfl) (by kernel_rfl) ?_
          repeat (go_big_quiet_step ((go_at_call 98; exact callsOver (rest_ok P _ _))))
          refine wpQuiet_nil ?_
          intro w5 hb5
          have HS5 := Lib.hid (HS4.out.go hb5)
          have HZ5 := Lib.hid (HZ4.out.same (hb5.block _ HZ4.out.lt))
          have HR5 := Lib.hid (HR4.out.same (hb5.block _ HR4.out.lt))
          have hB5 : B ≤ w5.heap.size := Nat.le_trans hB4 hb5.size
          clear hb5 HS4 HZ4 HR4 r1 rl z3 zl
          clear x0 x1 x2 x3 y0 y1 y2 y3 y4 y5 y6 y7 xl yl
          have x0 := (HS5.out).x.cell 0
          have x1 := (HS5.out).x.cell 1
          have x2 := (HS5.out).x.cell 2
          have x3 := (HS5.out).x.cell 3
          have y0 := (HS5.out).y.cell 0
          have y1 := (HS5.out).y.cell 1
          have y2 := (HS5.out).y.cell 2
          have y3 := (HS5.out).y.cell 3
          have y4 := (HS5.out).y.cell 4
          have y5 := (HS5.out).y.cell 5
          have y6 := (HS5.out).y.cell 6
          have y7 := (HS5.out).y.cell 7
          have xl := (HS5.out).x.lt
          have yl := (HS5.out).y.lt
          simp at x0 x1 x2 x3 y0 y1 y2 y3 y4 y5 y6 y7
          have r0 := HR5.out.cell 0
          have rl := HR5.out.lt
          have z1 := HZ5.out.cell 1
          have zl := HZ5.out.lt
          have hpm := HP.out.go HS5.out.b
          have d0 : w5.cell? ⟨P.ro, 0, none⟩ = some (.slice (some ⟨P.sp, 0, none⟩) 3 P.cs) := hpm.ro.c 0 _ rfl
          have d1 : w5.cell? ⟨P.ro, 1, none⟩ = some (.int .i64 0) := hpm.ro.c 1 _ rfl
          have dl2 := hpm.ro.lt
          have s0 : w5.cell? ⟨P.sk, 0, none⟩ = some (.string ⟨#[83]⟩) := hpm.sk.c 0 _ rfl
          have s1 : w5.cell? ⟨P.sk, 1, none⟩ = some (.int .i64 5) := hpm.sk.c 1 _ rfl
          have s2 : w5.cell? ⟨P.sk, 2, none⟩ = some (.int .i64 20000) := hpm.sk.c 2 _ rfl
          have s3 : w5.cell? ⟨P.sk, 3, none⟩ = some (.int .i64 500) := hpm.sk.c 3 _ rfl
          have s4 : w5.cell? ⟨P.sk, 4, none⟩ = some (.int .i64 500) := hpm.sk.c 4 _ rfl
          have sl := hpm.sk.lt
          have HPM := Lib.hid hpm
          have HLM := Lib.hid (H.out.go HS5.out.b)
          simp at r0 z1
          clear hpm
          go_upto_region 16 with fail
          refine wp_region_overM 15 _ rfl (by kernel_rfl) (by kernel_rfl) ?_
          simp only [List.take_succ_cons, List.take_zero]
          repeat (go_big_quiet_step (fail))
          refine wpQuiet_nil ?_
          intro w6 hb6
          have HS6 := Lib.hid (HS5.out.go hb6)
          have HPM6 := Lib.hid (HPM.out.go hb6)
          have HLM6 := Lib.hid (HLM.out.go hb6)
          have hB6 : B ≤ w6.heap.size := Nat.le_trans hB5 hb6.size
          clear hb6 HS5 HZ5 HR5 HPM HLM r0 rl z1 zl d0 d1 dl2 s0 s1 s2 s3 s4 sl
          clear x0 x1 x2 x3 y0 y1 y2 y3 y4 y5 y6 y7 xl yl
          go_wp2_with (go_at_call 99; refine (held_ok L P.sp P.cs 60 65 _ HLM6.out HPM6.out.sp HPM6.out.c (by omega) (by omega) (by omega) (by omega)).mono ?_; rintro e w7 ⟨v7, rfl, ho7, hb7⟩)
          simp only [midQ, List.drop_succ_cons, List.drop_zero]
          repeat (go_big_quiet_step (fail))
          refine wpQuiet_nil ?_
          have HS7 := Lib.hid (HS6.out.go hb7)
          have hs67 := hb7.size
          obtain ⟨g1, c1, rfl, hc1, hg1, _⟩ := own_cs ho7 (by omega)
          have HG1 := Lib.hid hc1
          have hg1B : B ≤ g1 := by omega
          clear ho7 hb7 HS6 HPM6 HLM6 hc1
          go_upto_region 20 with (at_builtin; refine wpList_append_own_at _ rfl _ _ 118 rfl w7.heap.size 38 iS _ 1 24 Tryz.underlying118 HIS.out.1 HIS.out.2.1 HIS.out.2.2.1 HIS.out.2.2.2 rfl (by omega) _ 0 [] rfl (World.ownsRow_nil _ _ _ _) ⟨w7.heap.size, 0, none⟩ 1 1 [.slice (some ⟨g1, 0, none⟩) 3 c1] rfl rfl ?c0 ?c1 ?c2 ?c3 ?c4 ?_; rotate_right; intro v' w' hown' hg' _ hat')
          case c0 => exact news_new _ _ _
          case c1 => intro u hu; simp at hu; subst hu; rfl
          case c2 => simp only [maxLen]; omega
          case c3 => omega
          case c4 => simp
          have hb8 : Below w7.heap.size w7 w' := Below.grown ((Below.refl w7.heap.size w7).alloc (Nat.le_refl _) (.cells #[.slice (some ⟨g1, 0, none⟩) 3 c1] 38)) hg' (by simp) (fun k hk => by have h : (none : Option Nat) = some k := hk; cases h)
          obtain ⟨g7, c7, rfl, hc7, hg7, _⟩ := own_cs (show w'.ownsRow w7.heap.size 38 1 v' 1 [.slice (some ⟨g1, 0, none⟩) 3 c1] from hown') (by omega)
          have HS8 := Lib.hid (HS7.out.go hb8)
          have HG8 := Lib.hid (HG1.out.go hb8)
          have HC7 := Lib.hid hc7
          have hs78 := hb8.size
          clear hown' hg' hat' hb8 HS7 HG1 hc7
          go_upto_region 21 with (at_builtin; refine wpList_append_own_at _ rfl _ _ 47 rfl w'.heap.size 3 i0 _ 1 8 Tryz.underlying47 HI.out.1 HI.out.2.1 HI.out.2.2.1 HI.out.2.2.2 rfl (by omega) _ 0 [] rfl (World.ownsRow_nil _ _ _ _) ⟨w'.heap.size, 0, none⟩ 1 1 [.int .i64 41] rfl rfl ?c0 ?c1 ?c2 ?c3 ?c4 ?_; rotate_right; intro v8 w8 hown8 hg8 _ hat8)
          case c0 => exact news_new _ _ _
          case c1 => intro u hu; simp at hu; subst hu; rfl
          case c2 => simp only [maxLen]; omega
          case c3 => omega
          case c4 => simp
          have hb9 : Below w'.heap.size w' w8 := Below.grown ((Below.refl w'.heap.size w').alloc (Nat.le_refl _) (.cells #[.int .i64 41] 3)) hg8 (by simp) (fun k hk => by have h : (none : Option Nat) = some k := hk; cases h)
          obtain ⟨g8, c8, rfl, hc8, hg8', _⟩ := own_cs (show w8.ownsRow w'.heap.size 3 1 v8 1 [.int .i64 41] from hown8) (by omega)
          have HS9 := Lib.hid (HS8.out.go hb9)
          have HR9 := Lib.hid (show RiRow w w8 B (.slice (some ⟨g7, 0, none⟩) 1 c7) (.slice (some ⟨g8, 0, none⟩) 1 c8) 1 from ⟨by have := hb9.size; omega, HBB.out, .inr ⟨rfl, g7, c7, g8, c8, g1, c1, rfl, rfl, HC7.out.go hb9, hc8, HG8.out.go hb9, by omega, by omega, hg1B⟩⟩)
          clear hown8 hg8 hat8 hb9 HS8 HG8 HC7 hc8
          go_wp2_with fail
          go_roundg 0
          case measure => have := Hq.out; omega
          case rel => exact ⟨1, rfl, by have := Hq.out; omega, HS9.out, HR9.out, fun h => by omega⟩
        · obtain rfl : q = 1 := by have := Hq.out; omega
          go_wp2_with fail
          go_roundg 0
          case measure => have := Hj.out; omega
          case rel => exact ⟨1, rfl, rfl, HS.out, HRR.out⟩
    · obtain rfl : j = 1 := by have := Hj.out; omega
      obtain ⟨_, _, ⟨hx, _⟩ | ⟨_, g7, c7, g8, c8, g1, c1, rfl, rfl, hc7, hc8, hc1, hb7, hb8, hb1⟩⟩ := HRR.out
      · omega
      · have HC := Lib.hid (And.intro hc7 (And.intro hc8 hc1))
        clear hc7 hc8 hc1 HRR
        go_wp2_with fail
        go_ret3
        exact ⟨g7, c7, g8, c8, g1, c1, rfl, HC.out.1, HC.out.2.1, HC.out.2.2, HS.out.b, by omega, by omega, by omega⟩
end Go.Proofs.YtinjdcefagaaeaaGreatDoor
namespace Go.Proofs.YtinjdcefagaaeaaGreatDoor
open Go.RowKit
/-! the builder: its block; small methods -/
abbrev buC (L : LyA) (P : PlA) (vf vo vr ve va : Value) : Array Value := #[.slice (some ⟨L.st, 0, none⟩) 2 L.c1, .slice none 0 0, .slice (some ⟨L.se, 0, none⟩) 3 L.c3, .slice (some ⟨L.li, 0, none⟩) 2 L.c4,
  .int .i64 300, .slice (some ⟨P.sk, 0, none⟩) 1 P.c1, .slice (some ⟨P.ro, 0, none⟩) 1 P.c2, .slice (some ⟨P.li, 0, none⟩) 1 P.c3, .slice none 0 0, .slice none 0 0, .slice none 0 0, .slice (some ⟨P.de, 0, none⟩) 1 P.c4,
  vf, vo, vr, .slice none 0 0, .int .i64 300, ve, va]
structure PlB (P : PlA) (B : Nat) : Prop where
  sk : P.sk < B
  ro : P.ro < B
  sp : P.sp < B
  li : P.li < B
  ri : P.ri < B
  de : P.de < B
theorem PlM.pb {w : World} {P : PlA} (h : PlM w P) {B : Nat} (hB : w.heap.size ≤ B) : PlB P B := ⟨Nat.lt_of_lt_of_le h.sk.lt hB, Nat.lt_of_lt_of_le h.ro.lt hB, Nat.lt_of_lt_of_le h.sp.lt hB, Nat.lt_of_lt_of_le h.li.lt hB, Nat.lt_of_lt_of_le h.ri.lt hB, Nat.lt_of_lt_of_le h.de.lt hB⟩
theorem PlM.tw {w w' : World} {P : PlA} {B : Nat} (h : PlM w P) (hB : PlB P B) (ht : Tw B w w') : PlM w' P :=
  ⟨h.sk.tw ht (Nat.ne_of_lt hB.sk), h.ro.tw ht (Nat.ne_of_lt hB.ro), h.sp.tw ht (Nat.ne_of_lt hB.sp), h.li.tw ht (Nat.ne_of_lt hB.li), h.ri.tw ht (Nat.ne_of_lt hB.ri), h.de.tw ht (Nat.ne_of_lt hB.de), h.c⟩
structure BdS (w : World) (L : LyA) (P : PlA) (Bb : Nat) (vf vo vr ve va : Value) : Prop where
  x : Blk w Bb 121 (buC L P vf vo vr ve va)
  p : PlM w P
  b : PlB P Bb
theorem BdS.go {w w' : World} {L : LyA} {P : PlA} {Bb : Nat} {vf vo vr ve va : Value} (h : BdS w L P Bb vf vo vr ve va) (hb : Below w.heap.size w w') : BdS w' L P Bb vf vo vr ve va := ⟨h.x.same (hb.block _ h.x.lt), h.p.go hb, h.b⟩
set_option maxRecDepth 100000 in
set_option maxHeartbeats 1600000 in
theorem depart_ok (r : Int) (w : World) (h0 : 0 ≤ r) (h1 : r ≤ 1000) : Calls Tryz.prog 107 #[.int .i64 r] w fun e w' => e = .returned (.int .i64 (2 * r)) ∧ Below w.heap.size w w' := by
  go_enter Tryz.func107, Tryz.ntmps107
  go_wp2_with fail
  go_ret
  exact ⟨rfl, Below.refl _ _⟩
set_option maxRecDepth 100000 in
set_option maxHeartbeats 1600000 in
theorem arrive_ok (r : Int) (w : World) (h0 : 0 ≤ r) (h1 : r ≤ 1000) : Calls Tryz.prog 108 #[.int .i64 r] w fun e w' => e = .returned (.int .i64 (2 * r + 1)) ∧ Below w.heap.size w w' := by
  go_enter Tryz.func108, Tryz.ntmps108
  go_wp2_with fail
  go_ret
  exact ⟨rfl, Below.refl _ _⟩
set_option maxRecDepth 100000 in
set_option maxHeartbeats 1600000 in
theorem ride_ok (L : LyA) (P : PlA) (Bb gf cf : Nat) (vo vr ve va : Value) (w : World) (h : BdS w L P Bb (.slice (some ⟨gf, 0, none⟩) 1 cf) vo vr ve va) (hf : Cs w gf [.int .i64 0]) :
    Calls Tryz.prog 101 #[.pointer (some ⟨Bb, 0, none⟩), .int .i64 0, .int .i64 0] w fun e w' => e = .returned (.int .i64 0) ∧ w' = w := by
  have x := h.x.cell 12
  have f0 : w.cell? ⟨gf, 0, none⟩ = some (.int .i64 0) := hf.c 0 _ rfl
  have xl := h.x.lt
  have fl := hf.lt
  simp at x
  clear h hf
  go_enter Tryz.func101, Tryz.ntmps101
  go_wp2_with fail
  go_ret
  exact ⟨rfl, rfl⟩
def BjL (w : World) (n k : Nat) (v : Value) (wr : World) : Prop := ∃ j : Nat, v = .int .i64 j ∧ j + k = n ∧ Below w.heap.size w wr
set_option maxRecDepth 100000 in
set_option maxHeartbeats 3200000 in
theorem joins_ok (L : LyA) (P : PlA) (Bb : Nat) (vf vo vr ve va : Value) (w : World) (h : BdS w L P Bb vf vo vr ve va) :
    Calls Tryz.prog 39 #[.pointer (some ⟨Bb, 0, none⟩)] w fun e w' => (∃ v, e = .returned v) ∧ Below w.heap.size w w' := by
  have H := Lib.hid h
  have x7 := h.x.cell 7
  have x9 := h.x.cell 9
  have xl := h.x.lt
  simp at x7 x9
  clear h
  go_enter Tryz.func39, Tryz.ntmps39
  go_wp2_with fail
  clear x7 x9 xl
  go_loopg [15] 1 (fun k v wr => BjL w 1 k v wr)
  case atStart => exact ⟨0, rfl, rfl, Below.refl _ _⟩
  case round =>
    obtain ⟨j, rfl, hj, hb⟩ := hrel
    have HB := Lib.hid hb
    have Hj := Lib.hid hj
    have HH := Lib.hid (H.out.go hb)
    clear hb hj
    by_cases hlt : j < 1
    · obtain rfl : j = 0 := by omega
      have d0 : wr.cell? ⟨P.li, 0, none⟩ = some (.string ⟨#[65]⟩) := HH.out.p.li.c 0 _ rfl
      have d1 : wr.cell? ⟨P.li, 1, none⟩ = some (.int .i64 0) := HH.out.p.li.c 1 _ rfl
      have d2 : wr.cell? ⟨P.li, 2, none⟩ = some (.int .i64 2) := HH.out.p.li.c 2 _ rfl
      have d3 : wr.cell? ⟨P.li, 3, none⟩ = some (.slice (some ⟨P.ri, 0, none⟩) 1 P.cr) := HH.out.p.li.c 3 _ rfl
      have dl := HH.out.p.li.lt
      have HB1 := Lib.hid (HB.out.trans ((show Below wr.heap.size wr (wr.alloc (.cells P.lC 167)) from (Below.refl _ _).alloc (Nat.le_refl _) _).mono HB.out.size))
      go_wp2_with fail
      generalize wr.alloc (.cells P.lC 167) = w1 at *
      go_loopg [28] 0 (fun k v wr => BjL w 0 k v wr)
      case atStart => exact ⟨0, rfl, rfl, HB1.out⟩
      case round =>
        obtain ⟨q, rfl, hq, hb2⟩ := hrel
        obtain rfl : q = 0 := by omega
        have HB2 := Lib.hid hb2
        clear hb2
        go_wp2_with fail
        go_roundg 0
        case measure => have := Hj.out; omega
        case rel => exact ⟨1, rfl, by have := Hj.out; omega, HB2.out⟩
    · obtain rfl : j = 1 := by have := Hj.out; omega
      have x7 := HH.out.x.cell 7
      have x9 := HH.out.x.cell 9
      have xl := HH.out.x.lt
      simp at x7 x9
      go_wp2_with fail
      clear x7 x9 xl
      go_loopg [58] 0 (fun k v wr => BjL w 0 k v wr)
      case atStart => exact ⟨0, rfl, rfl, HB.out⟩
      case round =>
        obtain ⟨q, rfl, hq, hb2⟩ := hrel
        obtain rfl : q = 0 := by omega
        have HB2 := Lib.hid hb2
        clear hb2
        go_wp2_with fail
        go_end0
        exact ⟨⟨_, rfl⟩, HB2.out⟩
theorem oc_okk : OcOk (ocF 60) (ocT 65) := ⟨by decide, by decide, by decide, by decide⟩
set_option maxRecDepth 100000 in
set_option maxHeartbeats 3200000 in
theorem balone_ok (L : LyA) (P : PlA) (Bb go co g1 c1 : Nat) (vf vr ve va : Value) (w : World) (h : BdS w L P Bb vf (.slice (some ⟨go, 0, none⟩) 1 co) vr ve va) (ho : Cs w go [.slice (some ⟨g1, 0, none⟩) 3 c1]) (h1 : Cs w g1 (ocL (ocF 60) (ocT 65) 3)) :
    Calls Tryz.prog 40 #[.pointer (some ⟨Bb, 0, none⟩)] w fun e w' => e = .returned (.bool true) ∧ Below w.heap.size w w' := by
  have H := Lib.hid h
  have HO := Lib.hid ho
  have H1 := Lib.hid h1
  clear h ho h1
  go_enter Tryz.func40, Tryz.ntmps40
  go_upto_region 1 with fail
  refine world_gen (fun w0 => Below w.heap.size w w0 ∧ Blk w0 w.heap.size 117 #[.pointer (some ⟨Bb, 0, none⟩)]) ⟨(by repeat (first | exact Below.refl _ _ | (with_reducible refine Below.drew ?_) | (with_reducible refine below_drewN ?_ _) | (with_reducible refine Below.alloc ?_ (by first | omega | (simp; done) | (simp; omega)) _) | (with_reducible refine Below.setCell ?_ (by first | omega | (simp; done) | (simp; omega)) _) | (refine Below.trans ?_ (Below.mono (by with_reducible assumption) (by first | omega | (simp; done) | (simp; omega)))))), (by repeat (first | (refine Blk.new' _ _ _ _ ?_; first | rfl | (simp <;> omega)) | refine Blk.al ?_ _ | refine Blk.dr ?_ | refine Blk.drN ?_ _ | refine Blk.far ?_ (by first | omega | (simp; omega))))⟩ ?_
  rintro w0 ⟨hb0, hz0⟩
  have HB0 := Lib.hid hb0
  have HZ0 := Lib.hid hz0
  have HH := H.out.go hb0
  have z0 := hz0.cell 0
  have x13 := HH.x.cell 13
  have xl := HH.x.lt
  simp at z0 x13
  clear hb0 hz0 HH
  go_wp2_with fail
  clear z0 x13 xl
  go_loopg [13] 1 (fun k v wr => BjL w 1 k v wr ∧ Blk wr w.heap.size 117 #[.pointer (some ⟨Bb, 0, none⟩)])
  case atStart => exact ⟨⟨0, rfl, rfl, HB0.out⟩, HZ0.out⟩
  case round =>
    obtain ⟨⟨j, rfl, hj, hb⟩, hz⟩ := hrel
    have HB := Lib.hid hb
    have HZ := Lib.hid hz
    have Hj := Lib.hid hj
    have HH := Lib.hid (H.out.go hb)
    have z0 := hz.cell 0
    have x4 := HH.out.x.cell 4
    have x15 := HH.out.x.cell 15
    have xl := HH.out.x.lt
    have HO2 := Lib.hid (HO.out.go hb)
    have H12 := Lib.hid (H1.out.go hb)
    have o0 : wr.cell? ⟨go, 0, none⟩ = some (.slice (some ⟨g1, 0, none⟩) 3 c1) := HO2.out.c 0 _ rfl
    have ol := HO2.out.lt
    simp at z0 x4 x15
    clear hb hz hj HB0 HZ0
    by_cases hlt : j < 1
    · obtain rfl : j = 0 := by omega
      go_wp2_with fail
      refine (alone_ok g1 c1 (ocF 60) (ocT 65) _ H12.out oc_okk).mono ?_
      rintro e w2 ⟨rfl, hb2⟩
      have HB2 := Lib.hid (HB.out.trans (hb2.mono HB.out.size))
      have HZ2 := Lib.hid (HZ.out.same (hb2.block _ HZ.out.lt))
      clear hb2
      go_wp2_with fail
      go_roundg 0
      case measure => have := Hj.out; omega
      case rel => exact ⟨⟨1, rfl, by have := Hj.out; omega, HB2.out⟩, HZ2.out⟩
    · obtain rfl : j = 1 := by have := Hj.out; omega
      go_wp2_with fail
      clear z0 x4 x15 xl o0 ol
      go_loopg [31] 0 (fun k v wr => BjL w 0 k v wr)
      case atStart => exact ⟨0, rfl, rfl, HB.out⟩
      case round =>
        obtain ⟨q, rfl, hq, hb2⟩ := hrel
        obtain rfl : q = 0 := by omega
        have HB2 := Lib.hid hb2
        clear hb2
        go_wp2_with fail
        go_ret
        exact ⟨rfl, HB2.out⟩
set_option maxRecDepth 100000 in
set_option maxHeartbeats 3200000 in
theorem heads_ok (L : LyA) (P : PlA) (Bb go co : Nat) (vf vr ve va : Value) (w : World) (h : BdS w L P Bb vf (.slice (some ⟨go, 0, none⟩) 1 co) vr ve va) :
    Calls Tryz.prog 42 #[.pointer (some ⟨Bb, 0, none⟩)] w fun e w' => e = .returned (.int .i64 0) ∧ w' = w := by
  have x13 := h.x.cell 13
  have xl := h.x.lt
  simp at x13
  clear h
  go_enter Tryz.func42, Tryz.ntmps42
  go_wp2_with fail
  go_loopg [15] 1 (fun k v wr => ∃ j : Nat, v = .int .i64 j ∧ j + k = 1 ∧ wr = w)
  case atStart => exact ⟨0, rfl, rfl, rfl⟩
  case round =>
    obtain ⟨j, rfl, hj, hw⟩ := hrel
    obtain rfl := hw
    have Hj := Lib.hid hj
    clear hj
    by_cases hlt : j < 1
    · obtain rfl : j = 0 := by omega
      go_wp2_with fail
      go_loopg [4] 0 (fun k v ws => k = 0 ∧ v = .int .i64 1 ∧ ws = wr)
      case atStart => exact ⟨rfl, rfl, rfl⟩
      case round =>
        obtain ⟨hk, rfl, hw⟩ := hrel
        obtain rfl := hw
        go_wp2_with fail
        go_roundg 0
        case measure => have := Hj.out; omega
        case rel => exact ⟨1, rfl, by have := Hj.out; omega, rfl⟩
    · obtain rfl : j = 1 := by have := Hj.out; omega
      go_wp2_with fail
      go_ret
      exact ⟨rfl, rfl⟩
end Go.Proofs.YtinjdcefagaaeaaGreatDoor
