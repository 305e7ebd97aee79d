import Derived.Test.YtinjdcefagaaeaaGreatDoorQLy
import Derived.Test.YtinjdcefagaaeaaGreatDoorQDn
set_option linter.unusedVariables false
set_option linter.unusedSimpArgs false
namespace Go.Proofs.YtinjdcefagaaeaaGreatDoor
open Go.RowKit
/-! route: small functions -/
set_option maxRecDepth 100000 in
set_option maxHeartbeats 1600000 in
theorem leavU_ok (s : Int) (w : World) : Calls Tryz.prog 240 #[.agg #[.int .i64 s, .int .i64 0]] w fun e w' => e = .returned (.agg #[.int .i64 s, .int .i64 1]) ∧ w' = (w.alloc (.cells #[.int .i64 s, .int .i64 0] 113)).alloc (.cells #[.int .i64 s, .int .i64 1] 353) := by
  go_enter Tryz.func240, Tryz.ntmps240
  go_wp2_with fail
  refine bodyPost_ret (results_cell_row rfl _ _ (w.heap.size + 1) 353 #[.int .i64 s, .int .i64 1] (0, 0) _ rfl (show Blk _ _ _ _ from (by repeat (first | (refine Blk.new' _ _ _ _ ?_; first | rfl | (simp <;> omega)) | refine Blk.al ?_ _ | refine Blk.dr ?_ | refine Blk.drN ?_ _ | refine Blk.far ?_ (by first | omega | (simp; omega))))) Tryz.underlying353 rfl (by kernel_rfl)) rfl ?_
  exact ⟨rfl, rfl⟩
set_option maxRecDepth 100000 in
set_option maxHeartbeats 1600000 in
theorem leavD_ok (s : Int) (w : World) : Calls Tryz.prog 240 #[.agg #[.int .i64 s, .int .i64 1]] w fun e w' => e = .returned (.agg #[.int .i64 s, .int .i64 0]) ∧ w' = (w.alloc (.cells #[.int .i64 s, .int .i64 1] 113)).alloc (.cells #[.int .i64 s, .int .i64 0] 353) := by
  go_enter Tryz.func240, Tryz.ntmps240
  go_wp2_with fail
  refine bodyPost_ret (results_cell_row rfl _ _ (w.heap.size + 1) 353 #[.int .i64 s, .int .i64 0] (0, 0) _ rfl (show Blk _ _ _ _ from (by repeat (first | (refine Blk.new' _ _ _ _ ?_; first | rfl | (simp <;> omega)) | refine Blk.al ?_ _ | refine Blk.dr ?_ | refine Blk.drN ?_ _ | refine Blk.far ?_ (by first | omega | (simp; omega))))) Tryz.underlying353 rfl (by kernel_rfl)) rfl ?_
  exact ⟨rfl, rfl⟩
set_option maxRecDepth 100000 in
set_option maxHeartbeats 1600000 in
theorem rvs_ok (s : Int) (w : World) : Calls Tryz.prog 241 #[.agg #[.int .i64 s, .int .i64 0]] w fun e w' => e = .returned (.agg #[.int .i64 s, .int .i64 1]) ∧ w' = (w.alloc (.cells #[.int .i64 s, .int .i64 0] 113)).alloc (.cells #[.int .i64 s, .int .i64 1] 113) := by
  go_enter Tryz.func241, Tryz.ntmps241
  go_wp2_with fail
  refine bodyPost_ret (results_cell_row rfl _ _ (w.heap.size + 1) 113 #[.int .i64 s, .int .i64 1] (0, 0) _ rfl (show Blk _ _ _ _ from (by repeat (first | (refine Blk.new' _ _ _ _ ?_; first | rfl | (simp <;> omega)) | refine Blk.al ?_ _ | refine Blk.dr ?_ | refine Blk.drN ?_ _ | refine Blk.far ?_ (by first | omega | (simp; omega))))) Tryz.underlying113 rfl (by kernel_rfl)) rfl ?_
  exact ⟨rfl, rfl⟩
set_option maxRecDepth 100000 in
set_option maxHeartbeats 1600000 in
theorem enterA_ok (s : Int) (w : World) : Calls Tryz.prog 165 #[.agg #[.int .i64 s, .int .i64 0]] w fun e w' => e = .returned (.agg #[.int .i64 s, .int .i64 0]) ∧ Below w.heap.size w w' := by
  go_enter Tryz.func165, Tryz.ntmps165
  go_wp2_with fail
  refine bodyPost_ret (results_cell_row rfl _ _ (w.heap.size + 1) 113 #[.int .i64 s, .int .i64 0] (0, 0) _ rfl (show Blk _ _ _ _ from (by repeat (first | (refine Blk.new' _ _ _ _ ?_; first | rfl | (simp <;> omega)) | refine Blk.al ?_ _ | refine Blk.dr ?_ | refine Blk.drN ?_ _ | refine Blk.far ?_ (by first | omega | (simp; omega))))) Tryz.underlying113 rfl (by kernel_rfl)) rfl ?_
  exact ⟨rfl, (by repeat (first | exact Below.refl _ _ | (with_reducible refine Below.drew ?_) | (with_reducible refine below_drewN ?_ _) | (with_reducible refine Below.alloc ?_ (by first | omega | (simp; done) | (simp; omega)) _) | (with_reducible refine Below.setCell ?_ (by first | omega | (simp; done) | (simp; omega)) _) | (refine Below.trans ?_ (Below.mono (by with_reducible assumption) (by first | omega | (simp; done) | (simp; omega))))))⟩
set_option maxRecDepth 100000 in
set_option maxHeartbeats 1600000 in
theorem isstep_ok (L : LyA) (s : Int) (w : World) (h1 : 0 ≤ s) (h2 : s < 3) : Calls Tryz.prog 221 #[L.v, .agg #[.int .i64 s, .int .i64 0]] w fun e w' => e = .returned (.bool true) ∧ Below w.heap.size w w' := by
  go_enter Tryz.func221, Tryz.ntmps221
  go_wp2_with fail
  all_goals
    first
    | (go_ret; exact ⟨rfl, (by repeat (first | exact Below.refl _ _ | (with_reducible refine Below.drew ?_) | (with_reducible refine below_drewN ?_ _) | (with_reducible refine Below.alloc ?_ (by first | omega | (simp; done) | (simp; omega)) _) | (with_reducible refine Below.setCell ?_ (by first | omega | (simp; done) | (simp; omega)) _) | (refine Below.trans ?_ (Below.mono (by with_reducible assumption) (by first | omega | (simp; done) | (simp; omega))))))⟩)
    | (exfalso; have hu : some undef = some (Value.bool _) := by assumption; simp [undef] at hu)
set_option maxRecDepth 100000 in
set_option maxHeartbeats 1600000 in
theorem has_of (L : LyA) (s : Int) (w : World) (h1 : 0 ≤ s) (h2 : s < 3) (h : LayM w L) (hlc : ∀ W, LayM W L → Calls Tryz.prog 27 #[L.v] W fun e w' => e = .returned (.int .i64 0) ∧ Below W.heap.size W w') :
    Calls Tryz.prog 164 #[L.v, .agg #[.int .i64 s, .int .i64 0]] w fun e w' => e = .returned (.bool true) ∧ Below w.heap.size w w' := by
  have H := Lib.hid h
  have HLC := Lib.hid hlc
  clear h hlc
  go_enter Tryz.func164, Tryz.ntmps164
  go_wp2_with fail
  all_goals
    first
    | (refine (HLC.out _ (H.out.go (by repeat (first | exact Below.refl _ _ | (with_reducible refine Below.drew ?_) | (with_reducible refine below_drewN ?_ _) | (with_reducible refine Below.alloc ?_ (by first | omega | (simp; done) | (simp; omega)) _) | (with_reducible refine Below.setCell ?_ (by first | omega | (simp; done) | (simp; omega)) _) | (refine Below.trans ?_ (Below.mono (by with_reducible assumption) (by first | omega | (simp; done) | (simp; omega)))))))).mono ?_
       rintro e w2 ⟨rfl, hb2⟩
       have HB2 := Lib.hid (show Below w.heap.size w w2 from Below.trans (by repeat (first | exact Below.refl _ _ | (with_reducible refine Below.drew ?_) | (with_reducible refine below_drewN ?_ _) | (with_reducible refine Below.alloc ?_ (by first | omega | (simp; done) | (simp; omega)) _) | (with_reducible refine Below.setCell ?_ (by first | omega | (simp; done) | (simp; omega)) _) | (refine Below.trans ?_ (Below.mono (by with_reducible assumption) (by first | omega | (simp; done) | (simp; omega)))))) (hb2.mono (by simp <;> omega)))
       clear hb2
       go_wp2_with fail
       go_ret
       exact ⟨rfl, HB2.out⟩)
    | (exfalso; have hu : some undef = some (Value.bool _) := by assumption; simp [undef] at hu)
    | skip
end Go.Proofs.YtinjdcefagaaeaaGreatDoor
namespace Go.Proofs.YtinjdcefagaaeaaGreatDoor
open Go.RowKit
/-! route.points, route.Check at the example's route -/
theorem infoB : (Tryz.prog.info? 4).map (fun i => (i.zero, i.size, i.bytes)) = some (some (.bool false), 1, 1) := by kernel_rfl
abbrev rtC (sp c : Nat) : Array Value := #[.slice (some ⟨sp, 0, none⟩) 3 c, .int .i64 0]
abbrev rtV (sp c : Nat) : Value := .agg (rtC sp c)
def stpL : List Value := [.int .i64 0, .int .i64 0, .int .i64 1, .int .i64 0, .int .i64 2, .int .i64 0]
theorem stp_at {w : World} {sp : Nat} (h : Cs w sp stpL) (j : Nat) (hj : j < 3) : w.cell? ⟨sp, j * 2, none⟩ = some (.int .i64 j) ∧ w.cell? ⟨sp, j * 2 + 1, none⟩ = some (.int .i64 0) := by
  match j, hj with
  | 0, _ => exact ⟨h.c 0 _ rfl, h.c 1 _ rfl⟩
  | 1, _ => exact ⟨h.c 2 _ rfl, h.c 3 _ rfl⟩
  | 2, _ => exact ⟨h.c 4 _ rfl, h.c 5 _ rfl⟩
structure PtS (w wr : World) (L : LyA) (sp c : Nat) : Prop where
  b : Below w.heap.size w wr
  x : Blk wr w.heap.size 26 L.cs
  r : Blk wr (w.heap.size + 1) 44 (rtC sp c)
theorem PtS.go {w wr w' : World} {L : LyA} {sp c : Nat} (h : PtS w wr L sp c) (hb : Below wr.heap.size wr w') : PtS w w' L sp c := ⟨h.b.trans (hb.mono h.b.size), h.x.same (hb.block _ h.x.lt), h.r.same (hb.block _ h.r.lt)⟩
theorem PtS.grow {w wr w' : World} {L : LyA} {sp c : Nat} {row : Option Nat} (h : PtS w wr L sp c) (hg : wr.grownBy w' row) (hr : ∀ k, row = some k → w.heap.size + 2 ≤ k) : PtS w w' L sp c :=
  ⟨h.b.grown hg h.b.size (fun k hk => by have := hr k hk; omega), h.x.same (hg.block _ h.x.lt (fun e => by have := hr _ e.symm; omega)), h.r.same (hg.block _ h.r.lt (fun e => by have := hr _ e.symm; omega))⟩
def Pt1 (w : World) (L : LyA) (sp c : Nat) (k : Nat) (v : Value) (wr : World) : Prop := ∃ j : Nat, v = .int .i64 j ∧ j + k = 3 ∧ PtS w wr L sp c
structure PtB (w wr : World) (L : LyA) (sp c g j : Nat) (es : List Value) : Prop where
  s : PtS w wr L sp c
  o : wr.ownsRow w.heap.size 4 1 (.slice (some ⟨g, 0, none⟩) 3 3) 3 es
  n : es.length = 3
  e : ∀ q, j ≤ q → q < 3 → es[q]? = some (.bool false)
  g : w.heap.size + 1 < g
theorem PtB.go {w wr w' : World} {L : LyA} {sp c g j : Nat} {es : List Value} (h : PtB w wr L sp c g j es) (hb : Below wr.heap.size wr w') : PtB w w' L sp c g j es := ⟨h.s.go hb, own_grow h.o hb, h.n, h.e, h.g⟩
theorem PtB.put {w wr : World} {L : LyA} {sp c g j : Nat} {es : List Value} (h : PtB w wr L sp c g j es) (u : Value) : PtB w (wr.setCell ⟨g, j, none⟩ u) L sp c g (j + 1) (es.set j u) :=
  ⟨⟨h.s.b.setCell (show w.heap.size ≤ g by have := h.g; omega) _, h.s.x.far (by have := h.g; omega), h.s.r.far (by have := h.g; omega)⟩, (h.o.stored j u).1, by rw [List.length_set]; exact h.n, fun q h1 h2 => by rw [List.getElem?_set_ne (by omega)]; exact h.e q (by omega) h2, h.g⟩
def Pt2 (w : World) (L : LyA) (sp c g : Nat) (k : Nat) (v : Value) (wr : World) : Prop := ∃ (j : Nat) (es : List Value), v = .int .i64 j ∧ j + k = 3 ∧ PtB w wr L sp c g j es
def Pt3 (w : World) (L : LyA) (sp c : Nat) (k : Nat) (v11 v : Value) (wr : World) : Prop := ∃ j : Nat, v = .int .i64 j ∧ j + k = 2 ∧ PtS w wr L sp c ∧ wr.ownsRow (w.heap.size + 2) 3 1 v11 j ((List.replicate j (-1)).map (Value.int .i64))
set_option maxRecDepth 100000 in
set_option maxHeartbeats 6400000 in
theorem points_of (L : LyA) (sp c : Nat) (w : World) (h : LayM w L) (hr : Cs w sp stpL) (hc : 3 ≤ c)
    (htr : ∀ (i : Nat) (W : World), i < 2 → LayM W L → Calls Tryz.prog 222 #[L.v, .agg #[.int .i64 i, .int .i64 0], .agg #[.int .i64 ((i : Int) + 1), .int .i64 0]] W fun e w' => e = .returned (.tuple #[.int .i64 (-1), .bool true]) ∧ Below W.heap.size W w') :
    Calls Tryz.prog 199 #[L.v, rtV sp c] w fun e w' => ∃ v, e = .returned (.tuple #[v, .int .i64 0]) ∧ Below w.heap.size w w' := by
  have H := Lib.hid h
  have HR := Lib.hid hr
  have HT := Lib.hid htr
  clear h hr htr
  obtain ⟨iB, b1, b2, b3, b4⟩ := info_parts infoB
  have HIB := Lib.hid (And.intro b1 (And.intro b2 (And.intro b3 b4)))
  clear b1 b2 b3 b4
  obtain ⟨i0, b1, b2, b3, b4⟩ := info_parts infoI
  have HI := Lib.hid (And.intro b1 (And.intro b2 (And.intro b3 b4)))
  clear b1 b2 b3 b4
  go_enter Tryz.func199, Tryz.ntmps199
  go_upto_region 1 with fail
  refine world_gen (fun w0 => PtS w w0 L sp c) ⟨(by repeat (first | exact Below.refl _ _ | (with_reducible refine Below.drew ?_) | (with_reducible refine below_drewN ?_ _) | (with_reducible refine Below.alloc ?_ (by first | omega | (simp; done) | (simp; omega)) _) | (with_reducible refine Below.setCell ?_ (by first | omega | (simp; done) | (simp; omega)) _) | (refine Below.trans ?_ (Below.mono (by with_reducible assumption) (by first | omega | (simp; done) | (simp; omega)))))), (by repeat (first | (refine Blk.new' _ _ _ _ ?_; first | rfl | (simp <;> omega)) | refine Blk.al ?_ _ | refine Blk.dr ?_ | refine Blk.drN ?_ _ | refine Blk.far ?_ (by first | omega | (simp; omega)))), (by repeat (first | (refine Blk.new' _ _ _ _ ?_; first | rfl | (simp <;> omega)) | refine Blk.al ?_ _ | refine Blk.dr ?_ | refine Blk.drN ?_ _ | refine Blk.far ?_ (by first | omega | (simp; omega))))⟩ ?_
  rintro w0 hs0
  have HS0 := Lib.hid hs0
  have x0 := hs0.x.cell 0
  have x1 := hs0.x.cell 1
  have x2 := hs0.x.cell 2
  have x3 := hs0.x.cell 3
  simp at x0 x1 x2 x3
  clear hs0
  go_wp2_with fail
  refine (lcheck_ok L _ (H.out.go HS0.out.b)).mono ?_
  rintro e w1 ⟨rfl, hb1⟩
  have HS1 := Lib.hid (HS0.out.go hb1)
  clear hb1 HS0 x0 x1 x2 x3
  have r0 := HS1.out.r.cell 0
  have r1 := HS1.out.r.cell 1
  simp at r0 r1
  go_wp2_with fail
  clear r0 r1
  go_loopg [42] 3 (fun k v wr => Pt1 w L sp c k v wr)
  case atStart => exact ⟨0, rfl, rfl, HS1.out⟩
  case round =>
    obtain ⟨j, rfl, hj, hs⟩ := hrel
    have HS := Lib.hid hs
    have Hj := Lib.hid hj
    clear hs hj HS1
    by_cases hlt : j < 3
    · have hrc := HR.out.go HS.out.b
      obtain ⟨d0, d1⟩ := stp_at hrc j hlt
      have dl := hrc.lt
      clear hrc
      have x0 := HS.out.x.cell 0
      have x1 := HS.out.x.cell 1
      have x2 := HS.out.x.cell 2
      have x3 := HS.out.x.cell 3
      have xl := HS.out.x.lt
      simp at x0 x1 x2 x3
      go_wp2_with fail
      refine (isstep_ok L j _ (by omega) (by omega)).mono ?_
      rintro e w2 ⟨rfl, hb2⟩
      have HS2 := Lib.hid (HS.out.go (Below.trans (by repeat (first | exact Below.refl _ _ | (with_reducible refine Below.drew ?_) | (with_reducible refine below_drewN ?_ _) | (with_reducible refine Below.alloc ?_ (by first | omega | (simp; done) | (simp; omega)) _) | (with_reducible refine Below.setCell ?_ (by first | omega | (simp; done) | (simp; omega)) _) | (refine Below.trans ?_ (Below.mono (by with_reducible assumption) (by first | omega | (simp; done) | (simp; omega)))))) (hb2.mono (by simp))))
      clear hb2 x0 x1 x2 x3 d0 d1
      go_wp2_with fail
      go_roundg (3 - j - 1)
      case measure => have := Hj.out; omega
      case rel => exact ⟨j + 1, by first | rfl | go_num, by have := Hj.out; omega, HS2.out⟩
    · obtain rfl : j = 3 := by have := Hj.out; omega
      have x0 := HS.out.x.cell 0
      have x1 := HS.out.x.cell 1
      have x2 := HS.out.x.cell 2
      have x3 := HS.out.x.cell 3
      simp at x0 x1 x2 x3
      go_upto_region 16 with (at_make; refine wpList_make_full _ rfl _ _ 132 rfl (w.heap.size) 4 iB _ 1 Tryz.underlying132 HIB.out.1 HIB.out.2.1 HIB.out.2.2.1 .i64 .i64 _ _ 3 rfl rfl rfl rfl ?m1 ?m2 ?m3 ?_; rotate_right; intro w3 ho3 hg3)
      case m1 => rw [HIB.out.2.2.2]; omega
      case m2 => simp only [maxLen]; omega
      case m3 => exact HS.out.b.size
      have hb3 := bel_grow hg3
      have ho4 : w3.ownsRow w.heap.size 4 1 (.slice (some ⟨wr.heap.size, 0, none⟩) 3 3) 3 (List.replicate 3 (.bool false)) := by
        have h := ho3
        rw [Nat.mul_one, show (Value.bool false).cells = #[.bool false] from rfl, toList_madeCells_one] at h
        exact h
      have HB3 := Lib.hid (show PtB w w3 L sp c wr.heap.size 0 (List.replicate 3 (.bool false)) from ⟨HS.out.go hb3, ho4, rfl, fun q _ h2 => List.getElem?_replicate_of_lt h2, HS.out.r.lt⟩)
      clear ho3 hg3 hb3 ho4 x0 x1 x2 x3 HS
      generalize wr.heap.size = g at *
      have r0 := HB3.out.s.r.cell 0
      have r1 := HB3.out.s.r.cell 1
      simp at r0 r1
      go_wp2_with fail
      clear r0 r1
      go_loopg [58] 3 (fun k v wr => Pt2 w L sp c g k v wr)
      case atStart => exact ⟨0, _, rfl, rfl, HB3.out⟩
      case round =>
        obtain ⟨j, es, rfl, hj, hs⟩ := hrel
        have HS := Lib.hid hs
        have Hj := Lib.hid hj
        clear hs hj HB3
        by_cases hlt : j < 3
        · have hrc := HR.out.go HS.out.s.b
          obtain ⟨d0, d1⟩ := stp_at hrc j hlt
          have dl := hrc.lt
          have es0 := (HS.out.o.cellAt j (by omega)).trans (HS.out.e j (Nat.le_refl _) hlt)
          have fs0 := HS.out.o.frozenAt j
          have gl := (own_block HS.out.o g rfl).2
          have hj3 : (j : Int) < 3 := by omega
          clear hrc
          have HP := Lib.hid (HS.out.put (.bool true))
          have HQ := Lib.hid (HP.out.go (w' := (wr.setCell ⟨g, j, none⟩ (.bool true)).alloc (.cells #[.int .i64 j, .int .i64 0] 113)) ((Below.refl _ _).alloc (Nat.le_refl _) _))
          go_wp2_with fail
          go_roundg (3 - j - 1)
          case measure => have := Hj.out; omega
          case rel => exact ⟨j + 1, _, by first | rfl | go_num, by have := Hj.out; omega, HQ.out⟩
        · obtain rfl : j = 3 := by have := Hj.out; omega
          have HSS := Lib.hid HS.out.s
          clear HS
          have r0 := HSS.out.r.cell 0
          have r1 := HSS.out.r.cell 1
          simp at r0 r1
          have hc3 : (3 : Int) ≤ (c : Int) := by omega
          go_wp2_with fail
          clear r0 r1
          go_loopg [11, 76] 2 (fun k v11 v wr => Pt3 w L sp c k v11 v wr)
          case atStart => exact ⟨0, rfl, rfl, HSS.out, World.ownsRow_nil _ _ _ _⟩
          case round =>
            obtain ⟨j, rfl, hj, hs, ho⟩ := hrel
            have HS := Lib.hid hs
            have HO := Lib.hid ho
            have Hj := Lib.hid hj
            clear hs hj HSS ho
            by_cases hlt : j < 2
            · have hrc := HR.out.go HS.out.b
              obtain ⟨d0, d1⟩ := stp_at hrc j (by omega)
              obtain ⟨e0, e1⟩ := stp_at hrc (j + 1) (by omega)
              have dl := hrc.lt
              have ee : (j + 1) * 2 = 2 + j * 2 := by omega
              rw [ee] at e0 e1
              clear hrc ee
              have ei : ((j + 1 : Nat) : Int) = (j : Int) + 1 := by omega
              rw [ei] at e0
              clear ei
              have hj3 : (j : Int) < 3 := by omega
              go_upto_region 27 with fail
              refine world_gen (fun w1 => PtS w w1 L sp c ∧ Blk w1 wr.heap.size 113 #[.int .i64 ((j : Int) + 1), .int .i64 0] ∧ w1.ownsRow (w.heap.size + 2) 3 1 u11 j ((List.replicate j (-1)).map (Value.int .i64))) ⟨HS.out.go ((Below.refl _ _).alloc (Nat.le_refl _) _), Blk.new _ _ _, HO.out.alloc _⟩ ?_
              rintro w1 ⟨hs1, hk1, ho1⟩
              have HS1 := Lib.hid hs1
              have HO1 := Lib.hid ho1
              have HL1 := Lib.hid (H.out.go hs1.b)
              have hrc := HR.out.go hs1.b
              obtain ⟨d0, d1⟩ := stp_at hrc j (by omega)
              have dl := hrc.lt
              have k0 := hk1.cell 0
              have k1 := hk1.cell 1
              have lk := hk1.lt
              have x0 := hs1.x.cell 0
              have x1 := hs1.x.cell 1
              have x2 := hs1.x.cell 2
              have x3 := hs1.x.cell 3
              have lx := hs1.x.lt
              have r0 := hs1.r.cell 0
              have r1 := hs1.r.cell 1
              have lr := hs1.r.lt
              simp at k0 k1 x0 x1 x2 x3 r0 r1
              clear hs1 hk1 ho1 HS HO hrc e0 e1
              refine wp_region_overL (by kernel_rfl) (by kernel_rfl) ?_
              repeat (go_big_quiet_step ((go_at_call 222; exact callsOver (HT.out j _ (by omega) (HL1.out.go (over_below _ _))))))
              refine wpQuiet_nil ?_
              intro w2 hb2
              have HS2 := Lib.hid (HS1.out.go hb2)
              have HO2 := Lib.hid (own_grow HO1.out hb2)
              have hsz := HS2.out.r.lt
              clear hb2 HS1 HO1 HL1 d0 d1 k0 k1 lk x0 x1 x2 x3 lx r0 r1 lr
              obtain ⟨A2, c2, rfl, _, _⟩ := own_slice HO2.out
              go_wp2_with (at_builtin; refine wpList_append_own_at _ rfl _ _ 47 rfl ((w.heap.size + 2)) 3 i0 _ 1 8 Tryz.underlying47 HI.out.1 HI.out.2.1 HI.out.2.2.1 HI.out.2.2.2 rfl (by omega) _ j _ rfl (World.ownsRow.alloc HO2.out _) ⟨w2.heap.size, 0, none⟩ 1 1 [.int .i64 (-1)] rfl rfl ?c0 ?c1 ?c2 ?c3 ?c4 ?_; rotate_right; intro v' w' hown' hg' _ hat')
              case c0 => exact news_new _ _ _
              case c1 => intro u hu; simp at hu; subst hu; rfl
              case c2 => simp only [maxLen]; omega
              case c3 => omega
              case c4 => simp; omega
              have HO3 := Lib.hid (show w'.ownsRow (w.heap.size + 2) 3 1 v' (j + 1) ((List.replicate (j + 1) (-1)).map (Value.int .i64)) by
                rw [show List.replicate (j + 1) (-1 : Int) = List.replicate j (-1) ++ [-1] from List.replicate_succ', List.map_append]
                exact hown')
              have HS3 := Lib.hid (show PtS w w' L sp c from (HS2.out.go ((Below.refl _ _).alloc (Nat.le_refl _) _)).grow hg' (fun k hk => (own_block HO2.out k hk).1))
              clear hg' hat' hown'
              go_roundg (2 - j - 1)
              case measure => have := Hj.out; omega
              case rel => exact ⟨j + 1, by first | rfl | go_num, by have := Hj.out; omega, HS3.out, HO3.out⟩
            · obtain rfl : j = 2 := by have := Hj.out; omega
              go_wp2_with fail
              go_ret2
              exact ⟨_, rfl, HS.out.b⟩
end Go.Proofs.YtinjdcefagaaeaaGreatDoor
