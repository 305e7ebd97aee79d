import Derived.Test.YtinjdcefagaaeaaGreatDoorQDc
import Derived.Test.YtinjdcefagaaeaaGreatDoorQLy
import Derived.Deep.RegionHeld3
set_option linter.unusedVariables false
set_option linter.unusedSimpArgs false
namespace Go.Proofs.YtinjdcefagaaeaaGreatDoor
open Go.RowKit
/-! layout.declareLink -/
def sdI (b : UInt8) : Int := if b = 65 then 0 else 1
theorem side_ok (b : UInt8) (w : World) (h : SideW w) (hb : b = 65 ∨ b = 66) : Calls Tryz.prog 132 #[.string ⟨#[b]⟩] w fun e w' => e = .returned (.int .i64 (sdI b)) ∧ w' = w := by
  rcases hb with rfl | rfl
  · exact side_A w h
  · exact side_B w h
structure DkS (w wr : World) (Lb g S g3 cc3 : Nat) (v1 v4 : Value) (n1 n4 : Nat) (c1 c4 tx : List Value) (cs : Array Value) : Prop where
  b : Below w.heap.size w wr
  l : LyO wr Lb v1 (.slice (some ⟨g3, 0, none⟩) 3 cc3) v4 n1 3 n4 c1 seL c4
  t : Cs wr g tx
  s : Blk wr S 249 cs
  g1 : w.heap.size ≤ S
  g2 : Lb < w.heap.size
  g4 : g < w.heap.size
section
variable {w wr w' : World} {Lb g S g3 cc3 : Nat} {v1 v4 : Value} {n1 n4 : Nat} {c1 c4 tx : List Value} {cs : Array Value}
theorem DkS.go (h : DkS w wr Lb g S g3 cc3 v1 v4 n1 n4 c1 c4 tx cs) (hb : Below wr.heap.size wr w') : DkS w w' Lb g S g3 cc3 v1 v4 n1 n4 c1 c4 tx cs := ⟨h.b.trans (hb.mono h.b.size), h.l.go hb, h.t.go hb, h.s.same (hb.block _ h.s.lt), h.g1, h.g2, h.g4⟩
theorem DkS.set (h : DkS w wr Lb g S g3 cc3 v1 v4 n1 n4 c1 c4 tx cs) (hl : ∀ k, (v1.ownBlock = some k ∨ (Value.slice (some ⟨g3, 0, none⟩) 3 cc3).ownBlock = some k ∨ v4.ownBlock = some k) → k ≠ S) (i : Nat) (u : Value) : DkS w (wr.setCell ⟨S, i, none⟩ u) Lb g S g3 cc3 v1 v4 n1 n4 c1 c4 tx (cs.setIfInBounds i u) :=
  ⟨h.b.setCell h.g1 _, ⟨h.l.x.far (by have := h.g1; have := h.g2; omega), own_far h.l.o1 (fun e => hl _ (.inl e) rfl), own_far h.l.o3 (fun e => hl _ (.inr (.inl e)) rfl), own_far h.l.o4 (fun e => hl _ (.inr (.inr e)) rfl)⟩, h.t.tw (Tw.set _ _ _ _) (by have := h.g1; have := h.g4; omega), h.s.set_ i u, h.g1, h.g2, h.g4⟩
theorem LyO.se {n3 cc : Nat} {v1 v4 : Value} (h : LyO w Lb v1 (.slice (some ⟨g3, 0, none⟩) n3 cc) v4 n1 n3 n4 c1 seL c4) : Cs w g3 seL :=
  ⟨(own_block h.o3 g3 rfl).2, fun i v hi => (h.o3.cellAt i (by rw [← h.o3.1]; exact (List.getElem?_eq_some_iff.1 hi).1)).trans hi⟩
end
set_option linter.unusedSimpArgs false in
set_option maxRecDepth 100000 in
set_option maxHeartbeats 25600000 in
theorem dlink_ok (Lb g c g3 cc3 i : Nat) (kw : ByteArray) (v1 v4 : Value) (n1 n4 : Nat) (c1 c4 : List Value) (w : World) (h : LyO w Lb v1 (.slice (some ⟨g3, 0, none⟩) 3 cc3) v4 n1 3 n4 c1 seL c4) (hg : Cs w g [.string kw, .string ⟨#[nmF i]⟩, .string ⟨#[66]⟩, .string ⟨#[nmF (i + 1)]⟩, .string ⟨#[65]⟩]) (hi : i < 2) (hn : n4 ≤ 10) (hsw : SideW w) :
    Calls Tryz.prog 70 #[.pointer (some ⟨Lb, 0, none⟩), .slice (some ⟨g, 0, none⟩) 5 c] w fun e w' => e = .returned (.int .i64 0) ∧ Below Lb w w' ∧ ∃ v', LyO w' Lb v1 (.slice (some ⟨g3, 0, none⟩) 3 cc3) v' n1 3 (n4 + 1) c1 seL (c4 ++ lkC i) := by
  have H := Lib.hid h
  have hl1 := own_block h.o1
  have hl3 := own_block h.o3
  have hl4 := own_block h.o4
  have HL := Lib.hid (show ∀ k, (v1.ownBlock = some k ∨ (Value.slice (some ⟨g3, 0, none⟩) 3 cc3).ownBlock = some k ∨ v4.ownBlock = some k) → k ≠ w.heap.size from fun k hk => by rcases hk with e | e | e <;> first | (have := (hl1 _ e).2; omega) | (have := (hl3 _ e).2; omega) | (have := (hl4 _ e).2; omega))
  have hxl := h.x.lt
  have hgl := hg.lt
  have HG := Lib.hid hg
  have HW := Lib.hid (show ∀ W, Below w.heap.size w W → SideW W from fun W hb => hsw.go hb)
  clear h hg hl1 hl3 hl4 hsw
  obtain ⟨iE, b1, b2, b3, b4⟩ := info_parts infoLnk
  have HIE := Lib.hid (And.intro b1 (And.intro b2 (And.intro b3 b4)))
  clear b1 b2 b3 b4
  have q2 : w.cell? ⟨g, 2, none⟩ = some (.string ⟨#[66]⟩) := HG.out.c 2 _ rfl
  have q4 : w.cell? ⟨g, 4, none⟩ = some (.string ⟨#[65]⟩) := HG.out.c 4 _ rfl
  have e65 : sdI 65 = 0 := by decide
  have e66 : sdI 66 = 1 := by decide
  go_enter Tryz.func70, Tryz.ntmps70
  go_upto_region 1 with fail
  go_region_held3 (fun W => W.cell? ⟨g, 2, none⟩ = some (.string ⟨#[66]⟩) ∧ W.cell? ⟨g, 4, none⟩ = some (.string ⟨#[65]⟩))
    (first | go_keep | exact ⟨q2, q4⟩ | exact ⟨cell_bel (by repeat (first | exact Below.refl _ _ | (with_reducible refine Below.drew ?_) | (with_reducible refine below_drewN ?_ _) | (with_reducible refine Below.alloc ?_ (by first | omega | (simp; done) | (simp; omega)) _) | (with_reducible refine Below.setCell ?_ (by first | omega | (simp; done) | (simp; omega)) _) | (refine Below.trans ?_ (Below.mono (by with_reducible assumption) (by first | omega | (simp; done) | (simp; omega)))))) q2, cell_bel (by repeat (first | exact Below.refl _ _ | (with_reducible refine Below.drew ?_) | (with_reducible refine below_drewN ?_ _) | (with_reducible refine Below.alloc ?_ (by first | omega | (simp; done) | (simp; omega)) _) | (with_reducible refine Below.setCell ?_ (by first | omega | (simp; done) | (simp; omega)) _) | (refine Below.trans ?_ (Below.mono (by with_reducible assumption) (by first | omega | (simp; done) | (simp; omega)))))) q4⟩)
    (first | (go_at_call 132; refine (side_ok _ _ (HW.out _ (by repeat (first | exact Below.refl _ _ | (with_reducible refine Below.drew ?_) | (with_reducible refine below_drewN ?_ _) | (with_reducible refine Below.alloc ?_ (by first | omega | (simp; done) | (simp; omega)) _) | (with_reducible refine Below.setCell ?_ (by first | omega | (simp; done) | (simp; omega)) _) | (refine Below.trans ?_ (Below.mono (by with_reducible assumption) (by first | omega | (simp; done) | (simp; omega))))))) (by decide)).mono ?_; rintro e w6 ⟨rfl, hw6⟩; rw [hw6]))
  all_goals
    clear e65 e66 q2 q4
    go_upto_region 2 with fail
    refine world_gen (fun w0 => DkS w w0 Lb g w.heap.size g3 cc3 v1 v4 n1 n4 c1 c4 [.string kw, .string ⟨#[nmF i]⟩, .string ⟨#[66]⟩, .string ⟨#[nmF (i + 1)]⟩, .string ⟨#[65]⟩] #[.int .i64 0, .int .i64 1, .int .i64 0, .int .i64 0, .int .i64 (-1), .int .i64 0]) ⟨(by repeat (first | exact Below.refl _ _ | (with_reducible refine Below.drew ?_) | (with_reducible refine below_drewN ?_ _) | (with_reducible refine Below.alloc ?_ (by first | omega | (simp; done) | (simp; omega)) _) | (with_reducible refine Below.setCell ?_ (by first | omega | (simp; done) | (simp; omega)) _) | (refine Below.trans ?_ (Below.mono (by with_reducible assumption) (by first | omega | (simp; done) | (simp; omega)))))), H.out.go (by repeat (first | exact Below.refl _ _ | (with_reducible refine Below.drew ?_) | (with_reducible refine below_drewN ?_ _) | (with_reducible refine Below.alloc ?_ (by first | omega | (simp; done) | (simp; omega)) _) | (with_reducible refine Below.setCell ?_ (by first | omega | (simp; done) | (simp; omega)) _) | (refine Below.trans ?_ (Below.mono (by with_reducible assumption) (by first | omega | (simp; done) | (simp; omega)))))), HG.out.go (by repeat (first | exact Below.refl _ _ | (with_reducible refine Below.drew ?_) | (with_reducible refine below_drewN ?_ _) | (with_reducible refine Below.alloc ?_ (by first | omega | (simp; done) | (simp; omega)) _) | (with_reducible refine Below.setCell ?_ (by first | omega | (simp; done) | (simp; omega)) _) | (refine Below.trans ?_ (Below.mono (by with_reducible assumption) (by first | omega | (simp; done) | (simp; omega)))))), (by repeat (first | (refine Blk.new' _ _ _ _ ?_; first | rfl | (simp <;> omega)) | refine Blk.al ?_ _ | refine Blk.dr ?_ | refine Blk.drN ?_ _ | refine Blk.far ?_ (by first | omega | (simp; omega)))), Nat.le_refl _, hxl, hgl⟩ ?_
    intro w0 hs0
    have HS0 := Lib.hid hs0
    clear hs0
    generalize w.heap.size = S at HS0 HL ⊢
    have s0 := HS0.out.s.cell 0
    have s1 := HS0.out.s.cell 1
    have s2 := HS0.out.s.cell 2
    have s3 := HS0.out.s.cell 3
    have s4 := HS0.out.s.cell 4
    have s5 := HS0.out.s.cell 5
    have f0 := HS0.out.s.frozen 0
    have f2 := HS0.out.s.frozen 2
    have sl := HS0.out.s.lt
    have tl := HS0.out.t.lt
    simp [lkC] at s0 s1 s2 s3 s4 s5
    go_upto_region 4 with fail
    have HSE := Lib.hid HS0.out.l.se
    have x2 := HS0.out.l.x.cell 2
    simp at x2
    have HX2 := Lib.hid x2
    have b1 : w0.cell? ⟨g, 1, none⟩ = some (.string ⟨#[nmF i]⟩) := HS0.out.t.c 1 _ rfl
    have b3 : w0.cell? ⟨g, 3, none⟩ = some (.string ⟨#[nmF (i + 1)]⟩) := HS0.out.t.c 3 _ rfl
    have hnm1 : snmI (nmF i) = (i : Int) := by
      match i, hi with
      | 0, _ => rfl
      | 1, _ => rfl
    have hnm2 : snmI (nmF (i + 1)) = (i : Int) + 1 := by
      match i, hi with
      | 0, _ => rfl
      | 1, _ => rfl
    have hb1 : nmF i = 120 ∨ nmF i = 97 ∨ nmF i = 121 := by
      match i, hi with
      | 0, _ => decide
      | 1, _ => decide
    have hb2 : nmF (i + 1) = 120 ∨ nmF (i + 1) = 97 ∨ nmF (i + 1) = 121 := by
      match i, hi with
      | 0, _ => decide
      | 1, _ => decide
    have HB := Lib.hid (fun (b : UInt8) (hb : b = nmF i ∨ b = nmF (i + 1)) => (show b = 120 ∨ b = 97 ∨ b = 121 from by rcases hb with rfl | rfl; exact hb1; exact hb2))
    clear hb1 hb2
    clear x2
    refine wp_region_overT2 11 (by kernel_rfl) (by kernel_rfl) ?_
    simp only [List.take_succ_cons, List.take_zero, List.drop_succ_cons, List.drop_zero]
    repeat (go_big_quiet_step ((go_at_call 133; exact callsOver (secnm_ok g3 cc3 Lb _ _ (HSE.out.go (over_below _ _)) (cell_bel (over_below _ _) HX2.out) (HB.out _ (by first | exact .inl rfl | exact .inr rfl))))))
    refine wpQuiet_nil ?_
    intro w1 hbb
    have HS1 := Lib.hid (HS0.out.go hbb)
    clear hbb HSE HX2 b1 b3 HS0
    clear s0 s1 s2 s3 s4 s5 f0 f2 sl tl
    have s0 := HS1.out.s.cell 0
    have s1 := HS1.out.s.cell 1
    have s2 := HS1.out.s.cell 2
    have s3 := HS1.out.s.cell 3
    have s4 := HS1.out.s.cell 4
    have s5 := HS1.out.s.cell 5
    have f0 := HS1.out.s.frozen 0
    have f2 := HS1.out.s.frozen 2
    have sl := HS1.out.s.lt
    have tl := HS1.out.t.lt
    simp [lkC] at s0 s1 s2 s3 s4 s5
    rw [hnm1, hnm2]
    have hi2 : (i : Int) < 2 := by omega
    have hi0 : (0 : Int) ≤ (i : Int) := by omega
    go_upto_region 5 with fail
    refine world_gen (fun w2 => DkS w w2 Lb g S g3 cc3 v1 v4 n1 n4 c1 c4 [.string kw, .string ⟨#[nmF i]⟩, .string ⟨#[66]⟩, .string ⟨#[nmF (i + 1)]⟩, .string ⟨#[65]⟩] (lkC i).toArray) ((HS1.out.set HL.out 0 _).set HL.out 2 _) ?_
    intro w2 hs2
    have HS2 := Lib.hid hs2
    clear hs2 HS1
    clear s0 s1 s2 s3 s4 s5 f0 f2 sl tl
    have s0 := HS2.out.s.cell 0
    have s1 := HS2.out.s.cell 1
    have s2 := HS2.out.s.cell 2
    have s3 := HS2.out.s.cell 3
    have s4 := HS2.out.s.cell 4
    have s5 := HS2.out.s.cell 5
    have f0 := HS2.out.s.frozen 0
    have f2 := HS2.out.s.frozen 2
    have sl := HS2.out.s.lt
    have tl := HS2.out.t.lt
    simp [lkC] at s0 s1 s2 s3 s4 s5
    go_upto_region 13 with fail
    obtain ⟨A4, cc4, rfl, _, _⟩ := own_slice HS2.out.l.o4
    have x3 := HS2.out.l.x.cell 3
    have xl := HS2.out.l.x.lt
    simp at x3
    have hbz := HS2.out.b.size
    have hg1 := HS2.out.g1
    have hg2 := HS2.out.g2
    have hbd : Below w2.heap.size w2 (w2.drew.alloc (.cells (lkC i).toArray 249)) := (Below.refl _ w2).drew.alloc (Nat.le_refl _) _
    have ho4b := own_block HS2.out.l.o4
    have hnL : (Value.slice A4 n4 cc4).ownBlock ≠ some Lb := fun e => by have h1 := (ho4b _ e).1; omega
    have hnS : (Value.slice A4 n4 cc4).ownBlock ≠ some S := fun e => HL.out _ (.inr (.inr e)) rfl
    refine wp_region_cut 8 (by kernel_rfl) (by kernel_rfl) ?_
    simp only [dulled, dull, List.take_succ_cons, List.take_zero, List.drop_succ_cons, List.drop_zero, List.map_cons, List.map_nil, List.cons_append, List.nil_append]
    refine wpAny_of_held (S := fun W => W.cell? ⟨Lb, 3, none⟩ = some (.slice A4 n4 cc4) ∧ W.cell? ⟨S, 0, none⟩ = some (.int .i64 i) ∧ W.cell? ⟨S, 1, none⟩ = some (.int .i64 1) ∧ W.cell? ⟨S, 2, none⟩ = some (.int .i64 ((i : Int) + 1)) ∧ W.cell? ⟨S, 3, none⟩ = some (.int .i64 0) ∧ W.cell? ⟨S, 4, none⟩ = some (.int .i64 (-1)) ∧ W.cell? ⟨S, 5, none⟩ = some (.int .i64 0)) _ _ _ _ ?_
    change wpAnyH _ _ _ _ _ 11 _ _ (World.drew w2)
    have hHeld : (fun W => W.cell? ⟨Lb, 3, none⟩ = some (.slice A4 n4 cc4) ∧ W.cell? ⟨S, 0, none⟩ = some (.int .i64 i) ∧ W.cell? ⟨S, 1, none⟩ = some (.int .i64 1) ∧ W.cell? ⟨S, 2, none⟩ = some (.int .i64 ((i : Int) + 1)) ∧ W.cell? ⟨S, 3, none⟩ = some (.int .i64 0) ∧ W.cell? ⟨S, 4, none⟩ = some (.int .i64 (-1)) ∧ W.cell? ⟨S, 5, none⟩ = some (.int .i64 0)) (World.drew w2) := ⟨x3, s0, s1, s2, s3, s4, s5⟩
    refine wpAnyH_take (i := 0) (oi := ⟨some _, _, _, _, _, _⟩) (v := ?_) rfl (by kernel_rfl) (by kernel_rfl) (by kernel_rfl) (fun _ _ _ h => h) (Or.inl ⟨by rfl, ?_⟩) (by assumption) ?_
    rotate_left
    · (intro w hSw; (try dsimp only at hSw); go_simp; try with_reducible rfl)
    simp only [Act.put, List.setIfInBounds_toArray, List.set_cons_zero, List.set_cons_succ]
    refine wpAnyH_take (i := 1) (oi := ⟨some _, _, _, _, _, _⟩) (v := ?_) rfl (by kernel_rfl) (by kernel_rfl) (by kernel_rfl) (fun _ _ _ h => h) (Or.inl ⟨by rfl, ?_⟩) (by assumption) ?_
    rotate_left
    · (intro w hSw; (try dsimp only at hSw); go_simp; try with_reducible rfl)
    simp only [Act.put, List.setIfInBounds_toArray, List.set_cons_zero, List.set_cons_succ]
    refine wpAnyH_take (i := 2) (oi := ⟨some _, _, _, _, _, _⟩) (v := ?_) rfl (by kernel_rfl) (by kernel_rfl) (by kernel_rfl) (fun _ _ _ h => h) (Or.inl ⟨by rfl, ?_⟩) (by assumption) ?_
    rotate_left
    · (intro w hSw; (try dsimp only at hSw); go_simp; try with_reducible rfl)
    simp only [Act.put, List.setIfInBounds_toArray, List.set_cons_zero, List.set_cons_succ]
    refine wpAnyH_take (i := 3) (oi := ⟨some _, _, _, _, _, _⟩) (v := ?_) rfl (by kernel_rfl) (by kernel_rfl) (by kernel_rfl) (fun _ _ _ h => h) (Or.inl ⟨by rfl, ?_⟩) (by assumption) ?_
    rotate_left
    · (intro w hSw; (try dsimp only at hSw); go_simp; try with_reducible rfl)
    simp only [Act.put, List.setIfInBounds_toArray, List.set_cons_zero, List.set_cons_succ]
    refine wpAnyH_take (i := 4) (oi := ⟨some _, _, _, _, _, _⟩) (v := ?_) rfl (by kernel_rfl) (by kernel_rfl) (by kernel_rfl) (fun _ _ _ h => h) (Or.inl ⟨by rfl, ?_⟩) (by assumption) ?_
    rotate_left
    · (intro w hSw; (try dsimp only at hSw); go_simp; try with_reducible rfl)
    simp only [Act.put, List.setIfInBounds_toArray, List.set_cons_zero, List.set_cons_succ]
    refine wpAnyH_take (i := 5) (oi := ⟨some _, _, _, _, _, _⟩) (v := ?_) rfl (by kernel_rfl) (by kernel_rfl) (by kernel_rfl) (fun _ _ _ h => h) (Or.inl ⟨by rfl, ?_⟩) (by assumption) ?_
    rotate_left
    · (intro w hSw; (try dsimp only at hSw); go_simp; try with_reducible rfl)
    simp only [Act.put, List.setIfInBounds_toArray, List.set_cons_zero, List.set_cons_succ]
    refine wpAnyH_ready (rs := [6]) (by kernel_rfl) (by simp) ?_
    refine AllReadyH.cons rfl (fun K hK => ?_) AllReadyH.nil
    go_simp
    refine hK.out _ _ ⟨cell_bel hbd x3, cell_bel hbd s0, cell_bel hbd s1, cell_bel hbd s2, cell_bel hbd s3, cell_bel hbd s4, cell_bel hbd s5⟩ (fun hHeld => ?_)
    clear hK K
    try simp only [Act.put, List.setIfInBounds_toArray, List.set_cons_zero, List.set_cons_succ]
    refine wpAnyH_ready (rs := [7]) (by kernel_rfl) (by simp) ?_
    refine AllReadyH.cons (o := ⟨some _, _, _, _, _, _⟩) rfl (fun K hK => ?_) AllReadyH.nil
    refine step_append_any (by rfl) _ _ _ (by rfl) (Lb + 1) 249 _ _ 6 48 Tryz.underlying24 HIE.out.1 HIE.out.2.1 HIE.out.2.2.1 HIE.out.2.2.2 rfl (by omega) (.slice A4 n4 cc4) n4 (c4) rfl (HS2.out.l.o4.alloc _) (some ⟨w2.drew.heap.size, 0, none⟩) 1 1 (w2.drew.heap.size + 1) (lkC i) rfl (fun e => by cases e) (Rd.more (Rd.of_blk (cs := (lkC i)) (n := 1) (sz := 6) (by repeat (first | (refine Blk.new' _ _ _ _ ?_; first | rfl | (simp <;> omega)) | refine Blk.al ?_ _ | refine Blk.dr ?_ | refine Blk.drN ?_ _ | refine Blk.far ?_ (by first | omega | (simp; omega)))) rfl) (by simp)) ((List.all_eq_true (p := fun (u : Value) => u.oneCell')).1 (by rfl)) (by simp only [maxLen]; omega) (by omega) (by simp; try omega) ?_; intro va wa hoa hga hta; obtain ⟨Aa, ca, rfl, _, _⟩ := own_slice hoa
    have hgg : (w2.drew.alloc (.cells (lkC i).toArray 249)).grownBy wa (Value.slice A4 n4 cc4).ownBlock := hga
    refine hK.out _ _ ⟨cell_gr (cell_bel hbd x3) hgg hnL, cell_gr (cell_bel hbd s0) hgg hnS, cell_gr (cell_bel hbd s1) hgg hnS, cell_gr (cell_bel hbd s2) hgg hnS, cell_gr (cell_bel hbd s3) hgg hnS, cell_gr (cell_bel hbd s4) hgg hnS, cell_gr (cell_bel hbd s5) hgg hnS⟩ (fun hHeld => ?_)
    clear hK K
    try simp only [Act.put, List.setIfInBounds_toArray, List.set_cons_zero, List.set_cons_succ]
    refine wpAnyH_ready (rs := [8]) (by kernel_rfl) (by simp) ?_
    refine AllReadyH.cons rfl (fun K hK => ?_) AllReadyH.nil
    go_simp
    refine hK.out _ _ hHeld (fun hHeld => ?_)
    clear hK K
    refine wpAnyH_ready (rs := [9]) (by kernel_rfl) (by simp) ?_
    refine AllReadyH.cons rfl (fun K hK => ?_) AllReadyH.nil
    go_simp
    refine hK.out _ _ hHeld (fun hHeld => ?_)
    clear hK K
    refine wpAnyH_ready (rs := [10]) (by kernel_rfl) (by simp) ?_
    refine AllReadyH.cons rfl (fun K hK => ?_) AllReadyH.nil
    go_simp
    refine hK.out _ _ hHeld (fun hHeld => ?_)
    clear hK K
    refine wpAnyH_done (by kernel_rfl) ?_ _
    simp only [cutQ, List.drop_succ_cons, List.drop_zero]
    obtain ⟨hly, hbl⟩ := HS2.out.l.app4 hgg hoa
    have HLY := Lib.hid hly
    have HBL := Lib.hid hbl
    have y3 : wa.cell? ⟨Lb, 3, none⟩ = some (.slice A4 n4 cc4) := hHeld.1
    have fy3 := (HS2.out.l.x.same ((LyO.key HS2.out.l.x.lt ho4b hgg).1 Lb HS2.out.l.x.lt hnL)).frozen 3
    have yl : Lb < wa.heap.size := Nat.lt_of_lt_of_le xl (LyO.key HS2.out.l.x.lt ho4b hgg).2.2
    clear hHeld hoa hga hta hbd hgg hly hbl x3 xl ho4b hnL hnS
    clear s0 s1 s2 s3 s4 s5 f0 f2 sl tl
    go_wp2_with fail
    go_ret
    exact ⟨rfl, (HS2.out.b.mono (Nat.le_of_lt hg2)).trans HBL.out, _, HLY.out⟩
end Go.Proofs.YtinjdcefagaaeaaGreatDoor
namespace Go.Proofs.YtinjdcefagaaeaaGreatDoor
open Go.RowKit
/-! layout.declare -/
theorem wd_at {w : World} {g : Nat} {ws : List Wd} (h : Cs w g (ws.flatMap Wd.cells)) (j : Nat) (hj : j < ws.length) : w.cell? ⟨g, j * 3, none⟩ = some (.string ws[j].tx) ∧ w.cell? ⟨g, j * 3 + 1, none⟩ = some (.int .i64 ws[j].ln) ∧ w.cell? ⟨g, j * 3 + 2, none⟩ = some (.int .i64 ws[j].cl) := by
  have h2 : ∀ i u, i < 3 → ws[j].cells[i]? = some u → w.cell? ⟨g, j * 3 + i, none⟩ = some u := fun i u hi hu => h.c _ u (by rw [flat_get Wd.cells 3 Wd.len ws j hj i hi]; exact hu)
  exact ⟨h2 0 _ (by omega) rfl, h2 1 _ (by omega) rfl, h2 2 _ (by omega) rfl⟩
theorem ws_take (ws : List Wd) (j : Nat) (hj : j < ws.length) : (ws.take (j + 1)).map (fun x => Value.string x.tx) = (ws.take j).map (fun x => Value.string x.tx) ++ [Value.string ws[j].tx] := by
  rw [← List.take_append_getElem hj, List.map_append]
  rfl
def DcL (w : World) (ws : List Wd) (k : Nat) (v5 v : Value) (wr : World) : Prop := ∃ j : Nat, v = .int .i64 j ∧ j + k = ws.length ∧ Below w.heap.size w wr ∧ wr.ownsRow w.heap.size 9 1 v5 j ((ws.take j).map (fun x => .string x.tx))
set_option maxRecDepth 100000 in
set_option maxHeartbeats 12800000 in
theorem dcst_ok (Lb g c : Nat) (ws : List Wd) (nm : UInt8) (v1 v3 v4 : Value) (n1 n3 n4 : Nat) (c1 c3 c4 : List Value) (w : World) (h : LyO w Lb v1 v3 v4 n1 n3 n4 c1 c3 c4) (hg : Cs w g (ws.flatMap Wd.cells)) (ht : ws.map (fun x => Value.string x.tx) = [.string ⟨#[115, 116, 97, 116, 105, 111, 110]⟩, .string ⟨#[nm]⟩]) (hl : ws.length = 2) (hn : n1 ≤ 10) :
    Calls Tryz.prog 26 #[.pointer (some ⟨Lb, 0, none⟩), .slice (some ⟨g, 0, none⟩) 2 c] w fun e w' => e = .returned (.int .i64 0) ∧ Below Lb w w' ∧ ∃ v', LyO w' Lb v' v3 v4 (n1 + 1) n3 n4 (c1 ++ [.string ⟨#[nm]⟩]) c3 c4 := by
  have H := Lib.hid h
  have HG := Lib.hid hg
  have HTX := Lib.hid ht
  have hxl := h.x.lt
  clear h hg ht
  obtain ⟨iT, b1, b2, b3, b4⟩ := info_parts infoStr
  have HIT := Lib.hid (And.intro b1 (And.intro b2 (And.intro b3 b4)))
  clear b1 b2 b3 b4
  go_enter Tryz.func26, Tryz.ntmps26
  go_wp2_with fail
  go_loopg [5, 10] 2 (fun k v5 v wr => DcL w ws k v5 v wr)
  case atStart => exact ⟨0, rfl, by omega, Below.refl _ _, World.ownsRow_nil _ _ _ _⟩
  case round =>
    obtain ⟨j, rfl, hj, hb, ho⟩ := hrel
    have HB := Lib.hid hb
    have HO := Lib.hid ho
    have Hj := Lib.hid hj
    clear hb ho hj
    obtain ⟨A5, c5, rfl, _, _⟩ := own_slice HO.out
    by_cases hlt : j < ws.length
    · have hji : (j : Int) < 2 := by omega
      obtain ⟨d0, d1, d2⟩ := wd_at (HG.out.go HB.out) j hlt
      have dl := (HG.out.go HB.out).lt
      have HR := Lib.hid (ws_take ws j hlt)
      generalize hx : ws[j] = x at d0 d1 d2 HR
      clear hx
      go_upto_region 5 with fail
      refine world_gen (fun w2 => Below w.heap.size w w2 ∧ w2.ownsRow w.heap.size 9 1 (.slice A5 j c5) j ((ws.take j).map (fun x => .string x.tx)) ∧ Blk w2 wr.heap.size 98 #[.string x.tx, .int .i64 x.ln, .int .i64 x.cl]) ⟨HB.out.trans (Below.mono ((Below.refl _ _).alloc (Nat.le_refl _) _) HB.out.size), HO.out.alloc _, (by repeat (first | (refine Blk.new' _ _ _ _ ?_; first | rfl | (simp <;> omega)) | refine Blk.al ?_ _ | refine Blk.dr ?_ | refine Blk.drN ?_ _ | refine Blk.far ?_ (by first | omega | (simp; omega))))⟩ ?_
      rintro w2 ⟨hb2, ho2, hz2⟩
      have HB2 := Lib.hid hb2
      have HO2 := Lib.hid ho2
      have z0 := hz2.cell 0
      have zl := hz2.lt
      have hbz := hb2.size
      simp at z0
      clear hb2 ho2 hz2 HB HO d0 d1 d2 dl
      generalize wr.heap.size = Z at *
      go_upto_region 6 with ((at_builtin; refine wpList_append_own_at _ rfl _ _ 22 rfl w.heap.size 9 iT _ 1 16 Tryz.underlying22 HIT.out.1 HIT.out.2.1 HIT.out.2.2.1 HIT.out.2.2.2 rfl (by omega) _ j ((ws.take j).map (fun x => .string x.tx)) rfl (World.ownsRow.alloc HO2.out _) ⟨w2.heap.size, 0, none⟩ 1 1 [.string x.tx] rfl rfl ?c0 ?c1 ?c2 ?c3 ?c4 ?_; rotate_right; intro va wa hoa hga hna hta); have HN := Lib.hid (show wa.ownsRow w.heap.size 9 1 va (j + 1) ((ws.take (j + 1)).map (fun x => .string x.tx)) by rw [HR.out]; exact hoa); have HNB := Lib.hid (show Below w.heap.size w wa from (HB2.out.alloc hbz (.cells #[.string x.tx] 9)).grown hga (by simp; omega) (fun k hk => (own_block HO2.out k hk).1)); clear hoa hga hna hta)
      case c0 => exact news_new _ _ _
      case c1 => exact (List.all_eq_true (p := fun (u : Value) => u.oneCell')).1 (by rfl)
      case c2 => simp only [maxLen]; omega
      case c3 => omega
      case c4 => first | omega | (simp; done) | (simp; omega)
      go_wp2_with fail
      go_roundg (2 - j - 1)
      case measure => have := Hj.out; omega
      case rel => exact ⟨j + 1, by first | rfl | go_num, by have := Hj.out; omega, HNB.out, HN.out⟩
    · obtain rfl : j = 2 := by have := Hj.out; omega
      obtain ⟨g5, c5', hv5, hc5, hg5, _⟩ := own_cs HO.out (by omega)
      obtain ⟨rfl, rfl⟩ : A5 = some ⟨g5, 0, none⟩ ∧ c5 = c5' := by simp at hv5; exact hv5
      rw [List.take_of_length_le (by omega), HTX.out] at hc5
      have HC5 := Lib.hid hc5
      clear hv5 hc5 HO HG HTX
      have q0 : wr.cell? ⟨g5, 0, none⟩ = some (.string ⟨#[115, 116, 97, 116, 105, 111, 110]⟩) := HC5.out.c 0 _ rfl
      have q1 : wr.cell? ⟨g5, 1, none⟩ = some (.string ⟨#[nm]⟩) := HC5.out.c 1 _ rfl
      have ql := HC5.out.lt
      go_upto_region 8 with fail
      have HL := Lib.hid (H.out.go HB.out)
      obtain ⟨A1, cc1, rfl, _, _⟩ := own_slice HL.out.o1
      have x0 := HL.out.x.cell 0
      have xl := HL.out.x.lt
      simp at x0
      have hbd : Below wr.heap.size wr (wr.drew.alloc (.cells #[.string ⟨#[nm]⟩] 9)) := (Below.refl _ wr).drew.alloc (Nat.le_refl _) _
      have ho1b := own_block HL.out.o1
      have ho1w := own_block H.out.o1
      have hnL : (Value.slice A1 n1 cc1).ownBlock ≠ some Lb := fun e => by have h1 := (ho1b _ e).1; omega
      have hnG : (Value.slice A1 n1 cc1).ownBlock ≠ some g5 := fun e => by have h1 := (ho1w _ e).2; omega
      refine wp_region_cut 10 (by kernel_rfl) (by kernel_rfl) ?_
      simp only [dulled, dull, List.take_succ_cons, List.take_zero, List.drop_succ_cons, List.drop_zero, List.map_cons, List.map_nil, List.cons_append, List.nil_append]
      refine wpAny_of_held (S := fun W => W.cell? ⟨Lb, 0, none⟩ = some (.slice A1 n1 cc1) ∧ W.cell? ⟨g5, 1, none⟩ = some (.string ⟨#[nm]⟩)) _ _ _ _ ?_
      change wpAnyH _ _ _ _ _ 13 _ _ (World.drew wr)
      have hHeld : (fun W => W.cell? ⟨Lb, 0, none⟩ = some (.slice A1 n1 cc1) ∧ W.cell? ⟨g5, 1, none⟩ = some (.string ⟨#[nm]⟩)) (World.drew wr) := ⟨x0, q1⟩
      refine wpAnyH_take (i := 0) (oi := ⟨some _, _, _, _, _, _⟩) (v := ?_) rfl (by kernel_rfl) (by kernel_rfl) (by kernel_rfl) (fun _ _ _ h => h) (Or.inl ⟨by rfl, ?_⟩) (by assumption) ?_
      rotate_left
      · (intro w hSw; (try dsimp only at hSw); go_simp; try with_reducible rfl)
      simp only [Act.put, List.setIfInBounds_toArray, List.set_cons_zero, List.set_cons_succ]
      refine wpAnyH_take (i := 1) (oi := ⟨some _, _, _, _, _, _⟩) (v := ?_) rfl (by kernel_rfl) (by kernel_rfl) (by kernel_rfl) (fun _ _ _ h => h) (Or.inl ⟨by rfl, ?_⟩) (by assumption) ?_
      rotate_left
      · (intro w hSw; (try dsimp only at hSw); go_simp; try with_reducible rfl)
      simp only [Act.put, List.setIfInBounds_toArray, List.set_cons_zero, List.set_cons_succ]
      refine wpAnyH_take (i := 2) (oi := ⟨some _, _, _, _, _, _⟩) (v := ?_) rfl (by kernel_rfl) (by kernel_rfl) (by kernel_rfl) (fun _ _ _ h => h) (Or.inl ⟨by rfl, ?_⟩) (by assumption) ?_
      rotate_left
      · (intro w hSw; (try dsimp only at hSw); go_simp; try with_reducible rfl)
      simp only [Act.put, List.setIfInBounds_toArray, List.set_cons_zero, List.set_cons_succ]
      refine wpAnyH_take (i := 3) (oi := ⟨some _, _, _, _, _, _⟩) (v := ?_) rfl (by kernel_rfl) (by kernel_rfl) (by kernel_rfl) (fun _ _ _ h => h) (Or.inl ⟨by rfl, ?_⟩) (by assumption) ?_
      rotate_left
      · (intro w hSw; (try dsimp only at hSw); go_simp; try with_reducible rfl)
      simp only [Act.put, List.setIfInBounds_toArray, List.set_cons_zero, List.set_cons_succ]
      refine wpAnyH_take (i := 4) (oi := ⟨some _, _, _, _, _, _⟩) (v := ?_) rfl (by kernel_rfl) (by kernel_rfl) (by kernel_rfl) (fun _ _ _ h => h) (Or.inl ⟨by rfl, ?_⟩) (by assumption) ?_
      rotate_left
      · (intro w hSw; (try dsimp only at hSw); go_simp; try with_reducible rfl)
      simp only [Act.put, List.setIfInBounds_toArray, List.set_cons_zero, List.set_cons_succ]
      refine wpAnyH_take (i := 5) (oi := ⟨some _, _, _, _, _, _⟩) (v := ?_) rfl (by kernel_rfl) (by kernel_rfl) (by kernel_rfl) (fun _ _ _ h => h) (Or.inl ⟨by rfl, ?_⟩) (by assumption) ?_
      rotate_left
      · (intro w hSw; (try dsimp only at hSw); go_simp; try with_reducible rfl)
      simp only [Act.put, List.setIfInBounds_toArray, List.set_cons_zero, List.set_cons_succ]
      refine wpAnyH_take (i := 6) (oi := ⟨some _, _, _, _, _, _⟩) (v := ?_) rfl (by kernel_rfl) (by kernel_rfl) (by kernel_rfl) (fun _ _ _ h => h) (Or.inl ⟨by rfl, ?_⟩) (by assumption) ?_
      rotate_left
      · (intro w hSw; (try dsimp only at hSw); go_simp; try with_reducible rfl)
      simp only [Act.put, List.setIfInBounds_toArray, List.set_cons_zero, List.set_cons_succ]
      refine wpAnyH_take (i := 7) (oi := ⟨some _, _, _, _, _, _⟩) (v := ?_) rfl (by kernel_rfl) (by kernel_rfl) (by kernel_rfl) (fun _ _ _ h => h) (Or.inl ⟨by rfl, ?_⟩) (by assumption) ?_
      rotate_left
      · (intro w hSw; (try dsimp only at hSw); go_simp; try with_reducible rfl)
      simp only [Act.put, List.setIfInBounds_toArray, List.set_cons_zero, List.set_cons_succ]
      refine wpAnyH_ready (rs := [8]) (by kernel_rfl) (by simp) ?_
      refine AllReadyH.cons rfl (fun K hK => ?_) AllReadyH.nil
      go_simp
      refine hK.out _ _ ⟨cell_bel hbd x0, cell_bel hbd q1⟩ (fun hHeld => ?_)
      clear hK K
      try simp only [Act.put, List.setIfInBounds_toArray, List.set_cons_zero, List.set_cons_succ]
      refine wpAnyH_ready (rs := [9]) (by kernel_rfl) (by simp) ?_
      refine AllReadyH.cons (o := ⟨some _, _, _, _, _, _⟩) rfl (fun K hK => ?_) AllReadyH.nil
      refine step_append_any (by rfl) _ _ _ (by rfl) (Lb + 1) 9 _ _ 1 16 Tryz.underlying22 HIT.out.1 HIT.out.2.1 HIT.out.2.2.1 HIT.out.2.2.2 rfl (by omega) (.slice A1 n1 cc1) n1 (c1) rfl (HL.out.o1.alloc _) (some ⟨wr.drew.heap.size, 0, none⟩) 1 1 (wr.drew.heap.size + 1) [.string ⟨#[nm]⟩] rfl (fun e => by cases e) (Rd.more (Rd.of_blk (cs := [.string ⟨#[nm]⟩]) (n := 1) (sz := 1) (by repeat (first | (refine Blk.new' _ _ _ _ ?_; first | rfl | (simp <;> omega)) | refine Blk.al ?_ _ | refine Blk.dr ?_ | refine Blk.drN ?_ _ | refine Blk.far ?_ (by first | omega | (simp; omega)))) rfl) (by simp)) ((List.all_eq_true (p := fun (u : Value) => u.oneCell')).1 (by rfl)) (by simp only [maxLen]; omega) (by omega) (by simp; try omega) ?_; intro va wa hoa hga hta; obtain ⟨Aa, ca, rfl, _, _⟩ := own_slice hoa
      have hgg : (wr.drew.alloc (.cells #[.string ⟨#[nm]⟩] 9)).grownBy wa (Value.slice A1 n1 cc1).ownBlock := hga
      refine hK.out _ _ ⟨cell_gr (cell_bel hbd x0) hgg hnL, cell_gr (cell_bel hbd q1) hgg hnG⟩ (fun hHeld => ?_)
      clear hK K
      try simp only [Act.put, List.setIfInBounds_toArray, List.set_cons_zero, List.set_cons_succ]
      refine wpAnyH_ready (rs := [10]) (by kernel_rfl) (by simp) ?_
      refine AllReadyH.cons rfl (fun K hK => ?_) AllReadyH.nil
      go_simp
      refine hK.out _ _ hHeld (fun hHeld => ?_)
      clear hK K
      refine wpAnyH_ready (rs := [11]) (by kernel_rfl) (by simp) ?_
      refine AllReadyH.cons rfl (fun K hK => ?_) AllReadyH.nil
      go_simp
      refine hK.out _ _ hHeld (fun hHeld => ?_)
      clear hK K
      refine wpAnyH_ready (rs := [12]) (by kernel_rfl) (by simp) ?_
      refine AllReadyH.cons rfl (fun K hK => ?_) AllReadyH.nil
      go_simp
      refine hK.out _ _ hHeld (fun hHeld => ?_)
      clear hK K
      refine wpAnyH_done (by kernel_rfl) ?_ _
      simp only [cutQ, List.drop_succ_cons, List.drop_zero]
      obtain ⟨hly, hbl⟩ := HL.out.app1 hgg hoa
      have HLY := Lib.hid hly
      have HBL := Lib.hid hbl
      have y0 : wa.cell? ⟨Lb, 0, none⟩ = some (.slice A1 n1 cc1) := hHeld.1
      have fy0 := (HL.out.x.same ((LyO.key HL.out.x.lt ho1b hgg).1 Lb HL.out.x.lt hnL)).frozen 0
      have yl : Lb < wa.heap.size := Nat.lt_of_lt_of_le xl (LyO.key HL.out.x.lt ho1b hgg).2.2
      clear hHeld hoa hga hta hbd hgg hly hbl x0 xl ho1b ho1w hnL hnG q0 q1 ql
      go_wp2_with fail
      go_ret
      exact ⟨rfl, (HB.out.mono (Nat.le_of_lt hxl)).trans HBL.out, _, HLY.out⟩
end Go.Proofs.YtinjdcefagaaeaaGreatDoor
