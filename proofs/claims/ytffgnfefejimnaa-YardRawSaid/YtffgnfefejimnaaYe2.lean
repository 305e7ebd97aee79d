import Derived.Test.YtffgnfefejimnaaYd11
import Derived.Test.YtffgnfefejimnaaYg1
import Derived.Test.YtffgnfefejimnaaYdLaw
namespace Go.Proofs.Ytffgnfefejimnaa
open Go.RowKit
theorem pickB {v n : Int} {i : Nat} (w : World) (h1 : 1 ≤ n) (h2 : n ≤ 1000000000) (hi : pick v n = i) : Calls Try.prog 13 #[.int .i64 v, .int .i64 n] w fun e w' => e = .returned (.int .i64 i) ∧ Below w.heap.size w w' :=
  (pick_any v n w h1 h2).mono fun e w' h => by
    obtain ⟨rfl, rfl⟩ := h
    rw [hi]
    exact ⟨rfl, Below.refl _ _⟩
theorem pick_nat (v : Int) {n : Int} (h1 : 1 ≤ n) (h2 : n ≤ 1000000000) : ∃ i : Nat, pick v n = i ∧ (i : Int) < n := by
  have h := nextV_bd (v :: []) n h1 h2
  have e : nextV (v :: []) n = pick v n := rfl
  rw [e] at h
  exact ⟨(pick v n).toNat, by omega, by omega⟩
theorem tk_set (T : List Tk) (i : Nat) (x : Int) (hi : i < T.length) : (T.flatMap Tk.cells).set (i * 2) (.int .i64 x) = (T.set i ⟨x, T[i].thr⟩).flatMap Tk.cells := by
  induction T generalizing i with
  | nil => simp at hi
  | cons t T ih =>
    cases i with
    | zero => simp [Tk.cells]
    | succ i =>
      simp only [List.length_cons] at hi
      have := ih i (by omega)
      rw [show (i + 1) * 2 = i * 2 + 1 + 1 by omega]
      simp [Tk.cells]
      simpa [Tk.cells] using this
theorem chk_of {T : List Tk} {M : List Mv} (h1 : 1 ≤ T.length) (h2 : T.length ≤ 8) (hT : ∀ t ∈ T, 0 ≤ t.ln ∧ t.ln ≤ 100) (h3 : M.length ≤ 24) (hM : ∀ m ∈ M, YgM m) : chkY T M = true :=
  chkY_iff.2 ⟨⟨h1, h2, h3⟩, fun t ht => by have := hT t ht; simp [tkOk]; omega, fun m hm => (hM m hm).1⟩
theorem trd {w : World} {A : Option Addr} {T : List Tk} (h : Rd w w.heap.size 2 A T.length (T.flatMap Tk.cells)) (hn : T.length ≤ 100) : TRd w A T := ⟨h, by omega⟩
theorem mrd {w : World} {A : Option Addr} {M : List Mv} (h : Rd w w.heap.size 3 A M.length (M.flatMap Mv.cells)) (hn : M.length ≤ 100) : MRd w A M := ⟨h, by omega⟩

set_option maxRecDepth 100000 in
set_option maxHeartbeats 3200000 in
theorem longer_true (A0 : Option Addr) (n0 c0 : Nat) (z0 : List Int) (a1 a2 a3 a4 : Int) (w : World) (h0 : Rd w w.heap.size 1 A0 n0 (z0.map (Value.int .i64))) (m0 : n0 ≤ c0 ∧ c0 ≤ maxLen ∧ c0 * 8 ≤ 140737488351232) (_w1 : (Lit.int .i64 a1).wf = true) (_w2 : (Lit.int .i64 a2).wf = true) (_w3 : (Lit.int .i64 a3).wf = true) (_w4 : (Lit.int .i64 a4).wf = true) :
    Calls Try.prog 7 #[.slice A0 n0 c0, .int .i64 a1, .int .i64 a2, .int .i64 a3, .int .i64 a4] w fun e w' => e = .returned (.bool true) ∧ Below w.heap.size w w' := by
  have H0 := Lib.hid h0
  have hm0 : n0 ≤ maxLen := by omega
  have M0 := Lib.hid hm0
  clear h0 m0 hm0 _w1 _w2 _w3 _w4
  obtain ⟨iT, b1, b2, b3, b4⟩ := info_parts infoTk
  have HIT := Lib.hid (And.intro b1 (And.intro b2 (And.intro b3 b4)))
  clear b1 b2 b3 b4
  go_enter Try.func7, Try.ntmps7
  go_wp2_with fail
  refine (yard_any A0 n0 c0 z0 w H0.out M0.out).mono ?_
  rintro e w1 ⟨A, B, cA, cB, T, M, rfl, h1, h3, h7, hT, hM, hoT, hoM, hb1⟩
  have HTr := Lib.hid (Rd.of_own hoT)
  have HMr := Lib.hid hoM
  have HT := Lib.hid hT
  have HMv := Lib.hid hM
  have HB1 := Lib.hid hb1
  have HNoT := Lib.hid (show A = none → T.length = 0 ∧ cA = 0 from fun e => by subst e; exact own_nil hoT)
  clear hT hM hoT hoM hb1
  have HCk := Lib.hid (chk_of h1 (by omega) (fun t ht => by have := HT.out t ht; unfold YgT at this; omega) (by omega) HMv.out)
  go_wp2_with fail
  obtain ⟨⟨l1, u1, r1⟩, hp1⟩ : ∃ r, planF T M 1048576 = r := ⟨_, rfl⟩
  have hf1 := plan_full HCk.out (by omega) h7
  rw [hp1] at hf1
  simp only at hf1
  refine (plan_at hp1 (trd HTr.out (by omega)) (mrd (Rd.of_own HMr.out) (by omega)) rfl rfl).mono ?_
  rintro e w2 ⟨A2, c2, rfl, hb2, _, _⟩
  have HB2 := Lib.hid (HB1.out.trans (hb2.mono HB1.out.size))
  have HTr2 := Lib.hid ((HTr.out.grow hb2).more hb2.size)
  have HMr2 := Lib.hid (own_grow HMr.out hb2)
  clear hb2 hp1
  rcases hf1 with ⟨rfl, hfe⟩ | ⟨rfl, _⟩
  case inr =>
    go_wp2_with fail
    refine (awake_any w2).mono ?_
    rintro e w3 ⟨rfl, hb3⟩
    have HB3 := Lib.hid (HB2.out.trans (hb3.mono HB2.out.size))
    clear hb3
    go_wp2_with fail
    go_ret
    exact ⟨rfl, HB3.out⟩
  have HFe := Lib.hid hfe
  clear hfe
  go_upto_region 6 with (at_builtin; refine wpList_append_any rfl _ _ 23 rfl w.heap.size 43 iT _ 2 16 Try.underlying23 HIT.out.1 HIT.out.2.1 HIT.out.2.2.1 HIT.out.2.2.2 rfl (by omega) (.slice none 0 0) 0 [] rfl (World.ownsRow_nil _ _ _ _) A T.length cA w2.heap.size (T.flatMap Tk.cells) rfl HNoT.out HTr2.out (by intro u hu; obtain ⟨x, _, hx⟩ := List.mem_flatMap.1 hu; simp [Tk.cells] at hx; rcases hx with rfl | rfl <;> rfl) (by simp only [maxLen]; omega) (by omega) HB2.out.size ?_; intro v3 w3 ho3 hg3 _)
  rw [Nat.zero_add, List.nil_append] at ho3
  have hb3 : Below w2.heap.size w2 w3 := (Below.refl _ _).grown hg3 (Nat.le_refl _) (fun k hk => by cases hk)
  obtain ⟨g, c3, rfl, hgb, hgl⟩ := ho3.form (by omega)
  have HB3 := Lib.hid (HB2.out.trans (hb3.mono HB2.out.size))
  have HMr3 := Lib.hid (own_grow HMr2.out hb3)
  have HO3 := Lib.hid ho3
  obtain ⟨i, hi, hil⟩ := pick_nat a1 (n := (T.length : Int)) (by omega) (by omega)
  obtain ⟨d, hd, hdl⟩ := pick_nat a2 (n := 50) (by omega) (by omega)
  have hiT : i < T.length := by omega
  have x0 := ho3.cellAt (i * 2 + 0) (by omega)
  rw [flat_get Tk.cells 2 (fun _ => rfl) T i hiT 0 (by omega)] at x0
  have f0 := own_frozen ho3 (i * 2 + 0)
  simp only [Tk.cells, List.getElem?_cons_zero, Nat.add_zero] at x0 f0
  have HTi := Lib.hid (HT.out T[i] (List.getElem_mem hiT))
  have hti := HTi.out
  unfold YgT at hti
  obtain ⟨hti0, hti1⟩ := hti
  have HSt := Lib.hid (tk_set T i (T[i].ln + d) hiT)
  have HLg := Lib.hid (lng_set hiT (x := T[i].ln + d) (by omega))
  have HPi := Lib.hid hi
  have HPd := Lib.hid hd
  clear ho3 hg3 hb3 hi hd
  have HLn := Lib.hid (show ∃ y, y = T[i].ln from ⟨_, rfl⟩)
  generalize hln : T[i].ln = ln at *
  have Hln := Lib.hid hln
  clear hln HLn
  refine wp_region_overT 11 (by kernel_rfl) (by kernel_rfl) ?_
  simp only [List.take_succ_cons, List.take_zero, List.drop_succ_cons, List.drop_zero]
  repeat (go_big_quiet_step ((first | (go_at_call 13; exact callsOver (pickB _ (by omega) (by omega) HPi.out)) | (go_at_call 13; exact callsOver (pickB _ (by omega) (by omega) HPd.out)))))
  refine wpQuiet_nil ?_
  intro w4 hb4
  have HB4 := Lib.hid (HB3.out.trans (hb4.mono HB3.out.size))
  have HMr4 := Lib.hid (own_grow HMr3.out hb4)
  have HO4 := Lib.hid (own_grow HO3.out hb4)
  clear hb4 x0 f0 HB3 HMr3 HO3 hgl
  have hgl := (own_block HO4.out g rfl).2
  have x0 := HO4.out.cellAt (i * 2 + 0) (by omega)
  rw [flat_get Tk.cells 2 (fun _ => rfl) T i hiT 0 (by omega)] at x0
  have f0 := own_frozen HO4.out (i * 2 + 0)
  simp only [Tk.cells, List.getElem?_cons_zero, Nat.add_zero] at x0 f0
  go_upto_region 7 with fail
  have hst := (HO4.out.stored (i * 2) (.int .i64 (ln + d))).1
  rw [HSt.out] at hst
  have HB5 := Lib.hid (HB4.out.setCell (show w.heap.size ≤ (⟨g, i * 2, none⟩ : Addr).block from hgb) (.int .i64 (ln + d)))
  have HMr5 := Lib.hid (own_far (p := ⟨g, i * 2, none⟩) (u := .int .i64 (ln + d)) HMr4.out (by
    rcases own_apart HMr4.out HO4.out (by decide) with h | h
    · rw [h]; simp
    · exact h))
  have HO5 := Lib.hid hst
  clear hst x0 f0 hgl HO4 HMr4 HB4
  generalize w4.setCell ⟨g, i * 2, none⟩ (.int .i64 (ln + d)) = w5 at *
  have HT2 := Lib.hid (show ∀ t ∈ T.set i ⟨ln + d, T[i].thr⟩, 0 ≤ t.ln ∧ t.ln ≤ 100 from fun t ht => by
    rcases List.mem_or_eq_of_mem_set ht with ht | rfl
    · have := HT.out t ht; unfold YgT at this; omega
    · simp only; omega)
  have hl2 : (T.set i ⟨ln + d, T[i].thr⟩).length = T.length := by simp
  generalize T.set i ⟨ln + d, T[i].thr⟩ = T2 at *
  have HCk2 := Lib.hid (chk_of (M := M) (T := T2) (by omega) (by omega) HT2.out (by omega) HMv.out)
  obtain ⟨⟨l5, u5, r5⟩, hp5⟩ : ∃ r, planF T2 M 1048576 = r := ⟨_, rfl⟩
  have hf5 := plan_full HCk2.out (by omega) h7
  rw [hp5] at hf5
  simp only at hf5
  obtain rfl : r5 = 0 := by
    rcases hf5 with ⟨h, _⟩ | ⟨_, h⟩
    · exact h
    · exact absurd (feas_long HLg.out HFe.out) h
  clear hf5
  go_wp2_with fail
  refine (plan_at hp5 (trd (by rw [hl2]; exact Rd.of_own HO5.out) (by omega)) (mrd (Rd.of_own HMr5.out) (by omega)) hl2 rfl).mono ?_
  rintro e w6 ⟨A6, c6, rfl, hb6, _, _⟩
  have HB6 := Lib.hid (HB5.out.trans (hb6.mono HB5.out.size))
  have HMr6 := Lib.hid (own_grow HMr5.out hb6)
  have HO6 := Lib.hid (own_grow HO5.out hb6)
  clear hb6 hp5 HB5 HMr5 HO5
  obtain ⟨p, hp, hpl⟩ := pick_nat a3 (n := 40) (by omega) (by omega)
  have hp40 := pickB (w := w6) (v := a3) (by omega) (by omega) hp
  obtain ⟨q, hq, hql⟩ := pick_nat a4 (n := 2) (by omega) (by omega)
  have HP40 := Lib.hid hp40
  have HQ := Lib.hid hq
  clear hp40 hp hq
  go_wp2_with fail
  refine HP40.out.mono ?_
  rintro e w7 ⟨rfl, hb7⟩
  have HB7 := Lib.hid (HB6.out.trans (hb7.mono HB6.out.size))
  have HMr7 := Lib.hid (own_grow HMr6.out hb7)
  have HO7 := Lib.hid (own_grow HO6.out hb7)
  clear hb7 HB6 HMr6 HO6 HP40
  go_wp2_with fail
  refine (pickB (w := w7) (v := a4) (by omega) (by omega) HQ.out).mono ?_
  rintro e w8 ⟨rfl, hb8⟩
  have HB8 := Lib.hid (HB7.out.trans (hb8.mono HB7.out.size))
  have HMr8 := Lib.hid (own_grow HMr7.out hb8)
  have HO8 := Lib.hid (own_grow HO7.out hb8)
  clear hb8 HB7 HMr7 HO7
  generalize hz : ((q : Int) == 0) = zb at *
  have hbb : Below w8.heap.size w8 (w8.alloc (.cells #[.int .i64 p, .bool zb] 43)) := (Below.alloc (Below.refl _ _) (Nat.le_refl _) _)
  have HO9 := Lib.hid (own_grow HO8.out hbb)
  have HB9 := Lib.hid (HB8.out.trans (hbb.mono HB8.out.size))
  have hs8 := HB8.out.size
  go_upto_region 9 with (at_builtin; refine wpList_append_any rfl _ _ 23 rfl w.heap.size 43 iT _ 2 16 Try.underlying23 HIT.out.1 HIT.out.2.1 HIT.out.2.2.1 HIT.out.2.2.2 rfl (by omega) _ T.length _ rfl HO9.out (some ⟨w8.heap.size, 0, none⟩) 1 1 (w8.alloc (.cells #[.int .i64 p, .bool zb] 43)).heap.size [.int .i64 p, .bool zb] rfl (fun e => by cases e) (Rd.blk1 (Blk.new w8 43 _) rfl) (by intro u hu; simp at hu; rcases hu with rfl | rfl <;> rfl) (by simp only [maxLen]; omega) (by omega) (by simp; omega) ?_; intro va wa hoa hga _)
  have HMra := Lib.hid ((own_grow HMr8.out hbb).kept hga (own_apart (own_grow HMr8.out hbb) HO9.out (by decide)))
  have HBa := Lib.hid (HB9.out.grown hga HB9.out.size (fun k e => (own_block HO9.out k e).1))
  have hl3 : (T2 ++ [(⟨(p : Int), zb⟩ : Tk)]).length = T.length + 1 := by simp [hl2]
  have HOa := Lib.hid (show wa.ownsRow w.heap.size 43 2 va (T2 ++ [(⟨(p : Int), zb⟩ : Tk)]).length ((T2 ++ [(⟨(p : Int), zb⟩ : Tk)]).flatMap Tk.cells) by rw [hl3, tk_snoc]; exact hoa)
  obtain ⟨Aa, ca, rfl, _, _⟩ := own_slice hoa
  clear hoa hga hbb HO9 HB9 HMr8 HO8 HB8 hs8
  have HT3 := Lib.hid (show ∀ t ∈ T2 ++ [(⟨(p : Int), zb⟩ : Tk)], 0 ≤ t.ln ∧ t.ln ≤ 100 from fun t ht => by
    rcases List.mem_append.1 ht with ht | ht
    · exact HT2.out t ht
    · simp at ht; subst ht; simp only; omega)
  have HLg3 := Lib.hid (HLg.out.trans (lng_snoc T2 ⟨(p : Int), zb⟩))
  generalize T2 ++ [(⟨(p : Int), zb⟩ : Tk)] = T3 at *
  have HCk3 := Lib.hid (chk_of (M := M) (T := T3) (by omega) (by omega) HT3.out (by omega) HMv.out)
  obtain ⟨⟨l9, u9, r9⟩, hp9⟩ : ∃ r, planF T3 M 1048576 = r := ⟨_, rfl⟩
  have hf9 := plan_full HCk3.out (by omega) h7
  rw [hp9] at hf9
  simp only at hf9
  obtain rfl : r9 = 0 := by
    rcases hf9 with ⟨h, _⟩ | ⟨_, h⟩
    · exact h
    · exact absurd (feas_long HLg3.out HFe.out) h
  clear hf9
  go_wp2_with fail
  refine (plan_at hp9 (trd (Rd.of_own (by rw [hl3]; have h := HOa.out; rw [hl3] at h; exact h)) (by omega)) (mrd (Rd.of_own HMra.out) (by omega)) hl3 rfl).mono ?_
  rintro e wb ⟨Ab, cb, rfl, hbb, _, _⟩
  have HBb := Lib.hid (HBa.out.trans (hbb.mono HBa.out.size))
  clear hbb hp9
  go_wp2_with fail
  refine (awake_any wb).mono ?_
  rintro e wc ⟨rfl, hbc⟩
  have HBc := Lib.hid (HBb.out.trans (hbc.mono HBb.out.size))
  clear hbc
  go_wp2_with fail
  go_ret
  exact ⟨rfl, HBc.out⟩
end Go.Proofs.Ytffgnfefejimnaa
