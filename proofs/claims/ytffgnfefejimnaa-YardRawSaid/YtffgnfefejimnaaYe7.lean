import Derived.Test.YtffgnfefejimnaaYe5
import Derived.Test.YtffgnfefejimnaaOpenYd
namespace Go.Proofs.Ytffgnfefejimnaa
open Go.RowKit
theorem repl_len' {T : List Tk} : ∀ {M : List Mv} {P : List Int} {s : Yst} {l : List Nat}, replY T M P s = some l → l.length = M.length
  | [], _, _, l, h => by simp [replY] at h; subst h; rfl
  | m :: ms, [], _, l, h => by simp [replY] at h
  | m :: ms, p :: ps, s, l, h => by
    rw [replY_cons] at h
    split at h
    · cases ha : actY T m p.toNat s with
      | none => rw [ha] at h; simp at h
      | some q =>
        obtain ⟨u, s'⟩ := q
        rw [ha] at h
        simp only [Option.map_eq_some_iff] at h
        obtain ⟨l', h1, rfl⟩ := h
        simp [repl_len' h1]
    · cases h
theorem replF_len24 {T : List Tk} {M : List Mv} {P : List Int} : (replF T M P).1.length ≤ 24 := by
  unfold replF
  split
  · rename_i hc
    have := (chkY_iff.1 hc.1).1
    cases h : replY T M P (begY T) with
    | none => simp
    | some l => simp [repl_len' h]; omega
  · simp
theorem planF_len24 {T : List Tk} {M : List Mv} {b : Int} : (planF T M b).1.length ≤ 24 := by
  by_cases hc : chkY T M = true
  · exact plan_len (chkY_iff.1 hc).1.2.2
  · unfold planF; rw [if_neg hc]; simp
set_option maxRecDepth 100000 in
set_option maxHeartbeats 3200000 in
theorem ylraw_true (x0 : STk) (x1 : SMv) (A2 : Option Addr) (n2 c2 : Nat) (z2 : List Int) (a3 : Int) (w : World) (h0 : Rd w w.heap.size 2 x0.A x0.n (x0.xs.flatMap Tk.cells) ∧ x0.n = x0.xs.length ∧ x0.n ≤ x0.c) (s0 : x0.c * 16 ≤ 140737488351232) (h1 : Rd w w.heap.size 3 x1.A x1.n (x1.xs.flatMap Mv.cells) ∧ x1.n = x1.xs.length ∧ x1.n ≤ x1.c) (s1 : x1.c * 24 ≤ 140737488351232) (h2 : Rd w w.heap.size 1 A2 n2 (z2.map (Value.int .i64))) (m2 : n2 ≤ c2 ∧ c2 ≤ maxLen ∧ c2 * 8 ≤ 140737488351232) (_w3 : (Lit.int .i64 a3).wf = true) :
    Calls Try.prog 10 #[.slice x0.A x0.n x0.c, .slice x1.A x1.n x1.c, .slice A2 n2 c2, .int .i64 a3] w fun e w' => e = .returned (.bool true) ∧ Below w.heap.size w w' := by
  obtain ⟨A, n, cA, T⟩ := x0
  obtain ⟨B, m, cB, M⟩ := x1
  simp only at h0 s0 h1 s1 ⊢
  obtain ⟨hr0, rfl, hc0⟩ := h0
  obtain ⟨hr1, rfl, hc1⟩ := h1
  have hz2 : z2.length = n2 := by have := h2.1; simpa using this
  have hzn : z2.length ≤ 4611686018427387904 := by omega
  subst hz2
  have HT0 := Lib.hid (show TRd w A T from ⟨hr0, by omega⟩)
  have HM0 := Lib.hid (show MRd w B M from ⟨hr1, by omega⟩)
  have HP0 := Lib.hid h2
  clear hr0 hr1 h2 s0 s1 m2 _w3 hc0
  obtain ⟨⟨la, oka⟩, hra⟩ : ∃ r, replF T M z2 = r := ⟨_, rfl⟩
  have hal : la.length ≤ 24 := by have := replF_len24 (T := T) (M := M) (P := z2); rw [hra] at this; exact this
  have HRa := Lib.hid hra
  clear hra
  go_enter Try.func10, Try.ntmps10
  go_wp2_with fail
  refine (replay_at' HRa.out HT0.out HM0.out HP0.out hzn rfl rfl rfl).mono ?_
  rintro e w1 ⟨Aa, ca, rfl, hb1, ho1⟩
  have HB1 := Lib.hid hb1
  have HT1 := Lib.hid (HT0.out.grow hb1)
  have HM1 := Lib.hid (HM0.out.grow hb1)
  have HP1 := Lib.hid ((HP0.out.grow hb1).more hb1.size)
  have HX1 := Lib.hid ho1
  have hs1 := hb1.size
  clear hb1 ho1 HT0 HM0 HP0
  go_wp2_with fail
  refine (rreplay_at' HRa.out HT1.out HM1.out HP1.out hzn rfl rfl rfl).mono ?_
  rintro e w2 ⟨Ab, cb, rfl, hb2, ho2⟩
  have HB2 := Lib.hid (HB1.out.trans (hb2.mono hs1))
  have HT2 := Lib.hid (HT1.out.grow hb2)
  have HM2 := Lib.hid (HM1.out.grow hb2)
  have HX2 := Lib.hid ((HX1.out.grow hb2).more hb2.size)
  have HY2 := Lib.hid ho2
  have hs2 := HB2.out.size
  clear hb2 ho2 HB1 HT1 HM1 HP1 HX1 hs1
  obtain ⟨⟨l1, u1, r1⟩, hp1⟩ : ∃ r, planF T M (a3.tmod 300) = r := ⟨_, rfl⟩
  have HP1 := Lib.hid hp1
  have hl1 : l1.length ≤ 24 := by have := planF_len24 (T := T) (M := M) (b := a3.tmod 300); rw [hp1] at this; exact this
  obtain ⟨⟨ks, rs⟩, hst⟩ : ∃ r, stuckF T M (a3.tmod 300) = r := ⟨_, rfl⟩
  have HSt := Lib.hid hst
  clear hp1 hst
  go_wp2_with fail
  refine (plan_at HP1.out HT2.out HM2.out rfl rfl).mono ?_
  rintro e w3 ⟨A3, c3, rfl, hb3, ho3, _⟩
  have HB3 := Lib.hid (HB2.out.trans (hb3.mono hs2))
  have HT3 := Lib.hid (HT2.out.grow hb3)
  have HM3 := Lib.hid (HM2.out.grow hb3)
  have HX3 := Lib.hid ((HX2.out.grow hb3).more hb3.size)
  have HY3 := Lib.hid ((HY2.out.grow hb3).more hb3.size)
  have HU3 := Lib.hid ho3
  have hs3 := HB3.out.size
  clear hb3 ho3 HB2 HT2 HM2 HX2 HY2 hs2
  go_wp2_with fail
  refine (rplan_at HP1.out HT3.out HM3.out rfl rfl).mono ?_
  rintro e w4 ⟨A4, c4, rfl, hb4, ho4, _⟩
  have HB4 := Lib.hid (HB3.out.trans (hb4.mono hs3))
  have HT4 := Lib.hid (HT3.out.grow hb4)
  have HM4 := Lib.hid (HM3.out.grow hb4)
  have HX4 := Lib.hid ((HX3.out.grow hb4).more hb4.size)
  have HY4 := Lib.hid ((HY3.out.grow hb4).more hb4.size)
  have HU4 := Lib.hid ((HU3.out.grow hb4).more hb4.size)
  have HV4 := Lib.hid ho4
  have hs4 := HB4.out.size
  clear hb4 ho4 HB3 HT3 HM3 HX3 HY3 HU3 hs3
  go_wp2_with fail
  refine (stuck_at HSt.out HT4.out HM4.out hc1 rfl rfl).mono ?_
  rintro e w5 ⟨rfl, hb5⟩
  have HB5 := Lib.hid (HB4.out.trans (hb5.mono hs4))
  have HT5 := Lib.hid (HT4.out.grow hb5)
  have HM5 := Lib.hid (HM4.out.grow hb5)
  have HX5 := Lib.hid ((HX4.out.grow hb5).more hb5.size)
  have HY5 := Lib.hid ((HY4.out.grow hb5).more hb5.size)
  have HU5 := Lib.hid ((HU4.out.grow hb5).more hb5.size)
  have HV5 := Lib.hid ((HV4.out.grow hb5).more hb5.size)
  have hs5 := HB5.out.size
  clear hb5 HB4 HT4 HM4 HX4 HY4 HU4 HV4 hs4
  go_wp2_with fail
  refine (rstuck_at HSt.out HT5.out HM5.out hc1 rfl rfl).mono ?_
  rintro e w6 ⟨rfl, hb6⟩
  have HB6 := Lib.hid (HB5.out.trans (hb6.mono hs5))
  have HT6 := Lib.hid (HT5.out.grow hb6)
  have HM6 := Lib.hid (HM5.out.grow hb6)
  have HX6 := Lib.hid ((HX5.out.grow hb6).more hb6.size)
  have HY6 := Lib.hid ((HY5.out.grow hb6).more hb6.size)
  have HU6 := Lib.hid ((HU5.out.grow hb6).more hb6.size)
  have HV6 := Lib.hid ((HV5.out.grow hb6).more hb6.size)
  have hs6 := HB6.out.size
  clear hb6 HB5 HT5 HM5 HX5 HY5 HU5 HV5 hs5
  go_wp2_with fail
  refine (awake_any w6).mono ?_
  rintro e w7 ⟨rfl, hb7⟩
  have HB7 := Lib.hid (HB6.out.trans (hb7.mono hs6))
  have HT7 := Lib.hid (HT6.out.grow hb7)
  have HM7 := Lib.hid (HM6.out.grow hb7)
  have HX7 := Lib.hid ((HX6.out.grow hb7).more hb7.size)
  have HY7 := Lib.hid ((HY6.out.grow hb7).more hb7.size)
  have HU7 := Lib.hid ((HU6.out.grow hb7).more hb7.size)
  have HV7 := Lib.hid ((HV6.out.grow hb7).more hb7.size)
  have hs7 := HB7.out.size
  clear hb7 HB6 HT6 HM6 HX6 HY6 HU6 HV6 hs6
  go_wp2_with fail
  refine (check_any A B cA cB T M w7 HT7.out HM7.out).mono ?_
  rintro e w8 ⟨rfl, hb8⟩
  have HB8 := Lib.hid (HB7.out.trans (hb8.mono hs7))
  have HT8 := Lib.hid (HT7.out.grow hb8)
  have HM8 := Lib.hid (HM7.out.grow hb8)
  have HX8 := Lib.hid ((HX7.out.grow hb8).more hb8.size)
  have HY8 := Lib.hid ((HY7.out.grow hb8).more hb8.size)
  have HU8 := Lib.hid ((HU7.out.grow hb8).more hb8.size)
  have HV8 := Lib.hid ((HV7.out.grow hb8).more hb8.size)
  have hs8 := HB8.out.size
  clear hb8 HB7 HT7 HM7 HX7 HY7 HU7 HV7 hs7
  go_wp2_with fail
  refine (rcheck_any A B cA cB T M w8 HT8.out HM8.out).mono ?_
  rintro e w9 ⟨rfl, hb9⟩
  have HB9 := Lib.hid (HB8.out.trans (hb9.mono hs8))
  have HT9 := Lib.hid (HT8.out.grow hb9)
  have HM9 := Lib.hid (HM8.out.grow hb9)
  have HX9 := Lib.hid ((HX8.out.grow hb9).more hb9.size)
  have HY9 := Lib.hid ((HY8.out.grow hb9).more hb9.size)
  have HU9 := Lib.hid ((HU8.out.grow hb9).more hb9.size)
  have HV9 := Lib.hid ((HV8.out.grow hb9).more hb9.size)
  have hs9 := HB9.out.size
  clear hb9 HB8 HT8 HM8 HX8 HY8 HU8 HV8 hs8
  go_wp2_with fail
  refine (sameN Aa Ab ca cb la w9 HX9.out HY9.out (by omega)).mono ?_
  rintro e w10 ⟨rfl, hb10⟩
  have HB10 := Lib.hid (HB9.out.trans (hb10.mono hs9))
  have HT10 := Lib.hid (HT9.out.grow hb10)
  have HM10 := Lib.hid (HM9.out.grow hb10)
  have HX10 := Lib.hid ((HX9.out.grow hb10).more hb10.size)
  have HY10 := Lib.hid ((HY9.out.grow hb10).more hb10.size)
  have HU10 := Lib.hid ((HU9.out.grow hb10).more hb10.size)
  have HV10 := Lib.hid ((HV9.out.grow hb10).more hb10.size)
  have hs10 := HB10.out.size
  clear hb10 HB9 HT9 HM9 HX9 HY9 HU9 HV9 hs9
  go_wp2_with fail
  refine (sameN A3 A4 c3 c4 l1 w10 HU10.out HV10.out (by omega)).mono ?_
  rintro e w11 ⟨rfl, hb11⟩
  have HB11 := Lib.hid (HB10.out.trans (hb11.mono hs10))
  clear hb11
  go_wp2_with fail
  go_ret
  exact ⟨by simp, HB11.out⟩
end Go.Proofs.Ytffgnfefejimnaa
