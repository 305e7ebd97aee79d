import Derived.Test.YtddkfdfgfkejoaaDly14
import Derived.Test.YtddkfdfgfkejoaaOpenDly
namespace Go.Proofs.Ytddkfdfgfkejoaa
open Go.RowKit

set_option maxRecDepth 100000 in
set_option maxHeartbeats 3200000 in
theorem delayLateness_true (x : SMom) (A : Option Addr) (n c : Nat) (z : List Int) (A2 : Option Addr) (n2 c2 : Nat) (z2 : List Int) (w : World) (hx : Rd w w.heap.size 2 x.A x.n (x.xs.flatMap Mom.cells) ∧ x.n = x.xs.length ∧ x.n ≤ x.c) (hs : x.c * 16 ≤ 140737488351232)
    (h : Rd w w.heap.size 1 A n (z.map (Value.int .i64))) (m : n ≤ c ∧ c ≤ maxLen ∧ c * 8 ≤ 140737488351232) (h2 : Rd w w.heap.size 1 A2 n2 (z2.map (Value.int .i64))) (m2 : n2 ≤ c2 ∧ c2 ≤ maxLen ∧ c2 * 8 ≤ 140737488351232) :
    Calls Try.prog 7 #[.slice x.A x.n x.c, .slice A n c, .slice A2 n2 c2] w fun e w' => e = .returned (.bool true) ∧ Below w.heap.size w w' := by
  obtain ⟨xA, xn, xc, xs⟩ := x
  simp only at hx hs ⊢
  obtain ⟨hx1, rfl, hx3⟩ := hx
  have HX := Lib.hid hx1
  have H := Lib.hid h
  have H2 := Lib.hid h2
  have hn2 : n2 = z2.length := by have := h2.1; simp at this; omega
  subst hn2
  have HN : n ≤ maxLen := by omega
  have HN := Lib.hid HN
  have hs' : xs.length * 16 ≤ 140737488351232 := by omega
  have hs2 : z2.length * 8 ≤ 140737488351232 := by omega
  clear h h2 hx1 m m2 hs hx3
  go_enter Try.func7, Try.ntmps7
  go_wp2_with fail
  refine (mkdelay_any A n c z w H.out HN.out).mono ?_
  rintro e w1 ⟨v6, v7, v8, nn, ms, ws, ps, rfl, hn1, hn6, hok, hb1, hom, how, hop⟩
  obtain ⟨A6, c6, rfl, hc6, hm6⟩ := own_slice hom
  obtain ⟨A7, c7, rfl, hc7, hm7⟩ := own_slice how
  obtain ⟨A8, c8, rfl, hc8, hm8⟩ := own_slice hop
  have hsm := hok.small hn1 hn6
  have HS := Lib.hid hsm
  have HD : Hid (DX w (.slice A6 ms.length c6) (.slice A7 ws.length c7) (.slice A8 ps.length c8) ms ws ps w1) := ⟨hb1, hom, how, hop⟩
  have hl6 := hsm.n6
  have hl1 := hsm.n1
  have hlw := hsm.nw
  have hlp := hsm.np
  clear hsm hok hom how hop hb1 hn1 hn6 H HN
  unfold maxLen at hm6 hm7 hm8
  go_wp2_with fail
  refine (rpropa_any _ _ _ _ _ _ _ _ _ ms ws ps w1 (Rd.of_own HD.out.om) (Rd.of_own HD.out.ow) (Rd.of_own HD.out.op) rfl rfl rfl (by omega) (by omega) (by omega) hc8 (by simp only [maxLen]; omega)).mono ?_
  rintro e w2 ⟨hb2, hcase⟩
  rcases hcase with ⟨hv, vs, vk, base, sec, kept, rfl, hsol, hos, hok⟩ | ⟨hv, rfl⟩
  case inr => exact absurd HS.out.valid hv
  obtain ⟨As, cs, rfl, hcs, hms⟩ := own_slice hos
  obtain ⟨Ak, ck, rfl, hck, hmk⟩ := own_slice hok
  have HR := Lib.hid (And.intro ((Rd.of_own HD.out.om).grow hb2 |>.more hb2.size) (Rd.of_own hos))
  have Hls := Lib.hid hsol.ls
  have Hb2 := Lib.hid (HD.out.bel.trans (hb2.mono HD.out.bel.size))
  clear hv hsol hos hok hb2 HD
  unfold maxLen at hms hmk
  go_wp2_with fail
  refine (late_any _ _ _ _ _ _ ms sec w2 HR.out.1 HR.out.2 rfl Hls.out.symm (by omega) (by rw [Hls.out]; omega)).mono ?_
  rintro e w3 ⟨hb3, hcase⟩
  rcases hcase with ⟨_, v3, rfl, hown3⟩ | ⟨hne, _⟩
  case inr => exact absurd Hls.out hne
  obtain ⟨A3, c3, rfl, hc3, hm3⟩ := own_slice hown3
  have HR3 := Lib.hid (Rd.of_own hown3)
  have Hb3 := Lib.hid hb3
  clear hb3 hown3
  go_wp2_with fail
  refine (rlate_any _ _ _ _ _ _ ms sec w3 ((HR.out.1.grow Hb3.out).more Hb3.out.size) ((HR.out.2.grow Hb3.out).more Hb3.out.size) rfl Hls.out.symm (by omega) (by rw [Hls.out]; omega)).mono ?_
  rintro e w4 ⟨hb4, hcase⟩
  rcases hcase with ⟨_, v4, rfl, hown4⟩ | ⟨hne, _⟩
  case inr => exact absurd Hls.out hne
  obtain ⟨A4, c4, rfl, hc4, hm4⟩ := own_slice hown4
  have HR4 := Lib.hid (And.intro ((HR3.out.grow hb4).more hb4.size) (Rd.of_own hown4))
  have Hb4 := Lib.hid (Hb2.out.trans ((Hb3.out.trans (hb4.mono Hb3.out.size)).mono Hb2.out.size))
  clear hb4 hown4 HR3 Hb3 Hb2 HR
  go_wp2_with fail
  refine (late_any _ _ _ _ _ _ xs z2 w4 ((HX.out.grow Hb4.out).more Hb4.out.size) ((H2.out.grow Hb4.out).more Hb4.out.size) rfl rfl hs' hs2).mono ?_
  rintro e w5 ⟨hb5, hcase⟩
  have HR5 := Lib.hid (And.intro ((HR4.out.1.grow hb5).more hb5.size) ((HR4.out.2.grow hb5).more hb5.size))
  have Hb5 := Lib.hid (Hb4.out.trans (hb5.mono Hb4.out.size))
  have Hll := Lib.hid (lateL_len Hls.out)
  clear hb5 HR4 Hb4
  have hcs2 : (∃ v5, e = .returned (.tuple #[v5, .int .i64 0]) ∧ z2.length = xs.length) ∨ (∃ v5, e = .returned (.tuple #[v5, .int .i64 1]) ∧ z2.length ≠ xs.length) := by
    rcases hcase with ⟨h1, v5, h2, _⟩ | ⟨h1, h2⟩
    · exact .inl ⟨v5, h2, h1⟩
    · exact .inr ⟨_, h2, h1⟩
  clear hcase
  rcases hcs2 with ⟨v5, rfl, hlen⟩ | ⟨v5, rfl, hlen⟩
  · have hl1 : ((xs.length : Int) == (z2.length : Int)) = true := by simp [hlen]
    have hl2 : decide (xs.length = z2.length) = true := by simp [hlen]
    clear hlen
    go_wp2_with (first | (go_at_call 14; refine (awake_any _).mono ?_; rintro e w6 ⟨rfl, hb6⟩) | (go_at_call 19; refine (sameInt_yes _ _ _ _ _ _ (lateL ms sec) _ ((HR5.out.1.grow hb6).more hb6.size) ((HR5.out.2.grow hb6).more hb6.size) Hll.out.symm Hll.out.symm (by rw [Hll.out]; omega)).mono ?_; rintro e w7 ⟨rfl, hb7⟩))
    go_ret
    exact ⟨rfl, Hb5.out.trans ((hb6.trans (hb7.mono hb6.size)).mono Hb5.out.size)⟩
  · have hl1 : ((xs.length : Int) == (z2.length : Int)) = false := by simp; omega
    have hl2 : decide (xs.length = z2.length) = false := by simp; omega
    clear hlen
    go_wp2_with (first | (go_at_call 14; refine (awake_any _).mono ?_; rintro e w6 ⟨rfl, hb6⟩) | (go_at_call 19; refine (sameInt_yes _ _ _ _ _ _ (lateL ms sec) _ ((HR5.out.1.grow hb6).more hb6.size) ((HR5.out.2.grow hb6).more hb6.size) Hll.out.symm Hll.out.symm (by rw [Hll.out]; omega)).mono ?_; rintro e w7 ⟨rfl, hb7⟩))
    go_ret
    exact ⟨rfl, Hb5.out.trans ((hb6.trans (hb7.mono hb6.size)).mono Hb5.out.size)⟩
end Go.Proofs.Ytddkfdfgfkejoaa
