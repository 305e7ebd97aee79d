import Derived.Test.YtffgnfefejimnaaYd8
namespace Go.Proofs.Ytffgnfefejimnaa
open Go.RowKit
theorem mv_take (r : List Mv) (p : Nat) : (r.flatMap Mv.cells).take (p * 3) = (r.take p).flatMap Mv.cells := by
  induction r generalizing p with
  | nil => simp
  | cons u r ih =>
    cases p with
    | zero => simp
    | succ p => simp [Mv.cells, show (p + 1) * 3 = p * 3 + 1 + 1 + 1 by omega, ih]
theorem MRd.take {w : World} {A : Option Addr} {M : List Mv} (h : MRd w A M) {k : Nat} (hk : k ≤ M.length) : MRd w A (M.take k) := by
  have hl : (M.take k).length = k := by simp; omega
  refine ⟨⟨?_, fun h0 => ?_⟩, by rw [hl]; have := h.n; omega⟩
  · rw [← mv_take, List.length_take, h.r.1, hl, Nat.min_eq_left (Nat.mul_le_mul_right _ hk)]
  · rw [hl] at h0
    obtain ⟨b, off, e1, hb, hc⟩ := h.r.2 (by omega)
    refine ⟨b, off, e1, hb, fun j u hu => hc j u ?_⟩
    rw [← mv_take, List.getElem?_take] at hu
    split at hu
    · exact hu
    · cases hu
def StL (T : List Tk) (M : List Mv) (b : Int) (w : World) (k : Nat) (v : Value) (wr : World) : Prop :=
  ∃ j : Nat, v = .int .i64 j ∧ 1 ≤ j ∧ j + k = M.length + 1 ∧ Below w.heap.size w wr ∧ stuckG T M b M.length 1 = stuckG T M b k j

set_option maxRecDepth 100000 in
set_option maxHeartbeats 3200000 in
theorem stuck_any (AT AM : Option Addr) (cT cM : Nat) (T : List Tk) (M : List Mv) (b : Int) (w : World) (hT : TRd w AT T) (hM : MRd w AM M) (hc : M.length ≤ cM) :
    Calls Try.prog 23 #[.slice AT T.length cT, .slice AM M.length cM, .int .i64 b] w fun e w' => e = .returned (.tuple #[.int .i64 (stuckF T M b).1, .int .i64 (stuckF T M b).2]) ∧ Below w.heap.size w w' := by
  have HT := Lib.hid hT
  have HM := Lib.hid hM
  clear hT hM
  go_enter Try.func23, Try.ntmps23
  go_wp2_with fail
  refine (check_any AT AM cT cM T M w HT.out HM.out).mono ?_
  rintro e w1 ⟨rfl, hb1⟩
  have HB1 := Lib.hid hb1
  clear hb1
  by_cases hck : chkY T M = true
  case neg =>
    have hp : stuckF T M b = (0, 1) := by unfold stuckF; rw [if_neg hck]
    have hck' : chkY T M = false := by simpa using hck
    rw [hck']
    go_wp2_with fail
    go_ret2
    rw [hp]
    exact ⟨rfl, HB1.out⟩
  obtain ⟨⟨h1, h8, h24⟩, _, _⟩ := chkY_iff.1 hck
  by_cases hbud : 1 ≤ b ∧ b ≤ 1048576
  case neg =>
    have hp : stuckF T M b = (0, 4) := by unfold stuckF; rw [if_pos hck, if_neg hbud]
    rw [hck]
    by_cases hlo : b < 1
    all_goals
      go_wp2_with fail
      go_ret2
      rw [hp]
      exact ⟨rfl, by have hbb := HB1.out; exact hbb⟩
  obtain ⟨hb0, hbm⟩ := hbud
  have HP := Lib.hid (show stuckF T M b = stuckG T M b M.length 1 by unfold stuckF; rw [if_pos hck, if_pos ⟨hb0, hbm⟩])
  rw [hck]
  clear hck
  go_wp2_with fail
  go_loopg [8] M.length (fun k v wr => StL T M b w k v wr)
  case atStart => exact ⟨1, rfl, by omega, by omega, HB1.out, rfl⟩
  case round =>
    clear HB1
    obtain ⟨k, rfl, hk1, hk, hb, hs⟩ := hrel
    have Hk := Lib.hid hk
    have HB := Lib.hid hb
    have HS := Lib.hid hs
    clear hk hb hs
    by_cases hlt : k ≤ M.length
    · obtain ⟨ab, ao, hA⟩ : ∃ ab ao, AM = some ⟨ab, ao, none⟩ := by
        obtain ⟨x, y, e, _⟩ := HM.out.r.2 (by omega)
        exact ⟨x, y, e⟩
      subst hA
      obtain ⟨K, hK⟩ : ∃ K, K = M.length - k := ⟨_, rfl⟩
      have hgk : gk = K + 1 := by have := Hk.out; omega
      have hs := HS.out
      rw [hgk] at hs
      simp only [stuckG] at hs
      have HS1 := Lib.hid hs
      have HK := Lib.hid hK
      clear hs hgk hK HS
      have hl : (M.take k).length = k := by simp; omega
      have hcall := plan_any AT (some ⟨ab, ao, none⟩) cT cM T (M.take k) b wr (HT.out.grow HB.out) ((HM.out.take hlt).grow HB.out)
      rw [hl] at hcall
      have hc0 : ¬ cM = 0 := by omega
      have hkc : (k : Int) ≤ (cM : Int) := by omega
      have HC := Lib.hid hcall
      clear hcall
      go_wp2_with fail
      refine HC.out.mono ?_
      rintro e w3 ⟨A3, c3, rfl, hb3, _, _⟩
      have HB3 := Lib.hid (HB.out.trans (hb3.mono HB.out.size))
      have hs1 := HS1.out
      clear hb3 HB HC HS1
      generalize (planF T (M.take k) b) = r at *
      obtain ⟨rl, ru, rc⟩ := r
      simp only at hs1
      by_cases hr0 : rc = 0
      · subst hr0
        rw [if_pos rfl] at hs1
        have HS2 := Lib.hid hs1
        clear hs1
        go_wp2_with fail
        go_roundg K
        case measure => have := Hk.out; have := HK.out; omega
        case rel => exact ⟨k + 1, by first | rfl | go_num, by omega, by have := HK.out; omega, HB3.out, HS2.out⟩
      · rw [if_neg hr0] at hs1
        have e0 : ((rc : Int) == 0) = false := by simp; omega
        by_cases hr14 : rc = 14
        · subst hr14
          rw [if_pos rfl] at hs1
          have HS2 := Lib.hid hs1
          clear hs1
          go_wp2_with fail
          go_ret2
          rw [HP.out, HS2.out]
          exact ⟨rfl, HB3.out⟩
        · rw [if_neg hr14] at hs1
          have e14 : ((rc : Int) == 14) = false := by simp; omega
          have HS2 := Lib.hid hs1
          clear hs1
          go_wp2_with fail
          go_ret2
          rw [HP.out, HS2.out]
          exact ⟨rfl, HB3.out⟩
    · have hg0 : gk = 0 := by have := Hk.out; omega
      have hs := HS.out
      rw [hg0] at hs
      have HS2 := Lib.hid (show stuckG T M b M.length 1 = (0, 0) from hs)
      clear hs hg0
      go_wp2_with fail
      go_ret2
      rw [HP.out, HS2.out]
      exact ⟨rfl, HB.out⟩
end Go.Proofs.Ytffgnfefejimnaa
