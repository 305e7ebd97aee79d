import Derived.Test.YtffgnfefejimnaaYr6
import Derived.Test.YtffgnfefejimnaaYd10
import Derived.Test.YtffgnfefejimnaaYd9
namespace Go.Proofs.Ytffgnfefejimnaa
open Go.RowKit
set_option maxRecDepth 100000 in
set_option maxHeartbeats 3200000 in
theorem empty_any2 (AT : Option Addr) (cT : Nat) (T : List Tk) (w : World) (D : Nat → Prop) (h1 : 1 ≤ T.length) (h8 : T.length ≤ 8) (hD : ∀ k, D k → k < w.heap.size) :
    Calls Try.prog 32 #[.slice AT T.length cT] w fun e w' => e = .returned (rfV AT (some ⟨w.heap.size + 1, 0, none⟩) none cT T.length 0 T.length 0) ∧ RfN D (some ⟨w.heap.size + 1, 0, none⟩) none 0 T [] (begY T) (List.replicate T.length (.slice none 0 0)) w' ∧ Below w.heap.size w w' := by
  obtain ⟨i0, a1, a2, a3, a4⟩ := info_parts infoInts
  have HI := Lib.hid (And.intro a1 (And.intro a2 (And.intro a3 a4)))
  clear a1 a2 a3 a4
  go_enter Try.func32, Try.ntmps32
  go_wp2_with (at_make; refine wpList_make_full _ rfl _ _ 65 rfl w.heap.size 22 i0 _ 1 Try.underlying65 HI.out.1 HI.out.2.1 HI.out.2.2.1 .i64 .i64 _ _ T.length rfl rfl rfl rfl ?m1 ?m2 ?m3 ?_; rotate_right; intro w2 hown2 hg2; have hz := (Blk.new w 67 #[.slice none 0 0, .slice none 0 0, .slice none 0 0]).same (hg2.block w.heap.size (by simp) (by simp)); have z0 := hz.cell 0; have z1 := hz.cell 1; have z2 := hz.cell 2; have f0 := hz.frozen 0; have f1 := hz.frozen 1; have f2 := hz.frozen 2; have hzl := hz.lt; simp only [List.getElem?_toArray, List.getElem?_cons_succ, List.getElem?_cons_zero] at z0 z1 z2)
  case m1 => rw [HI.out.2.2.2]; omega
  case m2 => simp only [maxLen]; omega
  case m3 => simp
  have hcs := ((hz.set_ 0 (.slice AT T.length cT)).set_ 1 (.slice (some ⟨w.heap.size + 1, 0, none⟩) T.length T.length)).set_ 2 (.slice none 0 0)
  have hb2 : Below w.heap.size w w2 := (Below.refl _ _).alloc (Nat.le_refl _) _ |>.grown hg2 (by simp) (fun k hk => by cases hk)
  have ho : w2.ownsRow w.heap.size 22 1 (.slice (some ⟨w.heap.size + 1, 0, none⟩) T.length T.length) T.length (List.replicate T.length (.slice none 0 0)) := by
    rw [show (Value.slice none 0 0).cells = #[(fun v : Value => v) (.slice none 0 0)] from rfl, madeCells_one (fun v : Value => v) (.slice none 0 0)] at hown2
    simpa using hown2
  have ho3 := own_far (p := ⟨w.heap.size, 2, none⟩) (u := .slice none 0 0) (own_far (p := ⟨w.heap.size, 1, none⟩) (u := .slice (some ⟨w.heap.size + 1, 0, none⟩) T.length T.length) (own_far (p := ⟨w.heap.size, 0, none⟩) (u := .slice AT T.length cT) ho (by simp [Value.ownBlock])) (by simp [Value.ownBlock])) (by simp [Value.ownBlock])
  (try simp only [Exit.inBlock, Exit.then])
  refine bodyPost_ret (results_cell_row rfl _ _ w.heap.size 67 #[.slice AT T.length cT, .slice (some ⟨w.heap.size + 1, 0, none⟩) T.length T.length, .slice none 0 0] (0, 0) _ rfl (by first | exact hcs | (simp at hcs; exact hcs)) Try.underlying67 rfl (by kernel_rfl)) rfl ?_
  refine ⟨rfl, ⟨⟨Rd.of_own ho3, fun t ht => ⟨none, 0, ?_, ?_, ?_⟩, Rd.empty _ _ _, fun _ => ⟨rfl, rfl⟩⟩, fun a e => ?_, (fun a e => by cases e), fun x hx A n c e a e' => ?_⟩, ?_⟩
  · rw [show rowY (begY T) t = [] by simp [begY, rowY, ht]]; simp [ht]
  · rw [show rowY (begY T) t = [] by simp [begY, rowY, ht]]; exact Rd.empty _ _ _
  · rw [show rowY (begY T) t = [] by simp [begY, rowY, ht]]; exact fun _ => ⟨rfl, rfl⟩
  · injection e with e
    subst e
    exact ⟨(own_block ho3 _ rfl).2, fun hd => by have := hD _ hd; simp only at this; omega⟩
  · obtain rfl := (List.mem_replicate.1 hx).2
    injection e with e
    subst e
    cases e'
  · exact ((hb2.setCell (Nat.le_refl _) _).setCell (Nat.le_refl _) _).setCell (Nat.le_refl _) _

set_option maxRecDepth 100000 in
set_option maxHeartbeats 3200000 in
theorem rplan_any (AT AM : Option Addr) (cT cM : Nat) (T : List Tk) (M : List Mv) (b : Int) (w : World) (hT : TRd w AT T) (hM : MRd w AM M) :
    Calls Try.prog 15 #[.slice AT T.length cT, .slice AM M.length cM, .int .i64 b] w (PlOut T M b w) := by
  have HT := Lib.hid hT
  have HM := Lib.hid hM
  clear hT hM
  go_enter Try.func15, Try.ntmps15
  go_wp2_with fail
  refine (rcheck_any AT AM cT cM T M w HT.out HM.out).mono ?_
  rintro e w1 ⟨rfl, hb1⟩
  have HB1 := Lib.hid hb1
  have hs1 := hb1.size
  clear hb1
  by_cases hck : chkY T M = true
  case neg =>
    have hp : planF T M b = ([], 0, 1) := by unfold planF; rw [if_neg hck]
    have hck' : chkY T M = false := by simpa using hck
    have HP := Lib.hid hp
    rw [hck']
    clear hp
    go_wp2_with fail
    go_ret3
    unfold PlOut
    rw [HP.out]
    exact ⟨none, 0, rfl, HB1.out, World.ownsRow_nil _ _ _ _, fun _ => ⟨rfl, rfl⟩⟩
  obtain ⟨⟨h1, h8, h24⟩, hTk, hMv⟩ := chkY_iff.1 hck
  by_cases hbud : 1 ≤ b ∧ b ≤ 1048576
  case neg =>
    have hp : planF T M b = ([], 0, 4) := by unfold planF; rw [if_pos hck, if_neg hbud]
    have HP := Lib.hid hp
    rw [hck]
    clear hp
    by_cases hlo : b < 1
    all_goals
      go_wp2_with fail
      go_ret3
      unfold PlOut
      rw [HP.out]
      exact ⟨none, 0, rfl, HB1.out, World.ownsRow_nil _ _ _ _, fun _ => ⟨rfl, rfl⟩⟩
  obtain ⟨hb0, hbm⟩ := hbud
  have hp : planF T M b = planR (srchY T b.toNat M (begY T) 0) := by unfold planF; rw [if_pos hck, if_pos ⟨hb0, hbm⟩]
  have HP := Lib.hid hp
  have HTk := Lib.hid hTk
  have HMv := Lib.hid hMv
  rw [hck]
  clear hp hTk hMv hck
  obtain ⟨B, hB⟩ : ∃ B : Nat, b = B := ⟨b.toNat, by omega⟩
  subst hB
  rw [Int.toNat_natCast] at HP
  go_upto_region 6 with fail
  refine world_gen (fun w2 => Below w.heap.size w w2 ∧ Blk w2 w1.heap.size 63 #[.slice AM M.length cM, .int .i64 B, .int .i64 0, .slice none 0 0]) ⟨HB1.out.alloc hs1 _, Blk.new w1 _ _⟩ ?_
  rintro w2 ⟨hb2, hz2⟩
  have HB2 := Lib.hid hb2
  have HZ2 := Lib.hid hz2
  generalize w1.heap.size = S at *
  have HS := Lib.hid hs1
  clear hb2 hz2 HB1 hs1
  go_wp2_with fail
  refine (empty_any2 AT cT T w2 (DS S (.slice none 0 0)) h1 h8 (fun k hk => by rcases hk with rfl | hk; exact HZ2.out.lt; simp [Value.ownBlock] at hk)).mono ?_
  rintro e w3 ⟨rfl, hr3, hb3⟩
  have HB3 := Lib.hid (HB2.out.trans (hb3.mono HB2.out.size))
  have HSM := Lib.hid (show SM w.heap.size S AT AM cM T M B 0 [] (.slice none 0 0) w3 from ⟨HZ2.out.bel hb3, HS.out, World.ownsRow_nil _ _ _ _, HM.out.r.grow HB3.out, HT.out.r.grow HB3.out, HB3.out.size⟩)
  have hcall := rsearch_any w.heap.size S AT AM cT cM T M B h1 h8 h24 (by omega) HTk.out HMv.out M.length 0 [] (begY T) 0 [] (.slice none 0 0) _ none T.length 0 _ w3 (by omega) (by omega) (begY_ok T 0) (ref_beg T) rfl HSM.out hr3
  have hbd := srch_bd T B M (begY T) 0 (by omega)
  rw [List.drop_zero] at hcall
  have hp := HP.out
  generalize srchY T B M (begY T) 0 = r at *
  obtain ⟨rc, ru, rp⟩ := r
  obtain ⟨_, hru, hrc, hrp⟩ := hbd
  simp only at hru hrc hrp hp
  unfold rfV at hcall ⊢
  have HCall := Lib.hid hcall
  have Hrp := Lib.hid hrp
  have HP7 := Lib.hid hp
  clear hcall hr3 hb3 hrp hp HP HB2 HZ2
  go_wp2_with fail
  refine HCall.out.mono ?_
  rintro e w4 ⟨rfl, vP, hc4, hf4⟩
  have HC4 := Lib.hid hc4
  have HB4 := Lib.hid (HB3.out.trans hf4.bel)
  clear hc4 hf4 HCall HSM HB3
  rcases hrc with rfl | h14
  · have HC5 := Lib.hid (show SM w.heap.size S AT AM cM T M B ru rp vP w4 by simpa using HC4.out)
    obtain ⟨A5, c5, rfl, _, _⟩ := own_slice HC5.out.p
    have u2 := HC5.out.s.cell 2
    have u3 := HC5.out.s.cell 3
    simp only [List.getElem?_toArray, List.getElem?_cons_succ, List.getElem?_cons_zero] at u2 u3
    clear HC4
    go_upto_region 8 with fail
    go_quiet (fail)
    go_wp2_with fail
    go_ret3
    unfold PlOut
    rw [HP7.out]
    refine ⟨A5, c5, ?_, by have hbb := HB4.out; exact below_drewN hbb _, ?_, fun h => absurd rfl h⟩
    · simp only [planR, if_true]; rfl
    · simp only [planR, if_true]; exact HC5.out.p
  · have hrc0 : ¬ rc = 0 := by omega
    rcases h14 with rfl | rfl
    · have HC5 := Lib.hid (show SM w.heap.size S AT AM cM T M B ru [] vP w4 by simpa using HC4.out)
      have u2 := HC5.out.s.cell 2
      simp only [List.getElem?_toArray, List.getElem?_cons_succ, List.getElem?_cons_zero] at u2
      have hgt : decide ((B : Int) < (ru : Int)) = false := by simp; omega
      clear HC4
      go_upto_region 11 with fail
      go_quiet (fail)
      go_wp2_with fail
      go_ret3
      unfold PlOut
      rw [HP7.out]
      exact ⟨none, 0, rfl, by have hbb := HB4.out; exact below_drewN hbb _, World.ownsRow_nil _ _ _ _, fun _ => ⟨rfl, rfl⟩⟩
    · have HC5 := Lib.hid (show SM w.heap.size S AT AM cM T M B (B + 1) [] vP w4 by simpa using HC4.out)
      have u2 := HC5.out.s.cell 2
      simp only [List.getElem?_toArray, List.getElem?_cons_succ, List.getElem?_cons_zero] at u2
      have hgt : decide ((B : Int) < (B : Int) + 1) = true := by simp; omega
      clear HC4
      go_wp2_with fail
      go_ret3
      unfold PlOut
      rw [HP7.out]
      exact ⟨none, 0, rfl, HB4.out, World.ownsRow_nil _ _ _ _, fun _ => ⟨rfl, rfl⟩⟩
theorem plan_codes {T : List Tk} {M : List Mv} {b : Int} (hc : chkY T M = true) (hb : 1 ≤ b ∧ b ≤ 1048576) : (planF T M b).2.2 = 0 ∨ (planF T M b).2.2 = 14 ∨ (planF T M b).2.2 = 15 := by
  have hp : planF T M b = planR (srchY T b.toNat M (begY T) 0) := by unfold planF; rw [if_pos hc, if_pos hb]
  obtain ⟨_, _, h, _⟩ := srch_bd T b.toNat M (begY T) 0 (by omega)
  rw [hp]
  unfold planR
  rcases h with h | h | h
  · left; rw [if_pos h]
  · right; left; rw [if_neg (by omega), if_pos h]
  · right; right; rw [if_neg (by omega), if_neg (by omega)]; exact h
set_option maxRecDepth 100000 in
set_option maxHeartbeats 3200000 in
theorem rstuck_any (AT AM : Option Addr) (cT cM : Nat) (T : List Tk) (M : List Mv) (b : Int) (w : World) (hT : TRd w AT T) (hM : MRd w AM M) (hc : M.length ≤ cM) :
    Calls Try.prog 25 #[.slice AT T.length cT, .slice AM M.length cM, .int .i64 b] w fun e w' => e = .returned (.tuple #[.int .i64 (stuckF T M b).1, .int .i64 (stuckF T M b).2]) ∧ Below w.heap.size w w' := by
  have HT := Lib.hid hT
  have HM := Lib.hid hM
  clear hT hM
  go_enter Try.func25, Try.ntmps25
  go_wp2_with fail
  refine (rcheck_any AT AM cT cM T M w HT.out HM.out).mono ?_
  rintro e w1 ⟨rfl, hb1⟩
  have HB1 := Lib.hid hb1
  clear hb1
  by_cases hck : chkY T M = true
  case neg =>
    have hp : stuckF T M b = (0, 1) := by unfold stuckF; rw [if_neg hck]
    have hck' : chkY T M = false := by simpa using hck
    rw [hck']
    go_wp2_with fail
    go_ret2
    rw [hp]
    exact ⟨rfl, HB1.out⟩
  obtain ⟨⟨h1, h8, h24⟩, hTk, hMv⟩ := chkY_iff.1 hck
  by_cases hbud : 1 ≤ b ∧ b ≤ 1048576
  case neg =>
    have hp : stuckF T M b = (0, 4) := by unfold stuckF; rw [if_pos hck, if_neg hbud]
    rw [hck]
    by_cases hlo : b < 1
    all_goals
      go_wp2_with fail
      go_ret2
      rw [hp]
      exact ⟨rfl, by have hbb := HB1.out; exact hbb⟩
  obtain ⟨hb0, hbm⟩ := hbud
  have HP := Lib.hid (show stuckF T M b = stuckG T M b M.length 1 by unfold stuckF; rw [if_pos hck, if_pos ⟨hb0, hbm⟩])
  have HCd := Lib.hid (show ∀ k, k ≤ M.length → (planF T (M.take k) b).2.2 = 0 ∨ (planF T (M.take k) b).2.2 = 14 ∨ (planF T (M.take k) b).2.2 = 15 from fun k _ => plan_codes (chkY_iff.2 ⟨⟨h1, h8, by rw [List.length_take]; omega⟩, hTk, fun m hm => hMv m (List.mem_of_mem_take hm)⟩) ⟨hb0, hbm⟩)
  rw [hck]
  clear hck hTk hMv
  go_wp2_with fail
  go_loopg [8] M.length (fun k v wr => StL T M b w k v wr)
  case atStart => exact ⟨1, rfl, by omega, by omega, HB1.out, rfl⟩
  case round =>
    clear HB1
    obtain ⟨k, rfl, hk1, hk, hb, hs⟩ := hrel
    have Hk := Lib.hid hk
    have HB := Lib.hid hb
    have HS := Lib.hid hs
    clear hk hb hs
    by_cases hlt : k ≤ M.length
    · obtain ⟨ab, ao, hA⟩ : ∃ ab ao, AM = some ⟨ab, ao, none⟩ := by
        obtain ⟨x, y, e, _⟩ := HM.out.r.2 (by omega)
        exact ⟨x, y, e⟩
      subst hA
      obtain ⟨K, hK⟩ : ∃ K, K = M.length - k := ⟨_, rfl⟩
      have hgk : gk = K + 1 := by have := Hk.out; omega
      have hs := HS.out
      rw [hgk] at hs
      simp only [stuckG] at hs
      have HS1 := Lib.hid hs
      have HK := Lib.hid hK
      clear hs hgk hK HS
      have hl : (M.take k).length = k := by simp; omega
      have hcall := rplan_any AT (some ⟨ab, ao, none⟩) cT cM T (M.take k) b wr (HT.out.grow HB.out) ((HM.out.take hlt).grow HB.out)
      rw [hl] at hcall
      have hc0 : ¬ cM = 0 := by omega
      have hkc : (k : Int) ≤ (cM : Int) := by omega
      have HC := Lib.hid hcall
      clear hcall
      go_wp2_with fail
      refine HC.out.mono ?_
      rintro e w3 ⟨A3, c3, rfl, hb3, _, _⟩
      have HB3 := Lib.hid (HB.out.trans (hb3.mono HB.out.size))
      have hs1 := HS1.out
      clear hb3 HB HC HS1
      have hcd := HCd.out k hlt
      generalize (planF T (M.take k) b) = r at *
      obtain ⟨rl, ru, rc⟩ := r
      simp only at hs1 hcd
      by_cases hr0 : rc = 0
      · subst hr0
        rw [if_pos rfl] at hs1
        have HS2 := Lib.hid hs1
        clear hs1
        go_wp2_with fail
        go_roundg K
        case measure => have := Hk.out; have := HK.out; omega
        case rel => exact ⟨k + 1, by first | rfl | go_num, by omega, by have := HK.out; omega, HB3.out, HS2.out⟩
      · rw [if_neg hr0] at hs1
        have e0 : ((rc : Int) == 0) = false := by simp; omega
        by_cases hr14 : rc = 14
        · subst hr14
          clear hcd e0 hr0
          rw [if_pos rfl] at hs1
          have HS2 := Lib.hid hs1
          clear hs1
          go_wp2_with fail
          go_ret2
          rw [HP.out, HS2.out]
          exact ⟨rfl, HB3.out⟩
        · rw [if_neg hr14] at hs1
          have e14 : ((rc : Int) == 14) = false := by simp; omega
          obtain rfl : rc = 15 := by omega
          have HS2 := Lib.hid hs1
          clear hs1
          go_wp2_with fail
          go_ret2
          rw [HP.out, HS2.out]
          exact ⟨rfl, HB3.out⟩
    · have hg0 : gk = 0 := by have := Hk.out; omega
      have hs := HS.out
      rw [hg0] at hs
      have HS2 := Lib.hid (show stuckG T M b M.length 1 = (0, 0) from hs)
      clear hs hg0
      go_wp2_with fail
      go_ret2
      rw [HP.out, HS2.out]
      exact ⟨rfl, HB.out⟩
end Go.Proofs.Ytffgnfefejimnaa
