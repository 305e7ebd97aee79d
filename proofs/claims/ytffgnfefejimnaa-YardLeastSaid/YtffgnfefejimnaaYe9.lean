import Derived.Test.YtffgnfefejimnaaYe6
namespace Go.Proofs.Ytffgnfefejimnaa
open Go.RowKit
/-- the outer loop: the plans ahead of q all fail -/
def YlO (w2 : World) (T : List Tk) (M : List Mv) (g n N : Nat) (k : Nat) (wr : World) : Prop :=
  ∃ q : List Nat, q.length = n ∧ (∀ d ∈ q, d < T.length) ∧ valP T.length q + k = N ∧ NoneBelow T M q ∧ wr.ownsRow g 3 1 (.slice (some ⟨g, 0, none⟩) n n) n (q.map natV) ∧ Below g w2 wr
/-- the inner loop: the last k places have been set back -/
def YlI (w3 : World) (n0 : Nat) (q : List Nat) (g n : Nat) (k : Nat) (v : Value) (wr : World) : Prop :=
  ∃ c : Nat, v = .int .i64 ((k : Int) - 1) ∧ k + c = n ∧ q.drop k = List.replicate c (n0 - 1) ∧ wr.ownsRow g 3 1 (.slice (some ⟨g, 0, none⟩) n n) n ((q.take k ++ List.replicate c 0).map natV) ∧ Below g w3 wr
theorem sameN2 (A B : Option Addr) (c c' n m : Nat) (l : List Nat) (w : World) (h : Rd w w.heap.size 1 A n (l.map natV)) (h' : Rd w w.heap.size 1 B m (l.map natV)) (hn : l.length = n) (hm : l.length = m) (hx : l.length ≤ 200) :
    Calls Try.prog 18 #[.slice A n c, .slice B m c'] w fun e w' => e = .returned (.bool true) ∧ Below w.heap.size w w' := by
  subst hn
  subst hm
  exact sameN A B c c' l w h h' hx
set_option maxRecDepth 100000 in
set_option maxHeartbeats 3200000 in
theorem ylleast_true (A0 : Option Addr) (n0 c0 : Nat) (z0 : List Int) (w : World) (h0 : Rd w w.heap.size 1 A0 n0 (z0.map (Value.int .i64))) (m0 : n0 ≤ c0 ∧ c0 ≤ maxLen ∧ c0 * 8 ≤ 140737488351232) :
    Calls Try.prog 5 #[.slice A0 n0 c0] w fun e w' => e = .returned (.bool true) ∧ Below w.heap.size w w' := by
  have H0 := Lib.hid h0
  have hm0 : n0 ≤ maxLen := by omega
  have M0 := Lib.hid hm0
  clear h0 m0 hm0
  obtain ⟨i0, a1', a2', a3', a4'⟩ := info_parts infoInt
  have HI := Lib.hid (And.intro a1' (And.intro a2' (And.intro a3' a4')))
  clear a1' a2' a3' a4'
  go_enter Try.func5, Try.ntmps5
  go_wp2_with fail
  refine (yard_any A0 n0 c0 z0 w H0.out M0.out).mono ?_
  rintro e w1 ⟨A, B, cA, cB, T, M, rfl, h1, h3, h7, hT, hM, hoT, hoM, hb1⟩
  have HTr := Lib.hid (trd (Rd.of_own hoT) (by omega))
  have HMr := Lib.hid (mrd (Rd.of_own hoM) (by omega))
  have hcap := (own_cap hoM).1
  have HB1 := Lib.hid hb1
  have HCk := Lib.hid (chk_of h1 (by omega) (fun t ht => by have := hT t ht; unfold YgT at this; omega) (by omega) hM)
  have HBs : M.length = 0 ∨ ∃ g, B = some ⟨g, 0, none⟩ := by
    rcases hoM.2 with ⟨hv, _⟩ | ⟨g, cap, cur, hv, _⟩
    · injection hv with a b c; exact .inl b
    · injection hv with a; exact .inr ⟨g, a⟩
  clear hT hM hoT hoM hb1
  by_cases h6 : 6 < M.length
  · obtain ⟨g, rfl⟩ := HBs.resolve_left (fun h => by omega)
    have h6c : (6 : Int) ≤ (cB : Int) := by omega
    have hcB : ¬ cB = 0 := by omega
    have h6' : decide ((6 : Int) < (M.length : Int)) = true := decide_eq_true (by omega)
    have HM6 := Lib.hid (HMr.out.take (k := 6) (by omega))
    have HCk6 := Lib.hid (show chkY T (M.take 6) = true from by
      obtain ⟨⟨h1, h8, h24⟩, hTk, hMv⟩ := chkY_iff.1 HCk.out
      exact chkY_iff.2 ⟨⟨h1, h8, by rw [List.length_take]; omega⟩, hTk, fun m hm => hMv m (List.mem_of_mem_take hm)⟩)
    have hl6 : (M.take 6).length = 6 := by rw [List.length_take]; omega
    go_upto_region 4 with fail
    generalize hM' : M.take 6 = M' at *
    clear hM' h6 h6c hcB h6' HCk HMr HBs hcap h7
    have hn6 : (6 : Nat) ≤ 6 := Nat.le_refl _
    have HL6 := Lib.hid hl6
    clear hl6
    obtain ⟨⟨l1, u1, r1⟩, hp1⟩ : ∃ r, planF T M' 1048576 = r := ⟨_, rfl⟩
    have hpl := plan_least HCk6.out (by omega) (by have := HL6.out; omega)
    rw [hp1] at hpl
    simp only at hpl
    have HP1 := Lib.hid hp1
    have HPl := Lib.hid hpl
    clear hp1 hpl
    go_wp2_with fail
    refine (plan_at HP1.out HTr.out HM6.out rfl HL6.out).mono ?_
    rintro e w2 ⟨A2, c2, rfl, hb2, ho2, _⟩
    have HC2 := Lib.hid hb2
    have HO2 := Lib.hid ho2
    have hs1 := HB1.out.size
    have hs2 := hb2.size
    clear hb2 ho2
    go_wp2_with (at_make; refine wpList_make_full _ rfl _ _ 22 rfl (w2.heap.size) 3 i0 _ 1 Try.underlying22 HI.out.1 HI.out.2.1 HI.out.2.2.1 .i64 .i64 _ _ 6 rfl rfl rfl rfl ?m1 ?m2 ?m3 ?_; rotate_right; intro w3 hown3 hg3)
    case m1 => rw [HI.out.2.2.2]; omega
    case m2 => simp only [maxLen]; omega
    case m3 => omega
    have hb3 : Below w2.heap.size w2 w3 := (Below.refl _ _).grown hg3 (Nat.le_refl _) (fun k hk => by cases hk)
    have HG3 := Lib.hid (show w3.ownsRow w2.heap.size 3 1 (.slice (some ⟨w2.heap.size, 0, none⟩) (6) (6)) (6) ((List.replicate (6) 0).map natV) by
      have h := madeCells_one natV 0 (6)
      rw [← h]
      exact hown3)
    have HC3 := Lib.hid (HC2.out.trans (hb3.mono hs2))
    have HO3 := Lib.hid (HO2.out.grow hb3)
    clear hown3 hg3 hb3 HC2 HO2
    generalize w2.heap.size = g2 at *
    go_wp2_with fail
    go_loopg [11] (T.length ^ (6)) (fun k _ wr => YlO w3 T M' g2 (6) (T.length ^ (6)) k wr)
    case atStart => exact ⟨List.replicate (6) 0, by simp, fun d hd => by obtain ⟨_, rfl⟩ := List.mem_replicate.1 hd; omega, by rw [valP_zero]; omega, by rw [← HL6.out]; exact none_zero T _, HG3.out, Below.refl _ _⟩
    case round =>
      obtain ⟨q, hq, hqd, hqv, hqn, ho, hb⟩ := hrel
      clear HG3
      have HQ := Lib.hid hq
      have HQd := Lib.hid hqd
      have HQv := Lib.hid hqv
      have HQn := Lib.hid hqn
      have HOq := Lib.hid ho
      have HB := Lib.hid hb
      have HCr := Lib.hid (HC3.out.trans (hb.mono hs2))
      have HT3 := Lib.hid (HTr.out.grow HCr.out)
      have HM3 := Lib.hid (HM6.out.grow HCr.out)
      have HPr := Lib.hid (ints_of_nats (Rd.of_own ho))
      have hql := hq
      clear hq hqd hqv hqn ho hb
      obtain ⟨⟨rl, ok⟩, hr⟩ : ∃ r, replF T M' (q.map fun x : Nat => (x : Int)) = r := ⟨_, rfl⟩
      have hdo := does_repl (T := T) (M := M') (q := q) HCk6.out (by rw [hql, HL6.out])
      rw [hr] at hdo
      simp only at hdo
      have HDo := Lib.hid hdo
      have HR := Lib.hid hr
      have hqi : (q.map fun x : Nat => (x : Int)).length = 6 := by rw [List.length_map, hql]
      have hqn2 : (q.map fun x : Nat => (x : Int)).length ≤ 4611686018427387904 := by rw [hqi]; omega
      have HPr2 := Lib.hid (show Rd wr wr.heap.size 1 (some ⟨g2, 0, none⟩) (q.map fun x : Nat => (x : Int)).length ((q.map fun x : Nat => (x : Int)).map (Value.int .i64)) by rw [hqi]; exact HPr.out)
      have HQi := Lib.hid hqi
      have HQn2 := Lib.hid hqn2
      have HPv := Lib.hid (show ∀ p ∈ (q.map fun x : Nat => (x : Int)), -9223372036854775808 ≤ p ∧ p ≤ 9223372036854775807 from fun p hp => by
        obtain ⟨x, hx, rfl⟩ := List.mem_map.1 hp
        have := HQd.out x hx
        omega)
      clear hdo hr hql hqi hqn2 HPr
      go_wp2_with fail
      refine (rreplay_at HR.out HT3.out HM3.out HPr2.out HQn2.out HPv.out rfl HL6.out HQi.out).mono ?_
      rintro e w4 ⟨A4, c4, rfl, hb4, _⟩
      have hsr := HCr.out.size
      have HC4 := Lib.hid (HCr.out.trans (hb4.mono hsr))
      have HB4 := Lib.hid (show Below g2 w3 w4 from HB.out.trans (hb4.mono (Nat.le_of_lt (own_block HOq.out g2 rfl).2)))
      have HO4 := Lib.hid (own_grow HOq.out hb4)
      have HS4 := Lib.hid ((HO3.out.more (Nat.le_refl _)))
      clear hb4 HPr2 HT3 HM3 HOq HB HCr hsr
      cases ok with
      | true =>
        have hdoes := HDo.out.1 rfl
        have hle : r1 = 0 ∧ l1 = q := by
          rcases HPl.out with ⟨a, b, c, d, e⟩ | ⟨a, b⟩
          · exact ⟨a, least_eq b c d e (by rw [HQ.out, HL6.out]) HQd.out hdoes HQn.out⟩
          · exact absurd hdoes (b q (by rw [HQ.out, HL6.out]) HQd.out)
        obtain ⟨rfl, rfl⟩ := hle
        clear hdoes
        go_wp2_with fail
        refine (awake_any w4).mono ?_
        rintro e w5 ⟨rfl, hb5⟩
        have HC5 := Lib.hid (HC4.out.trans (hb5.mono HC4.out.size))
        have HO5 := Lib.hid (Rd.of_own (own_grow HO4.out hb5))
        have HX5 := Lib.hid (((HO3.out.grow HB4.out).more (Nat.le_of_lt (own_block HO4.out g2 rfl).2)).grow hb5 |>.more hb5.size)
        clear hb5
        go_wp2_with fail
        refine (sameN2 A2 (some ⟨g2, 0, none⟩) c2 (6) _ (6) l1 w5 HX5.out HO5.out rfl HQ.out (by have := HQ.out; omega)).mono ?_
        rintro e w6 ⟨rfl, hb6⟩
        have HC6 := Lib.hid (HC5.out.trans (hb6.mono HC5.out.size))
        clear hb6
        go_wp2_with fail
        go_ret
        exact ⟨rfl, HB1.out.trans (HC6.out.mono hs1)⟩
      | false =>
        have HNo := Lib.hid (show ¬ DoesY T M' q (begY T) from fun h => by have := HDo.out.2 h; simp at this)
        have hwn : IntKind.i64.wrap (((6 : Nat) : Int) - 1) = ((6 : Nat) : Int) - 1 := IntWalk.i64_in _ (by omega)
        go_wp2_with fail
        go_loopg [11] (6) (fun k v wx => YlI w4 T.length q g2 (6) k v wx)
        case atStart => exact ⟨0, by first | rfl | simp, by omega, by rw [List.drop_eq_nil_of_le (by rw [HQ.out]; exact Nat.le_refl _)]; rfl, by rw [List.take_of_length_le (by rw [HQ.out]; exact Nat.le_refl _)]; simpa using HO4.out, Below.refl _ _⟩
        case round =>
          clear HO4
          obtain ⟨c, rfl, hkc, hdr, ho, hb⟩ := hrel
          have HKc := Lib.hid hkc
          have HDr := Lib.hid hdr
          have HOi := Lib.hid ho
          have HBi := Lib.hid hb
          clear hkc hdr ho hb
          rcases Nat.eq_zero_or_pos gk with hk0 | hkp
          · subst hk0
            have hdr := HDr.out
            rw [List.drop_zero] at hdr
            have hc : c = 6 := by have := HKc.out; omega
            have hall := none_full (T := T) (M := M') h1 (by rw [HL6.out, ← hc, ← hdr]; exact HQn.out) (by rw [HL6.out, ← hc, ← hdr]; exact HNo.out)
            have hr14 : r1 = 14 := by
              rcases HPl.out with ⟨_, b, c, d, _⟩ | ⟨a, _⟩
              · exact absurd d (hall l1 b c)
              · exact a
            subst hr14
            clear hdr hc hall
            have hm1 : ((0 : Nat) : Int) - 1 = -1 := by omega
            rw [hm1]
            go_wp2_with fail
            refine (awake_any _).mono ?_
            rintro e w6 ⟨rfl, hb6⟩
            have HC6 := Lib.hid (HC4.out.trans ((HBi.out.mono hs2).trans (hb6.mono (Nat.le_trans hs2 (Nat.le_of_lt (own_block HOi.out g2 rfl).2)))))
            clear hb6
            go_wp2_with fail
            go_ret
            exact ⟨rfl, HB1.out.trans (HC6.out.mono hs1)⟩
          · obtain ⟨j, hj⟩ : ∃ j, gk = j + 1 := ⟨gk - 1, by omega⟩
            have hjn : j < 6 := by have := HKc.out; omega
            have hjq : j < q.length := by rw [HQ.out]; exact hjn
            have hd1 : ((gk : Int) - 1) = (j : Int) := by omega
            have hj0 : (0 : Int) ≤ (j : Int) := by omega
            have hj1 : (j : Int) < ((6 : Nat) : Int) := by omega
            have hcl : j < (q.take gk ++ List.replicate c 0).length := by rw [List.length_append, List.length_take, List.length_replicate, HQ.out]; have := HKc.out; omega
            have g0 := own1 HOi.out j hcl
            have hge : (q.take gk ++ List.replicate c 0)[j] = q[j] := by
              rw [List.getElem_append_left (by rw [List.length_take]; omega), List.getElem_take]
            rw [hge] at g0
            simp only [natV] at g0
            have gf := own_frozen HOi.out j
            have ggl := own_block HOi.out g2 rfl
            obtain ⟨ggb, ggl⟩ := ggl
            have hqj := HQd.out q[j] (List.getElem_mem hjq)
            have HTk := Lib.hid (show q.take gk = q.take j ++ [q[j]] by rw [hj, List.take_succ_eq_append_getElem hjq])
            have hwt : IntKind.i64.wrap ((T.length : Int) - 1) = (T.length : Int) - 1 := IntWalk.i64_in _ (by omega)
            have hst : ∀ y : Nat, (q.take gk ++ List.replicate c 0).set j y = q.take j ++ y :: List.replicate c 0 := fun y => by
              rw [HTk.out, List.append_assoc, List.set_append_right _ _ (by rw [List.length_take]; omega), List.length_take, Nat.min_eq_left (by omega), Nat.sub_self]
              rfl
            have HSt := Lib.hid hst
            have HJ := Lib.hid hj
            rw [hd1]
            clear hge hst hd1 hj hcl
            by_cases hlast : q[j] = T.length - 1
            · have hl' : (((q[j] : Nat) : Int) == (T.length : Int) - 1) = true := by simp; omega
              have HO9 := Lib.hid (own1_set HOi.out j 0)
              rw [HSt.out] at HO9
              have HB9 := Lib.hid (HBi.out.setCell (p := ⟨g2, j, none⟩) ggb (natV 0))
              have hwj : IntKind.i64.wrap ((j : Int) - 1) = (j : Int) - 1 := IntWalk.i64_in _ (by omega)
              simp only [natV] at HO9 HB9
              go_wp2_with fail
              go_roundg j
              case measure => have := HJ.out; omega
              case rel => exact ⟨c + 1, by first | rfl | go_num, by have := HKc.out; have := HJ.out; omega, by
                rw [List.drop_eq_getElem_cons hjq, hlast, ← HJ.out, HDr.out]; rfl, HO9.out, HB9.out⟩
            · have hl' : (((q[j] : Nat) : Int) == (T.length : Int) - 1) = false := by simp; omega
              have HO9 := Lib.hid (own1_set HOi.out j (q[j] + 1))
              rw [HSt.out] at HO9
              have HB9 := Lib.hid ((HB4.out.trans HBi.out).setCell (p := ⟨g2, j, none⟩) ggb (natV (q[j] + 1)))
              have HQs := Lib.hid (show q = q.take j ++ q[j] :: List.replicate c (T.length - 1) by
                conv => lhs; rw [← List.take_append_drop j q]
                rw [List.drop_eq_getElem_cons hjq, ← HJ.out, HDr.out])
              have hlq : (q.take j ++ q[j] :: List.replicate c (T.length - 1)).length = (M').length := by rw [← HQs.out, HQ.out, HL6.out]
              have HNn := Lib.hid (none_next (M := M') (a := q.take j) (d := q[j]) (k := c) h1 hlq (by rw [← HQs.out]; exact HQd.out) (by rw [← HQs.out]; exact HQn.out) (by rw [← HQs.out]; exact HNo.out))
              have hvn := valP_next (n := T.length) h1 (q.take j) q[j] c
              rw [← HQs.out] at hvn
              have HVn := Lib.hid hvn
              have hvq := valP_lt q HQd.out
              rw [HQ.out] at hvq
              have HVq := Lib.hid hvq
              have HLn := Lib.hid (show (q.take j ++ (q[j] + 1) :: List.replicate c 0).length = 6 by
                have h := hlq
                rw [HL6.out] at h
                simpa using h)
              have HDn := Lib.hid (show ∀ d ∈ q.take j ++ (q[j] + 1) :: List.replicate c 0, d < T.length from fun d hd => by
                rcases List.mem_append.1 hd with hd | hd
                · exact HQd.out d (List.mem_of_mem_take hd)
                · rcases List.mem_cons.1 hd with rfl | hd
                  · omega
                  · obtain ⟨_, rfl⟩ := List.mem_replicate.1 hd; omega)
              have hwq : IntKind.i64.wrap ((q[j] : Int) + 1) = (q[j] : Int) + 1 := IntWalk.i64_in _ (by omega)
              simp only [natV] at HO9 HB9
              rw [show ((q[j] + 1 : Nat) : Int) = (q[j] : Int) + 1 by omega] at HO9 HB9
              clear hlq hvn hvq
              go_wp2_with fail
              go_roundg (T.length ^ (6) - valP T.length q - 1)
              case measure => have := HQv.out; have := HVq.out; omega
              case rel => exact ⟨q.take j ++ (q[j] + 1) :: List.replicate c 0, HLn.out, HDn.out, by rw [HVn.out]; have := HVq.out; omega, HNn.out, HO9.out, HB9.out⟩
  · have h6' : decide ((6 : Int) < (M.length : Int)) = false := decide_eq_false (by omega)
    go_upto_region 4 with fail
    have HM6 := HMr
    have HCk6 := HCk
    clear h6' HBs hcap HCk HMr
    have hn6 : M.length ≤ 6 := by omega
    clear h7 h6
    generalize hnm : M.length = nm at *
    have HL6 := Lib.hid hnm
    clear hnm
    obtain ⟨⟨l1, u1, r1⟩, hp1⟩ : ∃ r, planF T M 1048576 = r := ⟨_, rfl⟩
    have hpl := plan_least HCk6.out (by omega) (by have := HL6.out; omega)
    rw [hp1] at hpl
    simp only at hpl
    have HP1 := Lib.hid hp1
    have HPl := Lib.hid hpl
    clear hp1 hpl
    go_wp2_with fail
    refine (plan_at HP1.out HTr.out HM6.out rfl HL6.out).mono ?_
    rintro e w2 ⟨A2, c2, rfl, hb2, ho2, _⟩
    have HC2 := Lib.hid hb2
    have HO2 := Lib.hid ho2
    have hs1 := HB1.out.size
    have hs2 := hb2.size
    clear hb2 ho2
    go_wp2_with (at_make; refine wpList_make_full _ rfl _ _ 22 rfl (w2.heap.size) 3 i0 _ 1 Try.underlying22 HI.out.1 HI.out.2.1 HI.out.2.2.1 .i64 .i64 _ _ nm rfl rfl rfl rfl ?m1 ?m2 ?m3 ?_; rotate_right; intro w3 hown3 hg3)
    case m1 => rw [HI.out.2.2.2]; omega
    case m2 => simp only [maxLen]; omega
    case m3 => omega
    have hb3 : Below w2.heap.size w2 w3 := (Below.refl _ _).grown hg3 (Nat.le_refl _) (fun k hk => by cases hk)
    have HG3 := Lib.hid (show w3.ownsRow w2.heap.size 3 1 (.slice (some ⟨w2.heap.size, 0, none⟩) (nm) (nm)) (nm) ((List.replicate (nm) 0).map natV) by
      have h := madeCells_one natV 0 (nm)
      rw [← h]
      exact hown3)
    have HC3 := Lib.hid (HC2.out.trans (hb3.mono hs2))
    have HO3 := Lib.hid (HO2.out.grow hb3)
    clear hown3 hg3 hb3 HC2 HO2
    generalize w2.heap.size = g2 at *
    go_wp2_with fail
    go_loopg [11] (T.length ^ (nm)) (fun k _ wr => YlO w3 T M g2 (nm) (T.length ^ (nm)) k wr)
    case atStart => exact ⟨List.replicate (nm) 0, by simp, fun d hd => by obtain ⟨_, rfl⟩ := List.mem_replicate.1 hd; omega, by rw [valP_zero]; omega, by rw [← HL6.out]; exact none_zero T _, HG3.out, Below.refl _ _⟩
    case round =>
      obtain ⟨q, hq, hqd, hqv, hqn, ho, hb⟩ := hrel
      clear HG3
      have HQ := Lib.hid hq
      have HQd := Lib.hid hqd
      have HQv := Lib.hid hqv
      have HQn := Lib.hid hqn
      have HOq := Lib.hid ho
      have HB := Lib.hid hb
      have HCr := Lib.hid (HC3.out.trans (hb.mono hs2))
      have HT3 := Lib.hid (HTr.out.grow HCr.out)
      have HM3 := Lib.hid (HM6.out.grow HCr.out)
      have HPr := Lib.hid (ints_of_nats (Rd.of_own ho))
      have hql := hq
      clear hq hqd hqv hqn ho hb
      obtain ⟨⟨rl, ok⟩, hr⟩ : ∃ r, replF T M (q.map fun x : Nat => (x : Int)) = r := ⟨_, rfl⟩
      have hdo := does_repl (T := T) (M := M) (q := q) HCk6.out (by rw [hql, HL6.out])
      rw [hr] at hdo
      simp only at hdo
      have HDo := Lib.hid hdo
      have HR := Lib.hid hr
      have hqi : (q.map fun x : Nat => (x : Int)).length = nm := by rw [List.length_map, hql]
      have hqn2 : (q.map fun x : Nat => (x : Int)).length ≤ 4611686018427387904 := by rw [hqi]; omega
      have HPr2 := Lib.hid (show Rd wr wr.heap.size 1 (some ⟨g2, 0, none⟩) (q.map fun x : Nat => (x : Int)).length ((q.map fun x : Nat => (x : Int)).map (Value.int .i64)) by rw [hqi]; exact HPr.out)
      have HQi := Lib.hid hqi
      have HQn2 := Lib.hid hqn2
      have HPv := Lib.hid (show ∀ p ∈ (q.map fun x : Nat => (x : Int)), -9223372036854775808 ≤ p ∧ p ≤ 9223372036854775807 from fun p hp => by
        obtain ⟨x, hx, rfl⟩ := List.mem_map.1 hp
        have := HQd.out x hx
        omega)
      clear hdo hr hql hqi hqn2 HPr
      go_wp2_with fail
      refine (rreplay_at HR.out HT3.out HM3.out HPr2.out HQn2.out HPv.out rfl HL6.out HQi.out).mono ?_
      rintro e w4 ⟨A4, c4, rfl, hb4, _⟩
      have hsr := HCr.out.size
      have HC4 := Lib.hid (HCr.out.trans (hb4.mono hsr))
      have HB4 := Lib.hid (show Below g2 w3 w4 from HB.out.trans (hb4.mono (Nat.le_of_lt (own_block HOq.out g2 rfl).2)))
      have HO4 := Lib.hid (own_grow HOq.out hb4)
      have HS4 := Lib.hid ((HO3.out.more (Nat.le_refl _)))
      clear hb4 HPr2 HT3 HM3 HOq HB HCr hsr
      cases ok with
      | true =>
        have hdoes := HDo.out.1 rfl
        have hle : r1 = 0 ∧ l1 = q := by
          rcases HPl.out with ⟨a, b, c, d, e⟩ | ⟨a, b⟩
          · exact ⟨a, least_eq b c d e (by rw [HQ.out, HL6.out]) HQd.out hdoes HQn.out⟩
          · exact absurd hdoes (b q (by rw [HQ.out, HL6.out]) HQd.out)
        obtain ⟨rfl, rfl⟩ := hle
        clear hdoes
        go_wp2_with fail
        refine (awake_any w4).mono ?_
        rintro e w5 ⟨rfl, hb5⟩
        have HC5 := Lib.hid (HC4.out.trans (hb5.mono HC4.out.size))
        have HO5 := Lib.hid (Rd.of_own (own_grow HO4.out hb5))
        have HX5 := Lib.hid (((HO3.out.grow HB4.out).more (Nat.le_of_lt (own_block HO4.out g2 rfl).2)).grow hb5 |>.more hb5.size)
        clear hb5
        go_wp2_with fail
        refine (sameN2 A2 (some ⟨g2, 0, none⟩) c2 (nm) _ (nm) l1 w5 HX5.out HO5.out rfl HQ.out (by have := HQ.out; omega)).mono ?_
        rintro e w6 ⟨rfl, hb6⟩
        have HC6 := Lib.hid (HC5.out.trans (hb6.mono HC5.out.size))
        clear hb6
        go_wp2_with fail
        go_ret
        exact ⟨rfl, HB1.out.trans (HC6.out.mono hs1)⟩
      | false =>
        have HNo := Lib.hid (show ¬ DoesY T M q (begY T) from fun h => by have := HDo.out.2 h; simp at this)
        have hwn : IntKind.i64.wrap (((nm : Nat) : Int) - 1) = ((nm : Nat) : Int) - 1 := IntWalk.i64_in _ (by omega)
        go_wp2_with fail
        go_loopg [11] (nm) (fun k v wx => YlI w4 T.length q g2 (nm) k v wx)
        case atStart => exact ⟨0, by first | rfl | simp, by omega, by rw [List.drop_eq_nil_of_le (by rw [HQ.out]; exact Nat.le_refl _)]; rfl, by rw [List.take_of_length_le (by rw [HQ.out]; exact Nat.le_refl _)]; simpa using HO4.out, Below.refl _ _⟩
        case round =>
          clear HO4
          obtain ⟨c, rfl, hkc, hdr, ho, hb⟩ := hrel
          have HKc := Lib.hid hkc
          have HDr := Lib.hid hdr
          have HOi := Lib.hid ho
          have HBi := Lib.hid hb
          clear hkc hdr ho hb
          rcases Nat.eq_zero_or_pos gk with hk0 | hkp
          · subst hk0
            have hdr := HDr.out
            rw [List.drop_zero] at hdr
            have hc : c = nm := by have := HKc.out; omega
            have hall := none_full (T := T) (M := M) h1 (by rw [HL6.out, ← hc, ← hdr]; exact HQn.out) (by rw [HL6.out, ← hc, ← hdr]; exact HNo.out)
            have hr14 : r1 = 14 := by
              rcases HPl.out with ⟨_, b, c, d, _⟩ | ⟨a, _⟩
              · exact absurd d (hall l1 b c)
              · exact a
            subst hr14
            clear hdr hc hall
            have hm1 : ((0 : Nat) : Int) - 1 = -1 := by omega
            rw [hm1]
            go_wp2_with fail
            refine (awake_any _).mono ?_
            rintro e w6 ⟨rfl, hb6⟩
            have HC6 := Lib.hid (HC4.out.trans ((HBi.out.mono hs2).trans (hb6.mono (Nat.le_trans hs2 (Nat.le_of_lt (own_block HOi.out g2 rfl).2)))))
            clear hb6
            go_wp2_with fail
            go_ret
            exact ⟨rfl, HB1.out.trans (HC6.out.mono hs1)⟩
          · obtain ⟨j, hj⟩ : ∃ j, gk = j + 1 := ⟨gk - 1, by omega⟩
            have hjn : j < nm := by have := HKc.out; omega
            have hjq : j < q.length := by rw [HQ.out]; exact hjn
            have hd1 : ((gk : Int) - 1) = (j : Int) := by omega
            have hj0 : (0 : Int) ≤ (j : Int) := by omega
            have hj1 : (j : Int) < ((nm : Nat) : Int) := by omega
            have hcl : j < (q.take gk ++ List.replicate c 0).length := by rw [List.length_append, List.length_take, List.length_replicate, HQ.out]; have := HKc.out; omega
            have g0 := own1 HOi.out j hcl
            have hge : (q.take gk ++ List.replicate c 0)[j] = q[j] := by
              rw [List.getElem_append_left (by rw [List.length_take]; omega), List.getElem_take]
            rw [hge] at g0
            simp only [natV] at g0
            have gf := own_frozen HOi.out j
            have ggl := own_block HOi.out g2 rfl
            obtain ⟨ggb, ggl⟩ := ggl
            have hqj := HQd.out q[j] (List.getElem_mem hjq)
            have HTk := Lib.hid (show q.take gk = q.take j ++ [q[j]] by rw [hj, List.take_succ_eq_append_getElem hjq])
            have hwt : IntKind.i64.wrap ((T.length : Int) - 1) = (T.length : Int) - 1 := IntWalk.i64_in _ (by omega)
            have hst : ∀ y : Nat, (q.take gk ++ List.replicate c 0).set j y = q.take j ++ y :: List.replicate c 0 := fun y => by
              rw [HTk.out, List.append_assoc, List.set_append_right _ _ (by rw [List.length_take]; omega), List.length_take, Nat.min_eq_left (by omega), Nat.sub_self]
              rfl
            have HSt := Lib.hid hst
            have HJ := Lib.hid hj
            rw [hd1]
            clear hge hst hd1 hj hcl
            by_cases hlast : q[j] = T.length - 1
            · have hl' : (((q[j] : Nat) : Int) == (T.length : Int) - 1) = true := by simp; omega
              have HO9 := Lib.hid (own1_set HOi.out j 0)
              rw [HSt.out] at HO9
              have HB9 := Lib.hid (HBi.out.setCell (p := ⟨g2, j, none⟩) ggb (natV 0))
              have hwj : IntKind.i64.wrap ((j : Int) - 1) = (j : Int) - 1 := IntWalk.i64_in _ (by omega)
              simp only [natV] at HO9 HB9
              go_wp2_with fail
              go_roundg j
              case measure => have := HJ.out; omega
              case rel => exact ⟨c + 1, by first | rfl | go_num, by have := HKc.out; have := HJ.out; omega, by
                rw [List.drop_eq_getElem_cons hjq, hlast, ← HJ.out, HDr.out]; rfl, HO9.out, HB9.out⟩
            · have hl' : (((q[j] : Nat) : Int) == (T.length : Int) - 1) = false := by simp; omega
              have HO9 := Lib.hid (own1_set HOi.out j (q[j] + 1))
              rw [HSt.out] at HO9
              have HB9 := Lib.hid ((HB4.out.trans HBi.out).setCell (p := ⟨g2, j, none⟩) ggb (natV (q[j] + 1)))
              have HQs := Lib.hid (show q = q.take j ++ q[j] :: List.replicate c (T.length - 1) by
                conv => lhs; rw [← List.take_append_drop j q]
                rw [List.drop_eq_getElem_cons hjq, ← HJ.out, HDr.out])
              have hlq : (q.take j ++ q[j] :: List.replicate c (T.length - 1)).length = (M).length := by rw [← HQs.out, HQ.out, HL6.out]
              have HNn := Lib.hid (none_next (M := M) (a := q.take j) (d := q[j]) (k := c) h1 hlq (by rw [← HQs.out]; exact HQd.out) (by rw [← HQs.out]; exact HQn.out) (by rw [← HQs.out]; exact HNo.out))
              have hvn := valP_next (n := T.length) h1 (q.take j) q[j] c
              rw [← HQs.out] at hvn
              have HVn := Lib.hid hvn
              have hvq := valP_lt q HQd.out
              rw [HQ.out] at hvq
              have HVq := Lib.hid hvq
              have HLn := Lib.hid (show (q.take j ++ (q[j] + 1) :: List.replicate c 0).length = nm by
                have h := hlq
                rw [HL6.out] at h
                simpa using h)
              have HDn := Lib.hid (show ∀ d ∈ q.take j ++ (q[j] + 1) :: List.replicate c 0, d < T.length from fun d hd => by
                rcases List.mem_append.1 hd with hd | hd
                · exact HQd.out d (List.mem_of_mem_take hd)
                · rcases List.mem_cons.1 hd with rfl | hd
                  · omega
                  · obtain ⟨_, rfl⟩ := List.mem_replicate.1 hd; omega)
              have hwq : IntKind.i64.wrap ((q[j] : Int) + 1) = (q[j] : Int) + 1 := IntWalk.i64_in _ (by omega)
              simp only [natV] at HO9 HB9
              rw [show ((q[j] + 1 : Nat) : Int) = (q[j] : Int) + 1 by omega] at HO9 HB9
              clear hlq hvn hvq
              go_wp2_with fail
              go_roundg (T.length ^ (nm) - valP T.length q - 1)
              case measure => have := HQv.out; have := HVq.out; omega
              case rel => exact ⟨q.take j ++ (q[j] + 1) :: List.replicate c 0, HLn.out, HDn.out, by rw [HVn.out]; have := HVq.out; omega, HNn.out, HO9.out, HB9.out⟩
end Go.Proofs.Ytffgnfefejimnaa
