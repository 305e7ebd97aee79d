import Derived.Test.YtffgnfefejimnaaYe5
import Derived.Test.YtffgnfefejimnaaYdLaw4
namespace Go.Proofs.Ytffgnfefejimnaa
open Go.RowKit
theorem repl_len {T : List Tk} : ∀ {M : List Mv} {P : List Int} {s : Yst} {l : List Nat}, replY T M P s = some l → l.length = M.length
  | [], _, _, l, h => by simp [replY] at h; subst h; rfl
  | m :: ms, [], _, l, h => by simp [replY] at h
  | m :: ms, p :: ps, s, l, h => by
    rw [replY_cons] at h
    split at h
    · cases ha : actY T m p.toNat s with
      | none => rw [ha] at h; simp at h
      | some q =>
        obtain ⟨u, s'⟩ := q
        rw [ha] at h
        simp only [Option.map_eq_some_iff] at h
        obtain ⟨l', h1, rfl⟩ := h
        simp [repl_len h1]
    · cases h
theorem replF_len {T : List Tk} {M : List Mv} {P : List Int} : (replF T M P).1.length ≤ M.length := by
  unfold replF
  split
  · cases h : replY T M P (begY T) with
    | none => simp
    | some l => simp [repl_len h]
  · simp
theorem plan_dig {T : List Tk} {M : List Mv} {b : Int} (hc : chkY T M = true) : ∀ d ∈ (planF T M b).1, d < T.length := by
  intro d hd
  unfold planF at hd
  rw [if_pos hc] at hd
  split at hd
  · unfold planR at hd
    split at hd
    · rename_i h0; exact ((srch_least T b.toNat M (begY T) 0).y h0).2.1 d hd
    · split at hd <;> simp at hd
  · simp at hd
def RyL (w5 : World) (g n : Nat) (k : Nat) (v : Value) (wr : World) : Prop :=
  ∃ (i : Nat) (zs : List Int), v = .int .i64 i ∧ i + k = n ∧ zs.length = n ∧ (∀ z ∈ zs, 0 ≤ z ∧ z ≤ 8) ∧ wr.ownsRow g 3 1 (.slice (some ⟨g, 0, none⟩) n n) n (zs.map (Value.int .i64)) ∧ Below g w5 wr
set_option maxRecDepth 100000 in
set_option maxHeartbeats 3200000 in
theorem ylreplay_true (A0 : Option Addr) (n0 c0 : Nat) (z0 : List Int) (A1 : Option Addr) (n1 c1 : Nat) (z1 : List Int) (a1 a2 : Int) (w : World) (h0 : Rd w w.heap.size 1 A0 n0 (z0.map (Value.int .i64))) (m0 : n0 ≤ c0 ∧ c0 ≤ maxLen ∧ c0 * 8 ≤ 140737488351232) (h1 : Rd w w.heap.size 1 A1 n1 (z1.map (Value.int .i64))) (m1 : n1 ≤ c1 ∧ c1 ≤ maxLen ∧ c1 * 8 ≤ 140737488351232) (_w1 : (Lit.int .i64 a1).wf = true) (_w2 : (Lit.int .i64 a2).wf = true) :
    Calls Try.prog 4 #[.slice A0 n0 c0, .slice A1 n1 c1, .int .i64 a1, .int .i64 a2] w fun e w' => e = .returned (.bool true) ∧ Below w.heap.size w w' := by
  have H0 := Lib.hid h0
  have hm0 : n0 ≤ maxLen := by omega
  have M0 := Lib.hid hm0
  have H1 := Lib.hid h1
  have hm1 : n1 ≤ 4611686018427387904 := by have := m1.2.1; simp only [maxLen] at this; omega
  clear h0 m0 hm0 _w1 _w2 h1 m1
  obtain ⟨i0, a1', a2', a3', a4'⟩ := info_parts infoInt
  have HI := Lib.hid (And.intro a1' (And.intro a2' (And.intro a3' a4')))
  clear a1' a2' a3' a4'
  go_enter Try.func4, Try.ntmps4
  go_wp2_with fail
  refine (yard_any A0 n0 c0 z0 w H0.out M0.out).mono ?_
  rintro e w1 ⟨A, B, cA, cB, T, M, rfl, h1, h3, h7, hT, hM, hoT, hoM, hb1⟩
  have HTr := Lib.hid (trd (Rd.of_own hoT) (by omega))
  have HMr := Lib.hid (mrd (Rd.of_own hoM) (by omega))
  have HB1 := Lib.hid hb1
  have HCk := Lib.hid (chk_of h1 (by omega) (fun t ht => by have := hT t ht; unfold YgT at this; omega) (by omega) hM)
  clear hT hM hoT hoM hb1
  obtain ⟨⟨l1, u1, r1⟩, hp1⟩ : ∃ r, planF T M 1048576 = r := ⟨_, rfl⟩
  have hl1 : l1.length ≤ 24 := by have := plan_len (T := T) (b := 1048576) (show M.length ≤ 24 by omega); rw [hp1] at this; exact this
  have HP1 := Lib.hid hp1
  have HPd8 := Lib.hid (show ∀ d ∈ l1, d < 8 from fun d hd => by have := plan_dig (T := T) (M := M) (b := 1048576) HCk.out d (by rw [hp1]; exact hd); omega)
  clear hp1
  go_wp2_with fail
  refine (rplan_at HP1.out HTr.out HMr.out rfl rfl).mono ?_
  rintro e w2 ⟨A2, c2, rfl, hb2, _, ho2⟩
  have HC2 := Lib.hid hb2
  have hs1 := HB1.out.size
  have hs2 := hb2.size
  have HO2 := Lib.hid ho2
  clear hb2 ho2
  by_cases hl0 : l1.length = 0
  · have HPo := Lib.hid (show w2.ownsRow w1.heap.size 3 1 (.slice A2 0 c2) 0 (([] : List Int).map (Value.int .i64)) by
      have h := HO2.out
      rwa [show l1.map natV = ([] : List Int).map (Value.int .i64) by rw [List.eq_nil_of_length_eq_zero hl0]; rfl, hl0] at h)
    have hPl : ([] : List Int).length = 0 := rfl
    have HPv := Lib.hid (show ∀ p ∈ ([] : List Int), -9223372036854775808 ≤ p ∧ p ≤ 9223372036854775807 from fun p hp => by simp at hp)
    have hgt : True := trivial
    generalize ([] : List Int) = P at *
    clear HO2
    go_upto_region 5 with fail
    clear hl0
    clear hgt
    go_wp2_with (at_make; refine wpList_make_full _ rfl _ _ 22 rfl (w2.heap.size) 3 i0 _ 1 Try.underlying22 HI.out.1 HI.out.2.1 HI.out.2.2.1 .i64 .i64 _ _ M.length rfl rfl rfl rfl ?m1 ?m2 ?m3 ?_; rotate_right; intro w5 hown5 hg5)
    case m1 => rw [HI.out.2.2.2]; omega
    case m2 => simp only [maxLen]; omega
    case m3 => omega
    have hb5 : Below w2.heap.size w2 w5 := (Below.refl _ _).grown hg5 (Nat.le_refl _) (fun k hk => by cases hk)
    have HG5 := Lib.hid (show w5.ownsRow w2.heap.size 3 1 (.slice (some ⟨w2.heap.size, 0, none⟩) M.length M.length) M.length ((List.replicate M.length (0 : Int)).map (Value.int .i64)) by
      have h := madeCells_one (Value.int .i64) 0 M.length
      rw [← h]
      exact hown5)
    have HPq := Lib.hid (own_grow HPo.out hb5)
    have HPb := Lib.hid (show ∀ g, (Value.slice A2 (0) c2).ownBlock = some g → g < w2.heap.size from fun g e => (own_block HPo.out g e).2)
    have HC5 := Lib.hid (HC2.out.trans (hb5.mono hs2))
    clear hown5 hg5 hb5 HPo HC2
    generalize w2.heap.size = gA at *
    go_wp2_with fail
    go_loopg [56] M.length (fun k v wr => RyL w5 gA M.length k v wr)
    case atStart => exact ⟨0, _, rfl, by omega, by simp, fun z hz => by obtain ⟨_, rfl⟩ := List.mem_replicate.1 hz; omega, HG5.out, Below.refl _ _⟩
    case round =>
      clear HG5
      obtain ⟨i, zs, rfl, hi, hzl, hzb, ho, hb⟩ := hrel
      have Hi := Lib.hid hi
      have HZl := Lib.hid hzl
      have HZb := Lib.hid hzb
      have HO := Lib.hid ho
      have HB := Lib.hid hb
      clear hi hzl hzb ho hb
      have hs5 := HC5.out.size
      have hsr := HB.out.size
      by_cases hlt : i < M.length
      · have hiz : i < zs.length := by rw [HZl.out]; exact hlt
        have g0 := own1 HO.out i hiz
        have gf := own_frozen HO.out i
        have ggl := (own_block HO.out gA rfl).2
        have hii0 : (0 : Int) ≤ (i : Int) := by omega
        have hii1 : (i : Int) < (M.length : Int) := by omega
        by_cases hraw : i < n1
        · have hz1 : n1 = z1.length := by have := H1.out.1; simp at this; omega
          have HBr := Lib.hid ((HB1.out.trans (HC5.out.mono hs1)).trans (HB.out.mono (Nat.le_trans hs1 hs2)))
          obtain ⟨rb, ro, rfl, hrb, r0⟩ := rd1 (H1.out.grow HBr.out) i (by omega)
          have hrbl : rb < wr.heap.size := World.block_lt_of_cell? _ _ r0
          obtain ⟨q, hq, hql⟩ := pick_nat (z1[i]'(by omega)) (n := (T.length : Int)) (by omega) (by omega)
          have HQ := Lib.hid hq
          have hraw' : (i : Int) < (n1 : Int) := by omega
          generalize z1[i]'(by omega) = x at *
          clear hq hz1 HBr
          go_wp2_with fail
          refine (pickB wr (by omega) (by omega) HQ.out).mono ?_
          rintro e w7 ⟨rfl, hb7⟩
          have HO7 := Lib.hid (own_grow HO.out hb7)
          have HB7 := Lib.hid (HB.out.trans (hb7.mono (Nat.le_of_lt ggl)))
          clear g0 gf ggl hb7 hrbl r0 HO HB hsr
          have g0 := own1 HO7.out i hiz
          have gf := own_frozen HO7.out i
          have ggb := own_block HO7.out gA rfl
          obtain ⟨ggb, ggl⟩ := ggb
          have HO8 := Lib.hid (own1_set HO7.out i (q : Int))
          have HB8 := Lib.hid (HB7.out.setCell (p := ⟨gA, i, none⟩) ggb (.int .i64 (q : Int)))
          go_wp2_with fail
          go_roundg (M.length - i - 1)
          case measure => have := Hi.out; omega
          case rel => exact ⟨i + 1, zs.set i (q : Int), by first | rfl | go_num, by omega, by simp [HZl.out], fun z hz => by
            rcases List.mem_or_eq_of_mem_set hz with hz | rfl
            · exact HZb.out z hz
            · omega, HO8.out, HB8.out⟩
        · have hraw' : decide ((i : Int) < (n1 : Int)) = false := decide_eq_false (by omega)
          clear g0 gf ggl
          go_wp2_with fail
          go_roundg (M.length - i - 1)
          case measure => have := Hi.out; omega
          case rel => exact ⟨i + 1, zs, by first | rfl | go_num, by omega, HZl.out, HZb.out, HO.out, HB.out⟩
      · obtain ⟨⟨ra, oka⟩, hra⟩ : ∃ r, replF T M P = r := ⟨_, rfl⟩
        obtain ⟨⟨rc, okc⟩, hrc⟩ : ∃ r, replF T M zs = r := ⟨_, rfl⟩
        have hal : ra.length ≤ 7 := by have := replF_len (T := T) (M := M) (P := P); rw [hra] at this; simp only at this; omega
        have hcl : rc.length ≤ 7 := by have := replF_len (T := T) (M := M) (P := zs); rw [hrc] at this; simp only at this; omega
        have HRa := Lib.hid hra
        have HRc := Lib.hid hrc
        have HC6 := Lib.hid (HC5.out.trans (HB.out.mono hs2))
        have HT6 := Lib.hid (HTr.out.grow HC6.out)
        have HM6 := Lib.hid (HMr.out.grow HC6.out)
        have hPn : P.length ≤ 4611686018427387904 := by omega
        have hzn : zs.length ≤ 4611686018427387904 := by have := HZl.out; omega
        have hp6 := Rd.of_own (own_below HPq.out HB.out HPb.out)
        rw [← hPl] at hp6
        have HP6 := Lib.hid hp6
        have hz6 := Rd.of_own HO.out
        rw [← HZl.out] at hz6
        have HZ6 := Lib.hid hz6
        have HZv := Lib.hid (show ∀ p ∈ zs, -9223372036854775808 ≤ p ∧ p ≤ 9223372036854775807 from fun p hp => by have := HZb.out p hp; omega)
        have hs6 := HC6.out.size
        clear hra hrc hp6 hz6 HPq HO HB HC5 hsr
        go_wp2_with fail
        refine (replay_at HRa.out HT6.out HM6.out HP6.out hPn HPv.out rfl rfl hPl).mono ?_
        rintro e wa ⟨Aa, ca, rfl, hba, hra⟩
        have HCa := Lib.hid (HC6.out.trans (hba.mono hs6))
        have HTa := Lib.hid (HT6.out.grow hba)
        have HMa := Lib.hid (HM6.out.grow hba)
        have HPa := Lib.hid ((HP6.out.grow hba).more hba.size)
        have HZa := Lib.hid ((HZ6.out.grow hba).more hba.size)
        have HXa := Lib.hid hra
        have hsa := HCa.out.size
        clear hba hra HC6 HT6 HM6 HP6 HZ6 hs6
        go_wp2_with fail
        refine (rreplay_at HRa.out HTa.out HMa.out HPa.out hPn HPv.out rfl rfl hPl).mono ?_
        rintro e wb ⟨Ab, cb, rfl, hbb, hrb⟩
        have HCb := Lib.hid (HCa.out.trans (hbb.mono hsa))
        have HTb := Lib.hid (HTa.out.grow hbb)
        have HMb := Lib.hid (HMa.out.grow hbb)
        have HZb2 := Lib.hid ((HZa.out.grow hbb).more hbb.size)
        have HXb := Lib.hid ((HXa.out.grow hbb).more hbb.size)
        have HYb := Lib.hid hrb
        have hsb := HCb.out.size
        clear hbb hrb HCa HTa HMa HPa HZa HXa hsa
        go_wp2_with fail
        refine (replay_at HRc.out HTb.out HMb.out HZb2.out hzn HZv.out rfl rfl HZl.out).mono ?_
        rintro e wc ⟨Ac, cc, rfl, hbc, hrc⟩
        have HCc := Lib.hid (HCb.out.trans (hbc.mono hsb))
        have HTc := Lib.hid (HTb.out.grow hbc)
        have HMc := Lib.hid (HMb.out.grow hbc)
        have HZc := Lib.hid ((HZb2.out.grow hbc).more hbc.size)
        have HXc := Lib.hid ((HXb.out.grow hbc).more hbc.size)
        have HYc := Lib.hid ((HYb.out.grow hbc).more hbc.size)
        have HVc := Lib.hid hrc
        have hsc := HCc.out.size
        clear hbc hrc HCb HTb HMb HZb2 HXb HYb hsb
        go_wp2_with fail
        refine (rreplay_at HRc.out HTc.out HMc.out HZc.out hzn HZv.out rfl rfl HZl.out).mono ?_
        rintro e wd ⟨Ad, cd, rfl, hbd, hrd⟩
        have HCd := Lib.hid (HCc.out.trans (hbd.mono hsc))
        have HXd := Lib.hid ((HXc.out.grow hbd).more hbd.size)
        have HYd := Lib.hid ((HYc.out.grow hbd).more hbd.size)
        have HVd := Lib.hid ((HVc.out.grow hbd).more hbd.size)
        have HWd := Lib.hid hrd
        have hsd := HCd.out.size
        clear hbd hrd HCc HTc HMc HZc HXc HYc HVc hsc
        go_wp2_with fail
        refine (awake_any wd).mono ?_
        rintro e we ⟨rfl, hbe⟩
        have HCe := Lib.hid (HCd.out.trans (hbe.mono hsd))
        have HXe := Lib.hid ((HXd.out.grow hbe).more hbe.size)
        have HYe := Lib.hid ((HYd.out.grow hbe).more hbe.size)
        have HVe := Lib.hid ((HVd.out.grow hbe).more hbe.size)
        have HWe := Lib.hid ((HWd.out.grow hbe).more hbe.size)
        have hse := HCe.out.size
        clear hbe HCd HXd HYd HVd HWd hsd
        go_wp2_with fail
        refine (sameN Aa Ab ca cb ra we HXe.out HYe.out (by omega)).mono ?_
        rintro e wf ⟨rfl, hbf⟩
        have HCf := Lib.hid (HCe.out.trans (hbf.mono hse))
        have HVf := Lib.hid ((HVe.out.grow hbf).more hbf.size)
        have HWf := Lib.hid ((HWe.out.grow hbf).more hbf.size)
        have hsf := HCf.out.size
        clear hbf HCe HXe HYe HVe HWe hse
        go_wp2_with fail
        refine (sameN Ac Ad cc cd rc wf HVf.out HWf.out (by omega)).mono ?_
        rintro e wg ⟨rfl, hbg⟩
        have HCg := Lib.hid (HCf.out.trans (hbg.mono hsf))
        clear hbg
        go_wp2_with fail
        go_ret
        exact ⟨by simp, HB1.out.trans (HCg.out.mono hs1)⟩
  · obtain ⟨g2, rfl, hgb, hgl⟩ : ∃ g, A2 = some ⟨g, 0, none⟩ ∧ w1.heap.size ≤ g ∧ g < w2.heap.size := by
      obtain ⟨g, cap, e, h1, h2⟩ := HO2.out.form (by omega)
      injection e with e
      exact ⟨g, e, h1, h2⟩
    obtain ⟨i, hi, hil⟩ := pick_nat a1 (n := (l1.length : Int)) (by omega) (by omega)
    obtain ⟨d, hd, hdl⟩ := pick_nat a2 (n := (T.length : Int) + 2) (by omega) (by omega)
    have hi1 : i < l1.length := by omega
    have hi0 : (0 : Int) ≤ (i : Int) := by omega
    have hd0 : (0 : Int) ≤ (d : Int) := by omega
    have HPi := Lib.hid hi
    have HPd := Lib.hid hd
    have hgt : decide ((0 : Int) < (l1.length : Int)) = true := decide_eq_true (by omega)
    clear hi hd
    go_wp2_with fail
    refine (pickB w2 (by omega) (by omega) HPi.out).mono ?_
    rintro e w3 ⟨rfl, hb3⟩
    have HC3 := Lib.hid (HC2.out.trans (hb3.mono hs2))
    have HO3 := Lib.hid (own_grow HO2.out hb3)
    have hs3 := HC3.out.size
    clear hb3 HC2 HO2 hs2 hgl
    go_wp2_with fail
    refine (pickB w3 (by omega) (by omega) HPd.out).mono ?_
    rintro e w4 ⟨rfl, hb4⟩
    have HC4 := Lib.hid (HC3.out.trans (hb4.mono hs3))
    have HO4 := Lib.hid (show w4.ownsRow w1.heap.size 3 1 (.slice (some ⟨g2, 0, none⟩) l1.length c2) l1.length ((l1.map fun x : Nat => (x : Int)).map (Value.int .i64)) by
      rw [List.map_map]; exact own_grow HO3.out hb4)
    have x0 := own1 HO4.out i (by simpa using hi1)
    have f0 := own_frozen HO4.out i
    have hgl := (own_block HO4.out g2 rfl).2
    clear hb4 HC3 HO3 hs3
    go_upto_region 5 with fail
    have HPo := Lib.hid (own1_set HO4.out i ((d : Int) - 1))
    have HC2 := Lib.hid (HC4.out.setCell (p := ⟨g2, i, none⟩) hgb (.int .i64 ((d : Int) - 1)))
    have hs2 := HC2.out.size
    have HPv := Lib.hid (show ∀ p ∈ (l1.map fun x : Nat => (x : Int)).set i ((d : Int) - 1), -9223372036854775808 ≤ p ∧ p ≤ 9223372036854775807 from fun p hp => by
      rcases List.mem_or_eq_of_mem_set hp with hp | rfl
      · obtain ⟨x, hx, rfl⟩ := List.mem_map.1 hp
        have := HPd8.out x hx
        omega
      · omega)
    have hPl : ((l1.map fun x : Nat => (x : Int)).set i ((d : Int) - 1)).length = l1.length := by simp
    generalize (l1.map fun x : Nat => (x : Int)).set i ((d : Int) - 1) = P at *
    generalize some (⟨g2, 0, none⟩ : Addr) = A2 at *
    clear x0 f0 hgl HC4 HO4
    generalize w4.setCell ⟨g2, i, none⟩ (.int .i64 ((d : Int) - 1)) = w2 at *
    clear hgt
    go_wp2_with (at_make; refine wpList_make_full _ rfl _ _ 22 rfl (w2.heap.size) 3 i0 _ 1 Try.underlying22 HI.out.1 HI.out.2.1 HI.out.2.2.1 .i64 .i64 _ _ M.length rfl rfl rfl rfl ?m1 ?m2 ?m3 ?_; rotate_right; intro w5 hown5 hg5)
    case m1 => rw [HI.out.2.2.2]; omega
    case m2 => simp only [maxLen]; omega
    case m3 => omega
    have hb5 : Below w2.heap.size w2 w5 := (Below.refl _ _).grown hg5 (Nat.le_refl _) (fun k hk => by cases hk)
    have HG5 := Lib.hid (show w5.ownsRow w2.heap.size 3 1 (.slice (some ⟨w2.heap.size, 0, none⟩) M.length M.length) M.length ((List.replicate M.length (0 : Int)).map (Value.int .i64)) by
      have h := madeCells_one (Value.int .i64) 0 M.length
      rw [← h]
      exact hown5)
    have HPq := Lib.hid (own_grow HPo.out hb5)
    have HPb := Lib.hid (show ∀ g, (Value.slice A2 (l1.length) c2).ownBlock = some g → g < w2.heap.size from fun g e => (own_block HPo.out g e).2)
    have HC5 := Lib.hid (HC2.out.trans (hb5.mono hs2))
    clear hown5 hg5 hb5 HPo HC2
    generalize w2.heap.size = gA at *
    go_wp2_with fail
    go_loopg [56] M.length (fun k v wr => RyL w5 gA M.length k v wr)
    case atStart => exact ⟨0, _, rfl, by omega, by simp, fun z hz => by obtain ⟨_, rfl⟩ := List.mem_replicate.1 hz; omega, HG5.out, Below.refl _ _⟩
    case round =>
      clear HG5
      obtain ⟨i, zs, rfl, hi, hzl, hzb, ho, hb⟩ := hrel
      have Hi := Lib.hid hi
      have HZl := Lib.hid hzl
      have HZb := Lib.hid hzb
      have HO := Lib.hid ho
      have HB := Lib.hid hb
      clear hi hzl hzb ho hb
      have hs5 := HC5.out.size
      have hsr := HB.out.size
      by_cases hlt : i < M.length
      · have hiz : i < zs.length := by rw [HZl.out]; exact hlt
        have g0 := own1 HO.out i hiz
        have gf := own_frozen HO.out i
        have ggl := (own_block HO.out gA rfl).2
        have hii0 : (0 : Int) ≤ (i : Int) := by omega
        have hii1 : (i : Int) < (M.length : Int) := by omega
        by_cases hraw : i < n1
        · have hz1 : n1 = z1.length := by have := H1.out.1; simp at this; omega
          have HBr := Lib.hid ((HB1.out.trans (HC5.out.mono hs1)).trans (HB.out.mono (Nat.le_trans hs1 hs2)))
          obtain ⟨rb, ro, rfl, hrb, r0⟩ := rd1 (H1.out.grow HBr.out) i (by omega)
          have hrbl : rb < wr.heap.size := World.block_lt_of_cell? _ _ r0
          obtain ⟨q, hq, hql⟩ := pick_nat (z1[i]'(by omega)) (n := (T.length : Int)) (by omega) (by omega)
          have HQ := Lib.hid hq
          have hraw' : (i : Int) < (n1 : Int) := by omega
          generalize z1[i]'(by omega) = x at *
          clear hq hz1 HBr
          go_wp2_with fail
          refine (pickB wr (by omega) (by omega) HQ.out).mono ?_
          rintro e w7 ⟨rfl, hb7⟩
          have HO7 := Lib.hid (own_grow HO.out hb7)
          have HB7 := Lib.hid (HB.out.trans (hb7.mono (Nat.le_of_lt ggl)))
          clear g0 gf ggl hb7 hrbl r0 HO HB hsr
          have g0 := own1 HO7.out i hiz
          have gf := own_frozen HO7.out i
          have ggb := own_block HO7.out gA rfl
          obtain ⟨ggb, ggl⟩ := ggb
          have HO8 := Lib.hid (own1_set HO7.out i (q : Int))
          have HB8 := Lib.hid (HB7.out.setCell (p := ⟨gA, i, none⟩) ggb (.int .i64 (q : Int)))
          go_wp2_with fail
          go_roundg (M.length - i - 1)
          case measure => have := Hi.out; omega
          case rel => exact ⟨i + 1, zs.set i (q : Int), by first | rfl | go_num, by omega, by simp [HZl.out], fun z hz => by
            rcases List.mem_or_eq_of_mem_set hz with hz | rfl
            · exact HZb.out z hz
            · omega, HO8.out, HB8.out⟩
        · have hraw' : decide ((i : Int) < (n1 : Int)) = false := decide_eq_false (by omega)
          clear g0 gf ggl
          go_wp2_with fail
          go_roundg (M.length - i - 1)
          case measure => have := Hi.out; omega
          case rel => exact ⟨i + 1, zs, by first | rfl | go_num, by omega, HZl.out, HZb.out, HO.out, HB.out⟩
      · obtain ⟨⟨ra, oka⟩, hra⟩ : ∃ r, replF T M P = r := ⟨_, rfl⟩
        obtain ⟨⟨rc, okc⟩, hrc⟩ : ∃ r, replF T M zs = r := ⟨_, rfl⟩
        have hal : ra.length ≤ 7 := by have := replF_len (T := T) (M := M) (P := P); rw [hra] at this; simp only at this; omega
        have hcl : rc.length ≤ 7 := by have := replF_len (T := T) (M := M) (P := zs); rw [hrc] at this; simp only at this; omega
        have HRa := Lib.hid hra
        have HRc := Lib.hid hrc
        have HC6 := Lib.hid (HC5.out.trans (HB.out.mono hs2))
        have HT6 := Lib.hid (HTr.out.grow HC6.out)
        have HM6 := Lib.hid (HMr.out.grow HC6.out)
        have hPn : P.length ≤ 4611686018427387904 := by omega
        have hzn : zs.length ≤ 4611686018427387904 := by have := HZl.out; omega
        have hp6 := Rd.of_own (own_below HPq.out HB.out HPb.out)
        rw [← hPl] at hp6
        have HP6 := Lib.hid hp6
        have hz6 := Rd.of_own HO.out
        rw [← HZl.out] at hz6
        have HZ6 := Lib.hid hz6
        have HZv := Lib.hid (show ∀ p ∈ zs, -9223372036854775808 ≤ p ∧ p ≤ 9223372036854775807 from fun p hp => by have := HZb.out p hp; omega)
        have hs6 := HC6.out.size
        clear hra hrc hp6 hz6 HPq HO HB HC5 hsr
        go_wp2_with fail
        refine (replay_at HRa.out HT6.out HM6.out HP6.out hPn HPv.out rfl rfl hPl).mono ?_
        rintro e wa ⟨Aa, ca, rfl, hba, hra⟩
        have HCa := Lib.hid (HC6.out.trans (hba.mono hs6))
        have HTa := Lib.hid (HT6.out.grow hba)
        have HMa := Lib.hid (HM6.out.grow hba)
        have HPa := Lib.hid ((HP6.out.grow hba).more hba.size)
        have HZa := Lib.hid ((HZ6.out.grow hba).more hba.size)
        have HXa := Lib.hid hra
        have hsa := HCa.out.size
        clear hba hra HC6 HT6 HM6 HP6 HZ6 hs6
        go_wp2_with fail
        refine (rreplay_at HRa.out HTa.out HMa.out HPa.out hPn HPv.out rfl rfl hPl).mono ?_
        rintro e wb ⟨Ab, cb, rfl, hbb, hrb⟩
        have HCb := Lib.hid (HCa.out.trans (hbb.mono hsa))
        have HTb := Lib.hid (HTa.out.grow hbb)
        have HMb := Lib.hid (HMa.out.grow hbb)
        have HZb2 := Lib.hid ((HZa.out.grow hbb).more hbb.size)
        have HXb := Lib.hid ((HXa.out.grow hbb).more hbb.size)
        have HYb := Lib.hid hrb
        have hsb := HCb.out.size
        clear hbb hrb HCa HTa HMa HPa HZa HXa hsa
        go_wp2_with fail
        refine (replay_at HRc.out HTb.out HMb.out HZb2.out hzn HZv.out rfl rfl HZl.out).mono ?_
        rintro e wc ⟨Ac, cc, rfl, hbc, hrc⟩
        have HCc := Lib.hid (HCb.out.trans (hbc.mono hsb))
        have HTc := Lib.hid (HTb.out.grow hbc)
        have HMc := Lib.hid (HMb.out.grow hbc)
        have HZc := Lib.hid ((HZb2.out.grow hbc).more hbc.size)
        have HXc := Lib.hid ((HXb.out.grow hbc).more hbc.size)
        have HYc := Lib.hid ((HYb.out.grow hbc).more hbc.size)
        have HVc := Lib.hid hrc
        have hsc := HCc.out.size
        clear hbc hrc HCb HTb HMb HZb2 HXb HYb hsb
        go_wp2_with fail
        refine (rreplay_at HRc.out HTc.out HMc.out HZc.out hzn HZv.out rfl rfl HZl.out).mono ?_
        rintro e wd ⟨Ad, cd, rfl, hbd, hrd⟩
        have HCd := Lib.hid (HCc.out.trans (hbd.mono hsc))
        have HXd := Lib.hid ((HXc.out.grow hbd).more hbd.size)
        have HYd := Lib.hid ((HYc.out.grow hbd).more hbd.size)
        have HVd := Lib.hid ((HVc.out.grow hbd).more hbd.size)
        have HWd := Lib.hid hrd
        have hsd := HCd.out.size
        clear hbd hrd HCc HTc HMc HZc HXc HYc HVc hsc
        go_wp2_with fail
        refine (awake_any wd).mono ?_
        rintro e we ⟨rfl, hbe⟩
        have HCe := Lib.hid (HCd.out.trans (hbe.mono hsd))
        have HXe := Lib.hid ((HXd.out.grow hbe).more hbe.size)
        have HYe := Lib.hid ((HYd.out.grow hbe).more hbe.size)
        have HVe := Lib.hid ((HVd.out.grow hbe).more hbe.size)
        have HWe := Lib.hid ((HWd.out.grow hbe).more hbe.size)
        have hse := HCe.out.size
        clear hbe HCd HXd HYd HVd HWd hsd
        go_wp2_with fail
        refine (sameN Aa Ab ca cb ra we HXe.out HYe.out (by omega)).mono ?_
        rintro e wf ⟨rfl, hbf⟩
        have HCf := Lib.hid (HCe.out.trans (hbf.mono hse))
        have HVf := Lib.hid ((HVe.out.grow hbf).more hbf.size)
        have HWf := Lib.hid ((HWe.out.grow hbf).more hbf.size)
        have hsf := HCf.out.size
        clear hbf HCe HXe HYe HVe HWe hse
        go_wp2_with fail
        refine (sameN Ac Ad cc cd rc wf HVf.out HWf.out (by omega)).mono ?_
        rintro e wg ⟨rfl, hbg⟩
        have HCg := Lib.hid (HCf.out.trans (hbg.mono hsf))
        clear hbg
        go_wp2_with fail
        go_ret
        exact ⟨by simp, HB1.out.trans (HCg.out.mono hs1)⟩
end Go.Proofs.Ytffgnfefejimnaa
