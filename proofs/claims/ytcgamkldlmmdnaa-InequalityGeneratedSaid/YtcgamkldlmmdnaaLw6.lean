import Derived.Test.YtcgamkldlmmdnaaLw5
namespace Go.Proofs.Ytcgamkldlmmdnaa
open Go.RowKit

def IntsOut2 (w : World) (m : Nat) (hi : Int) (e : Ending) (w' : World) : Prop :=
  ∃ (A : Option Addr) (c : Nat) (zs : List Int), e = .returned (.slice A zs.length c) ∧ zs.length = m ∧ (∀ z ∈ zs, 0 ≤ z ∧ z < hi) ∧ Rd w' w'.heap.size 1 A zs.length (zs.map (Value.int .i64)) ∧ Below w.heap.size w w' ∧ zs.length ≤ c

set_option maxRecDepth 100000 in
set_option maxHeartbeats 3200000 in
theorem list_any2 (A : Option Addr) (n c m : Nat) (most : Int) (z : List Int) (w : World) (h : Rd w w.heap.size 1 A n (z.map (Value.int .i64))) (hn : n ≤ maxLen) (hm0 : 0 ≤ most) (hm1 : most ≤ 100000) (hne : m ≤ 512) :
    Calls Try.prog 24 #[.slice A n c, .int .i64 (m : Int), .int .i64 most] w (IntsOut2 w m (most + 1)) := by
  have H := Lib.hid h
  have Hn := Lib.hid hn
  clear h hn
  obtain ⟨i0, a1, a2, a3, a4⟩ := info_parts infoInt
  have HI := Lib.hid (And.intro a1 (And.intro a2 (And.intro a3 a4)))
  clear a1 a2 a3 a4
  go_enter Try.func24, Try.ntmps24
  go_wp2_with fail
  refine (from_any A n c z w H.out Hn.out).mono ?_
  rintro e w1 ⟨rfl, hs1, hb1, hz1⟩
  have Hb1 := Lib.hid hb1
  have Hs1 := Lib.hid hs1
  obtain ⟨b, hb⟩ : ∃ b, b = w.heap.size := ⟨_, rfl⟩
  rw [← hb] at ⊢
  rw [show Src w1 w.heap.size = Src w1 b by rw [hb]] at Hs1
  have hbw : w.heap.size ≤ b := by omega
  have hz : w1.heap.size = b + 1 := by omega
  clear hs1 hb1 hz1 hb
  go_upto_region 3 with (at_make; refine wpList_make_full _ rfl _ _ 22 rfl (b + 1) 3 i0 _ 1 Try.underlying22 HI.out.1 HI.out.2.1 HI.out.2.2.1 .i64 .i64 _ _ m rfl rfl rfl rfl ?m1 ?m2 ?m3 ?_; rotate_right; intro w2 hown2 hg2)
  case m1 => rw [HI.out.2.2.2]; omega
  case m2 => simp only [maxLen]; omega
  case m3 => omega
  have HL0 := Lib.hid (LsS.made (hi := most + 1) Hb1.out Hs1.out hbw hz (by omega) hown2 hg2)
  try rw [hz]
  clear hown2 hg2 Hs1 Hb1 H Hn hz
  go_wp2_with fail
  go_loopg [9, 16] m (fun k _ v wr => LsL w b (b + 1) m (most + 1) k v wr)
  case atStart => exact ⟨0, _, _, rfl, by omega, HL0.out⟩
  case round =>
    obtain ⟨j, l, zs, rfl, hj, hls⟩ := hrel
    clear HL0
    have Hj := Lib.hid hj
    have HL := Lib.hid hls
    clear hj hls
    by_cases hlt : j < m
    · go_upto_region 6 with fail
      go_wp2_with fail
      refine (next_any b l (most + 1) wr HL.out.src (by omega) (by omega)).mono ?_
      rintro e w5 ⟨rfl, hs2, ht2⟩
      have HL5 := Lib.hid (HL.out.turn hs2 ht2)
      have hk := nextV_bd l (most + 1) (by omega) (by omega)
      generalize nextV l (most + 1) = q at *
      obtain ⟨hq0, hq1⟩ := hk
      clear hs2 ht2 HL
      have hzl : zs.length = m := (own1_len HL5.out.own).symm
      have q0 := own1 HL5.out.own j (by omega)
      have q1 := HL5.out.own.frozenAt j
      have HL6 := Lib.hid (HL5.out.set j q hq0 hq1)
      go_wp2_with fail
      go_roundg (m - j - 1)
      case measure => have := Hj.out; omega
      case rel => exact ⟨j + 1, _, _, by first | rfl | go_num, by omega, HL6.out⟩
    · have Hzl := Lib.hid (own1_len HL.out.own).symm
      go_wp2_with fail
      go_ret
      exact ⟨_, m, zs, by rw [Hzl.out]; rfl, Hzl.out, HL.out.rg, by rw [Hzl.out]; exact Rd.of_own HL.out.own, HL.out.bel, by rw [Hzl.out]; exact Nat.le_refl _⟩

theorem Rd.tail1 {w : World} {B b off : Nat} {x : Int} {l : List Int} (h : Rd w B 1 (some ⟨b, off, none⟩) (x :: l).length ((x :: l).map (Value.int .i64))) : Rd w B 1 (some ⟨b, off + 1, none⟩) l.length (l.map (Value.int .i64)) := by
  refine ⟨by simp, fun hn => ?_⟩
  obtain ⟨b', off', e, hb, hc⟩ := h.2 (by simp)
  injection e with e
  injection e with e1 e2
  subst e1 e2
  refine ⟨b, off + 1, rfl, hb, fun j u hu => ?_⟩
  have := hc (j + 1) u (by simpa using hu)
  rw [show off + 1 + j = off + (j + 1) by omega]
  exact this
set_option maxRecDepth 100000 in
set_option maxHeartbeats 3200000 in
theorem separates_true (A0 : Option Addr) (n0 c0 : Nat) (z0 : List Int) (A1 : Option Addr) (n1 c1 : Nat) (z1 : List Int) (short : Bool) (w : World) (h0 : Rd w w.heap.size 1 A0 n0 (z0.map (Value.int .i64))) (m0 : n0 ≤ c0 ∧ c0 ≤ maxLen ∧ c0 * 8 ≤ 140737488351232) (h1 : Rd w w.heap.size 1 A1 n1 (z1.map (Value.int .i64))) (m1 : n1 ≤ c1 ∧ c1 ≤ maxLen ∧ c1 * 8 ≤ 140737488351232) :
    Calls Try.prog 5 #[.slice A0 n0 c0, .slice A1 n1 c1, .bool short] w fun e w' => e = .returned (.bool true) ∧ Below w.heap.size w w' := by
  have H0 := Lib.hid h0
  have H1 := Lib.hid h1
  have Hm0 := Lib.hid (show n0 ≤ maxLen by omega)
  have Hm1 := Lib.hid (show n1 ≤ maxLen by omega)
  clear h0 h1 m0 m1
  go_enter Try.func5, Try.ntmps5
  go_wp2_with fail
  refine (mknet_any A0 n0 c0 z0 w H0.out Hm0.out).mono ?_
  rintro e w1 ⟨T, AE, AA, ne, ce, ca, acts, rfl, hsm, ho, hb1⟩
  have HN := Lib.hid hsm.ok
  have ht0 := hsm.t0
  have ht1 := hsm.t1
  have hne := hsm.e1
  have hna := hsm.n
  have Hb1 := Lib.hid hb1
  have HA1 := Lib.hid (Rd.of_own ho)
  clear hsm ho hb1
  go_upto_region 2 with fail
  refine world_gen (fun w2 => LwN w w2 w1.heap.size T AE AA ne ce ca acts) (LwN.mk' Hb1.out HA1.out) ?_
  intro w2 hl2
  generalize w1.heap.size = X at *
  have HL := Lib.hid hl2
  clear hl2 Hb1 HA1
  have x0 := HL.out.x.cell 0
  have x1 := HL.out.x.cell 1
  have x2 := HL.out.x.cell 2
  simp at x0 x1 x2
  go_wp2_with fail
  refine (lfund_any2 T AE AA ne ce ca acts _ HL.out.a HN.out).mono ?_
  rintro e w3 ⟨hb3, Ac, cc, l, rfl, hm, hc, hr, hcp⟩
  have hll : l.length ≤ 8 := by
    have h := congrArg List.length hm
    rw [List.length_map] at h
    unfold fundF at h
    split at h
    · have := fundL_len ne acts (treeF T ne acts) acts.length; omega
    · rw [List.length_nil] at h; omega
  have HL3 := Lib.hid (HL.out.grow hb3)
  have HCs := Lib.hid hr
  have HCk := Lib.hid hc
  have HCp := Lib.hid hcp
  skip
  clear hm hc hr hb3 hcp x0 x1 x2 HL
  have HL := HL3
  clear HL3
  have x0 := HL.out.x.cell 0
  have x1 := HL.out.x.cell 1
  have x2 := HL.out.x.cell 2
  simp at x0 x1 x2
  have e0 : T.tdiv 2 = T / 2 := Int.tdiv_eq_ediv_of_nonneg (by omega)
  go_wp2_with fail
  refine (list_any2 A1 n1 c1 acts.length (T / 2) z1 _ ((H1.out.grow HL.out.bel).more HL.out.bel.size) Hm1.out (by omega) (by omega) (by omega)).mono ?_
  rintro e w5 ⟨At, ct, x, rfl, hxn, hxr, hrx, hb5, hcx⟩
  have HR5 := Lib.hid hrx
  have HL5 := Lib.hid (HL.out.grow hb5)
  have HCs5 := Lib.hid (HCs.out.grow hb5)
  have hxl : x.length ≤ 8 := by omega
  clear hxn hxr hrx hb5 x0 x1 x2 HL HCs e0
  have HL := HL5
  have HCs := HCs5
  clear HL5 HCs5
  cases short
  case false =>
    have x0 := HL.out.x.cell 0
    have x1 := HL.out.x.cell 1
    have x2 := HL.out.x.cell 2
    simp at x0 x1 x2
    go_wp2_with fail
    refine (separate_any T AE AA At Ac ne ce ca (ct) cc acts x l _ HL.out.a (by omega) (by omega) HCs.out HR5.out (by omega)).mono ?_
    rintro e w7 ⟨rfl, hb7⟩
    have HL7 := Lib.hid (HL.out.grow hb7)
    have HC7 := Lib.hid (HCs.out.grow hb7)
    have HR7 := Lib.hid ((HR5.out.grow hb7).more hb7.size)
    clear HL HCs hb7 x0 x1 x2
    have HL := HL7
    clear HL7
    have x0 := HL.out.x.cell 0
    have x1 := HL.out.x.cell 1
    have x2 := HL.out.x.cell 2
    simp at x0 x1 x2
    go_wp2_with fail
    refine (rseparate_any T AE AA At Ac ne ce ca (ct) cc acts x l _ HL.out.a (by omega) (by omega) HC7.out HCp.out HR7.out (by omega)).mono ?_
    rintro e w8 ⟨rfl, hb8⟩
    have HL8 := Lib.hid (HL.out.grow hb8)
    clear HL hb8 x0 x1 x2
    generalize sepV T ne acts x l = sv
    obtain ⟨s1, s2, s3⟩ := sv
    go_wp2_with fail
    refine (awake_any w8).mono ?_
    rintro e w9 ⟨rfl, hb9⟩
    have HL9 := Lib.hid (HL8.out.grow hb9)
    clear HL8 hb9
    go_wp2_with fail
    go_ret
    exact ⟨rfl, HL9.out.bel⟩
  cases x with
  | nil =>
    have x0 := HL.out.x.cell 0
    have x1 := HL.out.x.cell 1
    have x2 := HL.out.x.cell 2
    simp at x0 x1 x2
    go_wp2_with fail
    refine (separate_any T AE AA At Ac ne ce ca (ct) cc acts ([] : List Int) l _ HL.out.a (by omega) (by omega) HCs.out HR5.out (by omega)).mono ?_
    rintro e w7 ⟨rfl, hb7⟩
    have HL7 := Lib.hid (HL.out.grow hb7)
    have HC7 := Lib.hid (HCs.out.grow hb7)
    have HR7 := Lib.hid ((HR5.out.grow hb7).more hb7.size)
    clear HL HCs hb7 x0 x1 x2
    have HL := HL7
    clear HL7
    have x0 := HL.out.x.cell 0
    have x1 := HL.out.x.cell 1
    have x2 := HL.out.x.cell 2
    simp at x0 x1 x2
    go_wp2_with fail
    refine (rseparate_any T AE AA At Ac ne ce ca (ct) cc acts ([] : List Int) l _ HL.out.a (by omega) (by omega) HC7.out HCp.out HR7.out (by omega)).mono ?_
    rintro e w8 ⟨rfl, hb8⟩
    have HL8 := Lib.hid (HL.out.grow hb8)
    clear HL hb8 x0 x1 x2
    generalize sepV T ne acts ([] : List Int) l = sv
    obtain ⟨s1, s2, s3⟩ := sv
    go_wp2_with fail
    refine (awake_any w8).mono ?_
    rintro e w9 ⟨rfl, hb9⟩
    have HL9 := Lib.hid (HL8.out.grow hb9)
    clear HL8 hb9
    go_wp2_with fail
    go_ret
    exact ⟨rfl, HL9.out.bel⟩
  | cons x0' xt =>
    obtain ⟨bt, ot, rfl, hbt, q0⟩ := rd1 HR5.out 0 (by simp)
    have HR6 := Lib.hid HR5.out.tail1
    have hxl' : xt.length ≤ 8 := by simp at hxl; omega
    have hcx' : xt.length + 1 ≤ ct := by simpa using hcx
    clear q0 hbt
    by_cases hct : ct = 1
    · subst hct
      have hxt : xt = [] := List.eq_nil_of_length_eq_zero (by omega)
      subst hxt
      have HR8 := Lib.hid (show Rd w5 w5.heap.size 1 (some ⟨bt, ot, none⟩) ([] : List Int).length (([] : List Int).map (Value.int .i64)) from Rd.empty _ _ _)
      clear HR6
      have x0 := HL.out.x.cell 0
      have x1 := HL.out.x.cell 1
      have x2 := HL.out.x.cell 2
      simp at x0 x1 x2
      go_wp2_with fail
      refine (separate_any T AE AA (some ⟨bt, ot, none⟩) Ac ne ce ca (0) cc acts ([] : List Int) l _ HL.out.a (by omega) (by omega) HCs.out HR8.out (by omega)).mono ?_
      rintro e w7 ⟨rfl, hb7⟩
      have HL7 := Lib.hid (HL.out.grow hb7)
      have HC7 := Lib.hid (HCs.out.grow hb7)
      have HR7 := Lib.hid ((HR8.out.grow hb7).more hb7.size)
      clear HL HCs hb7 x0 x1 x2
      have HL := HL7
      clear HL7
      have x0 := HL.out.x.cell 0
      have x1 := HL.out.x.cell 1
      have x2 := HL.out.x.cell 2
      simp at x0 x1 x2
      go_wp2_with fail
      refine (rseparate_any T AE AA (some ⟨bt, ot, none⟩) Ac ne ce ca (0) cc acts ([] : List Int) l _ HL.out.a (by omega) (by omega) HC7.out HCp.out HR7.out (by omega)).mono ?_
      rintro e w8 ⟨rfl, hb8⟩
      have HL8 := Lib.hid (HL.out.grow hb8)
      clear HL hb8 x0 x1 x2
      generalize sepV T ne acts ([] : List Int) l = sv
      obtain ⟨s1, s2, s3⟩ := sv
      go_wp2_with fail
      refine (awake_any w8).mono ?_
      rintro e w9 ⟨rfl, hb9⟩
      have HL9 := Lib.hid (HL8.out.grow hb9)
      clear HL8 hb9
      go_wp2_with fail
      go_ret
      exact ⟨rfl, HL9.out.bel⟩
    have x0 := HL.out.x.cell 0
    have x1 := HL.out.x.cell 1
    have x2 := HL.out.x.cell 2
    simp at x0 x1 x2
    go_wp2_with fail
    refine (separate_any T AE AA (some ⟨bt, ot + 1, none⟩) Ac ne ce ca ((ct - 1)) cc acts xt l _ HL.out.a (by omega) (by omega) HCs.out HR6.out (by omega)).mono ?_
    rintro e w7 ⟨rfl, hb7⟩
    have HL7 := Lib.hid (HL.out.grow hb7)
    have HC7 := Lib.hid (HCs.out.grow hb7)
    have HR7 := Lib.hid ((HR6.out.grow hb7).more hb7.size)
    clear HL HCs hb7 x0 x1 x2
    have HL := HL7
    clear HL7
    have x0 := HL.out.x.cell 0
    have x1 := HL.out.x.cell 1
    have x2 := HL.out.x.cell 2
    simp at x0 x1 x2
    go_wp2_with fail
    refine (rseparate_any T AE AA (some ⟨bt, ot + 1, none⟩) Ac ne ce ca ((ct - 1)) cc acts xt l _ HL.out.a (by omega) (by omega) HC7.out HCp.out HR7.out (by omega)).mono ?_
    rintro e w8 ⟨rfl, hb8⟩
    have HL8 := Lib.hid (HL.out.grow hb8)
    clear HL hb8 x0 x1 x2
    generalize sepV T ne acts xt l = sv
    obtain ⟨s1, s2, s3⟩ := sv
    go_wp2_with fail
    refine (awake_any w8).mono ?_
    rintro e w9 ⟨rfl, hb9⟩
    have HL9 := Lib.hid (HL8.out.grow hb9)
    clear HL8 hb9
    go_wp2_with fail
    go_ret
    exact ⟨rfl, HL9.out.bel⟩
end Go.Proofs.Ytcgamkldlmmdnaa
