import Derived.Test.YthmnalaeckfaaaaMp13
namespace Go.Proofs.Ythmnalaeckfaaaa
open Go.RowKit
def LtL (w : World) (z : List Int) (n k : Nat) (v14 v : Value) (wr : World) : Prop :=
  ∃ j : Nat, v = .int .i64 j ∧ j + k = n ∧ v14 = .bool ((z.take j).any fun d => decide (0 < d)) ∧ w = wr
theorem any_all {n : Nat} {z : List Int} (hl : z.length = n) (hb : ∀ t, t < n → 0 ≤ z.getD t 0) : (z.any fun d => decide (0 < d)) = !(z.all (· == 0)) := by
  have h : ∀ d ∈ z, 0 ≤ d := fun d hd => by
    obtain ⟨i, hi, rfl⟩ := List.getElem_of_mem hd
    have := hb i (by omega)
    simpa [List.getD_eq_getElem?_getD, hi] using this
  rw [Bool.eq_iff_iff]
  simp only [List.any_eq_true, Bool.not_eq_true', List.all_eq_false]
  constructor
  · rintro ⟨d, hd, h0⟩; refine ⟨d, hd, ?_⟩; simp at h0 ⊢; omega
  · rintro ⟨d, hd, h0⟩; refine ⟨d, hd, ?_⟩; have := h d hd; simp at h0 ⊢; omega
set_option maxRecDepth 100000 in
set_option maxHeartbeats 6400000 in
theorem rrecover_any (A B : Option Addr) (ca cb : Nat) (ra : List Row) (x : List Int) (p m : Int) (w : World) (ha : MRd w A ra) (hb : Rd w w.heap.size 1 B x.length (x.map (Value.int .i64))) (hx : x.length ≤ 4611686018427387904) :
    Calls Try.prog 19 #[.slice A ra.length ca, .slice B x.length cb, .int .i64 p, .int .i64 m] w (RecOut (recF (matR ra) x p m) w) := by
  have HA := Lib.hid ha
  have HX := Lib.hid hb
  have hnA := ha.n
  clear ha hb
  obtain ⟨i0, a1, a2, a3, a4⟩ := info_parts infoInt
  have HI := Lib.hid (And.intro a1 (And.intro a2 (And.intro a3 a4)))
  clear a1 a2 a3 a4
  obtain ⟨r0, a1, a2, a3, a4⟩ := info_parts infoRow
  have HIr := Lib.hid (And.intro a1 (And.intro a2 (And.intro a3 a4)))
  clear a1 a2 a3 a4
  cases h1 : chkM (matR ra)
  · have HF := Lib.hid (rec_no (a := matR ra) (x := x) (p := p) (m := m) (fun h => by have h2 := h.1; rw [h1] at h2; cases h2))
    go_enter Try.func19, Try.ntmps19
    go_wp2_with fail
    refine (rcheck_any A ca ra w HA.out).mono ?_
    rintro e w1 ⟨rfl, rfl⟩
    rw [h1]
    clear h1
    go_wp2_with fail
    go_ret2
    exact ⟨by rw [HF.out]; rfl, Below.refl _ _⟩
  have H1 := Lib.hid h1
  clear h1
  by_cases hq : x.length = ra.length
  case neg =>
    have hq1 : ((x.length : Int) != (ra.length : Int)) = true := by simp; omega
    have hq2 : (x.length != ra.length) = true := by simpa using hq
    have HF := Lib.hid (rec_no (a := matR ra) (x := x) (p := p) (m := m) (fun h => by have := rec_parts h; omega))
    go_enter Try.func19, Try.ntmps19
    go_wp2_with fail
    refine (rcheck_any A ca ra w HA.out).mono ?_
    rintro e w1 ⟨rfl, rfl⟩
    rw [H1.out]
    go_wp2_with fail
    go_ret2
    exact ⟨by rw [HF.out]; rfl, Below.refl _ _⟩
  have hq1 : ((ra.length : Int) != (ra.length : Int)) = false := by simp
  have hq2 : (ra.length != ra.length) = false := by simp
  by_cases hp1 : p < 1
  case pos =>
    have hp1' : decide (p < 1) = true := by simpa using hp1
    rw [hq]
    have HF := Lib.hid (rec_no (a := matR ra) (x := x) (p := p) (m := m) (fun h => by have := rec_parts h; omega))
    go_enter Try.func19, Try.ntmps19
    go_wp2_with fail
    refine (rcheck_any A ca ra w HA.out).mono ?_
    rintro e w1 ⟨rfl, rfl⟩
    rw [H1.out]
    go_wp2_with fail
    go_ret2
    exact ⟨by rw [HF.out]; rfl, Below.refl _ _⟩
  have hp1' : decide (p < 1) = false := by simpa using hp1
  by_cases hp2 : 7200 < p
  case pos =>
    have hp2' : decide (7200 < p) = true := by simpa using hp2
    rw [hq]
    have HF := Lib.hid (rec_no (a := matR ra) (x := x) (p := p) (m := m) (fun h => by have := rec_parts h; omega))
    go_enter Try.func19, Try.ntmps19
    go_wp2_with fail
    refine (rcheck_any A ca ra w HA.out).mono ?_
    rintro e w1 ⟨rfl, rfl⟩
    rw [H1.out]
    go_wp2_with fail
    go_ret2
    exact ⟨by rw [HF.out]; rfl, Below.refl _ _⟩
  have hp2' : decide (7200 < p) = false := by simpa using hp2
  by_cases hm1 : m < 0
  case pos =>
    have hm1' : decide (m < 0) = true := by simpa using hm1
    rw [hq]
    have HF := Lib.hid (rec_no (a := matR ra) (x := x) (p := p) (m := m) (fun h => by have := rec_parts h; omega))
    go_enter Try.func19, Try.ntmps19
    go_wp2_with fail
    refine (rcheck_any A ca ra w HA.out).mono ?_
    rintro e w1 ⟨rfl, rfl⟩
    rw [H1.out]
    go_wp2_with fail
    go_ret2
    exact ⟨by rw [HF.out]; rfl, Below.refl _ _⟩
  have hm1' : decide (m < 0) = false := by simpa using hm1
  by_cases hm2 : 3600 < m
  case pos =>
    have hm2' : decide (3600 < m) = true := by simpa using hm2
    rw [hq]
    have HF := Lib.hid (rec_no (a := matR ra) (x := x) (p := p) (m := m) (fun h => by have := rec_parts h; omega))
    go_enter Try.func19, Try.ntmps19
    go_wp2_with fail
    refine (rcheck_any A ca ra w HA.out).mono ?_
    rintro e w1 ⟨rfl, rfl⟩
    rw [H1.out]
    go_wp2_with fail
    go_ret2
    exact ⟨by rw [HF.out]; rfl, Below.refl _ _⟩
  have hm2' : decide (3600 < m) = false := by simpa using hm2
  obtain ⟨M, rfl⟩ := Int.eq_ofNat_of_zero_le (show 0 ≤ m by omega)
  have hM : M ≤ 3600 := by omega
  obtain ⟨hn1, hn2⟩ := chk_n H1.out
  have HSA := Lib.hid (show ∀ y ∈ ra, y.zs.length = ra.length from fun y hy => (chk_sq H1.out).2 y.zs (List.mem_map.2 ⟨y, hy, rfl⟩))
  have HBA := Lib.hid (Go.Proofs.Ythmnalaeckfaaaa.chk_bd H1.out)
  have HXl := Lib.hid hq
  have HOk := Lib.hid (show (∀ d ∈ x, 0 ≤ d ∧ d ≤ 68719476736) → recF (matR ra) x p M = recS ra.length (matR ra) p M 0 x from fun h => by
    unfold recF
    rw [if_pos ⟨H1.out, by rw [matR_len]; exact hq, by omega, by omega, by omega, by omega, h⟩, matR_len, Int.toNat_natCast])
  have HNo := Lib.hid (show ∀ j (hj : j < x.length), ¬ (0 ≤ x[j] ∧ x[j] ≤ 68719476736) → recF (matR ra) x p M = (0, false) from fun j hj hn => rec_no (fun h => hn (h.2.2.2.2.2.2 _ (List.getElem_mem hj))))
  generalize recF (matR ra) x p M = R at *
  go_enter Try.func19, Try.ntmps19
  go_wp2_with fail
  refine (rcheck_any A ca ra w HA.out).mono ?_
  rintro e w1 ⟨rfl, rfl⟩
  rw [H1.out]
  clear hq
  have HXr := Lib.hid HX.out
  obtain ⟨n, hn⟩ : ∃ n, n = ra.length := ⟨_, rfl⟩
  have HRn := Lib.hid hn.symm
  rw [← hn] at hq1 hq2 hn1 hn2 HSA HBA HXl HOk hnA
  rw [← hn]
  clear hn
  go_wp2_with fail
  go_loopg [11, 45] n (fun k _ v wr => RcL w x n k v wr)
  case atStart => exact ⟨0, rfl, by omega, by simp, rfl⟩
  case round =>
    obtain ⟨j, rfl, hj, hal, rfl⟩ := hrel
    have Hj := Lib.hid hj
    have Hal := Lib.hid hal
    clear hj hal
    by_cases hlt : j < n
    · have hxj : j < x.length := by rw [HXl.out]; exact hlt
      obtain ⟨b, off, rfl, hbb, q0⟩ := rd1 HX.out j hxj
      have HT := Lib.hid (show (0 ≤ x[j] ∧ x[j] ≤ 68719476736) → ∀ d ∈ x.take (j + 1), 0 ≤ d ∧ d ≤ 68719476736 from fun h => take_all (p := fun d => 0 ≤ d ∧ d ≤ 68719476736) hxj Hal.out h)
      have HN := Lib.hid (HNo.out j hxj)
      generalize x[j] = d at *
      by_cases hd0 : d < 0
      · have hd0' : decide (d < 0) = true := by simpa using hd0
        have HR := Lib.hid (HN.out (by omega))
        go_wp2_with fail
        go_ret2
        exact ⟨by rw [HR.out]; rfl, Below.refl _ _⟩
      · have hd0' : decide (d < 0) = false := by simpa using hd0
        by_cases hd1 : 68719476736 < d
        · have hd1' : decide (68719476736 < d) = true := by simpa using hd1
          have HR := Lib.hid (HN.out (by omega))
          go_wp2_with fail
          go_ret2
          exact ⟨by rw [HR.out]; rfl, Below.refl _ _⟩
        · have hd1' : decide (68719476736 < d) = false := by simpa using hd1
          have HT2 := Lib.hid (HT.out (by omega))
          go_wp2_with fail
          go_roundg (n - j - 1)
          case measure => have := Hj.out; omega
          case rel => exact ⟨j + 1, by first | rfl | go_num, by omega, HT2.out, rfl⟩
    · have HAl := Lib.hid (show ∀ d ∈ x, 0 ≤ d ∧ d ≤ 68719476736 by have := Hal.out; rwa [List.take_of_length_le (by have := HXl.out; omega)] at this)
      have HRe := Lib.hid (HOk.out HAl.out)
      clear HOk HNo Hal Hj
      have HXp : Hid (∃ b off, B = some ⟨b, off, none⟩) := by
        obtain ⟨b, off, e, _⟩ := HX.out.2 (by rw [HXl.out]; omega)
        exact ⟨b, off, e⟩
      go_wp2_with (at_builtin; refine wpList_append_any rfl _ _ 22 rfl w.heap.size 3 i0 _ 1 8 Try.underlying22 HI.out.1 HI.out.2.1 HI.out.2.2.1 HI.out.2.2.2 rfl (by omega) (.slice none 0 0) 0 [] rfl (World.ownsRow_nil _ _ _ _) B n cb _ (x.map (Value.int .i64)) rfl (fun e => by obtain ⟨_, _, e'⟩ := HXp.out; rw [e] at e'; cases e') (by have := HX.out; rw [HXl.out] at this; exact this) (fun u hu => by obtain ⟨_, _, rfl⟩ := List.mem_map.1 hu; rfl) ?r1 ?r2 ?r3 ?_; rotate_right; intro v8 w8 ho8 hg8 hat8)
      case r1 => simp only [maxLen]; omega
      case r2 => omega
      case r3 => simp
      rw [Nat.zero_add, List.nil_append] at ho8
      obtain ⟨A8, c8, rfl, _, _⟩ := own_slice ho8
      have HZ0 := Lib.hid (show RcS w w8 n (matR ra) p M R 0 (.slice A8 n c8) from ⟨x, A8, c8, rfl, HXl.out, fun t ht => (by
        have h := HAl.out (x.getD t 0) (by rw [show x.getD t 0 = x[t]'(by rw [HXl.out]; exact ht) by simp [List.getD_eq_getElem?_getD, HXl.out, ht]]; exact List.getElem_mem _)
        exact ⟨h.1, by omega⟩), .inl ⟨by omega, HRe.out⟩, ho8, (Below.refl _ _).grown hg8 (Nat.le_refl _) (fun k hk => by simp [Value.ownBlock] at hk)⟩)
      clear ho8 hg8 hat8 HRe HAl HXp
      go_loopg [12, 13, 14, 16] (M + 1) (fun k v12 v _ _ wr => Rc2 w n (matR ra) p M R k v12 v wr)
      case atStart => exact ⟨0, rfl, by omega, HZ0.out⟩
      case round =>
        clear HZ0
        obtain ⟨k, rfl, hk, z, A12, c12, rfl, hzl, hzb, hzr, hzo, hzB⟩ := hrel
        have Hk := Lib.hid hk
        have HZl := Lib.hid hzl
        have HZb := Lib.hid hzb
        have HZr := Lib.hid hzr
        have HZo := Lib.hid hzo
        have HZB := Lib.hid hzB
        have hws := hzB.size
        clear hk hzl hzb hzr hzo hzB
        by_cases hkM : k ≤ M
        case neg =>
          have HR := Lib.hid (show R = (0, false) from HZr.out.elim (fun h => by omega) (fun h => h.2))
          have hkM' : ¬ (k : Int) ≤ (M : Int) := by omega
          go_wp2_with fail
          go_ret2
          exact ⟨by rw [HR.out]; rfl, HZB.out⟩
        have HRk := Lib.hid (show R = recS n (matR ra) p (M - k) k z from HZr.out.elim (fun h => h.2) (fun h => by omega))
        have hkM' : (k : Int) ≤ (M : Int) := by omega
        have HZrd := Lib.hid (Rd.of_own HZo.out)
        have HAn := Lib.hid (any_all HZl.out (fun t ht => (HZb.out t ht).1))
        go_wp2_with fail
        obtain ⟨wS, rfl⟩ : ∃ wS : World, wS = wr := ⟨_, rfl⟩
        go_loopg [14, 16, 65] n (fun k v14 _ v wx => LtL wS z n k v14 v wx)
        case atStart => exact ⟨0, rfl, by omega, rfl, rfl⟩
        case round =>
          obtain ⟨j, rfl, hj, rfl, rfl⟩ := hrel
          have Hj := Lib.hid hj
          clear hj
          by_cases hjl : j < n
          · have hzj : j < z.length := by rw [HZl.out]; exact hjl
            obtain ⟨bv, ov, ev', hbv, v0⟩ := rd1 HZrd.out j hzj
            subst ev'
            have HTk := Lib.hid (show ((z.take (j + 1)).any fun d => decide (0 < d)) = (((z.take j).any fun d => decide (0 < d)) || decide (0 < z[j])) by
              rw [List.take_succ_eq_append_getElem hzj, List.any_append]
              simp)
            generalize z[j] = d at *
            cases hlt' : ((z.take j).any fun d => decide (0 < d))
            · rw [hlt'] at HTk
              cases hd : decide (0 < d)
              · rw [hd] at HTk
                have hd' : decide ((0 : Int) < d) = false := hd
                clear hlt'
                go_wp2_with fail
                go_roundg (n - j - 1)
                case measure => have := Hj.out; omega
                case rel => exact ⟨j + 1, by first | rfl | go_num, by omega, by rw [HTk.out]; rfl, rfl⟩
              · rw [hd] at HTk
                clear hlt'
                go_wp2_with fail
                go_roundg (n - j - 1)
                case measure => have := Hj.out; omega
                case rel => exact ⟨j + 1, by first | rfl | go_num, by omega, by rw [HTk.out]; rfl, rfl⟩
            · rw [hlt', Bool.true_or] at HTk
              clear hlt'
              go_wp2_with fail
              go_roundg (n - j - 1)
              case measure => have := Hj.out; omega
              case rel => exact ⟨j + 1, by first | rfl | go_num, by omega, by rw [HTk.out], rfl⟩
          · have htk : (z.take j).any (fun d => decide (0 < d)) = !(z.all (· == 0)) := by
              rw [List.take_of_length_le (by have := HZl.out; omega)]; exact HAn.out
            rw [htk]
            clear htk
            cases hva : z.all (· == 0)
            case true =>
              have HR := Lib.hid (show R = ((k : Int), true) by
                rw [HRk.out]
                cases M - k with
                | zero => unfold recS; rw [if_pos hva]
                | succ d => unfold recS; rw [if_pos hva])
              clear hva
              go_wp2_with fail
              go_ret2
              exact ⟨by rw [HR.out]; rfl, HZB.out⟩
            have HNx := Lib.hid (show (k + 1 ≤ M ∧ R = recS n (matR ra) p (M - (k + 1)) (k + 1) (aft n (matR ra) z p)) ∨ (k + 1 = M + 1 ∧ R = (0, false)) by
              rcases Nat.lt_or_ge k M with h | h
              · left
                refine ⟨by omega, ?_⟩
                rw [HRk.out, show M - k = (M - (k + 1)) + 1 by omega]
                conv => lhs; unfold recS
                rw [if_neg (by simp [hva])]
              · right
                refine ⟨by omega, ?_⟩
                rw [HRk.out, show M - k = 0 by omega]
                unfold recS
                rw [if_neg (by simp [hva])])
            have HBn := Lib.hid (show ∀ t, t < n → 0 ≤ (aft n (matR ra) z p).getD t 0 ∧ (aft n (matR ra) z p).getD t 0 ≤ 68719476736 * (((k + 1 : Nat) : Int) + 1) from fun t ht => by
              have h := aft_bd (p := p) HBA.out (by omega) (by omega : 0 ≤ 68719476736 * ((k : Int) + 1)) HZb.out t ht
              omega)
            have HLl := Lib.hid (aft_len n (matR ra) z p)
            have HSq := Lib.hid (show Sq n (matR ra) by have := chk_sq H1.out; rwa [HRn.out] at this)
            clear hva HRk HZr
            go_wp2_with fail
            refine (after_any A A12 n ca c12 ra z p (68719476736 * ((k : Int) + 1)) wS (HA.out.grow HZB.out) HZrd.out ⟨hn1, hn2⟩ HSq.out HBA.out HZl.out HZb.out (by omega) (by omega)).mono ?_
            rintro e w2 ⟨y, rfl, hy, hyo, hyb⟩
            obtain ⟨Ay, cy, zy⟩ := y
            simp only at hy
            subst hy
            have HY := Lib.hid (show w2.ownsRow w.heap.size 3 1 (.slice Ay n cy) n ((aft n (matR ra) z p).map (Value.int .i64)) by
              have h1 := hyo.1
              unfold Row.val at h1
              simp only [HLl.out] at h1
              exact own_base h1 hws)
            have HYB := Lib.hid (HZB.out.trans (hyb.mono hws))
            have HYv := Lib.hid (show Row.val ⟨Ay, cy, aft n (matR ra) z p⟩ = .slice Ay n cy by unfold Row.val; simp only [HLl.out])
            rw [HYv.out]
            clear hyo hyb
            generalize aft n (matR ra) z p = L at *
            go_wp2_with fail
            go_roundg (M - k)
            case measure => have := Hk.out; omega
            case rel => exact ⟨k + 1, by first | rfl | go_num, by have := Hk.out; omega, L, Ay, cy, rfl, HLl.out, HBn.out, HNx.out, HY.out, HYB.out⟩
end Go.Proofs.Ythmnalaeckfaaaa
