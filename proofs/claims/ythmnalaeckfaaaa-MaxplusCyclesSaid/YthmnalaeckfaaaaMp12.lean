import Derived.Test.YthmnalaeckfaaaaMp11
namespace Go.Proofs.Ythmnalaeckfaaaa
open Go.RowKit
attribute [local go_sem ↓] run_max_keep
def RecOut (r : Int × Bool) (w : World) (e : Ending) (w' : World) : Prop := e = .returned (.tuple #[.int .i64 r.1, .bool r.2]) ∧ Below w.heap.size w w'
theorem rec_no {a : List (List Int)} {x : List Int} {p m : Int} (h : ¬ recOk a x p m) : recF a x p m = (0, false) := by unfold recF; rw [if_neg h]
theorem rec_parts {ra : List Row} {x : List Int} {p m : Int} (h : recOk (matR ra) x p m) : x.length = ra.length ∧ 1 ≤ p ∧ p ≤ 7200 ∧ 0 ≤ m ∧ m ≤ 3600 := ⟨by have := h.2.1; rwa [matR_len] at this, h.2.2.1, h.2.2.2.1, h.2.2.2.2.1, h.2.2.2.2.2.1⟩
theorem fill_zero_set (L : List Int) (n i : Nat) (hl : L.length = n) (hi : i < n) : (L.take i ++ List.replicate (n - i) 0).set i 0 = L.take i ++ List.replicate (n - i) 0 := by
  obtain ⟨m, hm⟩ : ∃ m, n - i = m + 1 := ⟨n - i - 1, by omega⟩
  have hll : (L.take i).length = i := by simp; omega
  rw [hm, List.replicate_succ, List.set_append_right _ _ (by omega), hll, Nat.sub_self, List.set_cons_zero]
def RcL (w : World) (x : List Int) (n k : Nat) (v : Value) (wr : World) : Prop :=
  ∃ j : Nat, v = .int .i64 j ∧ j + k = n ∧ (∀ d ∈ x.take j, 0 ≤ d ∧ d ≤ 68719476736) ∧ w = wr
/-- the delays at the beginning of period k -/
def RcS (w wr : World) (n : Nat) (a : List (List Int)) (p : Int) (M : Nat) (R : Int × Bool) (k : Nat) (v : Value) : Prop :=
  ∃ (z : List Int) (A : Option Addr) (c : Nat), v = .slice A n c ∧ z.length = n ∧ (∀ t, t < n → 0 ≤ z.getD t 0 ∧ z.getD t 0 ≤ 68719476736 * (k + 1)) ∧ ((k ≤ M ∧ R = recS n a p (M - k) k z) ∨ (k = M + 1 ∧ R = (0, false))) ∧ wr.ownsRow w.heap.size 3 1 (.slice A n c) n (z.map (Value.int .i64)) ∧ Below w.heap.size w wr
def Rc2 (w : World) (n : Nat) (a : List (List Int)) (p : Int) (M : Nat) (R : Int × Bool) (g : Nat) (v12 v : Value) (wr : World) : Prop :=
  ∃ k : Nat, v = .int .i64 k ∧ k + g = M + 1 ∧ RcS w wr n a p M R k v12
def Rc3 (wS : World) (L : List Int) (g n : Nat) (k : Nat) (v : Value) (wr : World) : Prop :=
  ∃ i : Nat, v = .int .i64 i ∧ i + k = n ∧ wr.ownsRow wS.heap.size 3 1 (.slice (some ⟨g, 0, none⟩) n n) n ((L.take i ++ List.replicate (n - i) 0).map (Value.int .i64)) ∧ Below wS.heap.size wS wr
def Rc4 (wS : World) (Z : List Int) (i : Nat) (f : Nat → Int) (g n : Nat) (k : Nat) (v : Value) (wr : World) : Prop :=
  ∃ t : Nat, v = .int .i64 t ∧ t + k = n ∧ wr.ownsRow wS.heap.size 3 1 (.slice (some ⟨g, 0, none⟩) n n) n ((Z.set i (f t)).map (Value.int .i64)) ∧ Below wS.heap.size wS wr
set_option maxRecDepth 100000 in
set_option maxHeartbeats 6400000 in
theorem recover_any (A B : Option Addr) (ca cb : Nat) (ra : List Row) (x : List Int) (p m : Int) (w : World) (ha : MRd w A ra) (hb : Rd w w.heap.size 1 B x.length (x.map (Value.int .i64))) (hx : x.length ≤ 4611686018427387904) :
    Calls Try.prog 18 #[.slice A ra.length ca, .slice B x.length cb, .int .i64 p, .int .i64 m] w (RecOut (recF (matR ra) x p m) w) := by
  have HA := Lib.hid ha
  have HX := Lib.hid hb
  have hnA := ha.n
  clear ha hb
  obtain ⟨i0, a1, a2, a3, a4⟩ := info_parts infoInt
  have HI := Lib.hid (And.intro a1 (And.intro a2 (And.intro a3 a4)))
  clear a1 a2 a3 a4
  obtain ⟨r0, a1, a2, a3, a4⟩ := info_parts infoRow
  have HIr := Lib.hid (And.intro a1 (And.intro a2 (And.intro a3 a4)))
  clear a1 a2 a3 a4
  cases h1 : chkM (matR ra)
  · have HF := Lib.hid (rec_no (a := matR ra) (x := x) (p := p) (m := m) (fun h => by have h2 := h.1; rw [h1] at h2; cases h2))
    go_enter Try.func18, Try.ntmps18
    go_wp2_with fail
    refine (check_any A ca ra w HA.out).mono ?_
    rintro e w1 ⟨rfl, rfl⟩
    rw [h1]
    clear h1
    go_wp2_with fail
    go_ret2
    exact ⟨by rw [HF.out]; rfl, Below.refl _ _⟩
  have H1 := Lib.hid h1
  clear h1
  by_cases hq : x.length = ra.length
  case neg =>
    have hq1 : ((x.length : Int) != (ra.length : Int)) = true := by simp; omega
    have hq2 : (x.length != ra.length) = true := by simpa using hq
    have HF := Lib.hid (rec_no (a := matR ra) (x := x) (p := p) (m := m) (fun h => by have := rec_parts h; omega))
    go_enter Try.func18, Try.ntmps18
    go_wp2_with fail
    refine (check_any A ca ra w HA.out).mono ?_
    rintro e w1 ⟨rfl, rfl⟩
    rw [H1.out]
    go_wp2_with fail
    go_ret2
    exact ⟨by rw [HF.out]; rfl, Below.refl _ _⟩
  have hq1 : ((ra.length : Int) != (ra.length : Int)) = false := by simp
  have hq2 : (ra.length != ra.length) = false := by simp
  by_cases hp1 : p < 1
  case pos =>
    have hp1' : decide (p < 1) = true := by simpa using hp1
    rw [hq]
    have HF := Lib.hid (rec_no (a := matR ra) (x := x) (p := p) (m := m) (fun h => by have := rec_parts h; omega))
    go_enter Try.func18, Try.ntmps18
    go_wp2_with fail
    refine (check_any A ca ra w HA.out).mono ?_
    rintro e w1 ⟨rfl, rfl⟩
    rw [H1.out]
    go_wp2_with fail
    go_ret2
    exact ⟨by rw [HF.out]; rfl, Below.refl _ _⟩
  have hp1' : decide (p < 1) = false := by simpa using hp1
  by_cases hp2 : 7200 < p
  case pos =>
    have hp2' : decide (7200 < p) = true := by simpa using hp2
    rw [hq]
    have HF := Lib.hid (rec_no (a := matR ra) (x := x) (p := p) (m := m) (fun h => by have := rec_parts h; omega))
    go_enter Try.func18, Try.ntmps18
    go_wp2_with fail
    refine (check_any A ca ra w HA.out).mono ?_
    rintro e w1 ⟨rfl, rfl⟩
    rw [H1.out]
    go_wp2_with fail
    go_ret2
    exact ⟨by rw [HF.out]; rfl, Below.refl _ _⟩
  have hp2' : decide (7200 < p) = false := by simpa using hp2
  by_cases hm1 : m < 0
  case pos =>
    have hm1' : decide (m < 0) = true := by simpa using hm1
    rw [hq]
    have HF := Lib.hid (rec_no (a := matR ra) (x := x) (p := p) (m := m) (fun h => by have := rec_parts h; omega))
    go_enter Try.func18, Try.ntmps18
    go_wp2_with fail
    refine (check_any A ca ra w HA.out).mono ?_
    rintro e w1 ⟨rfl, rfl⟩
    rw [H1.out]
    go_wp2_with fail
    go_ret2
    exact ⟨by rw [HF.out]; rfl, Below.refl _ _⟩
  have hm1' : decide (m < 0) = false := by simpa using hm1
  by_cases hm2 : 3600 < m
  case pos =>
    have hm2' : decide (3600 < m) = true := by simpa using hm2
    rw [hq]
    have HF := Lib.hid (rec_no (a := matR ra) (x := x) (p := p) (m := m) (fun h => by have := rec_parts h; omega))
    go_enter Try.func18, Try.ntmps18
    go_wp2_with fail
    refine (check_any A ca ra w HA.out).mono ?_
    rintro e w1 ⟨rfl, rfl⟩
    rw [H1.out]
    go_wp2_with fail
    go_ret2
    exact ⟨by rw [HF.out]; rfl, Below.refl _ _⟩
  have hm2' : decide (3600 < m) = false := by simpa using hm2
  obtain ⟨M, rfl⟩ := Int.eq_ofNat_of_zero_le (show 0 ≤ m by omega)
  have hM : M ≤ 3600 := by omega
  obtain ⟨hn1, hn2⟩ := chk_n H1.out
  have HSA := Lib.hid (show ∀ y ∈ ra, y.zs.length = ra.length from fun y hy => (chk_sq H1.out).2 y.zs (List.mem_map.2 ⟨y, hy, rfl⟩))
  have HBA := Lib.hid (Go.Proofs.Ythmnalaeckfaaaa.chk_bd H1.out)
  have HXl := Lib.hid hq
  have HOk := Lib.hid (show (∀ d ∈ x, 0 ≤ d ∧ d ≤ 68719476736) → recF (matR ra) x p M = recS ra.length (matR ra) p M 0 x from fun h => by
    unfold recF
    rw [if_pos ⟨H1.out, by rw [matR_len]; exact hq, by omega, by omega, by omega, by omega, h⟩, matR_len, Int.toNat_natCast])
  have HNo := Lib.hid (show ∀ j (hj : j < x.length), ¬ (0 ≤ x[j] ∧ x[j] ≤ 68719476736) → recF (matR ra) x p M = (0, false) from fun j hj hn => rec_no (fun h => hn (h.2.2.2.2.2.2 _ (List.getElem_mem hj))))
  generalize recF (matR ra) x p M = R at *
  go_enter Try.func18, Try.ntmps18
  go_wp2_with fail
  refine (check_any A ca ra w HA.out).mono ?_
  rintro e w1 ⟨rfl, rfl⟩
  rw [H1.out]
  clear hq
  have HXr := Lib.hid HX.out
  obtain ⟨n, hn⟩ : ∃ n, n = ra.length := ⟨_, rfl⟩
  have HRn := Lib.hid hn.symm
  rw [← hn] at hq1 hq2 hn1 hn2 HSA HBA HXl HOk hnA
  rw [← hn]
  clear hn
  go_wp2_with fail
  go_loopg [11, 47] n (fun k _ v wr => RcL w x n k v wr)
  case atStart => exact ⟨0, rfl, by omega, by simp, rfl⟩
  case round =>
    obtain ⟨j, rfl, hj, hal, rfl⟩ := hrel
    have Hj := Lib.hid hj
    have Hal := Lib.hid hal
    clear hj hal
    by_cases hlt : j < n
    · have hxj : j < x.length := by rw [HXl.out]; exact hlt
      obtain ⟨b, off, rfl, hbb, q0⟩ := rd1 HX.out j hxj
      have HT := Lib.hid (show (0 ≤ x[j] ∧ x[j] ≤ 68719476736) → ∀ d ∈ x.take (j + 1), 0 ≤ d ∧ d ≤ 68719476736 from fun h => take_all (p := fun d => 0 ≤ d ∧ d ≤ 68719476736) hxj Hal.out h)
      have HN := Lib.hid (HNo.out j hxj)
      generalize x[j] = d at *
      by_cases hd0 : d < 0
      · have hd0' : decide (d < 0) = true := by simpa using hd0
        have HR := Lib.hid (HN.out (by omega))
        go_wp2_with fail
        go_ret2
        exact ⟨by rw [HR.out]; rfl, Below.refl _ _⟩
      · have hd0' : decide (d < 0) = false := by simpa using hd0
        by_cases hd1 : 68719476736 < d
        · have hd1' : decide (68719476736 < d) = true := by simpa using hd1
          have HR := Lib.hid (HN.out (by omega))
          go_wp2_with fail
          go_ret2
          exact ⟨by rw [HR.out]; rfl, Below.refl _ _⟩
        · have hd1' : decide (68719476736 < d) = false := by simpa using hd1
          have HT2 := Lib.hid (HT.out (by omega))
          go_wp2_with fail
          go_roundg (n - j - 1)
          case measure => have := Hj.out; omega
          case rel => exact ⟨j + 1, by first | rfl | go_num, by omega, HT2.out, rfl⟩
    · have HAl := Lib.hid (show ∀ d ∈ x, 0 ≤ d ∧ d ≤ 68719476736 by have := Hal.out; rwa [List.take_of_length_le (by have := HXl.out; omega)] at this)
      have HRe := Lib.hid (HOk.out HAl.out)
      clear HOk HNo Hal Hj
      have HXp : Hid (∃ b off, B = some ⟨b, off, none⟩) := by
        obtain ⟨b, off, e, _⟩ := HX.out.2 (by rw [HXl.out]; omega)
        exact ⟨b, off, e⟩
      go_wp2_with (at_builtin; refine wpList_append_any rfl _ _ 22 rfl w.heap.size 3 i0 _ 1 8 Try.underlying22 HI.out.1 HI.out.2.1 HI.out.2.2.1 HI.out.2.2.2 rfl (by omega) (.slice none 0 0) 0 [] rfl (World.ownsRow_nil _ _ _ _) B n cb _ (x.map (Value.int .i64)) rfl (fun e => by obtain ⟨_, _, e'⟩ := HXp.out; rw [e] at e'; cases e') (by have := HX.out; rw [HXl.out] at this; exact this) (fun u hu => by obtain ⟨_, _, rfl⟩ := List.mem_map.1 hu; rfl) ?r1 ?r2 ?r3 ?_; rotate_right; intro v8 w8 ho8 hg8 hat8)
      case r1 => simp only [maxLen]; omega
      case r2 => omega
      case r3 => simp
      rw [Nat.zero_add, List.nil_append] at ho8
      obtain ⟨A8, c8, rfl, _, _⟩ := own_slice ho8
      have HZ0 := Lib.hid (show RcS w w8 n (matR ra) p M R 0 (.slice A8 n c8) from ⟨x, A8, c8, rfl, HXl.out, fun t ht => (by
        have h := HAl.out (x.getD t 0) (by rw [show x.getD t 0 = x[t]'(by rw [HXl.out]; exact ht) by simp [List.getD_eq_getElem?_getD, HXl.out, ht]]; exact List.getElem_mem _)
        exact ⟨h.1, by omega⟩), .inl ⟨by omega, HRe.out⟩, ho8, (Below.refl _ _).grown hg8 (Nat.le_refl _) (fun k hk => by simp [Value.ownBlock] at hk)⟩)
      clear ho8 hg8 hat8 HRe HAl HXp
      go_loopg [12, 13, 14, 15, 16, 17, 18] (M + 1) (fun k v12 v _ _ _ _ _ wr => Rc2 w n (matR ra) p M R k v12 v wr)
      case atStart => exact ⟨0, rfl, by omega, HZ0.out⟩
      case round =>
        clear HZ0
        obtain ⟨k, rfl, hk, z, A12, c12, rfl, hzl, hzb, hzr, hzo, hzB⟩ := hrel
        have Hk := Lib.hid hk
        have HZl := Lib.hid hzl
        have HZb := Lib.hid hzb
        have HZr := Lib.hid hzr
        have HZo := Lib.hid hzo
        have HZB := Lib.hid hzB
        have hws := hzB.size
        clear hk hzl hzb hzr hzo hzB
        by_cases hkM : k ≤ M
        case neg =>
          have HR := Lib.hid (show R = (0, false) from HZr.out.elim (fun h => by omega) (fun h => h.2))
          have hkM' : ¬ (k : Int) ≤ (M : Int) := by omega
          go_wp2_with fail
          go_ret2
          exact ⟨by rw [HR.out]; rfl, HZB.out⟩
        have HRk := Lib.hid (show R = recS n (matR ra) p (M - k) k z from HZr.out.elim (fun h => h.2) (fun h => by omega))
        have hkM' : (k : Int) ≤ (M : Int) := by omega
        have HZrd := Lib.hid (show Rd wr wr.heap.size 1 A12 z.length (z.map (Value.int .i64)) by rw [HZl.out]; exact Rd.of_own HZo.out)
        go_wp2_with fail
        rw [← HZl.out]
        refine (vanished_any A12 c12 z wr HZrd.out (by rw [HZl.out]; omega)).mono ?_
        rintro e w1 ⟨rfl, rfl⟩
        rw [HZl.out]
        cases hva : z.all (· == 0)
        case true =>
          have HR := Lib.hid (show R = ((k : Int), true) by
            rw [HRk.out]
            cases M - k with
            | zero => unfold recS; rw [if_pos hva]
            | succ d => unfold recS; rw [if_pos hva])
          clear hva
          go_wp2_with fail
          go_ret2
          exact ⟨by rw [HR.out]; rfl, HZB.out⟩
        have HNx := Lib.hid (show (k + 1 ≤ M ∧ R = recS n (matR ra) p (M - (k + 1)) (k + 1) (aft n (matR ra) z p)) ∨ (k + 1 = M + 1 ∧ R = (0, false)) by
          rcases Nat.lt_or_ge k M with h | h
          · left
            refine ⟨by omega, ?_⟩
            rw [HRk.out, show M - k = (M - (k + 1)) + 1 by omega]
            conv => lhs; unfold recS
            rw [if_neg (by simp [hva])]
          · right
            refine ⟨by omega, ?_⟩
            rw [HRk.out, show M - k = 0 by omega]
            unfold recS
            rw [if_neg (by simp [hva])])
        have HBn := Lib.hid (show ∀ t, t < n → 0 ≤ (aft n (matR ra) z p).getD t 0 ∧ (aft n (matR ra) z p).getD t 0 ≤ 68719476736 * (((k + 1 : Nat) : Int) + 1) from fun t ht => by
          have h := aft_bd (p := p) HBA.out (by omega) (by omega : 0 ≤ 68719476736 * ((k : Int) + 1)) HZb.out t ht
          omega)
        have HLl := Lib.hid (aft_len n (matR ra) z p)
        have HLa := Lib.hid (show ∀ i, i < n → (aft n (matR ra) z p)[i]? = some (az (matR ra) z p i n) from fun i hi => by simp [aft, hi])
        clear hva HRk HZr
        generalize aft n (matR ra) z p = L at *
        obtain ⟨wS, rfl⟩ : ∃ wS : World, wS = wr := ⟨_, rfl⟩
        go_upto_region 16 with (at_make; refine wpList_make_full _ rfl _ _ 22 rfl wS.heap.size 3 i0 _ 1 Try.underlying22 HI.out.1 HI.out.2.1 HI.out.2.2.1 .i64 .i64 _ _ n rfl rfl rfl rfl ?m1 ?m2 ?m3 ?_; rotate_right; intro w3 hown3 hg3)
        case m1 => rw [HI.out.2.2.2]; omega
        case m2 => simp only [maxLen]; omega
        case m3 => omega
        have HR0 := Lib.hid (show w3.ownsRow wS.heap.size 3 1 (.slice (some ⟨wS.heap.size, 0, none⟩) n n) n ((L.take 0 ++ List.replicate (n - 0) 0).map (Value.int .i64)) by
          have h := madeCells_one (Value.int .i64) 0 n
          rw [List.take_zero, List.nil_append, Nat.sub_zero, ← h]
          exact hown3)
        have HB0 := Lib.hid (show Below wS.heap.size wS w3 from (Below.refl _ _).grown hg3 (Nat.le_refl _) (by simp))
        clear hown3 hg3
        go_wp2_with fail
        obtain ⟨g, hg⟩ : ∃ g, g = wS.heap.size := ⟨_, rfl⟩
        have HR1 := Lib.hid (show w3.ownsRow wS.heap.size 3 1 (.slice (some ⟨g, 0, none⟩) n n) n ((L.take 0 ++ List.replicate (n - 0) 0).map (Value.int .i64)) by rw [hg]; exact HR0.out)
        rw [← hg]
        clear HR0 hg
        go_loopg [15, 16, 17, 18, 73] n (fun k _ _ _ _ v wx => Rc3 wS L g n k v wx)
        case atStart => exact ⟨0, rfl, by omega, HR1.out, HB0.out⟩
        case round =>
          clear HR1 HB0
          obtain ⟨i, rfl, hi, ho, hbl⟩ := hrel
          have Hi := Lib.hid hi
          have HO := Lib.hid ho
          have HB2 := Lib.hid hbl
          clear hi ho hbl
          by_cases hil : i < n
          · have HF := Lib.hid (fill_set' L 0 _ i n HLl.out (HLa.out i hil))
            have HZi := Lib.hid (show (L.take i ++ List.replicate (n - i) 0).set i (az (matR ra) z p i 0) = L.take i ++ List.replicate (n - i) 0 by
              exact fill_zero_set L n i HLl.out hil)
            rw [← HZi.out] at HO
            obtain ⟨hzl, _⟩ := row_last HO.out
            rw [List.length_set] at hzl
            have HZq := Lib.hid hzl
            clear hzl HZi
            generalize L.take i ++ List.replicate (n - i) 0 = Z at *
            have hia : i < ra.length := by rw [HRn.out]; exact hil
            have hra := HSA.out ra[i] (List.getElem_mem hia)
            have HRA := Lib.hid hra
            have HGr := Lib.hid (show ∀ t, t < n → gm (matR ra) i t = (ra[i].zs).getD t 0 from fun t ht => by rw [gm_row hia (k := t) (by rw [hra]; exact ht)]; simp [List.getD_eq_getElem?_getD, hra, ht])
            have HBw := Lib.hid (HZB.out.trans (HB2.out.mono hws))
            obtain ⟨bx, ox, rfl, hbx, x0⟩ := rd1 (HA.out.r.grow HBw.out) i hia
            have HCi := Lib.hid (HA.out.c ra[i] (List.getElem_mem hia))
            unfold Row.val at x0
            rw [hra] at x0
            generalize ra[i] = rw1 at *
            obtain ⟨Aw, cw, zw⟩ := rw1
            simp only at x0 hra
            clear hra hia
            go_wp2_with fail
            clear x0
            go_loopg [17, 18, 80] n (fun k _ _ v wx => Rc4 wS Z i (az (matR ra) z p i) g n k v wx)
            case atStart => exact ⟨0, rfl, by omega, HO.out, HB2.out⟩
            case round =>
              clear HO HB2 HBw
              obtain ⟨t, rfl, ht, ho, hbl⟩ := hrel
              have Ht := Lib.hid ht
              have HO := Lib.hid ho
              have HB2 := Lib.hid hbl
              have HBw := Lib.hid (HZB.out.trans (hbl.mono hws))
              have hz := hbl.size
              clear ht ho hbl
              by_cases htl : t < n
              · have hwt : t < zw.length := by have := HRA.out; (try simp only at this); omega
                have hzt : t < z.length := by rw [HZl.out]; exact htl
                obtain ⟨bu, ou, eu, hbu, u0⟩ := rd1 (HCi.out.r.grow HBw.out) t hwt
                obtain ⟨bv, ov, ev', hbv, v0⟩ := rd1 (HZrd.out.grow HB2.out) t hzt
                simp only at eu u0
                subst eu ev'
                have ba := HBA.out i t hil htl
                have bb := HZb.out t htl
                have e1 := HGr.out t htl
                try simp only at e1
                have e1' : zw[t] = gm (matR ra) i t := by rw [e1]; simp [List.getD_eq_getElem?_getD, hwt]
                have e2 : z[t] = z.getD t 0 := by simp [List.getD_eq_getElem?_getD, hzt]
                rw [e1'] at u0
                rw [e2] at v0
                have HM := Lib.hid (show az (matR ra) z p i (t + 1) = if gm (matR ra) i t = -1125899906842624 then az (matR ra) z p i t else max (az (matR ra) z p i t) (gm (matR ra) i t + z.getD t 0 - p) from rfl)
                clear e1 e1' e2
                generalize gm (matR ra) i t = ea at *
                generalize z.getD t 0 = eb at *
                generalize az (matR ra) z p i t = mt at *
                by_cases hne : ea = -1125899906842624
                · subst hne
                  rw [if_pos rfl] at HM
                  have hbu' : bu < wr.heap.size := by omega
                  go_wp2_with fail
                  go_roundg (n - t - 1)
                  case measure => have := Ht.out; omega
                  case rel => exact ⟨t + 1, by first | rfl | go_num, by omega, by rw [HM.out]; exact HO.out, HB2.out⟩
                · rw [if_neg hne] at HM
                  have hne' : (ea != -1125899906842624) = true := by simpa using hne
                  obtain ⟨ba1, ba2⟩ := ba.resolve_left hne
                  obtain ⟨hzl, l1, l2, hgl, hgb⟩ := row_last HO.out
                  have l3 := l1 i (by omega)
                  rw [List.getElem_set_self] at l3
                  clear l1 l2 hzl hne ba
                  have hbu' : bu < wr.heap.size := by omega
                  have hbv' : bv < wr.heap.size := by omega
                  have e3 : IntKind.i64.wrap (ea + eb) = ea + eb := IntWalk.i64_in _ (by omega)
                  have e4 : IntKind.i64.wrap (ea + eb - p) = ea + eb - p := IntWalk.i64_in _ (by omega)
                  go_upto_region 23 with fail
                  refine wp_region_overT 15 (by kernel_rfl) (by kernel_rfl) ?_
                  simp only [List.take_succ_cons, List.take_zero, List.drop_succ_cons, List.drop_zero]
                  repeat (go_big_quiet_step ((fail)))
                  refine wpQuiet_nil ?_
                  intro w6 hb6
                  have HO6 := Lib.hid (own_grow HO.out hb6)
                  have HB6 := Lib.hid (HB2.out.trans (hb6.mono HB2.out.size))
                  clear hb6 HO HB2 HBw l3 hgl u0 v0
                  obtain ⟨hzl, l1, l2, hgl, _⟩ := row_last HO6.out
                  have l3 := l1 i (by omega)
                  have l4 := l2 i
                  rw [List.getElem_set_self] at l3
                  have HS := Lib.hid (own1_set HO6.out i (max mt (ea + eb - p)))
                  have HB9 := Lib.hid (HB6.out.setCell (p := ⟨g, i, none⟩) hgb (.int .i64 (max mt (ea + eb - p))))
                  rw [List.set_set] at HS
                  clear l1 l2 hzl e3 e4
                  go_wp2_with fail
                  go_roundg (n - t - 1)
                  case measure => have := Ht.out; omega
                  case rel => exact ⟨t + 1, by first | rfl | go_num, by omega, by rw [HM.out]; exact HS.out, HB9.out⟩
              · obtain rfl : t = n := by have := Ht.out; omega
                rw [HF.out] at HO
                go_wp2_with fail
                go_roundg (t - i - 1)
                case measure => have := Hi.out; omega
                case rel => exact ⟨i + 1, by first | rfl | go_num, by omega, HO.out, HB2.out⟩
          · obtain rfl : i = n := by have := Hi.out; omega
            have htk : L.take i ++ List.replicate (i - i) 0 = L := by
              rw [Nat.sub_self, List.replicate_zero, List.append_nil, List.take_of_length_le (by rw [HLl.out]; exact Nat.le_refl _)]
            rw [htk] at HO
            clear htk
            have HBw := Lib.hid (HZB.out.trans (HB2.out.mono hws))
            go_wp2_with fail
            go_roundg (M - k)
            case measure => have := Hk.out; omega
            case rel => exact ⟨k + 1, by first | rfl | go_num, by have := Hk.out; omega, L, _, _, rfl, HLl.out, HBn.out, HNx.out, own_base HO.out hws, HBw.out⟩
end Go.Proofs.Ythmnalaeckfaaaa
