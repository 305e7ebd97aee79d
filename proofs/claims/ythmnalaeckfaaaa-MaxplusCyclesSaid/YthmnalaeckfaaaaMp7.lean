import Derived.Test.YthmnalaeckfaaaaMp6
namespace Go.Proofs.Ythmnalaeckfaaaa
open Go.RowKit
theorem matR_len (rows : List Row) : (matR rows).length = rows.length := by simp [matR]
theorem Bd.mono {A B : Int} {a : List (List Int)} {n : Nat} (h : Bd A a n) (hab : A ≤ B) : Bd B a n := fun i j hi hj => by
  rcases h i j hi hj with h1 | h1
  · exact .inl h1
  · right; omega
def mulE (a b : List (List Int)) : Int := if chkM a = true ∧ chkM b = true ∧ a.length = b.length then (if chkM (prodM a.length a b) = true then 0 else 8) else 1
def mulV (a b : List (List Int)) : List (List Int) := if mulE a b = 0 then prodM a.length a b else []
/-- what a function gives that makes a matrix, or an error -/
def MatE (p : List (List Int)) (er : Int) (w : World) (e : Ending) (w' : World) : Prop :=
  ∃ (A : Option Addr) (c : Nat) (rows : List Row), e = .returned (.tuple #[.slice A rows.length c, .int .i64 er]) ∧ matR rows = p ∧ MOwn w' w.heap.size (.slice A rows.length c) rows ∧ Below w.heap.size w w'
theorem MatE.err {p : List (List Int)} {er er' : Int} {w w' : World} (hp : p = []) (he : er' = er) (hb : Below w.heap.size w w') : MatE p er w (.returned (.tuple #[.slice none 0 0, .int .i64 er'])) w' := by
  subst hp he
  exact ⟨none, 0, [], rfl, rfl, ⟨World.ownsRow_nil _ _ _ _, fun x hx => by simp at hx, by simp⟩, hb⟩
theorem MOwn.base {w : World} {b b' : Nat} {v : Value} {rows : List Row} (h : MOwn w b v rows) (hb : b' ≤ b) : MOwn w b' v rows := ⟨own_base h.o hb, fun x hx => ⟨own_base (h.c x hx).1 hb, (h.c x hx).2⟩, h.n⟩
theorem chk_n {rows : List Row} (h : chkM (matR rows) = true) : 1 ≤ rows.length ∧ rows.length ≤ 12 := by
  have := (chkM_iff.1 h).1
  rwa [matR_len] at this
theorem chk_sq {rows : List Row} (h : chkM (matR rows) = true) : Sq rows.length (matR rows) := by
  have := chkM_sq h
  rwa [matR_len] at this
theorem chk_bd {rows : List Row} (h : chkM (matR rows) = true) : Bd 68719476736 (matR rows) rows.length := by
  have := chkM_bd h
  rwa [matR_len] at this
set_option maxRecDepth 100000 in
set_option maxHeartbeats 1600000 in
theorem mul_any (A B : Option Addr) (ca cb : Nat) (ra rb : List Row) (w : World) (ha : MRd w A ra) (hb : MRd w B rb) :
    Calls Try.prog 23 #[.slice A ra.length ca, .slice B rb.length cb] w (MatE (mulV (matR ra) (matR rb)) (mulE (matR ra) (matR rb)) w) := by
  have HA := Lib.hid ha
  have HB := Lib.hid hb
  have hna := ha.n
  have hnb := hb.n
  clear ha hb
  by_cases hc : chkM (matR ra) = true ∧ chkM (matR rb) = true ∧ ra.length = rb.length
  case neg =>
    have HE := Lib.hid (show mulE (matR ra) (matR rb) = 1 by unfold mulE; rw [matR_len, matR_len, if_neg hc])
    have HV := Lib.hid (show mulV (matR ra) (matR rb) = [] by unfold mulV; rw [HE.out]; rfl)
    cases h1 : chkM (matR ra)
    · clear hc
      go_enter Try.func23, Try.ntmps23
      go_wp2_with fail
      refine (check_any A ca ra w HA.out).mono ?_
      rintro e w1 ⟨rfl, rfl⟩
      rw [h1]
      clear h1
      go_wp2_with fail
      go_ret2
      exact MatE.err HV.out HE.out.symm (Below.refl _ _)
    · have H1 := Lib.hid h1
      cases h2 : chkM (matR rb)
      · clear hc h1
        go_enter Try.func23, Try.ntmps23
        go_wp2_with fail
        refine (check_any A ca ra w HA.out).mono ?_
        rintro e w1 ⟨rfl, rfl⟩
        rw [H1.out]
        go_wp2_with fail
        refine (check_any B cb rb w HB.out).mono ?_
        rintro e w1 ⟨rfl, rfl⟩
        rw [h2]
        clear h2
        go_wp2_with fail
        go_ret2
        exact MatE.err HV.out HE.out.symm (Below.refl _ _)
      · have H2 := Lib.hid h2
        have hne : ra.length ≠ rb.length := fun e => hc ⟨h1, h2, e⟩
        have hne1 : ((ra.length : Int) != (rb.length : Int)) = true := by simp; omega
        have hne2 : (ra.length != rb.length) = true := by simpa using hne
        clear hc h1 h2 hne
        go_enter Try.func23, Try.ntmps23
        go_wp2_with fail
        refine (check_any A ca ra w HA.out).mono ?_
        rintro e w1 ⟨rfl, rfl⟩
        rw [H1.out]
        go_wp2_with fail
        refine (check_any B cb rb w HB.out).mono ?_
        rintro e w1 ⟨rfl, rfl⟩
        rw [H2.out]
        go_wp2_with fail
        go_ret2
        exact MatE.err HV.out HE.out.symm (Below.refl _ _)
  obtain ⟨h1, h2, h3⟩ := hc
  have H1 := Lib.hid h1
  have H2 := Lib.hid h2
  have H3 := Lib.hid h3
  have HE := Lib.hid (show mulE (matR ra) (matR rb) = if chkM (prodM ra.length (matR ra) (matR rb)) = true then 0 else 8 by unfold mulE; rw [matR_len, matR_len, if_pos ⟨h1, h2, h3⟩])
  have hn := chk_n h1
  have hne1 : ((ra.length : Int) != (ra.length : Int)) = false := by simp
  have hne2 : (ra.length != ra.length) = false := by simp
  clear h1 h2 h3
  go_enter Try.func23, Try.ntmps23
  go_wp2_with fail
  refine (check_any A ca ra w HA.out).mono ?_
  rintro e w1 ⟨rfl, rfl⟩
  rw [H1.out]
  go_wp2_with fail
  refine (check_any B cb rb w HB.out).mono ?_
  rintro e w1 ⟨rfl, rfl⟩
  rw [H2.out, ← H3.out]
  have hsb := chk_sq H2.out
  have hbb := chk_bd H2.out
  rw [← H3.out] at hsb hbb
  have HSb := Lib.hid hsb
  have HBb := Lib.hid hbb
  clear hsb hbb
  go_wp2_with fail
  refine (product_any A B ra.length ca cb ra rb w HA.out HB.out hn (chk_sq H1.out) HSb.out ((chk_bd H1.out).mono (by omega)) (HBb.out.mono (by omega))).mono ?_
  rintro e w2 ⟨A2, c2, rows2, rfl, hm2, ho2, hb2⟩
  have HM2 := Lib.hid hm2
  have HO2 := Lib.hid ho2
  have HB2 := Lib.hid hb2
  clear hm2 ho2 hb2
  go_wp2_with fail
  refine (check_any A2 c2 rows2 w2 HO2.out.rd).mono ?_
  rintro e w3 ⟨rfl, rfl⟩
  rw [HM2.out]
  cases h2 : chkM (prodM ra.length (matR ra) (matR rb))
  · rw [h2] at HE
    have HE' := Lib.hid (show mulE (matR ra) (matR rb) = 8 from HE.out)
    have HV := Lib.hid (show mulV (matR ra) (matR rb) = [] by unfold mulV; rw [HE'.out]; rfl)
    clear h2 HE
    go_wp2_with fail
    go_ret2
    exact MatE.err HV.out HE'.out.symm HB2.out
  · rw [h2] at HE
    have HE' := Lib.hid (show mulE (matR ra) (matR rb) = 0 from HE.out)
    have HV := Lib.hid (show mulV (matR ra) (matR rb) = prodM ra.length (matR ra) (matR rb) by unfold mulV; rw [HE'.out, matR_len]; rfl)
    clear h2 HE
    go_wp2_with fail
    go_ret2
    exact ⟨A2, c2, rows2, by rw [HE'.out]; rfl, by rw [HV.out]; exact HM2.out, HO2.out, HB2.out⟩
set_option maxRecDepth 100000 in
set_option maxHeartbeats 1600000 in
theorem rmul_any (A B : Option Addr) (ca cb : Nat) (ra rb : List Row) (w : World) (ha : MRd w A ra) (hb : MRd w B rb) :
    Calls Try.prog 29 #[.slice A ra.length ca, .slice B rb.length cb] w (MatE (mulV (matR ra) (matR rb)) (mulE (matR ra) (matR rb)) w) := by
  have HA := Lib.hid ha
  have HB := Lib.hid hb
  have hna := ha.n
  have hnb := hb.n
  clear ha hb
  by_cases hc : chkM (matR ra) = true ∧ chkM (matR rb) = true ∧ ra.length = rb.length
  case neg =>
    have HE := Lib.hid (show mulE (matR ra) (matR rb) = 1 by unfold mulE; rw [matR_len, matR_len, if_neg hc])
    have HV := Lib.hid (show mulV (matR ra) (matR rb) = [] by unfold mulV; rw [HE.out]; rfl)
    cases h1 : chkM (matR ra)
    · clear hc
      go_enter Try.func29, Try.ntmps29
      go_wp2_with fail
      refine (rcheck_any A ca ra w HA.out).mono ?_
      rintro e w1 ⟨rfl, rfl⟩
      rw [h1]
      clear h1
      go_wp2_with fail
      go_ret2
      exact MatE.err HV.out HE.out.symm (Below.refl _ _)
    · have H1 := Lib.hid h1
      cases h2 : chkM (matR rb)
      · clear hc h1
        go_enter Try.func29, Try.ntmps29
        go_wp2_with fail
        refine (rcheck_any A ca ra w HA.out).mono ?_
        rintro e w1 ⟨rfl, rfl⟩
        rw [H1.out]
        go_wp2_with fail
        refine (rcheck_any B cb rb w HB.out).mono ?_
        rintro e w1 ⟨rfl, rfl⟩
        rw [h2]
        clear h2
        go_wp2_with fail
        go_ret2
        exact MatE.err HV.out HE.out.symm (Below.refl _ _)
      · have H2 := Lib.hid h2
        have hne : ra.length ≠ rb.length := fun e => hc ⟨h1, h2, e⟩
        have hne1 : ((ra.length : Int) != (rb.length : Int)) = true := by simp; omega
        have hne2 : (ra.length != rb.length) = true := by simpa using hne
        clear hc h1 h2 hne
        go_enter Try.func29, Try.ntmps29
        go_wp2_with fail
        refine (rcheck_any A ca ra w HA.out).mono ?_
        rintro e w1 ⟨rfl, rfl⟩
        rw [H1.out]
        go_wp2_with fail
        refine (rcheck_any B cb rb w HB.out).mono ?_
        rintro e w1 ⟨rfl, rfl⟩
        rw [H2.out]
        go_wp2_with fail
        go_ret2
        exact MatE.err HV.out HE.out.symm (Below.refl _ _)
  obtain ⟨h1, h2, h3⟩ := hc
  have H1 := Lib.hid h1
  have H2 := Lib.hid h2
  have H3 := Lib.hid h3
  have HE := Lib.hid (show mulE (matR ra) (matR rb) = if chkM (prodM ra.length (matR ra) (matR rb)) = true then 0 else 8 by unfold mulE; rw [matR_len, matR_len, if_pos ⟨h1, h2, h3⟩])
  have hn := chk_n h1
  have hne1 : ((ra.length : Int) != (ra.length : Int)) = false := by simp
  have hne2 : (ra.length != ra.length) = false := by simp
  clear h1 h2 h3
  go_enter Try.func29, Try.ntmps29
  go_wp2_with fail
  refine (rcheck_any A ca ra w HA.out).mono ?_
  rintro e w1 ⟨rfl, rfl⟩
  rw [H1.out]
  go_wp2_with fail
  refine (rcheck_any B cb rb w HB.out).mono ?_
  rintro e w1 ⟨rfl, rfl⟩
  rw [H2.out, ← H3.out]
  have hsb := chk_sq H2.out
  have hbb := chk_bd H2.out
  rw [← H3.out] at hsb hbb
  have HSb := Lib.hid hsb
  have HBb := Lib.hid hbb
  clear hsb hbb
  go_wp2_with fail
  refine (raw_any A B ra.length ca cb ra rb w HA.out HB.out hn (chk_sq H1.out) HSb.out ((chk_bd H1.out).mono (by omega)) (HBb.out.mono (by omega))).mono ?_
  rintro e w2 ⟨A2, c2, rows2, rfl, hm2, ho2, hb2⟩
  have HM2 := Lib.hid hm2
  have HO2 := Lib.hid ho2
  have HB2 := Lib.hid hb2
  clear hm2 ho2 hb2
  go_wp2_with fail
  refine (rcheck_any A2 c2 rows2 w2 HO2.out.rd).mono ?_
  rintro e w3 ⟨rfl, rfl⟩
  rw [HM2.out]
  cases h2 : chkM (prodM ra.length (matR ra) (matR rb))
  · rw [h2] at HE
    have HE' := Lib.hid (show mulE (matR ra) (matR rb) = 8 from HE.out)
    have HV := Lib.hid (show mulV (matR ra) (matR rb) = [] by unfold mulV; rw [HE'.out]; rfl)
    clear h2 HE
    go_wp2_with fail
    go_ret2
    exact MatE.err HV.out HE'.out.symm HB2.out
  · rw [h2] at HE
    have HE' := Lib.hid (show mulE (matR ra) (matR rb) = 0 from HE.out)
    have HV := Lib.hid (show mulV (matR ra) (matR rb) = prodM ra.length (matR ra) (matR rb) by unfold mulV; rw [HE'.out, matR_len]; rfl)
    clear h2 HE
    go_wp2_with fail
    go_ret2
    exact ⟨A2, c2, rows2, by rw [HE'.out]; rfl, by rw [HV.out]; exact HM2.out, HO2.out, HB2.out⟩

/-- the powers up to k are permitted -/
def powOk (n : Nat) (a : List (List Int)) : Nat → Bool
  | 0 => true
  | k + 1 => powOk n a k && chkM (powM n a (k + 1))
def powE (a : List (List Int)) (k : Int) : Int := if chkM a = true then (if 0 ≤ k ∧ k ≤ 3600 then (if powOk a.length a k.toNat = true then 0 else 8) else 4) else 1
def powV (a : List (List Int)) (k : Int) : List (List Int) := if powE a k = 0 then powM a.length a k.toNat else []
theorem pow_sq (n : Nat) (a : List (List Int)) : ∀ k, Sq n (powM n a k)
  | 0 => sq_of_tab n _
  | _ + 1 => prod_sq n _ _
theorem powOk_chk {n : Nat} {a : List (List Int)} (hn : 1 ≤ n ∧ n ≤ 12) : ∀ {k : Nat}, powOk n a k = true → chkM (powM n a k) = true
  | 0, _ => bd_mk (sq_of_tab n _) hn (id_bd (by omega) n)
  | k + 1, h => by unfold powOk at h; rw [Bool.and_eq_true] at h; exact h.2
theorem powOk_no {n : Nat} {a : List (List Int)} {j : Nat} (h : chkM (powM n a (j + 1)) = false) : ∀ {k : Nat}, j < k → powOk n a k = false
  | k + 1, hk => by
    unfold powOk
    rcases Nat.lt_or_ge j k with h1 | h1
    · rw [powOk_no h h1]; rfl
    · obtain rfl : j = k := by omega
      rw [h, Bool.and_false]
theorem powOk_succ {n : Nat} {a : List (List Int)} {j : Nat} (h : powOk n a j = true) (h1 : chkM (powM n a (j + 1)) = true) : powOk n a (j + 1) = true := by
  unfold powOk; rw [h, h1]; rfl
def PW (w : World) (n : Nat) (a : List (List Int)) (K k : Nat) (v6 v : Value) (wr : World) : Prop :=
  ∃ (j : Nat) (A : Option Addr) (c : Nat) (rows : List Row), v = .int .i64 j ∧ j + k = K ∧ v6 = .slice A rows.length c ∧ rows.length = n ∧ powOk n a j = true ∧ matR rows = powM n a j ∧ MOwn wr w.heap.size (.slice A rows.length c) rows ∧ Below w.heap.size w wr
def PWr (w : World) (n : Nat) (a : List (List Int)) (K k : Nat) (v6 v : Value) (wr : World) : Prop :=
  ∃ (j : Nat) (A : Option Addr) (c : Nat) (rows : List Row), v = .int .i64 k ∧ j + k = K ∧ v6 = .slice A rows.length c ∧ rows.length = n ∧ powOk n a j = true ∧ matR rows = powM n a j ∧ MOwn wr w.heap.size (.slice A rows.length c) rows ∧ Below w.heap.size w wr
set_option maxRecDepth 100000 in
set_option maxHeartbeats 1600000 in
theorem power_any (A : Option Addr) (ca : Nat) (ra : List Row) (k : Int) (w : World) (ha : MRd w A ra) :
    Calls Try.prog 22 #[.slice A ra.length ca, .int .i64 k] w (MatE (powV (matR ra) k) (powE (matR ra) k) w) := by
  have HA := Lib.hid ha
  clear ha
  cases h1 : chkM (matR ra)
  · have HE := Lib.hid (show powE (matR ra) k = 1 by unfold powE; rw [if_neg (by simp [h1])])
    have HV := Lib.hid (show powV (matR ra) k = [] by unfold powV; rw [HE.out]; rfl)
    go_enter Try.func22, Try.ntmps22
    go_wp2_with fail
    refine (check_any A ca ra w HA.out).mono ?_
    rintro e w1 ⟨rfl, rfl⟩
    rw [h1]
    clear h1
    go_wp2_with fail
    go_ret2
    exact MatE.err HV.out HE.out.symm (Below.refl _ _)
  have H1 := Lib.hid h1
  clear h1
  by_cases hk : 0 ≤ k ∧ k ≤ 3600
  case neg =>
    have HE := Lib.hid (show powE (matR ra) k = 4 by unfold powE; rw [if_pos H1.out, if_neg hk])
    have HV := Lib.hid (show powV (matR ra) k = [] by unfold powV; rw [HE.out]; rfl)
    by_cases hk0 : k < 0
    · have hk0' : decide (k < 0) = true := by simpa using hk0
      clear hk
      go_enter Try.func22, Try.ntmps22
      go_wp2_with fail
      refine (check_any A ca ra w HA.out).mono ?_
      rintro e w1 ⟨rfl, rfl⟩
      rw [H1.out]
      go_wp2_with fail
      go_ret2
      exact MatE.err HV.out HE.out.symm (Below.refl _ _)
    · have hk0' : decide (k < 0) = false := by simpa using hk0
      have hk1' : decide (3600 < k) = true := by simp; omega
      clear hk
      go_enter Try.func22, Try.ntmps22
      go_wp2_with fail
      refine (check_any A ca ra w HA.out).mono ?_
      rintro e w1 ⟨rfl, rfl⟩
      rw [H1.out]
      go_wp2_with fail
      go_ret2
      exact MatE.err HV.out HE.out.symm (Below.refl _ _)
  obtain ⟨K, rfl⟩ := Int.eq_ofNat_of_zero_le hk.1
  have hK : K ≤ 3600 := by omega
  have hkk := hk
  clear hk
  have hk0' : decide ((K : Int) < 0) = false := by simp
  have hk1' : decide (3600 < (K : Int)) = false := by simp; omega
  have HEy := Lib.hid (show powOk ra.length (matR ra) K = true → powE (matR ra) K = 0 ∧ powV (matR ra) K = powM ra.length (matR ra) K from fun h => by
    have he : powE (matR ra) K = 0 := by unfold powE; rw [if_pos H1.out, if_pos hkk, matR_len, Int.toNat_natCast, if_pos h]
    exact ⟨he, by unfold powV; rw [if_pos he, matR_len, Int.toNat_natCast]⟩)
  have HEn := Lib.hid (show powOk ra.length (matR ra) K = false → powE (matR ra) K = 8 ∧ powV (matR ra) K = [] from fun h => by
    have he : powE (matR ra) K = 8 := by unfold powE; rw [if_pos H1.out, if_pos hkk, matR_len, Int.toNat_natCast, if_neg (by simp [h])]
    exact ⟨he, by unfold powV; rw [he]; rfl⟩)
  clear hkk
  obtain ⟨hn1, hn2⟩ := chk_n H1.out
  go_enter Try.func22, Try.ntmps22
  go_wp2_with fail
  refine (check_any A ca ra w HA.out).mono ?_
  rintro e w1 ⟨rfl, rfl⟩
  rw [H1.out]
  go_wp2_with fail
  refine (identity_any ra.length w ⟨hn1, hn2⟩).mono ?_
  rintro e w1 ⟨A1, c1, rows, rfl, hm, ho, hb⟩
  have HP0 := Lib.hid (show PW w ra.length (matR ra) K K (.slice A1 rows.length c1) (.int .i64 (0 : Nat)) w1 from ⟨0, A1, c1, rows, rfl, by omega, rfl, by rw [← matR_len, hm, id_len], rfl, hm, ho, hb⟩)
  clear hm ho hb
  go_wp2_with fail
  go_loopg [6, 20] K (fun k v6 v wr => PW w ra.length (matR ra) K k v6 v wr)
  case atStart => exact HP0.out
  case round =>
    clear HP0
    obtain ⟨j, A6, c6, rows, rfl, hj, rfl, hrl, hok, hm, ho, hbl⟩ := hrel
    have Hj := Lib.hid hj
    have Hrl := Lib.hid hrl
    have Hok := Lib.hid hok
    have Hm := Lib.hid hm
    have HO := Lib.hid ho
    have HBl := Lib.hid hbl
    have hws := hbl.size
    clear hj hrl hok hm ho hbl
    by_cases hlt : j < K
    · have HC := Lib.hid (powOk_chk ⟨hn1, hn2⟩ Hok.out)
      have HCr := Lib.hid (show chkM (matR rows) = true by rw [Hm.out]; exact HC.out)
      go_wp2_with fail
      have hbr := chk_bd HCr.out
      have hsr := chk_sq HCr.out
      rw [Hrl.out] at hbr hsr
      rw [Hrl.out]
      have HO' := Lib.hid HO.out
      rw [Hrl.out] at HO'
      refine (product_any A6 A ra.length c6 ca rows ra wr HO'.out.rd (HA.out.grow HBl.out) ⟨hn1, hn2⟩ hsr (chk_sq H1.out) (hbr.mono (by omega)) ((chk_bd H1.out).mono (by omega))).mono ?_
      rintro e w2 ⟨A2, c2, rows2, rfl, hm2, ho2, hb2⟩
      have HM2 := Lib.hid (show matR rows2 = powM ra.length (matR ra) (j + 1) by rw [hm2, Hm.out]; rfl)
      have HR2 := Lib.hid (show rows2.length = ra.length by rw [← matR_len, hm2, prod_len])
      have HO2 := Lib.hid (ho2.base hws)
      have HB2 := Lib.hid (HBl.out.trans (hb2.mono hws))
      clear hm2 ho2 hb2 hbr hsr HO' HO
      go_wp2_with fail
      refine (check_any A2 c2 rows2 w2 HO2.out.rd).mono ?_
      rintro e w3 ⟨rfl, rfl⟩
      rw [HM2.out]
      cases h2 : chkM (powM ra.length (matR ra) (j + 1))
      · have hno := HEn.out (powOk_no h2 hlt)
        have HE := Lib.hid hno.1
        have HV := Lib.hid hno.2
        clear h2 hno
        go_wp2_with fail
        go_ret2
        exact MatE.err HV.out HE.out.symm HB2.out
      · have HS := Lib.hid (powOk_succ Hok.out h2)
        clear h2
        go_wp2_with fail
        go_roundg (K - j - 1)
        case measure => have := Hj.out; omega
        case rel => exact ⟨j + 1, A2, c2, rows2, by first | rfl | go_num, by omega, rfl, HR2.out, HS.out, HM2.out, HO2.out, HB2.out⟩
    · obtain rfl : j = K := by have := Hj.out; omega
      have hy := HEy.out Hok.out
      have HE := Lib.hid hy.1
      have HV := Lib.hid hy.2
      clear hy
      go_wp2_with fail
      go_ret2
      exact ⟨A6, c6, rows, by rw [HE.out]; rfl, by rw [HV.out]; exact Hm.out, HO.out, HBl.out⟩
end Go.Proofs.Ythmnalaeckfaaaa
