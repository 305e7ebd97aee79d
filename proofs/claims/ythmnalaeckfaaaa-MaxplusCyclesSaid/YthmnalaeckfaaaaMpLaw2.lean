import Derived.Test.YthmnalaeckfaaaaMpLaw
import Derived.Test.YthmnalaeckfaaaaMp23
namespace Go.Proofs.Ythmnalaeckfaaaa
theorem pow_bdB {n : Nat} {B : Int} (hB : 0 ≤ B) {a : List (List Int)} (hb : Go.Proofs.Ythmnalaeckfaaaa.Bd B a n) : ∀ k : Nat, Go.Proofs.Ythmnalaeckfaaaa.Bd (B * k) (powM n a k) n
  | 0 => id_bd (by simp) n
  | k + 1 => by
    have h := prod_bd (pow_bdB hB hb k) hb
    have e : (B * (k : Int) + B) = B * ((k + 1 : Nat) : Int) := by rw [Int.natCast_add, Int.mul_add]; simp
    rw [e] at h
    exact h
theorem sm_sq {n : Nat} {rows : List Row} (h : SmM n rows) (hl : rows.length = n) : Sq n (matR rows) :=
  ⟨by rw [matR_len]; exact hl, fun r hr => by obtain ⟨x, hx, rfl⟩ := List.mem_map.1 hr; exact (h x hx).1⟩
theorem sm_ent {n : Nat} {rows : List Row} (h : SmM n rows) (hl : rows.length = n) {i j : Nat} (hi : i < n) (hj : j < n) : SmE (gm (matR rows) i j) := by
  have hi' : i < rows.length := by omega
  have hx := h rows[i] (List.getElem_mem hi')
  rw [gm_row hi' (by rw [hx.1]; exact hj)]
  exact hx.2 _ (List.getElem_mem _)
theorem sm_bd {n : Nat} {rows : List Row} (h : SmM n rows) (hl : rows.length = n) : Go.Proofs.Ythmnalaeckfaaaa.Bd 29 (matR rows) n := fun i j hi hj => by
  rcases sm_ent h hl hi hj with h1 | h1
  · exact .inl h1
  · right; omega
theorem sq_ext {n : Nat} {a b : List (List Int)} (ha : Sq n a) (hb : Sq n b) (h : ∀ i j, i < n → j < n → gm a i j = gm b i j) : a = b := by
  obtain ⟨ha1, ha2⟩ := ha
  obtain ⟨hb1, hb2⟩ := hb
  refine List.ext_getElem (by omega) fun i h1 h2 => ?_
  have l1 := ha2 _ (List.getElem_mem h1)
  have l2 := hb2 _ (List.getElem_mem h2)
  refine List.ext_getElem (by omega) fun j h3 h4 => ?_
  rw [← gm_at h1 h3, ← gm_at h2 h4]
  exact h i j (by omega) (by omega)
theorem plus_zero (x : Int) : plusF x 0 = x := by unfold plusF; split <;> omega
theorem plus_nev (x : Int) : plusF x (-1125899906842624) = -1125899906842624 := by unfold plusF; simp
theorem gm_id {n i j : Nat} (hi : i < n) (hj : j < n) : gm (idM n) i j = if i = j then 0 else -1125899906842624 := gm_tab hi hj
/-- multiplied by the power 0 -/
theorem prod_idr {n : Nat} {B : Int} {a : List (List Int)} (hs : Sq n a) (hb : Go.Proofs.Ythmnalaeckfaaaa.Bd B a n) (hB : B ≤ 1125899906842624) : prodM n a (idM n) = a := by
  refine sq_ext (prod_sq n _ _) hs fun i j hi hj => ?_
  rw [prod_gm hi hj]
  have hlo : ∀ k, k < n → -1125899906842624 ≤ gm a i k := fun k hk => by rcases hb i k hi hk with h | h <;> omega
  refine Int.le_antisymm (mx_le _ _ (hlo j hj) n fun k hk => ?_) ?_
  · try simp only
    rw [gm_id hk hj]
    split
    · subst k; rw [plus_zero]; exact Int.le_refl _
    · rw [plus_nev]; exact hlo j hj
  · have := mx_ge (fun k => plusF (gm a i k) (gm (idM n) k j)) n j hj
    try simp only at this
    rw [gm_id hj hj, if_pos rfl, plus_zero] at this
    exact this
theorem prod_idl {n : Nat} {B : Int} {a : List (List Int)} (hs : Sq n a) (hb : Go.Proofs.Ythmnalaeckfaaaa.Bd B a n) (hB : B ≤ 1125899906842624) : prodM n (idM n) a = a := by
  refine sq_ext (prod_sq n _ _) hs fun i j hi hj => ?_
  rw [prod_gm hi hj]
  have hlo : ∀ k, k < n → -1125899906842624 ≤ gm a k j := fun k hk => by rcases hb k j hk hj with h | h <;> omega
  refine Int.le_antisymm (mx_le _ _ (hlo i hi) n fun k hk => ?_) ?_
  · try simp only
    rw [gm_id hi hk]
    split
    · subst k; rw [plus_comm, plus_zero]; exact Int.le_refl _
    · rw [plus_comm, plus_nev]; exact hlo i hi
  · have := mx_ge (fun k => plusF (gm (idM n) i k) (gm a k j)) n i hi
    try simp only at this
    rw [gm_id hi hi, if_pos rfl, plus_comm, plus_zero] at this
    exact this
theorem pow_add {n : Nat} {B : Int} (hB : 0 ≤ B) {a : List (List Int)} (hb : Go.Proofs.Ythmnalaeckfaaaa.Bd B a n) (hs : Sq n a) (j : Nat) : ∀ k : Nat, B * (j + k : Nat) < 1125899906842624 → prodM n (powM n a j) (powM n a k) = powM n a (j + k)
  | 0, h => prod_idr (pow_sq _ _ _) (pow_bdB hB hb j) (by simpa using Int.le_of_lt h)
  | k + 1, h => by
    have e : B * ((j + (k + 1) : Nat) : Int) = B * (j : Nat) + B * (k : Nat) + B := by
      rw [show ((j + (k + 1) : Nat) : Int) = (j : Int) + (k : Int) + 1 by omega, Int.mul_add, Int.mul_add]; simp
    have h1 : 0 ≤ B * (j : Nat) := Int.mul_nonneg hB (by omega)
    have h2 : 0 ≤ B * (k : Nat) := Int.mul_nonneg hB (by omega)
    have e2 : B * ((j + k : Nat) : Int) = B * (j : Nat) + B * (k : Nat) := by
      rw [show ((j + k : Nat) : Int) = (j : Int) + (k : Int) by omega, Int.mul_add]
    show prodM n (powM n a j) (prodM n (powM n a k) a) = prodM n (powM n a (j + k)) a
    rw [← pow_add hB hb hs j k (by omega), prod_assoc (pow_bdB hB hb j) (pow_bdB hB hb k) hb (by omega) h1 h2 hB]
theorem pow_ok {n : Nat} {B : Int} (hB : 0 ≤ B) {a : List (List Int)} (hn : 1 ≤ n ∧ n ≤ 12) (hb : Go.Proofs.Ythmnalaeckfaaaa.Bd B a n) : ∀ k : Nat, B * (k : Nat) ≤ 68719476736 → powOk n a k = true
  | 0, _ => rfl
  | k + 1, h => by
    have e : B * ((k + 1 : Nat) : Int) = B * (k : Nat) + B := by rw [Int.natCast_add, Int.mul_add]; simp
    exact powOk_succ (pow_ok hB hn hb k (by omega)) (bd_mk (pow_sq _ _ _) hn ((pow_bdB hB hb (k + 1)).mono h))
theorem sm_chk {n : Nat} {rows : List Row} (h : SmM n rows) (hl : rows.length = n) (hn : 1 ≤ n ∧ n ≤ 12) : chkM (matR rows) = true := bd_mk (sm_sq h hl) hn ((sm_bd h hl).mono (by omega))
theorem powE_ok {n : Nat} {B : Int} (hB : 0 ≤ B) {a : List (List Int)} (hn : 1 ≤ n ∧ n ≤ 12) (hs : Sq n a) (hb : Go.Proofs.Ythmnalaeckfaaaa.Bd B a n) (k : Nat) (hk : k ≤ 3600) (h : B * (k : Nat) ≤ 68719476736) (h1 : B ≤ 68719476736) : powE a k = 0 ∧ powV a k = powM n a k := by
  have hc : chkM a = true := bd_mk hs hn (hb.mono h1)
  have he : powE a k = 0 := by
    unfold powE
    rw [if_pos hc, if_pos ⟨by omega, by omega⟩, hs.1, Int.toNat_natCast, if_pos (pow_ok hB hn hb k h)]
  exact ⟨he, by unfold powV; rw [if_pos he, hs.1, Int.toNat_natCast]⟩
theorem mulE_ok {n : Nat} {A B : Int} {a b : List (List Int)} (hn : 1 ≤ n ∧ n ≤ 12) (ha : Sq n a) (hb : Sq n b) (hA : Go.Proofs.Ythmnalaeckfaaaa.Bd A a n) (hB : Go.Proofs.Ythmnalaeckfaaaa.Bd B b n) (h0 : 0 ≤ A ∧ 0 ≤ B) (h : A + B ≤ 68719476736) : mulE a b = 0 ∧ mulV a b = prodM n a b := by
  have he : mulE a b = 0 := by
    unfold mulE
    rw [if_pos ⟨bd_mk ha hn (hA.mono (by omega)), bd_mk hb hn (hB.mono (by omega)), by rw [ha.1, hb.1]⟩, ha.1, if_pos (bd_mk (prod_sq _ _ _) hn ((prod_bd hA hB).mono h))]
  exact ⟨he, by unfold mulV; rw [if_pos he, ha.1]⟩
/-- apply as a product -/
def BdV (B : Int) (x : List Int) : Prop := ∀ e ∈ x, e = -1125899906842624 ∨ (-B ≤ e ∧ e ≤ B)
theorem BdV.at {B : Int} {x : List Int} (h : BdV B x) (k : Nat) (hk : k < x.length) : Ent B (x.getD k 0) := by
  simp only [List.getD_eq_getElem?_getD, List.getElem?_eq_getElem hk, Option.getD_some]
  exact h _ (List.getElem_mem hk)
theorem appL_len (n : Nat) (a : List (List Int)) (x : List Int) : (appL n a x).length = n := by simp [appL]
theorem appL_at {n : Nat} {a : List (List Int)} {x : List Int} {i : Nat} (hi : i < n) : (appL n a x).getD i 0 = mx (fun k => plusF (gm a i k) (x.getD k 0)) n := by
  simp [appL, List.getD_eq_getElem?_getD, hi]
theorem appL_bd {A B : Int} {n : Nat} {a : List (List Int)} {x : List Int} (hA : Go.Proofs.Ythmnalaeckfaaaa.Bd A a n) (hx : x.length = n) (hB : BdV B x) : BdV (A + B) (appL n a x) := fun e he => by
  obtain ⟨i, hi, rfl⟩ := List.mem_map.1 he
  exact mx_ent n fun k hk => plus_bd (hA i k (List.mem_range.1 hi) hk) (hB.at k (by omega))
theorem appE_ok {n : Nat} {A B : Int} {a : List (List Int)} {x : List Int} (hn : 1 ≤ n ∧ n ≤ 12) (ha : Sq n a) (hA : Go.Proofs.Ythmnalaeckfaaaa.Bd A a n) (hx : x.length = n) (hB : BdV B x) (h0 : 0 ≤ A ∧ 0 ≤ B) (h : A + B ≤ 68719476736) : appE a x = 0 ∧ appV a x = appL n a x := by
  have fv : ∀ {C : Int} {y : List Int}, y.length = n → BdV C y → C ≤ 68719476736 → vecB n y = true := fun {C y} hl hy hC => vecB_iff.2 ⟨by omega, by omega, fun e he => fitB_iff.2 (by rcases hy e he with h | h <;> omega)⟩
  have he : appE a x = 0 := by
    unfold appE
    rw [ha.1, if_pos ⟨bd_mk ha hn (hA.mono (by omega)), fv hx hB (by omega)⟩, if_pos (fv (appL_len n a x) (appL_bd hA hx hB) h)]
  exact ⟨he, by unfold appV; rw [if_pos he, ha.1]⟩
theorem app_assoc {A B C : Int} {n : Nat} {a b : List (List Int)} {x : List Int} (ha : Go.Proofs.Ythmnalaeckfaaaa.Bd A a n) (hb : Go.Proofs.Ythmnalaeckfaaaa.Bd B b n) (hx : x.length = n) (hc : BdV C x) (hs : A + B + C < 1125899906842624) (hA : 0 ≤ A) (hB : 0 ≤ B) (hC : 0 ≤ C) : appL n (prodM n a b) x = appL n a (appL n b x) := by
  have hv : ∀ k, k < n → Ent C (x.getD k 0) := fun k hk => hc.at k (by omega)
  unfold appL
  apply List.map_congr_left
  intro i hi
  have hi := List.mem_range.1 hi
  have e1 : mx (fun k => plusF (gm (prodM n a b) i k) (x.getD k 0)) n = mx (fun k => mx (fun l => plusF (plusF (gm a i l) (gm b l k)) (x.getD k 0)) n) n := by
    refine mx_congr n fun k hk => ?_
    rw [prod_gm hi hk, plus_mx (A := A + B) (C := C) (hv k hk) (by omega) (by omega) hC n (fun l hl => plus_bd (ha i l hi hl) (hb l k hl hk))]
  have e2 : mx (fun l => plusF (gm a i l) ((appL n b x).getD l 0)) n = mx (fun l => mx (fun k => plusF (gm a i l) (plusF (gm b l k) (x.getD k 0))) n) n := by
    refine mx_congr n fun l hl => ?_
    rw [appL_at hl, plus_comm, plus_mx (A := B + C) (C := A) (ha i l hi hl) (by omega) (by omega) hA n (fun k hk => plus_bd (hb l k hl hk) (hv k hk))]
    exact mx_congr n fun k hk => plus_comm _ _
  have e3 := e2
  unfold appL at e3
  rw [e1, e3, mx_swap]
  refine mx_congr n fun l hl => mx_congr n fun k hk => ?_
  exact plus_assoc (ha i l hi hl) (hb l k hl hk) (hv k hk) hs hA hB hC
end Go.Proofs.Ythmnalaeckfaaaa
