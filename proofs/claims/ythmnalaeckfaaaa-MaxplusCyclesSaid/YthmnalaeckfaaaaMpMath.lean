
namespace Go.Proofs.Ythmnalaeckfaaaa
/-! Matrices over max and plus, as lists of lists. -/
def nev : Int := -1125899906842624
def fitB (e : Int) : Bool := e == -1125899906842624 || (decide (-68719476736 ≤ e) && decide (e ≤ 68719476736))
def vecB (n : Int) (x : List Int) : Bool := decide (1 ≤ n) && decide (n ≤ 12) && decide ((x.length : Int) = n) && x.all fitB
def chkM (a : List (List Int)) : Bool := decide (1 ≤ a.length) && decide (a.length ≤ 12) && a.all (vecB a.length)
def plusF (x y : Int) : Int := if x = -1125899906842624 ∨ y = -1125899906842624 then -1125899906842624 else x + y
/-- entry (i, j) -/
def gm (a : List (List Int)) (i j : Nat) : Int := (a.getD i []).getD j 0
/-- the greatest of the first k values, Never if there is none -/
def mx (f : Nat → Int) : Nat → Int
  | 0 => -1125899906842624
  | k + 1 => max (mx f k) (f k)
/-- the matrix of a function -/
def tab (n : Nat) (f : Nat → Nat → Int) : List (List Int) := (List.range n).map fun i => (List.range n).map fun j => f i j
def prodM (n : Nat) (a b : List (List Int)) : List (List Int) := tab n fun i j => mx (fun k => plusF (gm a i k) (gm b k j)) n
def idM (n : Nat) : List (List Int) := tab n fun i j => if i = j then 0 else -1125899906842624
def powM (n : Nat) (a : List (List Int)) : Nat → List (List Int)
  | 0 => idM n
  | k + 1 => prodM n (powM n a k) a
/-- each row has n entries -/
def Sq (n : Nat) (a : List (List Int)) : Prop := a.length = n ∧ ∀ r ∈ a, r.length = n
/-- the entries are Never, or at most B in absolute value -/
def Bd (B : Int) (a : List (List Int)) (n : Nat) : Prop := ∀ i j, i < n → j < n → gm a i j = -1125899906842624 ∨ (-B ≤ gm a i j ∧ gm a i j ≤ B)
theorem fitB_iff {e : Int} : fitB e = true ↔ e = -1125899906842624 ∨ (-68719476736 ≤ e ∧ e ≤ 68719476736) := by
  unfold fitB; simp
theorem vecB_iff {n : Int} {x : List Int} : vecB n x = true ↔ (1 ≤ n ∧ n ≤ 12) ∧ (x.length : Int) = n ∧ ∀ e ∈ x, fitB e = true := by
  unfold vecB; simp [and_assoc]
theorem chkM_iff {a : List (List Int)} : chkM a = true ↔ (1 ≤ a.length ∧ a.length ≤ 12) ∧ ∀ r ∈ a, vecB a.length r = true := by
  unfold chkM; simp
theorem gm_at {a : List (List Int)} {i j : Nat} (hi : i < a.length) (hj : j < a[i].length) : gm a i j = a[i][j] := by
  simp [gm, List.getD_eq_getElem?_getD, hi, hj]
theorem chkM_sq {a : List (List Int)} (h : chkM a = true) : Sq a.length a := by
  obtain ⟨_, h2⟩ := chkM_iff.1 h
  refine ⟨rfl, fun r hr => ?_⟩
  have := (vecB_iff.1 (h2 r hr)).2.1
  omega
theorem chkM_bd {a : List (List Int)} (h : chkM a = true) : Bd 68719476736 a a.length := by
  intro i j hi hj
  have hs := chkM_sq h
  obtain ⟨_, h2⟩ := chkM_iff.1 h
  have hl : j < a[i].length := by rw [hs.2 a[i] (List.getElem_mem hi)]; exact hj
  have h3 := (vecB_iff.1 (h2 a[i] (List.getElem_mem hi))).2.2 a[i][j] (List.getElem_mem hl)
  rw [gm_at hi hl]
  exact fitB_iff.1 h3
theorem sq_of_tab (n : Nat) (f : Nat → Nat → Int) : Sq n (tab n f) := by
  refine ⟨by simp [tab], fun r hr => ?_⟩
  unfold tab at hr
  rw [List.mem_map] at hr
  obtain ⟨i, _, rfl⟩ := hr
  simp
theorem gm_tab {n : Nat} {f : Nat → Nat → Int} {i j : Nat} (hi : i < n) (hj : j < n) : gm (tab n f) i j = f i j := by
  unfold gm tab
  simp [List.getD_eq_getElem?_getD, hi, hj]
theorem bd_mk {n : Nat} {a : List (List Int)} (hs : Sq n a) (hn : 1 ≤ n ∧ n ≤ 12) (h : Bd 68719476736 a n) : chkM a = true := by
  obtain ⟨rfl, h2⟩ := hs
  refine chkM_iff.2 ⟨hn, fun r hr => ?_⟩
  obtain ⟨i, hi, rfl⟩ := List.getElem_of_mem hr
  have hl := h2 a[i] hr
  refine vecB_iff.2 ⟨by omega, by omega, fun e he => ?_⟩
  obtain ⟨j, hj, rfl⟩ := List.getElem_of_mem he
  have h3 := h i j hi (by omega)
  rw [gm_at hi hj] at h3
  exact fitB_iff.2 h3
theorem mx_cases (f : Nat → Int) : ∀ n, mx f n = -1125899906842624 ∨ ∃ k, k < n ∧ mx f n = f k
  | 0 => .inl rfl
  | n + 1 => by
    unfold mx
    rcases Int.le_total (mx f n) (f n) with h | h
    · right; exact ⟨n, by omega, by omega⟩
    · rw [Int.max_eq_left h]
      rcases mx_cases f n with h1 | ⟨k, hk, e⟩
      · exact .inl h1
      · exact .inr ⟨k, by omega, e⟩
theorem mx_ge (f : Nat → Int) : ∀ n k, k < n → f k ≤ mx f n
  | n + 1, k, h => by
    unfold mx
    rcases Nat.lt_or_ge k n with h1 | h1
    · have := mx_ge f n k h1; omega
    · obtain rfl : k = n := by omega
      omega
theorem mx_lo (f : Nat → Int) : ∀ n, -1125899906842624 ≤ mx f n
  | 0 => Int.le_refl _
  | n + 1 => by have := mx_lo f n; unfold mx; omega
theorem mx_le (f : Nat → Int) (c : Int) (hc : -1125899906842624 ≤ c) : ∀ n, (∀ k, k < n → f k ≤ c) → mx f n ≤ c
  | 0, _ => hc
  | n + 1, h => by
    have := mx_le f c hc n (fun k hk => h k (by omega))
    have := h n (by omega)
    unfold mx; omega
theorem mx_congr {f g : Nat → Int} : ∀ n, (∀ k, k < n → f k = g k) → mx f n = mx g n
  | 0, _ => rfl
  | n + 1, h => by unfold mx; rw [mx_congr n (fun k hk => h k (by omega)), h n (by omega)]
theorem plus_bd {x y A B : Int} (hx : x = -1125899906842624 ∨ (-A ≤ x ∧ x ≤ A)) (hy : y = -1125899906842624 ∨ (-B ≤ y ∧ y ≤ B)) : plusF x y = -1125899906842624 ∨ (-(A + B) ≤ plusF x y ∧ plusF x y ≤ A + B) := by
  unfold plusF
  split
  · exact .inl rfl
  · rename_i h; right; omega
theorem prod_sq (n : Nat) (a b : List (List Int)) : Sq n (prodM n a b) := sq_of_tab n _
theorem prod_gm {n : Nat} {a b : List (List Int)} {i j : Nat} (hi : i < n) (hj : j < n) : gm (prodM n a b) i j = mx (fun k => plusF (gm a i k) (gm b k j)) n := gm_tab hi hj
theorem prod_bd {A B : Int} {n : Nat} {a b : List (List Int)} (ha : Bd A a n) (hb : Bd B b n) : Bd (A + B) (prodM n a b) n := by
  intro i j hi hj
  rw [prod_gm hi hj]
  rcases mx_cases (fun k => plusF (gm a i k) (gm b k j)) n with h | ⟨k, hk, e⟩
  · exact .inl h
  · rw [e]; exact plus_bd (ha i k hi hk) (hb k j hk hj)
theorem id_bd {B : Int} (hB : 0 ≤ B) (n : Nat) : Bd B (idM n) n := by
  intro i j hi hj
  unfold idM
  rw [gm_tab hi hj]
  split
  · right; omega
  · left; rfl
end Go.Proofs.Ythmnalaeckfaaaa
