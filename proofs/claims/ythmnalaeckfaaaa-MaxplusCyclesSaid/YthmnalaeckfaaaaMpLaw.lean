import Derived.Test.YthmnalaeckfaaaaMpMath
namespace Go.Proofs.Ythmnalaeckfaaaa
def Ent (B x : Int) : Prop := x = -1125899906842624 ∨ (-B ≤ x ∧ x ≤ B)
theorem plus_max {A C x y c : Int} (hx : Ent A x) (hy : Ent A y) (hc : Ent C c) (hs : A + C < 1125899906842624) (hA : 0 ≤ A) (hC : 0 ≤ C) : plusF (max x y) c = max (plusF x c) (plusF y c) := by
  unfold Ent at *
  unfold plusF
  rcases Int.le_total x y with h | h
  · rw [Int.max_eq_right h]; split <;> split <;> omega
  · rw [Int.max_eq_left h]; split <;> split <;> omega
theorem plus_assoc {A B C x y z : Int} (hx : Ent A x) (hy : Ent B y) (hz : Ent C z) (hs : A + B + C < 1125899906842624) (hA : 0 ≤ A) (hB : 0 ≤ B) (hC : 0 ≤ C) : plusF (plusF x y) z = plusF x (plusF y z) := by
  unfold Ent at *
  unfold plusF
  by_cases h1 : x = -1125899906842624
  · subst h1; simp
  · by_cases h2 : y = -1125899906842624
    · subst h2; simp
    · by_cases h3 : z = -1125899906842624
      · subst h3; simp
      · have e1 : ¬ (x = -1125899906842624 ∨ y = -1125899906842624) := fun h => h.elim h1 h2
        have e2 : ¬ (y = -1125899906842624 ∨ z = -1125899906842624) := fun h => h.elim h2 h3
        simp only [if_neg e1, if_neg e2]
        rw [if_neg (by omega), if_neg (by omega)]
        omega
theorem plus_comm (x y : Int) : plusF x y = plusF y x := by unfold plusF; split <;> split <;> omega
theorem mx_ent {A : Int} {f : Nat → Int} (n : Nat) (h : ∀ k, k < n → Ent A (f k)) : Ent A (mx f n) := by
  rcases mx_cases f n with h1 | ⟨k, hk, e⟩
  · exact .inl h1
  · rw [e]; exact h k hk
theorem plus_mx {A C c : Int} {f : Nat → Int} (hc : Ent C c) (hs : A + C < 1125899906842624) (hA : 0 ≤ A) (hC : 0 ≤ C) : ∀ n, (∀ k, k < n → Ent A (f k)) → plusF (mx f n) c = mx (fun k => plusF (f k) c) n
  | 0, _ => by unfold mx plusF; rw [if_pos (.inl rfl)]
  | n + 1, h => by
    unfold mx
    rw [plus_max (mx_ent n (fun k hk => h k (by omega))) (h n (by omega)) hc hs hA hC, plus_mx hc hs hA hC n (fun k hk => h k (by omega))]
theorem mx_mono {f g : Nat → Int} : ∀ n, (∀ k, k < n → f k ≤ g k) → mx f n ≤ mx g n
  | 0, _ => Int.le_refl _
  | n + 1, h => by
    have := mx_mono n (fun k hk => h k (by omega))
    have := h n (by omega)
    unfold mx; omega
theorem mx_swap_le (F : Nat → Nat → Int) (m n : Nat) : mx (fun k => mx (fun l => F k l) n) m ≤ mx (fun l => mx (fun k => F k l) m) n :=
  mx_le _ _ (mx_lo _ _) m fun k hk => mx_le _ _ (mx_lo _ _) n fun l hl =>
    Int.le_trans (mx_ge (fun k => F k l) m k hk) (mx_ge (fun l => mx (fun k => F k l) m) n l hl)
theorem mx_swap (F : Nat → Nat → Int) (m n : Nat) : mx (fun k => mx (fun l => F k l) n) m = mx (fun l => mx (fun k => F k l) m) n :=
  Int.le_antisymm (mx_swap_le F m n) (mx_swap_le (fun l k => F k l) n m)
theorem tab_congr {n : Nat} {f g : Nat → Nat → Int} (h : ∀ i j, i < n → j < n → f i j = g i j) : tab n f = tab n g := by
  unfold tab
  apply List.map_congr_left
  intro i hi
  apply List.map_congr_left
  intro j hj
  exact h i j (List.mem_range.1 hi) (List.mem_range.1 hj)
/-- the product is associative -/
theorem prod_assoc {A B C : Int} {n : Nat} {a b c : List (List Int)} (ha : Bd A a n) (hb : Bd B b n) (hc : Bd C c n) (hs : A + B + C < 1125899906842624) (hA : 0 ≤ A) (hB : 0 ≤ B) (hC : 0 ≤ C) : prodM n (prodM n a b) c = prodM n a (prodM n b c) := by
  unfold prodM
  refine tab_congr fun i j hi hj => ?_
  have e1 : mx (fun k => plusF (gm (tab n fun i j => mx (fun k => plusF (gm a i k) (gm b k j)) n) i k) (gm c k j)) n = mx (fun k => mx (fun l => plusF (plusF (gm a i l) (gm b l k)) (gm c k j)) n) n := by
    refine mx_congr n fun k hk => ?_
    rw [gm_tab hi hk, plus_mx (A := A + B) (C := C) (hc k j hk hj) (by omega) (by omega) hC n (fun l hl => plus_bd (ha i l hi hl) (hb l k hl hk))]
  have e2 : mx (fun l => plusF (gm a i l) (gm (tab n fun i j => mx (fun k => plusF (gm b i k) (gm c k j)) n) l j)) n = mx (fun l => mx (fun k => plusF (gm a i l) (plusF (gm b l k) (gm c k j))) n) n := by
    refine mx_congr n fun l hl => ?_
    rw [gm_tab hl hj, plus_comm, plus_mx (A := B + C) (C := A) (ha i l hi hl) (by omega) (by omega) hA n (fun k hk => plus_bd (hb l k hl hk) (hc k j hk hj))]
    exact mx_congr n fun k hk => plus_comm _ _
  rw [e1, e2, mx_swap]
  refine mx_congr n fun l hl => mx_congr n fun k hk => ?_
  exact plus_assoc (ha i l hi hl) (hb l k hl hk) (hc k j hk hj) hs hA hB hC
end Go.Proofs.Ythmnalaeckfaaaa
