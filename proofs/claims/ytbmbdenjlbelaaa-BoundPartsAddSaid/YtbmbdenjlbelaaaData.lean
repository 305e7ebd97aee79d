import Derived.Test.YtbmbdenjlbelaaaKeep
import Derived.Test.YtbmbdenjlbelaaaOver
import Derived.Maps.AppendAt
import Derived.Deep.AppendLies
import Derived.OwnWalk
import Derived.Deep.LoopGhost
import Derived.Deep.DeepCutAuto
import Derived.Deep.CutBlock
import Derived.Deep.RegionHeld3
namespace Go.Proofs.Ytbmbdenjlbelaaa
open Go.RowKit

theorem flat_len {α : Type} (f : α → List Value) (k : Nat) (hf : ∀ x, (f x).length = k) (xs : List α) : (xs.flatMap f).length = xs.length * k := by
  induction xs with
  | nil => simp
  | cons x xs ih => simp [List.flatMap_cons, ih, hf, Nat.add_mul, Nat.add_comm]
theorem flat_get {α : Type} (f : α → List Value) (k : Nat) (hf : ∀ x, (f x).length = k) (xs : List α) (i : Nat) (h : i < xs.length) (j : Nat) (hj : j < k) : (xs.flatMap f)[i * k + j]? = (f xs[i])[j]? := by
  induction xs generalizing i with
  | nil => simp at h
  | cons x xs ih =>
    rw [List.flatMap_cons]
    cases i with
    | zero => rw [List.getElem?_append_left (by rw [hf]; omega)]; simp
    | succ i =>
      rw [List.getElem?_append_right (by rw [hf, Nat.add_mul]; omega), hf]
      have := ih i (by simpa using h)
      rw [show (i + 1) * k + j - k = i * k + j by rw [Nat.add_mul]; omega]
      simpa using this

/-- what is owned is read -/
theorem Rd.of_own {w : World} {base : Nat} {e : TypeId} {sz n c : Nat} {A : Option Addr} {xs : List Value} (h : w.ownsRow base e sz (.slice A n c) n xs) : Rd w w.heap.size sz A n xs := by
  refine ⟨h.1, fun hn => ?_⟩
  obtain ⟨g, cap, hv, _, hlt⟩ := h.form hn
  have hA : A = some ⟨g, 0, none⟩ := by injection hv
  subst hA
  refine ⟨g, 0, rfl, hlt, fun j u hu => ?_⟩
  have := h.cells (g := g) rfl j u hu
  rwa [show (⟨g, 0, none⟩ : Addr).add j = ⟨g, 0 + j, none⟩ by unfold Addr.add; split <;> simp_all] at this
theorem own_slice {w : World} {base : Nat} {e : TypeId} {sz n : Nat} {v : Value} {xs : List Value} (h : w.ownsRow base e sz v n xs) : ∃ A c, v = .slice A n c ∧ n ≤ c ∧ c ≤ maxLen := by
  rcases h.2 with ⟨rfl, rfl⟩ | ⟨g, cap, cur, rfl, _, _, hnc, hm, _⟩
  · exact ⟨_, _, rfl, Nat.le_refl _, by simp [maxLen]⟩
  · exact ⟨_, _, rfl, hnc, hm⟩
theorem own_block {w : World} {base : Nat} {e : TypeId} {sz n : Nat} {v : Value} {xs : List Value} (h : w.ownsRow base e sz v n xs) : ∀ g, v.ownBlock = some g → base ≤ g ∧ g < w.heap.size := by
  intro g hg
  rcases h.2 with ⟨rfl, rfl⟩ | ⟨g', cap, cur, rfl, hb, hh, _⟩
  · simp [Value.ownBlock] at hg
  · simp [Value.ownBlock] at hg
    subst hg
    exact ⟨hb, (Array.getElem?_eq_some_iff.1 hh).1⟩
theorem own_below {w w' : World} {base B : Nat} {e : TypeId} {sz n : Nat} {v : Value} {xs : List Value} (h : w.ownsRow base e sz v n xs) (hb : Below B w w') (hB : ∀ g, v.ownBlock = some g → g < B) : w'.ownsRow base e sz v n xs := by
  refine ⟨h.1, ?_⟩
  rcases h.2 with h2 | ⟨g, cap, cur, rfl, hbg, hh, r⟩
  · exact .inl h2
  · exact .inr ⟨g, cap, cur, rfl, hbg, by rw [hb.block g (hB g rfl)]; exact hh, r⟩
theorem own_grow {w w' : World} {base : Nat} {e : TypeId} {sz n : Nat} {v : Value} {xs : List Value} (h : w.ownsRow base e sz v n xs) (hb : Below w.heap.size w w') : w'.ownsRow base e sz v n xs :=
  own_below h hb fun g hg => (own_block h g hg).2
theorem own_base {w : World} {base base' : Nat} {e : TypeId} {sz n : Nat} {v : Value} {xs : List Value} (h : w.ownsRow base e sz v n xs) (hb : base' ≤ base) : w.ownsRow base' e sz v n xs := by
  refine ⟨h.1, ?_⟩
  rcases h.2 with h2 | ⟨g, cap, cur, rfl, hbg, r⟩
  · exact .inl h2
  · exact .inr ⟨g, cap, cur, rfl, by omega, r⟩
theorem own_turn {w w' : World} {base b : Nat} {e : TypeId} {sz n : Nat} {v : Value} {xs : List Value} (h : w.ownsRow base e sz v n xs) (ht : Turn b w w') (hb : b < base) : w'.ownsRow base e sz v n xs := by
  refine ⟨h.1, ?_⟩
  rcases h.2 with h2 | ⟨g, cap, cur, rfl, hbg, hh, r⟩
  · exact .inl h2
  · exact .inr ⟨g, cap, cur, rfl, hbg, by rw [ht.block g (by omega)]; exact hh, r⟩
/-- new cells of one element, laid in a block of their own -/
theorem news_new (w : World) (t : TypeId) (l : List Value) : ∀ j u, l[j]? = some u → (w.alloc (.cells l.toArray t)).cell? ((⟨w.heap.size, 0, none⟩ : Addr).add j) = some u := by
  intro j u hu
  rw [show (⟨w.heap.size, 0, none⟩ : Addr).add j = ⟨w.heap.size, j, none⟩ by unfold Addr.add; split <;> simp_all]
  rw [(Blk.new w t l.toArray).cell j]
  simpa using hu
theorem flat_getq {α : Type} (f : α → List Value) (k : Nat) (hk : 0 < k) (hf : ∀ x, (f x).length = k) (xs : List α) (m : Nat) : (xs.flatMap f)[m]? = (xs[m / k]?).bind fun x => (f x)[m % k]? := by
  have hm : m = (m / k) * k + m % k := by rw [Nat.mul_comm]; exact (Nat.div_add_mod m k).symm
  have hr : m % k < k := Nat.mod_lt _ hk
  rcases Nat.lt_or_ge (m / k) xs.length with h | h
  · rw [List.getElem?_eq_getElem h]
    conv => lhs; rw [hm]
    exact flat_get f k hf xs (m / k) h (m % k) hr
  · rw [List.getElem?_eq_none h, List.getElem?_eq_none]
    · rfl
    · rw [flat_len f k hf]
      calc xs.length * k ≤ (m / k) * k := Nat.mul_le_mul_right k h
        _ ≤ m := by rw [Nat.mul_comm]; exact Nat.mul_div_le m k
theorem madeCells_flat {α : Type} (f : α → List Value) (k : Nat) (hk : 0 < k) (hf : ∀ x, (f x).length = k) (x : α) (n : Nat) : (madeCells (f x).toArray (n * k)).toList = (List.replicate n x).flatMap f := by
  apply List.ext_getElem?
  intro m
  rw [flat_getq f k hk hf]
  rcases Nat.lt_or_ge m (n * k) with h | h
  · have h1 : m / k < n := Nat.div_lt_of_lt_mul (by rw [Nat.mul_comm]; exact h)
    have h2 : m % k < k := Nat.mod_lt _ hk
    simp [madeCells, h, h1, hf, h2]
  · have h1 : n ≤ m / k := (Nat.le_div_iff_mul_le hk).2 h
    have h3 : (madeCells (f x).toArray (n * k)).toList.length ≤ m := by simp [size_madeCells, h]
    rw [List.getElem?_eq_none h3, List.getElem?_eq_none (by simp [h1])]
    rfl
theorem flat_set3 {α : Type} (f : α → List Value) (hf : ∀ x, (f x).length = 3) (xs : List α) (i : Nat) (_hi : i < xs.length) (y : α) (a b c : Value) (hy : f y = [a, b, c]) :
    (((xs.flatMap f).set (i * 3) a).set (i * 3 + 1) b).set (i * 3 + 2) c = (xs.set i y).flatMap f := by
  have hl := flat_len f 3 hf xs
  apply List.ext_getElem?
  intro m
  rw [flat_getq f 3 (by omega) hf, List.getElem?_set, List.getElem?_set, List.getElem?_set, flat_getq f 3 (by omega) hf]
  simp only [List.length_set, hl, List.getElem?_set]
  by_cases h : m / 3 = i
  · have h0 : m % 3 = 0 ∨ m % 3 = 1 ∨ m % 3 = 2 := by omega
    subst h
    have e := Nat.div_add_mod m 3
    have hlt : m / 3 < xs.length := _hi
    rcases h0 with h0 | h0 | h0
    · rw [if_neg (by omega), if_neg (by omega), if_pos (by omega), if_pos (by omega)]
      simp [hlt, hy, h0]
    · rw [if_neg (by omega), if_pos (by omega), if_pos (by omega)]
      simp [hlt, hy, h0]
    · rw [if_pos (by omega), if_pos (by omega)]
      simp [hlt, hy, h0]
  · rw [if_neg (by omega), if_neg (by omega), if_neg (by omega), if_neg (by omega)]
theorem rd1 {α : Type} {f : α → Value} {w : World} {B n : Nat} {A : Option Addr} {xs : List α} (h : Rd w B 1 A n (xs.map f)) (j : Nat) (hj : j < xs.length) : ∃ b off, A = some ⟨b, off, none⟩ ∧ b < B ∧ w.cell? ⟨b, off + j, none⟩ = some (f xs[j]) := by
  have hn : n = xs.length := by have := h.1; simp at this; omega
  obtain ⟨b, off, rfl, hb, hc⟩ := h.2 (by omega)
  exact ⟨b, off, rfl, hb, hc j _ (by simp [hj])⟩
theorem own1 {α : Type} {f : α → Value} {w : World} {base n cap g : Nat} {e : TypeId} {xs : List α} (h : w.ownsRow base e 1 (.slice (some ⟨g, 0, none⟩) n cap) n (xs.map f)) (j : Nat) (hj : j < xs.length) : w.cell? ⟨g, j, none⟩ = some (f xs[j]) := by
  have hn : n = xs.length := by have := h.1; simp at this; omega
  rw [h.cellAt j (by omega)]; simp [hj]
theorem own1_set {α : Type} {f : α → Value} {w : World} {base n cap g : Nat} {e : TypeId} {xs : List α} (h : w.ownsRow base e 1 (.slice (some ⟨g, 0, none⟩) n cap) n (xs.map f)) (j : Nat) (y : α) :
    (w.setCell ⟨g, j, none⟩ (f y)).ownsRow base e 1 (.slice (some ⟨g, 0, none⟩) n cap) n ((xs.set j y).map f) := by
  rw [List.map_set]; exact (h.stored j (f y)).1
theorem own1_len {α : Type} {f : α → Value} {w : World} {base n : Nat} {v : Value} {e : TypeId} {xs : List α} (h : w.ownsRow base e 1 v n (xs.map f)) : n = xs.length := by have := h.1; simp at this; omega
/-- a store elsewhere -/
theorem own_far {w : World} {base : Nat} {e : TypeId} {sz n : Nat} {v : Value} {xs : List Value} (h : w.ownsRow base e sz v n xs) {p : Addr} {u : Value} (hp : v.ownBlock ≠ some p.block) : (w.setCell p u).ownsRow base e sz v n xs := by
  refine h.kept (row := some p.block) ⟨rfl, rfl, rfl, by simp [World.setCell], fun k _ hk => Below.heap_setCell _ _ _ _ (by intro e; exact hk (by rw [e]))⟩ (.inr hp)
theorem Rd.far {w : World} {B sz n : Nat} {A : Option Addr} {xs : List Value} (h : Rd w B sz A n xs) {p : Addr} {u : Value} (hp : B ≤ p.block) : Rd (w.setCell p u) B sz A n xs :=
  h.keep fun k hk => Below.heap_setCell _ _ _ _ (by omega)
theorem Rd.grow {w w' : World} {B sz n : Nat} {A : Option Addr} {xs : List Value} (h : Rd w B sz A n xs) (hb : Below B w w') : Rd w' B sz A n xs := h.keep fun k hk => hb.block k hk
theorem madeCells_one {α : Type} (f : α → Value) (x : α) (n : Nat) : (madeCells #[f x] (n * 1)).toList = (List.replicate n x).map f := by
  rw [Nat.mul_one, toList_madeCells_one]; simp
end Go.Proofs.Ytbmbdenjlbelaaa
