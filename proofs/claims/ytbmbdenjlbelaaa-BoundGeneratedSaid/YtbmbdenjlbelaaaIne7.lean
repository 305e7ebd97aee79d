import Derived.Test.YtbmbdenjlbelaaaIne6
namespace Go.Proofs.Ytbmbdenjlbelaaa
open Go.RowKit
attribute [local go_sem ↓] run_max_keep run_min_keep

theorem mul_bd2 (x y A B : Int) (hx0 : 0 ≤ x) (hx1 : x ≤ A) (hy0 : 0 ≤ y) (hy1 : y ≤ B) : 0 ≤ x * y ∧ x * y ≤ A * B :=
  ⟨Int.mul_nonneg hx0 hy0, Int.mul_le_mul hx1 hy1 hy0 (by omega)⟩

def LfOut (T : Int) (ne : Nat) (acts : List Act) (arcs signs sl : List Int) (w : World) (e : Ending) (w' : World) : Prop :=
  e = .returned (.tuple #[.int .i64 (leftV T ne acts arcs signs sl), .int .i64 (leftE T ne acts arcs signs sl)]) ∧ Below w.heap.size w w'
def Lf1 (w : World) (sl : List Int) (X Y : Nat) (xs ys : Array Value) (k : Nat) (v : Value) (wr : World) : Prop :=
  ∃ j : Nat, v = .int .i64 j ∧ j + k = sl.length ∧ (∀ i (h : i < sl.length), i < j → 0 ≤ sl[i] ∧ sl[i] ≤ 7200) ∧ CBx w wr X Y xs ys
def Lf2 (w : World) (arcs signs sl : List Int) (X Y : Nat) (xs ys : Array Value) (k : Nat) (v10 v11 v : Value) (wr : World) : Prop :=
  ∃ j : Nat, v = .int .i64 j ∧ j + k = arcs.length ∧ v10 = .int .i64 (sumN (slF arcs signs sl) j) ∧ v11 = .int .i64 (sumN (slB arcs signs sl) j) ∧ CBx w wr X Y xs ys
section
variable {T : Int} {ne : Nat} {acts : List Act} {arcs signs sl : List Int}
theorem leftE_arg (h : cycB T ne acts arcs signs = false) : leftE T ne acts arcs signs sl = 1 ∧ leftV T ne acts arcs signs sl = 0 := by
  have : leftE T ne acts arcs signs sl = 1 := by unfold leftE; rw [h]; rfl
  exact ⟨this, by unfold leftV; rw [this]; rfl⟩
theorem leftE_rng (h : cycB T ne acts arcs signs = true) (hs : ¬ slOk acts sl) : leftE T ne acts arcs signs sl = 4 ∧ leftV T ne acts arcs signs sl = 0 := by
  have : leftE T ne acts arcs signs sl = 4 := by unfold leftE; rw [if_pos h, if_neg hs]
  exact ⟨this, by unfold leftV; rw [this]; rfl⟩
theorem leftE_ok (h : cycB T ne acts arcs signs = true) (hs : slOk acts sl) : leftE T ne acts arcs signs sl = 0 ∧ leftV T ne acts arcs signs sl = leftR T ne acts arcs signs sl := by
  have : leftE T ne acts arcs signs sl = 0 := by unfold leftE; rw [if_pos h, if_pos hs]
  exact ⟨this, by unfold leftV; rw [this, if_pos rfl]⟩
theorem slOk.get (h : slOk acts sl) (a : Int) (h0 : 0 ≤ a) (h1 : a < acts.length) : 0 ≤ gi sl a ∧ gi sl a ≤ 7200 := by
  obtain ⟨a, rfl⟩ := Int.eq_ofNat_of_zero_le h0
  rw [gi_nat sl a (by rw [h.1]; omega)]
  exact h.2 _ (List.getElem_mem _)
theorem sl_bd (hk : CycOk T ne acts arcs signs) (h : slOk acts sl) (k : Nat) (hkl : k ≤ arcs.length) : 0 ≤ sumN (slF arcs signs sl) k ∧ sumN (slF arcs signs sl) k ≤ 3686400 ∧ 0 ≤ sumN (slB arcs signs sl) k ∧ sumN (slB arcs signs sl) k ≤ 3686400 := by
  have hn := hk.sum.n
  have h1 := sumN_bd (slF arcs signs sl) 0 7200 k (fun i hi => by
    have := h.get _ (hk.arc i (by omega)).a0 (hk.arc i (by omega)).a1
    unfold slF; split <;> omega)
  have h2 := sumN_bd (slB arcs signs sl) 0 7200 k (fun i hi => by
    have := h.get _ (hk.arc i (by omega)).a0 (hk.arc i (by omega)).a1
    unfold slB; split <;> omega)
  omega
end

end Go.Proofs.Ytbmbdenjlbelaaa
