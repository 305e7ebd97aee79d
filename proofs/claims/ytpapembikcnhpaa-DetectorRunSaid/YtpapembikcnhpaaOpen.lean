import Derived.Test.YtpapembikcnhpaaKeep
import Derived.ProofKit
import Derived.OpenShut
import Derived.ShutString
import Derived.ChangeOld
import Derived.Below
import Derived.SizedLaws
namespace Go.Proofs.Ytpapembikcnhpaa
open Go.ChangeShapes Go.WideShapes Go.ChangeAt Go.RowKit

theorem openInts {H : Type} {enc : TypeId × Value → H} {W : World} {base : Nat} {v : Value} {d : DataW H} {p : List MemPlace}
    (hv : Value.okWide Try.prog W .any base 22 v) (h : DataW.Trod enc Try.prog W 0 (fun _ => true) true 22 v d p) :
    ∃ (A : Option Addr) (n c : Nat) (zs : List Int), v = .slice A n c ∧ Rd W W.heap.size 1 A n (zs.map (Value.int .i64)) ∧ n ≤ c ∧ c ≤ maxLen ∧ ((d = .nil ∧ c = 0) ∨ ∃ es sp, d = .slice es sp ∧ es.length + sp.length = c) := by
  obtain ⟨a0, len0, cap0, rfl⟩ := okWide_slice Try.underlying22 hv
  obtain ⟨fuel, hf⟩ := h
  rcases open_ints Try.underlying22 Try.underlying3 (by kernel_rfl) hf with ⟨hcs, hx⟩ | ⟨x, l, c, zs, hcs, _, hl, hm, hz, hx, hcell, hwz⟩
  · simp [Value.cells] at hcs
    obtain ⟨rfl, rfl, rfl⟩ := hcs
    exact ⟨_, _, _, [], rfl, ⟨by simp, fun h => absurd h (by omega)⟩, Nat.le_refl _, by simp [maxLen], .inl ⟨by simpa using congrArg Prod.fst hx, rfl⟩⟩
  · simp [Value.cells] at hcs
    obtain ⟨rfl, rfl, rfl⟩ := hcs
    have hz' : zs.length = cap0 := by simpa using hz
    refine ⟨_, _, _, zs.take len0, rfl, ⟨by simp; omega, fun hp => ?_⟩, hl, hm, .inr ⟨_, _, by simpa using congrArg Prod.fst hx, by simp [lits]; omega⟩⟩
    obtain ⟨b, off, rfl, hc⟩ := ints_at hcell (by omega)
    refine ⟨b, off, rfl, ?_, fun j u hu => ?_⟩
    · exact World.block_lt_of_cell? W _ (hc 0 (by omega))
    · have hj : j < len0 := by
        have := (List.getElem?_eq_some_iff.1 hu).1
        simp at this; omega
      rw [hc j (by omega)]
      rw [← hu]
      simp [hj, List.getElem?_eq_getElem (show j < zs.length by omega)]
theorem sizedInts {H : Type} {ts : List TypeId} {ds : List (DataW H)} (h : (DataW.weightsEach Try.prog ts ds).all (· ≤ reachBytes) = true) (j : Nat) {d : DataW H} {c : Nat} (ht : ts[j]? = some 22) (hd : ds[j]? = some d)
    (hc : (d = .nil ∧ c = 0) ∨ ∃ es sp, d = .slice es sp ∧ es.length + sp.length = c) : c * 8 ≤ 140737488351232 := by
  rcases hc with ⟨_, rfl⟩ | ⟨es, sp, rfl, hl⟩
  · omega
  · have h1 := sized_slice h ht hd Try.underlying22
    rw [hl, show Try.prog.bytesOf 3 = 8 by kernel_rfl] at h1
    simpa [reachBytes] using h1
end Go.Proofs.Ytpapembikcnhpaa
