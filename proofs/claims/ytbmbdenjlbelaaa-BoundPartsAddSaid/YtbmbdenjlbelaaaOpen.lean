import Derived.Test.YtbmbdenjlbelaaaKeep
import Derived.ProofKit
import Derived.OpenShut
import Derived.ShutString
import Derived.ChangeOld
import Derived.Below
import Derived.SizedLaws
import Derived.Deep.Slices
import Derived.Deep.Fields
import Derived.ChangeSame
import Derived.Lib.SmallJoins
import Derived.Test.YtbmbdenjlbelaaaData
namespace Go.Proofs.Ytbmbdenjlbelaaa
open Go.ChangeShapes Go.WideShapes Go.ChangeAt Go.RowKit

theorem openInts {H : Type} {enc : TypeId × Value → H} {W : World} {base : Nat} {v : Value} {d : DataW H} {p : List MemPlace}
    (hv : Value.okWide Try.prog W .any base 22 v) (h : DataW.Trod enc Try.prog W 0 (fun _ => true) true 22 v d p) :
    ∃ (A : Option Addr) (n c : Nat) (zs : List Int), v = .slice A n c ∧ Rd W W.heap.size 1 A n (zs.map (Value.int .i64)) ∧ n ≤ c ∧ c ≤ maxLen ∧ ((d = .nil ∧ c = 0) ∨ ∃ es sp, d = .slice es sp ∧ es.length + sp.length = c) := by
  obtain ⟨a0, len0, cap0, rfl⟩ := okWide_slice Try.underlying22 hv
  obtain ⟨fuel, hf⟩ := h
  rcases open_ints Try.underlying22 Try.underlying3 (by kernel_rfl) hf with ⟨hcs, hx⟩ | ⟨x, l, c, zs, hcs, _, hl, hm, hz, hx, hcell, hwz⟩
  · simp [Value.cells] at hcs
    obtain ⟨rfl, rfl, rfl⟩ := hcs
    exact ⟨_, _, _, [], rfl, ⟨by simp, fun h => absurd h (by omega)⟩, Nat.le_refl _, by simp [maxLen], .inl ⟨by simpa using congrArg Prod.fst hx, rfl⟩⟩
  · simp [Value.cells] at hcs
    obtain ⟨rfl, rfl, rfl⟩ := hcs
    have hz' : zs.length = cap0 := by simpa using hz
    refine ⟨_, _, _, zs.take len0, rfl, ⟨by simp; omega, fun hp => ?_⟩, hl, hm, .inr ⟨_, _, by simpa using congrArg Prod.fst hx, by simp [lits]; omega⟩⟩
    obtain ⟨b, off, rfl, hc⟩ := ints_at hcell (by omega)
    refine ⟨b, off, rfl, ?_, fun j u hu => ?_⟩
    · exact World.block_lt_of_cell? W _ (hc 0 (by omega))
    · have hj : j < len0 := by
        have := (List.getElem?_eq_some_iff.1 hu).1
        simp at this; omega
      rw [hc j (by omega)]
      rw [← hu]
      simp [hj, List.getElem?_eq_getElem (show j < zs.length by omega)]
theorem sizedInts {H : Type} {ts : List TypeId} {ds : List (DataW H)} (h : (DataW.weightsEach Try.prog ts ds).all (· ≤ reachBytes) = true) (j : Nat) {d : DataW H} {c : Nat} (ht : ts[j]? = some 22) (hd : ds[j]? = some d)
    (hc : (d = .nil ∧ c = 0) ∨ ∃ es sp, d = .slice es sp ∧ es.length + sp.length = c) : c * 8 ≤ 140737488351232 := by
  rcases hc with ⟨_, rfl⟩ | ⟨es, sp, rfl, hl⟩
  · omega
  · have h1 := sized_slice h ht hd Try.underlying22
    rw [hl, show Try.prog.bytesOf 3 = 8 by kernel_rfl] at h1
    simpa [reachBytes] using h1

/-- a slice of structs that came in, k cells each; 'dec': one element's cells, read -/
theorem openStructs {α : Type} (f : α → List Value) (k : Nat) (hk : 0 < k) (hf : ∀ x, (f x).length = k) {H : Type} {enc : TypeId × Value → H} {W : World} {base : Nat} {v : Value} {d : DataW H} {p : List MemPlace} {t e : TypeId}
    (ht : Try.prog.underlying t = some (.slice e)) (hc : Try.prog.cellsOf e = k)
    (dec : ∀ (cs : List Value) (n : Nat) (y : DataW H × List MemPlace), cs.length = k → DataW.trod enc Try.prog W 0 (fun _ => true) true n e cs = some y → ∃ x : α, cs = f x)
    (hv : Value.okWide Try.prog W .any base t v) (h : DataW.Trod enc Try.prog W 0 (fun _ => true) true t v d p) :
    ∃ (A : Option Addr) (n c : Nat) (xs : List α), v = .slice A n c ∧ Rd W W.heap.size k A n (xs.flatMap f) ∧ n = xs.length ∧ n ≤ c ∧ c ≤ maxLen ∧ ((d = .nil ∧ c = 0) ∨ ∃ es sp, d = .slice es sp ∧ es.length + sp.length = c) := by
  obtain ⟨a0, len0, cap0, rfl⟩ := okWide_slice ht hv
  obtain ⟨fuel, hf1⟩ := h
  rcases Go.Deep.open_slice ht hf1 with ⟨hcs, hx⟩ | ⟨a, len, cap, m, n, D, Pl, hcs, hb, hl, hm, hmm, hx, hi⟩
  · simp [Value.cells] at hcs
    obtain ⟨rfl, rfl, rfl⟩ := hcs
    exact ⟨_, _, _, [], rfl, ⟨by simp, fun h => absurd h (by omega)⟩, rfl, Nat.le_refl _, by simp [maxLen], .inl ⟨by simpa using congrArg Prod.fst hx, rfl⟩⟩
  · simp [Value.cells] at hcs
    obtain ⟨rfl, rfl, rfl⟩ := hcs
    simp only [if_true] at hmm
    subst hmm
    rw [hc] at hi
    have hex : ∀ i, i < m → ∃ x : α, ∀ j, j < k → W.cell? (a.add (i * k + j)) = (f x)[j]? := fun i him => by
      obtain ⟨cs', h1, h2⟩ := hi i him
      obtain ⟨_, hlen, hat⟩ := World.cells?_some h1
      obtain ⟨x, rfl⟩ := dec cs' n _ hlen h2
      exact ⟨x, fun j hj => by rw [← Go.Deep.add_add]; exact hat j hj⟩
    refine ⟨some a, len0, m, (List.range len0).pmap (fun i (hi : i < m) => Classical.choose (hex i hi)) (fun i hi => by have := List.mem_range.1 hi; omega), rfl, ⟨?_, fun hp => ?_⟩, by simp, hl, hm, .inr ⟨_, _, by simpa using congrArg Prod.fst hx, by simp; omega⟩⟩
    · rw [flat_len f k hf]; simp
    · have hcell : ∀ i (him : i < m) j, j < k → W.cell? (a.add (i * k + j)) = (f (Classical.choose (hex i him)))[j]? := fun i him => Classical.choose_spec (hex i him)
      obtain ⟨b, off, spot⟩ := a
      have h0 := hcell 0 (by omega) 0 hk
      have hs0 : (f (Classical.choose (hex 0 (by omega))))[0]? = some ((f (Classical.choose (hex 0 (by omega))))[0]'(by rw [hf]; exact hk)) := List.getElem?_eq_getElem _
      rw [hs0] at h0
      have hspot : spot = none := by simpa [Addr.add] using World.cell?_spot h0
      subst hspot
      refine ⟨b, off, rfl, ?_, fun j u hu => ?_⟩
      · have := World.block_lt_of_cell? W _ h0
        simpa [Addr.add] using this
      · rw [flat_getq f k hk hf] at hu
        have hjm : j / k < len0 := by
          rcases Nat.lt_or_ge (j / k) len0 with h | h
          · exact h
          · rw [List.getElem?_eq_none (by simpa using h)] at hu; cases hu
        have hr : j % k < k := Nat.mod_lt _ hk
        rw [List.getElem?_eq_getElem (by simpa using hjm)] at hu
        simp only [Option.bind_some, List.getElem_pmap, List.getElem_range] at hu
        have := hcell (j / k) (by omega) (j % k) hr
        rw [hu, add_plain] at this
        rw [← this]
        congr 2
        rw [Nat.mul_comm, Nat.div_add_mod]
theorem sizedStructs {H : Type} {ts : List TypeId} {ds : List (DataW H)} (h : (DataW.weightsEach Try.prog ts ds).all (· ≤ reachBytes) = true) (j : Nat) {d : DataW H} {c : Nat} {t e : TypeId} (bytes : Nat) (hu : Try.prog.underlying t = some (.slice e)) (hb : Try.prog.bytesOf e = bytes) (ht : ts[j]? = some t) (hd : ds[j]? = some d)
    (hc : (d = .nil ∧ c = 0) ∨ ∃ es sp, d = .slice es sp ∧ es.length + sp.length = c) : c * bytes ≤ 140737488351232 := by
  rcases hc with ⟨_, rfl⟩ | ⟨es, sp, rfl, hl⟩
  · omega
  · have h1 := sized_slice h ht hd hu
    rw [hl, hb] at h1
    simpa [reachBytes] using h1
end Go.Proofs.Ytbmbdenjlbelaaa
