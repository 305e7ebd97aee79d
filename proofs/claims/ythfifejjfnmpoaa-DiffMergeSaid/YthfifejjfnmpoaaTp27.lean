import Derived.Test.YthfifejjfnmpoaaTp26
import Derived.Test.YthfifejjfnmpoaaTpMath9
namespace Go.Proofs.Ythfifejjfnmpoaa
open Go.RowKit
def smB (f : List PE) (e : PE) : Bool := match findE f e with
  | some x => eqE e x
  | none => false
theorem findE_step {E : List PE} (hE : AscE E) {x : PE} {q : Nat} (hq : q < E.length) : findE (E.take (q + 1)) x = if eqK (keyE x) (keyE E[q]) then some E[q] else findE (E.take q) x := by
  unfold findE
  rw [List.take_succ_eq_append_getElem hq, List.find?_append]
  have hsym : eqK (keyE x) (keyE E[q]) ↔ eqK (keyE E[q]) (keyE x) := ⟨eqK_symm, eqK_symm⟩
  by_cases h : eqK (keyE x) (keyE E[q])
  · have hnone : (E.take q).find? (fun y => decide (eqK (keyE y) (keyE x))) = none := by
      refine List.find?_eq_none.2 fun y hy => ?_
      simp only [decide_eq_true_eq]
      intro hyx
      obtain ⟨i, hi, rfl⟩ := List.getElem_of_mem hy
      rw [List.getElem_take] at hyx
      have hil : i < q := by simp at hi; omega
      have := List.pairwise_iff_getElem.1 hE i q (by omega) hq hil
      exact ltK_neq this ⟨by have := hyx.1; have := h.1; omega, by have := hyx.2; have := h.2; omega⟩
    rw [if_pos h, hnone]
    simp [hsym.1 h]
  · have h2 : ¬ eqK (keyE E[q]) (keyE x) := fun h' => h (hsym.2 h')
    rw [if_neg h]
    simp [h2]
theorem smB_step {E : List PE} (hE : AscE E) {x : PE} {q : Nat} (hq : q < E.length) : smB (E.take (q + 1)) x = (if eqK (keyE x) (keyE E[q]) then eqE x E[q] else smB (E.take q) x) ∧ clashB (E.take (q + 1)) x = (if eqK (keyE x) (keyE E[q]) then !eqE x E[q] else clashB (E.take q) x) := by
  unfold smB clashB
  rw [findE_step hE hq]
  by_cases h : eqK (keyE x) (keyE E[q])
  · rw [if_pos h, if_pos h, if_pos h]
    exact ⟨rfl, by simp only; rw [eqE_comm]⟩
  · rw [if_neg h, if_neg h, if_neg h]
    exact ⟨rfl, rfl⟩
theorem smB_three (E : List PE) (x : PE) : (findE E x = none ∧ smB E x = false ∧ clashB E x = false) ∨ (smB E x = true ∧ clashB E x = false ∧ findE E x ≠ none) ∨ (smB E x = false ∧ clashB E x = true ∧ findE E x ≠ none) := by
  unfold smB clashB
  cases h : findE E x with
  | none => exact .inl ⟨rfl, rfl, rfl⟩
  | some f =>
    right
    simp only
    rw [eqE_comm]
    cases eqE f x with
    | true => exact .inl ⟨rfl, rfl, by simp⟩
    | false => exact .inr ⟨rfl, rfl, by simp⟩
theorem RdS.sds {w wr : World} {v : Value} {es : List CE} {n : Nat} (h : RdS w wr v es n) : SdS w wr v es n := ⟨h.o, h.n, h.b⟩
theorem RdS.of {w wr : World} {v : Value} {es : List CE} {n : Nat} (h : SdS w wr v es n) (hk : ∀ x ∈ es, 1 ≤ (keyC x).dep.length) : RdS w wr v es n := ⟨h.o, hk, h.n, h.b⟩
def RmL (w : World) (E F : List PE) (k : Nat) (v13 v15 v : Value) (wr : World) : Prop :=
  ∃ (j : Nat) (ms cs : List CE), v = .int .i64 j ∧ j + k = F.length ∧ AscE (ms.map CE.pe) ∧ (∀ e, e ∈ ms.map CE.pe ↔ e ∈ E ∨ (e ∈ F.take j ∧ findE E e = none)) ∧ cs.map CE.pe = (F.take j).filter (clashB E) ∧ RdS w wr v15 ms (E.length + j) ∧ SdS w wr v13 cs j ∧ (v13.ownBlock = none ∨ v13.ownBlock ≠ v15.ownBlock)
def RmI (w : World) (E : List PE) (x : CE) (b : Nat) (k : Nat) (v18 v19 v : Value) (wr : World) : Prop :=
  ∃ q : Nat, v = .int .i64 q ∧ q + k = E.length ∧ v18 = .bool (smB (E.take q) x.pe) ∧ v19 = .bool (clashB (E.take q) x.pe) ∧ Blk wr b 40 #[.int .i64 (x).k, .int .i64 (x).o.ln, .int .i64 (x).o.dy, .slice (x).o.Ad (x).o.dep.length (x).o.cd, .slice (x).o.Aa (x).o.arr.length (x).o.ca, .int .i64 (x).n.ln, .int .i64 (x).n.dy, .slice (x).n.Ad (x).n.dep.length (x).n.cd, .slice (x).n.Aa (x).n.arr.length (x).n.ca] ∧ Below w.heap.size w wr
theorem rm_none {E F : List PE} {ms : List PE} {x : PE} {j : Nat} (hF : AscE F) (hj : j < F.length) (hx : F[j] = x) (ha : AscE ms) (hm : ∀ e, e ∈ ms ↔ e ∈ E ∨ (e ∈ F.take j ∧ findE E e = none)) (hn : findE E x = none) : AscE (insE ms x) ∧ (∀ e, e ∈ insE ms x ↔ e ∈ E ∨ (e ∈ F.take (j + 1) ∧ findE E e = none)) := by
  refine ⟨insE_asc ha fun y hy hc => ?_, fun e => ?_⟩
  · rcases (hm y).1 hy with h | ⟨h, _⟩
    · exact findE_none.1 hn y h hc
    · obtain ⟨i, hi, rfl⟩ := List.getElem_of_mem h
      rw [List.getElem_take] at hc
      have hil : i < j := by simp at hi; omega
      have := List.pairwise_iff_getElem.1 hF i j (by omega) hj hil
      rw [hx] at this
      exact ltK_neq this hc
  · rw [insE_mem, hm, List.take_succ_eq_append_getElem hj, List.mem_append, hx]
    simp only [List.mem_singleton]
    constructor
    · rintro (rfl | h | ⟨h, h'⟩)
      · exact .inr ⟨.inr rfl, hn⟩
      · exact .inl h
      · exact .inr ⟨.inl h, h'⟩
    · rintro (h | ⟨h | rfl, h'⟩)
      · exact .inr (.inl h)
      · exact .inr (.inr ⟨h, h'⟩)
      · exact .inl rfl
theorem rm_some {E F : List PE} {ms : List PE} {x : PE} {j : Nat} (hj : j < F.length) (hx : F[j] = x) (hm : ∀ e, e ∈ ms ↔ e ∈ E ∨ (e ∈ F.take j ∧ findE E e = none)) (hn : findE E x ≠ none) : ∀ e, e ∈ ms ↔ e ∈ E ∨ (e ∈ F.take (j + 1) ∧ findE E e = none) := fun e => by
  rw [hm, List.take_succ_eq_append_getElem hj, List.mem_append, hx]
  simp only [List.mem_singleton]
  constructor
  · rintro (h | ⟨h, h'⟩)
    · exact .inl h
    · exact .inr ⟨.inl h, h'⟩
  · rintro (h | ⟨h | rfl, h'⟩)
    · exact .inl h
    · exact .inr ⟨h, h'⟩
    · exact absurd h' hn
theorem rm_filter {F : List PE} {p : PE → Bool} {x : PE} {j : Nat} (hj : j < F.length) (hx : F[j] = x) : (F.take (j + 1)).filter p = (F.take j).filter p ++ (if p x = true then [x] else []) := by
  rw [List.take_succ_eq_append_getElem hj, List.filter_append, hx]
  congr 1
  by_cases h : p x = true
  · rw [if_pos h]; simp [h]
  · rw [if_neg h]; simp [h]
theorem ap_new {w1 w2 : World} {b1 b2 : Nat} {e1 e2 : TypeId} {s1 s2 n1 n2 : Nat} {v1 v2 : Value} {xs1 xs2 : List Value} (h1 : w1.ownsRow b1 e1 s1 v1 n1 xs1) (h2 : w2.ownsRow b2 e2 s2 v2 n2 xs2) (hle : w1.heap.size ≤ b2) : v1.ownBlock = none ∨ v1.ownBlock ≠ v2.ownBlock := by
  cases h : v1.ownBlock with
  | none => exact .inl rfl
  | some g =>
    right
    intro e
    have g1 := (own_block h1 g h).2
    have g2 := (own_block h2 g e.symm).1
    omega
end Go.Proofs.Ythfifejjfnmpoaa
