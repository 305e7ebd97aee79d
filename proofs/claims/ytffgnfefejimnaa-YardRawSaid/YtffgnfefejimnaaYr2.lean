import Derived.Test.YtffgnfefejimnaaYr1
namespace Go.Proofs.Ytffgnfefejimnaa
open Go.RowKit
/-- a state of the reference's whose rows the call owns: n of its rows are laid -/
structure RfO (base : Nat) (vO vU : Value) (us : List Mv) (rows : List (List Nat)) (vs : List Value) (w : World) : Prop where
  o : w.ownsRow base 22 1 vO rows.length vs
  r : ∀ (t : Nat) (v : Value) (r : List Nat), vs[t]? = some v → rows[t]? = some r → w.ownsRow base 3 1 v r.length (r.map natV)
  ap : ∀ (i j : Nat) (v v' : Value), i ≠ j → vs[i]? = some v → vs[j]? = some v' → v.ownBlock = none ∨ v.ownBlock ≠ v'.ownBlock
  u : w.ownsRow base 41 3 vU us.length (us.flatMap Mv.cells)
theorem RfO.grow {base : Nat} {vO vU : Value} {us : List Mv} {rows : List (List Nat)} {vs : List Value} {w w' : World} (h : RfO base vO vU us rows vs w) (hb : Below w.heap.size w w') : RfO base vO vU us rows vs w' :=
  ⟨own_grow h.o hb, fun t v r hv hr => own_grow (h.r t v r hv hr) hb, h.ap, own_grow h.u hb⟩
theorem RfO.vl {base : Nat} {vO vU : Value} {us : List Mv} {rows : List (List Nat)} {vs : List Value} {w : World} (h : RfO base vO vU us rows vs w) : vs.length = rows.length := by have := h.o.1; omega
/-- an owned state can be read -/
theorem RfO.rd {base : Nat} {AO AU : Option Addr} {cO cU : Nat} {T : List Tk} {us : List Mv} {s : Yst} {vs : List Value} {w : World} (hn : s.on.length = T.length)
    (h : RfO base (.slice AO T.length cO) (.slice AU us.length cU) us (s.on.map fun r => r.map (·.num)) vs w) : RfR w.heap.size AO AU cU T us s vs w := by
  have hl : (s.on.map fun r => r.map (·.num)).length = T.length := by simp [hn]
  have ho := h.o
  rw [hl] at ho
  refine ⟨Rd.of_own ho, fun t ht => ?_, Rd.of_own h.u, fun e => ?_⟩
  · have hvl := h.vl
    rw [hl] at hvl
    have hv := List.getElem?_eq_getElem (show t < vs.length by omega)
    have hr : (s.on.map fun r => r.map (·.num))[t]? = some ((rowY s t).map (·.num)) := by
      rw [List.getElem?_map, List.getElem?_eq_getElem (by omega), rowY_get (by omega)]; rfl
    have hrow := h.r t _ _ hv hr
    rw [List.length_map] at hrow
    obtain ⟨A, c, e, _, _⟩ := own_slice hrow
    rw [e] at hv hrow
    refine ⟨A, c, hv, ?_, fun e' => ?_⟩
    · have h2 := Rd.of_own hrow
      rw [List.map_map] at h2
      exact h2
    · subst e'; exact own_nil hrow
  · subst e; exact own_nil h.u
end Go.Proofs.Ytffgnfefejimnaa
