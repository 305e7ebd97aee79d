import Derived.Test.YtbmbdenjlbelaaaTms2
namespace Go.Proofs.Ytbmbdenjlbelaaa
open Go.RowKit

theorem cell_bel {w w' : World} (hb : Below w.heap.size w w') {b o : Nat} {u : Value} (h : w.cell? ⟨b, o, none⟩ = some u) : w'.cell? ⟨b, o, none⟩ = some u := (hb.cell (World.block_lt_of_cell? _ _ h)).trans h
/-- the memory of slacks -/
structure SkS (w wr : World) (X : Nat) (xs : Array Value) (v : Value) (zs : List Int) : Prop where
  bel : Below w.heap.size w wr
  x : Blk wr X 26 xs
  own : wr.ownsRow (X + 1) 3 1 v zs.length (zs.map (Value.int .i64))
  hX : w.heap.size ≤ X
section
variable {w wr w1 w2 : World} {X : Nat} {xs : Array Value} {v v' : Value} {zs : List Int} {o : Obj} {s : Int}
theorem SkS.grow (h : SkS w wr X xs v zs) (hb : Below wr.heap.size wr w1) : SkS w w1 X xs v zs :=
  ⟨h.bel.trans (hb.mono h.bel.size), h.x.bel hb, own_grow h.own hb, h.hX⟩
theorem SkS.drew (h : SkS w wr X xs v zs) : SkS w wr.drew X xs v zs := h.grow (Below.refl _ _).drew
theorem SkS.app (h : SkS w wr X xs v zs) (ho : w2.ownsRow (X + 1) 3 1 v' (zs.length + 1) (zs.map (Value.int .i64) ++ [.int .i64 s])) (hg : (wr.alloc o).grownBy w2 v.ownBlock) : SkS w w2 X xs v' (zs ++ [s]) := by
  have hX := h.hX
  have hl := h.x.lt
  refine ⟨below_app (h.bel.alloc h.bel.size _) (World.ownsRow.alloc h.own _) (by omega) (by simp; omega) hg, ?_, by simpa using ho, hX⟩
  exact (h.x.al o).same (hg.block X (by simp; omega) (fun e => by have := (own_block h.own X e.symm).1; omega))
end
def SkL (w : World) (X : Nat) (xs : Array Value) (T : Int) (acts : List Act) (x : List Int) (k : Nat) (v5 v : Value) (wr : World) : Prop :=
  ∃ (j : Nat), v = .int .i64 j ∧ j + k = acts.length ∧ SkS w wr X xs v5 ((slkL T acts x).take j)
def SkOut (T : Int) (acts : List Act) (x : List Int) (w : World) (e : Ending) (w' : World) : Prop :=
  ∃ (A : Option Addr) (c : Nat), e = .returned (.slice A (slkL T acts x).length c) ∧ Rd w' w'.heap.size 1 A (slkL T acts x).length ((slkL T acts x).map (Value.int .i64)) ∧ Below w.heap.size w w'

end Go.Proofs.Ytbmbdenjlbelaaa
