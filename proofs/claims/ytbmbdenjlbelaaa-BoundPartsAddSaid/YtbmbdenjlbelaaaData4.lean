import Derived.Test.YtbmbdenjlbelaaaData3
namespace Go.Proofs.Ytbmbdenjlbelaaa
open Go.RowKit
theorem cell_app {w w1 : World} {row : Option Nat} (hg : w.grownBy w1 row) {b o : Nat} {u : Value} (hc : w.cell? ⟨b, o, none⟩ = some u) (hne : row ≠ some b) : w1.cell? ⟨b, o, none⟩ = some u := by
  rw [hg.cell_far ⟨b, o, none⟩ (World.block_lt_of_cell? _ _ hc) (fun e => hne e.symm)]
  exact hc
/-- an append of one element in a region that drew -/
theorem below_held {B : Nat} {a w w' : World} {o : Obj} {base : Nat} {e : TypeId} {s n : Nat} {v : Value} {xs : List Value} (h : Below B a w) (ho : w.ownsRow base e s v n xs) (hb : B ≤ base) (hw : B ≤ w.heap.size) (hg : (w.alloc o).drew.grownBy w' v.ownBlock) : Below B a w' :=
  ((h.alloc hw o).drew).grown hg (by simp; omega) (fun k hk => Nat.le_trans hb (own_block ho k hk).1)
end Go.Proofs.Ytbmbdenjlbelaaa
