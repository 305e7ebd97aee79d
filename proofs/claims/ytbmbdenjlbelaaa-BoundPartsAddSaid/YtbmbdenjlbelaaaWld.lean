import Derived.Test.YtbmbdenjlbelaaaData4
namespace Go.Proofs.Ytbmbdenjlbelaaa
open Go.RowKit
section
variable {w : World} {g : Nat} {t : TypeId} {cs : Array Value}
theorem Blk.al (h : Blk w g t cs) (o : Obj) : Blk (w.alloc o) g t cs := h.same (Below.heap_alloc _ _ _ h.lt)
theorem Blk.dr (h : Blk w g t cs) : Blk w.drew g t cs := h
theorem Blk.drN (h : Blk w g t cs) (k : Nat) : Blk (w.drewN k) g t cs := h
theorem Blk.far (h : Blk w g t cs) {b o : Nat} {u : Value} (hb : b ≠ g) : Blk (w.setCell ⟨b, o, none⟩ u) g t cs := h.same (Below.heap_setCell _ _ _ _ (by simpa using fun e => hb e.symm))
theorem Blk.bel {w' : World} (h : Blk w g t cs) (hb : Below w.heap.size w w') : Blk w' g t cs := h.same (hb.block g h.lt)
end
/-- go on in a world of which S alone is known -/
theorem world_gen {P : Program} {c : Code} {Q : Exit → Go.Act → World → Prop} {a : Go.Act} {w : World} (S : World → Prop) (h : S w) (k : ∀ w', S w' → Code.wp P c Q a w') : Code.wp P c Q a w := k w h
end Go.Proofs.Ytbmbdenjlbelaaa
