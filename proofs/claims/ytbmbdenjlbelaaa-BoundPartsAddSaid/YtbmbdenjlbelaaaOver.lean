import Derived.WalkKit
import Derived.WalkSpells
import Derived.WalkLawsBesides
import Derived.WalkSmall
import Derived.Deep.QuietTactic
import Derived.BigQuiet
import Derived.Lib.Hide
namespace Go.Proofs.Ytbmbdenjlbelaaa
open Go.RowKit

/-- the world X, with all that W has laid over it: a world that goes on from W, W's own blocks unturned -/
def over (W X : World) : World := { heap := W.heap ++ X.heap.extract W.heap.size X.heap.size, tape := W.tape, drawn := X.drawn, os := W.os, output := W.output }
theorem over_below (W X : World) : Below W.heap.size W (over W X) :=
  ⟨rfl, rfl, rfl, by simp [over], fun k hk => by simp [over, Array.getElem?_append, hk]⟩
theorem over_of_below {W w' : World} (h : Below W.heap.size W w') : w' = over W w' := by
  obtain ⟨hh, tape, drawn, os, output⟩ := w'
  obtain ⟨h1, h2, h3, h4, h5⟩ := h
  simp only at h1 h2 h3 h4 h5
  subst h1 h2 h3
  unfold over
  congr 1
  apply Array.ext_getElem?
  intro k
  rw [Array.getElem?_append]
  split
  · exact h5 k ‹_›
  · rw [Array.getElem?_extract]
    simp only [Nat.min_self]
    split
    · congr 1; omega
    · rw [Array.getElem?_eq_none]; omega
theorem over_cell {W : World} {a : Addr} {v : Value} (h : W.cell? a = some v) (X : World) : (over W X).cell? a = some v := by
  rw [(over_below W X).cell (World.block_lt_of_cell? W a h)]; exact h
theorem over_size (W X : World) : W.heap.size ≤ (over W X).heap.size := (over_below W X).size

/-- a contract of the kind 'a value, and Below', in the class of the worlds that go on from W -/
theorem callsOver {P : Program} {f : FuncId} {args : Array Value} {W X : World} {v : Value}
    (h : Calls P f args (over W X) fun e w' => e = .returned v ∧ Below (over W X).heap.size (over W X) w') :
    Calls P f args (over W X) fun e w'' => e = .returned v ∧ ∃ X', w'' = over W X' :=
  h.mono fun _ w' ⟨he, hb⟩ => ⟨he, w', over_of_below ((over_below W X).trans (hb.mono (over_size W X)))⟩
theorem callsOverSame {P : Program} {f : FuncId} {args : Array Value} {W X : World} {v : Value}
    (h : Calls P f args (over W X) fun e w' => e = .returned v ∧ over W X = w') :
    Calls P f args (over W X) fun e w'' => e = .returned v ∧ ∃ X', w'' = over W X' :=
  h.mono fun _ _ ⟨he, hb⟩ => ⟨he, X, hb.symm⟩
theorem callsOverDraws {P : Program} {f : FuncId} {args : Array Value} {W X : World} {v : Value}
    (h : Calls P f args (over W X) fun e w' => e = .returned v ∧ ∃ k, w' = (over W X).drewN k) :
    Calls P f args (over W X) fun e w'' => e = .returned v ∧ ∃ X', w'' = over W X' :=
  h.mono fun _ w' ⟨he, k, hb⟩ => ⟨he, w', over_of_below (by subst hb; exact below_drewN (over_below W X) k)⟩

/-- a region that draws its order, every operation of which reads, or calls a function that turns nothing that was there: one walk, in the order of the text. S: what is known of the world. -/
theorem wp_region_over {P : Program} {id : Nat} {Q : Exit → Act → World → Prop} {a : Act} {w : World} {l : List Oper} (S : World → Prop) (hm : P.follows .mixedOrders = true) (hB : Region.lexB .any l.toArray = true) (hS : S w)
    (h : ∀ W, S W → W.heap.size = w.heap.size → wpQuiet P l.toArray (fun w' => ∃ X, w' = over W X) (fun a' => ∀ w', Below w.heap.size w w' → Q .normal a' w') l a) : (Code.region id l.toArray true).wp P Q a w := by
  refine wp_region_quiet (C := fun w' => ∃ X, w' = over w X) hm hB ⟨w.drew, over_of_below (Below.refl _ _).drew⟩ ?_
  have h1 := h w hS rfl
  have e : (fun a' : Act => ∀ w', Below w.heap.size w w' → Q .normal a' w') = (fun a' => ∀ w', (∃ X, w' = over w X) → Q .normal a' w') := by
    funext a'
    apply propext
    constructor
    · rintro g w' ⟨X, rfl⟩; exact g _ (over_below w X)
    · intro g w' hb; exact g w' ⟨w', over_of_below hb⟩
  rw [e] at h1
  simpa using h1
@[go_sem] theorem over_cell_lt (W X : World) (b o : Nat) (h : b < W.heap.size) : (over W X).cell? ⟨b, o, none⟩ = W.cell? ⟨b, o, none⟩ := (over_below W X).cell (p := ⟨b, o, none⟩) h
theorem wp_region_overL {P : Program} {id : Nat} {Q : Exit → Act → World → Prop} {a : Act} {w : World} {l : List Oper} (hm : P.follows .mixedOrders = true) (hB : Region.lexB .any l.toArray = true)
    (h : wpQuiet P l.toArray (fun w' => ∃ X, w' = over w X) (fun a' => ∀ w', Below w.heap.size w w' → Q .normal a' w') l a) : (Code.region id l.toArray true).wp P Q a w :=
  wp_region_over (fun W => W = w) hm hB rfl (fun W hW _ => by subst hW; exact h)
end Go.Proofs.Ytbmbdenjlbelaaa
