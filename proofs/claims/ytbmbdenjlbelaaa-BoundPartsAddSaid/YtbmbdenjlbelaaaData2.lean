import Derived.Test.YtbmbdenjlbelaaaData
namespace Go.Proofs.Ytbmbdenjlbelaaa
open Go.RowKit
theorem own_cap {w : World} {base : Nat} {e : TypeId} {sz n c : Nat} {A : Option Addr} {xs : List Value} (h : w.ownsRow base e sz (.slice A n c) n xs) : n ≤ c ∧ c ≤ maxLen := by
  obtain ⟨A', c', hv, h1, h2⟩ := own_slice h
  injection hv with _ _ hc
  omega
/-- two rows of different element types lie apart -/
theorem own_ne {w : World} {b1 b2 : Nat} {e1 e2 : TypeId} {s1 s2 n1 n2 : Nat} {v1 v2 : Value} {xs1 xs2 : List Value} (h1 : w.ownsRow b1 e1 s1 v1 n1 xs1) (h2 : w.ownsRow b2 e2 s2 v2 n2 xs2) (hne : e1 ≠ e2) : v1.ownBlock = none ∨ v1.ownBlock ≠ v2.ownBlock := by
  rcases h1.2 with ⟨rfl, _⟩ | ⟨g1, c1, cur1, rfl, _, hh1, _⟩
  · exact .inl rfl
  · right
    intro e
    rcases h2.2 with ⟨rfl, _⟩ | ⟨g2, c2, cur2, rfl, _, hh2, _⟩
    · simp [Value.ownBlock] at e
    · simp [Value.ownBlock] at e
      subst e
      rw [hh1] at hh2
      injection hh2 with hh2
      injection hh2 with _ ht
      exact hne ht
/-- an append to a row of another element type -/
theorem own_app {w w' : World} {b1 b2 : Nat} {e1 e2 : TypeId} {s1 s2 n1 n2 : Nat} {v1 v2 : Value} {xs1 xs2 : List Value} (h1 : w.ownsRow b1 e1 s1 v1 n1 xs1) (h2 : w.ownsRow b2 e2 s2 v2 n2 xs2) (hne : e1 ≠ e2) (hg : w.grownBy w' v2.ownBlock) : w'.ownsRow b1 e1 s1 v1 n1 xs1 :=
  h1.kept hg (own_ne h1 h2 hne)
/-- the source under an append to a row of the call's own -/
theorem Src.app {w w' : World} {b base : Nat} {e : TypeId} {s n : Nat} {v : Value} {xs : List Value} {l : List Int} (h : Src w b l) (ho : w.ownsRow base e s v n xs) (hb : b < base) (hw : b < w.heap.size) (hg : w.grownBy w' v.ownBlock) : Src w' b l :=
  h.keep fun k hk => hg.block k (by omega) (fun e => by have := (own_block ho k e.symm).1; omega)
theorem below_app {B : Nat} {a w w' : World} {base : Nat} {e : TypeId} {s n : Nat} {v : Value} {xs : List Value} (h : Below B a w) (ho : w.ownsRow base e s v n xs) (hb : B ≤ base) (hw : B ≤ w.heap.size) (hg : w.grownBy w' v.ownBlock) : Below B a w' :=
  h.grown hg hw (fun k hk => Nat.le_trans hb (own_block ho k hk).1)
end Go.Proofs.Ytbmbdenjlbelaaa
