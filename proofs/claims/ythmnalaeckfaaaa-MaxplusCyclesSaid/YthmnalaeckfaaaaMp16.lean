import Derived.Test.YthmnalaeckfaaaaMp15
namespace Go.Proofs.Ythmnalaeckfaaaa
open Go.RowKit
theorem infoBool : (Try.prog.info? 4).map (fun i => (i.zero, i.size, i.bytes)) = some (some (.bool false), 1, 1) := by kernel_rfl
theorem own_ne_blk {w : World} {base C : Nat} {e t : TypeId} {sz n : Nat} {v : Value} {xs : List Value} {cs : Array Value} (h : w.ownsRow base e sz v n xs) (hk : Blk w C t cs) (hne : e ≠ t) : v.ownBlock ≠ some C := by
  intro hv
  rcases h.2 with ⟨rfl, _⟩ | ⟨g, cap, cur, rfl, _, hh, _⟩
  · simp [Value.ownBlock] at hv
  · simp [Value.ownBlock] at hv
    subst hv
    unfold Blk at hk
    rw [hk] at hh
    injection hh with hh
    injection hh with _ h2
    exact hne h2.symm
/-- the memory of 'greatest': the result's block, m's block, the nodes -/
structure GrS (w wr : World) (Y X G n : Nat) (s : Gr) : Prop where
  bel : Below w.heap.size w wr
  y : Blk wr Y 58 #[.int .i64 0, .int .i64 0, .slice none 0 0]
  x : Blk wr X 58 #[.int .i64 s.num, .int .i64 s.den, .slice (some ⟨G, 0, none⟩) n n]
  o : wr.ownsRow w.heap.size 4 1 (.slice (some ⟨G, 0, none⟩) n n) n (s.nodes.map Value.bool)
  hY : w.heap.size ≤ Y
  hX : w.heap.size ≤ X
  ne : X ≠ Y
section
variable {w wr w' : World} {Y X G n : Nat} {s : Gr}
theorem GrS.grow (h : GrS w wr Y X G n s) (hb : Below wr.heap.size wr w') : GrS w w' Y X G n s := ⟨h.bel.trans (hb.mono h.bel.size), h.y.bel hb, h.x.bel hb, own_grow h.o hb, h.hY, h.hX, h.ne⟩
theorem MOwn.far {wr : World} {base : Nat} {v : Value} {rows : List Row} (h : MOwn wr base v rows) {p : Addr} {u : Value} (h1 : v.ownBlock ≠ some p.block) (h2 : ∀ x ∈ rows, x.val.ownBlock ≠ some p.block) : MOwn (wr.setCell p u) base v rows := ⟨own_far h.o h1, fun x hx => ⟨own_far (h.c x hx).1 (h2 x hx), (h.c x hx).2⟩, h.n⟩
/-- a node is marked -/
theorem GrS.mark (h : GrS w wr Y X G n s) (i : Nat) : GrS w (wr.setCell ⟨G, i, none⟩ (.bool true)) Y X G n ⟨s.num, s.den, s.nodes.set i true⟩ := by
  have hG := own_block h.o G rfl
  have n1 : G ≠ Y := fun e => own_ne_blk h.o h.y (by decide) (by simp [Value.ownBlock, e])
  have n2 : G ≠ X := fun e => own_ne_blk h.o h.x (by decide) (by simp [Value.ownBlock, e])
  exact ⟨h.bel.setCell hG.1 _, h.y.far n1, h.x.far n2, own1_set h.o i true, h.hY, h.hX, h.ne⟩
theorem GrS.markM {base : Nat} {v : Value} {rows : List Row} (h : GrS w wr Y X G n s) (hm : MOwn wr base v rows) (i : Nat) : MOwn (wr.setCell ⟨G, i, none⟩ (.bool true)) base v rows :=
  hm.far (own_ne2 hm.o h.o (by decide) rfl) (fun x hx => own_ne2 (hm.c x hx).1 h.o (by decide) rfl)
/-- a new mean: with a new row of nodes -/
theorem GrS.turn {G' : Nat} {num den : Int} {nodes : List Bool} (h : GrS w wr Y X G n s) (ho : wr.ownsRow w.heap.size 4 1 (.slice (some ⟨G', 0, none⟩) n n) n (nodes.map Value.bool)) :
    GrS w (((wr.setCell ⟨X, 0, none⟩ (.int .i64 num)).setCell ⟨X, 1, none⟩ (.int .i64 den)).setCell ⟨X, 2, none⟩ (.slice (some ⟨G', 0, none⟩) n n)) Y X G' n ⟨num, den, nodes⟩ := by
  have k1 := h.x.set_ 0 (.int .i64 num)
  have k2 := k1.set_ 1 (.int .i64 den)
  have k3 := k2.set_ 2 (.slice (some ⟨G', 0, none⟩) n n)
  have o1 := own_far (p := ⟨X, 0, none⟩) (u := .int .i64 num) ho (own_ne_blk ho h.x (by decide))
  have o2 := own_far (p := ⟨X, 1, none⟩) (u := .int .i64 den) o1 (own_ne_blk o1 k1 (by decide))
  have o3 := own_far (p := ⟨X, 2, none⟩) (u := .slice (some ⟨G', 0, none⟩) n n) o2 (own_ne_blk o2 k2 (by decide))
  exact ⟨((h.bel.setCell h.hX _).setCell h.hX _).setCell h.hX _, ((h.y.far h.ne).far h.ne).far h.ne, k3, o3, h.hY, h.hX, h.ne⟩
theorem GrS.turnM {base : Nat} {v : Value} {rows : List Row} {u0 u1 u2 : Value} (h : GrS w wr Y X G n s) (hm : MOwn wr base v rows) : MOwn (((wr.setCell ⟨X, 0, none⟩ u0).setCell ⟨X, 1, none⟩ u1).setCell ⟨X, 2, none⟩ u2) base v rows := by
  have f1 : ∀ o u, MOwn (wr.setCell ⟨X, o, none⟩ u) base v rows := fun o u => hm.far (own_ne_blk hm.o h.x (by decide)) (fun x hx => own_ne_blk (hm.c x hx).1 h.x (by decide))
  have n1 : v.ownBlock ≠ some X := own_ne_blk hm.o h.x (by decide)
  have n2 : ∀ x ∈ rows, x.val.ownBlock ≠ some X := fun x hx => own_ne_blk (hm.c x hx).1 h.x (by decide)
  exact ((hm.far (p := ⟨X, 0, none⟩) n1 n2).far (p := ⟨X, 1, none⟩) n1 n2).far (p := ⟨X, 2, none⟩) n1 n2
end
/-- what 'greatest' gives -/
def GreatOut (n : Nat) (s : Gr) (w : World) (e : Ending) (w' : World) : Prop :=
  ∃ G : Nat, e = .returned (.agg #[.int .i64 s.num, .int .i64 s.den, .slice (some ⟨G, 0, none⟩) n n]) ∧ w'.ownsRow w.heap.size 4 1 (.slice (some ⟨G, 0, none⟩) n n) n (s.nodes.map Value.bool) ∧ Below w.heap.size w w'
def GL1 (w : World) (Y X n : Nat) (a : List (List Int)) (g : Nat) (v4 v : Value) (wr : World) : Prop :=
  ∃ (k G : Nat) (A : Option Addr) (c : Nat) (rows : List Row), v = .int .i64 ((k : Int) + 1) ∧ k + g = n ∧ v4 = .slice A n c ∧ rows.length = n ∧ matR rows = powM n a k ∧ MOwn wr w.heap.size (.slice A n c) rows ∧ GrS w wr Y X G n (grAll n a k)
def GL2 (w : World) (Y X n k : Nat) (a : List (List Int)) (A : Option Addr) (c : Nat) (rows : List Row) (g : Nat) (v : Value) (wr : World) : Prop :=
  ∃ (i G : Nat), v = .int .i64 i ∧ i + g = n ∧ MOwn wr w.heap.size (.slice A n c) rows ∧ GrS w wr Y X G n (grRow n (k + 1) (powM n a (k + 1)) (grAll n a k) i)
end Go.Proofs.Ythmnalaeckfaaaa
