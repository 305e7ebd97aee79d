import Derived.Test.YtcgamkldlmmdnaaFea
import Derived.Test.YtcgamkldlmmdnaaFd
namespace Go.Proofs.Ytcgamkldlmmdnaa
open Go.RowKit

/-- two rows of numbers of the call's own that lie apart -/
structure Two (wr : World) (base : Nat) (v5 v6 : Value) (l5 l6 : List Int) : Prop where
  o5 : wr.ownsRow base 3 1 v5 l5.length (l5.map (Value.int .i64))
  o6 : wr.ownsRow base 3 1 v6 l6.length (l6.map (Value.int .i64))
  d : ∀ g, v5.ownBlock = some g → v6.ownBlock ≠ some g
section
variable {wr w' W1 w1 W2 w2 : World} {base : Nat} {v5 v6 : Value} {l5 l6 : List Int} {g1 g2 c1 c2 : Nat} {a b : Int}
theorem Two.new (wr : World) (base : Nat) : Two wr base (.slice none 0 0) (.slice none 0 0) [] [] := ⟨World.ownsRow_nil _ _ _ _, World.ownsRow_nil _ _ _ _, fun g h => by simp [Value.ownBlock] at h⟩
theorem Two.grow (h : Two wr base v5 v6 l5 l6) (hb : Below wr.heap.size wr w') : Two w' base v5 v6 l5 l6 := ⟨own_grow h.o5 hb, own_grow h.o6 hb, h.d⟩
theorem Two.apart (h : Two wr base v5 v6 l5 l6) : v6.ownBlock = none ∨ v6.ownBlock ≠ v5.ownBlock := by
  cases e : v6.ownBlock with
  | none => exact .inl rfl
  | some g => exact .inr (fun e2 => h.d g e2.symm e)
theorem Two.mid (h : Two wr base v5 v6 l5 l6) (hW : Below wr.heap.size wr W1) (hg : W1.grownBy w1 v5.ownBlock) : w1.ownsRow base 3 1 v6 l6.length (l6.map (Value.int .i64)) :=
  (own_grow h.o6 hW).kept hg h.apart
theorem Two.done (h : Two wr base v5 v6 l5 l6) (hbase : base ≤ wr.heap.size) (hW1 : Below wr.heap.size wr W1) (hg1 : W1.grownBy w1 v5.ownBlock)
    (ho1 : w1.ownsRow base 3 1 (.slice (some ⟨g1, 0, none⟩) (l5.length + 1) c1) (l5.length + 1) (l5.map (Value.int .i64) ++ [.int .i64 a])) (hat1 : v5.ownBlock = some g1 ∨ g1 = W1.heap.size)
    (hW2 : Below w1.heap.size w1 W2) (hg2 : W2.grownBy w2 v6.ownBlock)
    (ho2 : w2.ownsRow base 3 1 (.slice (some ⟨g2, 0, none⟩) (l6.length + 1) c2) (l6.length + 1) (l6.map (Value.int .i64) ++ [.int .i64 b])) (hat2 : v6.ownBlock = some g2 ∨ g2 = W2.heap.size) :
    Two w2 base (.slice (some ⟨g1, 0, none⟩) (l5.length + 1) c1) (.slice (some ⟨g2, 0, none⟩) (l6.length + 1) c2) (l5 ++ [a]) (l6 ++ [b]) ∧ Below base wr w2 := by
  have s1 := hW1.size
  have s2 := hW2.size
  have hne1 : v6.ownBlock ≠ some g1 := fun e => by
    rcases hat1 with h1 | h1
    · exact h.d _ h1 e
    · have := (own_block h.o6 _ e).2; omega
  have hg1l := (own_block ho1 g1 rfl).2
  refine ⟨⟨?_, ?_, ?_⟩, ?_⟩
  · have := (own_grow ho1 hW2).kept hg2 (.inr (fun e => hne1 e.symm))
    simpa using this
  · simpa using ho2
  · intro g e1 e2
    simp [Value.ownBlock] at e1 e2
    subst e1 e2
    rcases hat2 with h2 | h2
    · exact hne1 h2
    · omega
  · refine ((((hW1.mono hbase).grown hg1 (by omega) (fun k hk => (own_block h.o5 k hk).1))).trans (hW2.mono ?_)).grown hg2 ?_ (fun k hk => (own_block h.o6 k hk).1)
    · have := hg1.size; omega
    · have := hg1.size; omega
theorem heap_al {w : World} {o : Obj} {k : Nat} {x : Obj} (h : w.heap[k]? = some x) : (w.alloc o).heap[k]? = some x := (Below.heap_alloc _ _ _ (Array.getElem?_eq_some_iff.1 h).1).trans h
theorem h_new1 (w : World) (o : Obj) : (w.alloc o).heap[w.heap.size]? = some o := heap_alloc_new w o
theorem h_new2 (w : World) (o o' : Obj) : ((w.alloc o).alloc o').heap[w.heap.size + 1]? = some o' := by
  have := heap_alloc_new (w.alloc o) o'
  simpa using this
theorem h_old2 (w : World) (o o' : Obj) : ((w.alloc o).alloc o').heap[w.heap.size]? = some o := heap_al (heap_alloc_new w o)
theorem heap_gr {w w' : World} {r : Option Nat} (hg : w.grownBy w' r) {k : Nat} {x : Obj} (h : w.heap[k]? = some x) (hn : r ≠ some k) : w'.heap[k]? = some x := (hg.block k (Array.getElem?_eq_some_iff.1 h).1 (fun e => hn e.symm)).trans h
end

def stL (acts : List Act) (arcs signs : List Int) (j : Nat) : List Int := (List.range j).map (stC acts arcs signs)
def enL (acts : List Act) (arcs signs : List Int) (j : Nat) : List Int := (List.range j).map (enC acts arcs signs)
theorem stL_succ (acts : List Act) (arcs signs : List Int) (j : Nat) : stL acts arcs signs (j + 1) = stL acts arcs signs j ++ [stC acts arcs signs j] := by simp [stL, List.range_succ]
theorem enL_succ (acts : List Act) (arcs signs : List Int) (j : Nat) : enL acts arcs signs (j + 1) = enL acts arcs signs j ++ [enC acts arcs signs j] := by simp [enL, List.range_succ]
theorem stL_len (acts : List Act) (arcs signs : List Int) (j : Nat) : (stL acts arcs signs j).length = j := by simp [stL]
theorem enL_len (acts : List Act) (arcs signs : List Int) (j : Nat) : (enL acts arcs signs j).length = j := by simp [enL]
theorem stL_get (acts : List Act) (arcs signs : List Int) (j i : Nat) (h : i < j) : (stL acts arcs signs j)[i]'(by rw [stL_len]; exact h) = stC acts arcs signs i := by simp [stL]
theorem enL_get (acts : List Act) (arcs signs : List Int) (j i : Nat) (h : i < j) : (enL acts arcs signs j)[i]'(by rw [enL_len]; exact h) = enC acts arcs signs i := by simp [enL]
def CK1 (w : World) (acts : List Act) (arcs signs : List Int) (X Y : Nat) (xs ys : Array Value) (k : Nat) (v5 v6 v : Value) (wr : World) : Prop :=
  ∃ j : Nat, v = .int .i64 j ∧ j + k = arcs.length ∧ (∀ i, i < j → ArcOk acts arcs signs i) ∧ CBx w wr X Y xs ys ∧ Two wr (Y + 1) v5 v6 (stL acts arcs signs j) (enL acts arcs signs j)
def CK2 (w : World) (acts : List Act) (arcs signs : List Int) (X Y : Nat) (xs ys : Array Value) (v5 v6 : Value) (l5 l6 : List Int) (k : Nat) (v : Value) (wr : World) : Prop :=
  ∃ j : Nat, v = .int .i64 j ∧ j + k = l5.length ∧ (∀ i, i < j → stC acts arcs signs ((i + 1) % arcs.length) = enC acts arcs signs i ∧ ∀ i', i' < i → stC acts arcs signs i' ≠ stC acts arcs signs i) ∧ CBx w wr X Y xs ys ∧ Two wr (Y + 1) v5 v6 l5 l6
/-- the first arcs of a slice -/
theorem Rd.take {w : World} {B : Nat} {A : Option Addr} {l : List Int} (h : Rd w B 1 A l.length (l.map (Value.int .i64))) (j : Nat) (hj : j ≤ l.length) : Rd w B 1 A (l.take j).length ((l.take j).map (Value.int .i64)) := by
  refine ⟨by simp, fun hn => ?_⟩
  have hl : (l.take j).length = j := by simp; omega
  obtain ⟨b, off, e, hb, hc⟩ := h.2 (by omega)
  refine ⟨b, off, e, hb, fun i u hu => hc i u ?_⟩
  rw [List.map_take, List.getElem?_take] at hu
  split at hu
  · exact hu
  · cases hu
theorem has_take_iff {l : List Int} {j : Nat} (hj : j < l.length) : hasB (l.take j) (gi l j) = false ↔ ∀ i, i < j → gi l i ≠ gi l j := by
  unfold hasB
  rw [decide_eq_false_iff_not]
  constructor
  · intro h i hi e
    apply h
    rw [← e, gi_nat l i (by omega)]
    exact List.mem_take_iff_getElem.2 ⟨i, by omega, rfl⟩
  · intro h hm
    obtain ⟨i, hi, e⟩ := List.mem_take_iff_getElem.1 hm
    exact h i (by omega) (by rw [gi_nat l i (by omega)]; exact e)

theorem arcs_pre {acts : List Act} {arcs signs : List Int} {j : Nat} (h : ∀ i, i < j → ArcOk acts arcs signs i) (hj : j ≤ arcs.length) : j ≤ acts.length := by
  have := arcs_le (acts := acts) (arcs := arcs.take j) (signs := signs) (fun k hk => by
    have hk' : k < j := by simp at hk; omega
    have e : ∀ i, i < j → gi (arcs.take j) (i : Nat) = gi arcs i := fun i hi => by rw [gi_nat _ i (by simp; omega), gi_nat arcs i (by omega)]; simp
    have h1 := h k hk'
    exact ⟨by rw [e k hk']; exact h1.a0, by rw [e k hk']; exact h1.a1, h1.s, fun i hi => by rw [e k hk', e i (by omega)]; exact h1.nd i hi⟩)
  simp at this
  omega
theorem has_tk (A : Option Addr) (n c : Nat) (l : List Int) (x : Int) (w : World) (B : Nat) (h : Rd w B 1 A n ((l.take n).map (Value.int .i64))) (hn : (l.take n).length = n) (hl : n ≤ 4611686018427387904) :
    Calls Try.prog 52 #[.slice A n c, .int .i64 x] w fun e w' => e = .returned (.bool (hasB (l.take n) x)) ∧ w = w' := by
  have := has_any A c (l.take n) x w B (by rw [hn]; exact h) (by omega)
  rwa [hn] at this
end Go.Proofs.Ytcgamkldlmmdnaa
