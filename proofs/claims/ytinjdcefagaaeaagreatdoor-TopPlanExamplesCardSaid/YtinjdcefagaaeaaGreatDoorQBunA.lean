import Derived.Test.YtinjdcefagaaeaaGreatDoorRows
import Derived.WalkKit
import Derived.WalkSpells
import Derived.WalkLawsBesides
import Derived.WalkSmall
import Derived.Deep.QuietTactic
import Derived.BigQuiet
import Derived.Lib.Hide
import Derived.Maps.AppendAt
import Derived.Deep.AppendLies
import Derived.OwnWalk
import Derived.Deep.LoopGhost
import Derived.Deep.DeepCutAuto
import Derived.Deep.CutBlock
import Derived.Deep.RegionHeld3
import Derived.Laws.AppendOwnNone
import Derived.ProofKit
import Derived.OpenShut
import Derived.ShutString
import Derived.ChangeOld
import Derived.Below
import Derived.SizedLaws
import Derived.Deep.Slices
import Derived.Deep.Fields
import Derived.ChangeSame
import Derived.Lib.SmallJoins
set_option linter.unusedVariables false
set_option linter.unusedSimpArgs false
namespace Go.Proofs.YtinjdcefagaaeaaGreatDoor
open Go.RowKit

theorem ret_bool {a b : Bool} (h : a = b) : Ending.returned (.bool a) = .returned (.bool b) := by rw [h]
theorem ret_int {k : IntKind} {a b : Int} (h : a = b) : Ending.returned (.int k a) = .returned (.int k b) := by rw [h]

/-- Pick -/
def pick (v n : Int) : Int := wrap64 ((IntKind.u64.wrap v).tmod n)
theorem pick_bd (v n : Int) (h1 : 1 ≤ n) (h2 : n ≤ 1000000000) : 0 ≤ pick v n ∧ pick v n < n := by
  have hu : 0 ≤ IntKind.u64.wrap v := by rw [IntKind.wrap_u64]; omega
  have h3 : (IntKind.u64.wrap v).tmod n = IntKind.u64.wrap v % n := Int.tmod_eq_emod_of_nonneg hu
  have h4 := Int.emod_nonneg (IntKind.u64.wrap v) (show n ≠ 0 by omega)
  have h5 := Int.emod_lt_of_pos (IntKind.u64.wrap v) (show 0 < n by omega)
  unfold pick
  rw [h3, IntWalk.wrap64_in _ ⟨by omega, by omega⟩]
  exact ⟨h4, h5⟩

theorem bcell {W w1 : World} (hb : Below W.heap.size W w1) : (∀ b o, b < W.heap.size → w1.cell? ⟨b, o, none⟩ = W.cell? ⟨b, o, none⟩) ∧ (∀ b o, b < W.heap.size → w1.frozen? ⟨b, o, none⟩ = W.frozen? ⟨b, o, none⟩) :=
  ⟨fun b o h => hb.cell (p := ⟨b, o, none⟩) h, fun b o h => hb.frozen (p := ⟨b, o, none⟩) h⟩

/-- block g holds just the cells cs -/
def Blk (w : World) (g : Nat) (t : TypeId) (cs : Array Value) : Prop := w.heap[g]? = some (.cells cs t (0, 0))
section
variable {w w' : World} {g : Nat} {t : TypeId} {cs : Array Value}
theorem Blk.lt (h : Blk w g t cs) : g < w.heap.size := by
  rcases Nat.lt_or_ge g w.heap.size with hlt | hge
  · exact hlt
  · unfold Blk at h; rw [Array.getElem?_eq_none hge] at h; cases h
theorem Blk.cell (h : Blk w g t cs) (i : Nat) : w.cell? ⟨g, i, none⟩ = cs[i]? := cell_of_row w g i cs t (0, 0) h
theorem Blk.frozen (h : Blk w g t cs) (i : Nat) : w.frozen? ⟨g, i, none⟩ = false := by
  unfold Blk at h
  simp [World.frozen?, h]
theorem Blk.new (w : World) (t : TypeId) (cs : Array Value) : Blk (w.alloc (.cells cs t)) w.heap.size t cs := heap_alloc_new w _
theorem Blk.set_ (h : Blk w g t cs) (i : Nat) (u : Value) : Blk (w.setCell ⟨g, i, none⟩ u) g t (cs.setIfInBounds i u) := by
  unfold Blk at h ⊢
  simp [World.setCell, Array.getElem?_modify, h]
theorem Blk.same (h : Blk w g t cs) (e : w'.heap[g]? = w.heap[g]?) : Blk w' g t cs := e.trans h
end

/-- a slice of n elements, sz cells each, whose cells are xs; it lies below block B -/
def Rd (w : World) (B sz : Nat) (A : Option Addr) (n : Nat) (xs : List Value) : Prop :=
  xs.length = n * sz ∧ (0 < n → ∃ b off, A = some ⟨b, off, none⟩ ∧ b < B ∧ ∀ j u, xs[j]? = some u → w.cell? ⟨b, off + j, none⟩ = some u)
theorem Rd.keep {w w' : World} {B sz n : Nat} {A : Option Addr} {xs : List Value} (h : Rd w B sz A n xs) (hk : ∀ k, k < B → w'.heap[k]? = w.heap[k]?) : Rd w' B sz A n xs :=
  ⟨h.1, fun hn => by
    obtain ⟨b, off, e, hb, hc⟩ := h.2 hn
    exact ⟨b, off, e, hb, fun j u hu => (World.cell?_of_block (hk b hb)).trans (hc j u hu)⟩⟩
theorem Rd.more {w : World} {B B' sz n : Nat} {A : Option Addr} {xs : List Value} (h : Rd w B sz A n xs) (hB : B ≤ B') : Rd w B' sz A n xs :=
  ⟨h.1, fun hn => by
    obtain ⟨b, off, e, hb, hc⟩ := h.2 hn
    exact ⟨b, off, e, by omega, hc⟩⟩

theorem Rd.empty (w : World) (B sz : Nat) {A : Option Addr} : Rd w B sz A 0 [] := ⟨by simp, fun h => absurd h (by omega)⟩

/-- only block b may have turned, nothing is new -/
structure Turn (b : Nat) (w w' : World) : Prop where
  os : w'.os = w.os
  tape : w'.tape = w.tape
  output : w'.output = w.output
  size : w'.heap.size = w.heap.size
  block : ∀ k, k ≠ b → w'.heap[k]? = w.heap[k]?
theorem Turn.below {b B : Nat} {a w w' : World} (h : Below B a w) (t : Turn b w w') (hb : B ≤ b) : Below B a w' :=
  h.trans ⟨t.os, t.tape, t.output, by rw [t.size]; exact Nat.le_refl _, fun k hk => t.block k (by omega)⟩

def nextV (l : List Int) (n : Int) : Int := match l with | [] => 0 | x :: _ => pick x n
theorem nextV_bd (l : List Int) (n : Int) (h1 : 1 ≤ n) (h2 : n ≤ 1000000000) : 0 ≤ nextV l n ∧ nextV l n < n := by
  unfold nextV; split
  · omega
  · exact pick_bd _ _ h1 h2

theorem Turn.drewN {b : Nat} {w w' : World} (h : Turn b w w') (k : Nat) : Turn b w (w'.drewN k) := ⟨h.os, h.tape, h.output, h.size, h.block⟩
theorem Turn.refl (b : Nat) (w : World) : Turn b w w := ⟨rfl, rfl, rfl, rfl, fun _ _ => rfl⟩
theorem Turn.set (b o : Nat) (w : World) (u : Value) : Turn b w (w.setCell ⟨b, o, none⟩ u) :=
  ⟨rfl, rfl, rfl, by simp [World.setCell], fun k hk => Below.heap_setCell _ _ _ _ (by simpa using hk)⟩
end Go.Proofs.YtinjdcefagaaeaaGreatDoor

namespace Go.Proofs.YtinjdcefagaaeaaGreatDoor
open Go.RowKit

/-- the world X, with all that W has laid over it: a world that goes on from W, W's own blocks unturned -/
def over (W X : World) : World := { heap := W.heap ++ X.heap.extract W.heap.size X.heap.size, tape := W.tape, drawn := X.drawn, os := W.os, output := W.output }
theorem over_below (W X : World) : Below W.heap.size W (over W X) :=
  ⟨rfl, rfl, rfl, by simp [over], fun k hk => by simp [over, Array.getElem?_append, hk]⟩
theorem over_of_below {W w' : World} (h : Below W.heap.size W w') : w' = over W w' := by
  obtain ⟨hh, tape, drawn, os, output⟩ := w'
  obtain ⟨h1, h2, h3, h4, h5⟩ := h
  simp only at h1 h2 h3 h4 h5
  subst h1 h2 h3
  unfold over
  congr 1
  apply Array.ext_getElem?
  intro k
  rw [Array.getElem?_append]
  split
  · exact h5 k ‹_›
  · rw [Array.getElem?_extract]
    simp only [Nat.min_self]
    split
    · congr 1; omega
    · rw [Array.getElem?_eq_none]; omega
theorem over_cell {W : World} {a : Addr} {v : Value} (h : W.cell? a = some v) (X : World) : (over W X).cell? a = some v := by
  rw [(over_below W X).cell (World.block_lt_of_cell? W a h)]; exact h
theorem over_size (W X : World) : W.heap.size ≤ (over W X).heap.size := (over_below W X).size

/-- a contract of the kind 'a value, and Below', in the class of the worlds that go on from W -/
theorem callsOver {P : Program} {f : FuncId} {args : Array Value} {W X : World} {v : Value}
    (h : Calls P f args (over W X) fun e w' => e = .returned v ∧ Below (over W X).heap.size (over W X) w') :
    Calls P f args (over W X) fun e w'' => e = .returned v ∧ ∃ X', w'' = over W X' :=
  h.mono fun _ w' ⟨he, hb⟩ => ⟨he, w', over_of_below ((over_below W X).trans (hb.mono (over_size W X)))⟩
theorem callsOverSame {P : Program} {f : FuncId} {args : Array Value} {W X : World} {v : Value}
    (h : Calls P f args (over W X) fun e w' => e = .returned v ∧ over W X = w') :
    Calls P f args (over W X) fun e w'' => e = .returned v ∧ ∃ X', w'' = over W X' :=
  h.mono fun _ _ ⟨he, hb⟩ => ⟨he, X, hb.symm⟩
theorem callsOverDraws {P : Program} {f : FuncId} {args : Array Value} {W X : World} {v : Value}
    (h : Calls P f args (over W X) fun e w' => e = .returned v ∧ ∃ k, w' = (over W X).drewN k) :
    Calls P f args (over W X) fun e w'' => e = .returned v ∧ ∃ X', w'' = over W X' :=
  h.mono fun _ w' ⟨he, k, hb⟩ => ⟨he, w', over_of_below (by subst hb; exact below_drewN (over_below W X) k)⟩

/-- a region that draws its order, every operation of which reads, or calls a function that turns nothing that was there: one walk, in the order of the text. S: what is known of the world. -/
theorem wp_region_over {P : Program} {id : Nat} {Q : Exit → Act → World → Prop} {a : Act} {w : World} {l : List Oper} (S : World → Prop) (hm : P.follows .mixedOrders = true) (hB : Region.lexB .any l.toArray = true) (hS : S w)
    (h : ∀ W, S W → W.heap.size = w.heap.size → wpQuiet P l.toArray (fun w' => ∃ X, w' = over W X) (fun a' => ∀ w', Below w.heap.size w w' → Q .normal a' w') l a) : (Code.region id l.toArray true).wp P Q a w := by
  refine wp_region_quiet (C := fun w' => ∃ X, w' = over w X) hm hB ⟨w.drew, over_of_below (Below.refl _ _).drew⟩ ?_
  have h1 := h w hS rfl
  have e : (fun a' : Act => ∀ w', Below w.heap.size w w' → Q .normal a' w') = (fun a' => ∀ w', (∃ X, w' = over w X) → Q .normal a' w') := by
    funext a'
    apply propext
    constructor
    · rintro g w' ⟨X, rfl⟩; exact g _ (over_below w X)
    · intro g w' hb; exact g w' ⟨w', over_of_below hb⟩
  rw [e] at h1
  simpa using h1
@[go_sem] theorem over_cell_lt (W X : World) (b o : Nat) (h : b < W.heap.size) : (over W X).cell? ⟨b, o, none⟩ = W.cell? ⟨b, o, none⟩ := (over_below W X).cell (p := ⟨b, o, none⟩) h
theorem wp_region_overL {P : Program} {id : Nat} {Q : Exit → Act → World → Prop} {a : Act} {w : World} {l : List Oper} (hm : P.follows .mixedOrders = true) (hB : Region.lexB .any l.toArray = true)
    (h : wpQuiet P l.toArray (fun w' => ∃ X, w' = over w X) (fun a' => ∀ w', Below w.heap.size w w' → Q .normal a' w') l a) : (Code.region id l.toArray true).wp P Q a w :=
  wp_region_over (fun W => W = w) hm hB rfl (fun W hW _ => by subst hW; exact h)
end Go.Proofs.YtinjdcefagaaeaaGreatDoor

namespace Go.Proofs.YtinjdcefagaaeaaGreatDoor
theorem fill_set {α : Type} (L : List α) (z : α) (i : Nat) (h : i < L.length) : (L.take i ++ List.replicate (L.length - i) z).set i L[i] = L.take (i + 1) ++ List.replicate (L.length - (i + 1)) z := by
  apply List.ext_getElem?
  intro j
  rw [List.getElem?_set]
  by_cases e : i = j
  · subst e
    rw [if_pos rfl, if_pos (by simp; omega), List.getElem?_append_left (by simp; omega), List.getElem?_take, if_pos (by omega), List.getElem?_eq_getElem h]
  · rw [if_neg e]
    rcases Nat.lt_or_ge j i with hlt | hge
    · rw [List.getElem?_append_left (by simp; omega), List.getElem?_append_left (by simp; omega), List.getElem?_take, List.getElem?_take, if_pos hlt, if_pos (by omega)]
    · rw [List.getElem?_append_right (by simp; omega), List.getElem?_append_right (by simp; omega), List.getElem?_replicate, List.getElem?_replicate]
      simp only [List.length_take, Nat.min_eq_left (Nat.le_of_lt h), Nat.min_eq_left (show i + 1 ≤ L.length from h)]
      by_cases hj : j < L.length
      · rw [if_pos (by omega), if_pos (by omega)]
      · rw [if_neg (by omega), if_neg (by omega)]
theorem fill_zero {α : Type} (L : List α) (z : α) (n : Nat) (h : L.length = n) : List.replicate n z = L.take 0 ++ List.replicate (L.length - 0) z := by simp [h]
theorem fill_all {α : Type} (L : List α) (z : α) (i : Nat) (h : L.length ≤ i) : L.take i ++ List.replicate (L.length - i) z = L := by
  rw [List.take_of_length_le h, Nat.sub_eq_zero_of_le h]; simp
theorem fill_get {α : Type} (L : List α) (z : α) (i : Nat) (h : i < L.length) : (L.take i ++ List.replicate (L.length - i) z).length = L.length := by simp; omega
theorem fill_len {α : Type} (L : List α) (z : α) (i : Nat) (h : i ≤ L.length) : (L.take i ++ List.replicate (L.length - i) z).length = L.length := by simp; omega
end Go.Proofs.YtinjdcefagaaeaaGreatDoor

namespace Go.Proofs.YtinjdcefagaaeaaGreatDoor
open Go.RowKit

/-! A region that draws its order: a head of operations that read, or call what turns nothing that was there, and a tail that waits for the whole head and is carried out in the order of the text. -/

section
variable {P : Program} {md : Region.Mode} {C : World → Prop}

/-- an operation without its work -/
def dull (o : Oper) : Oper := { o with op := .move (.const (.bool false)), dst := none, guard := none }
/-- operation i waits for operation j -/
def waitsB (md : Region.Mode) (l : List Oper) (i j : Nat) : Bool :=
  match l[i]? with
  | some o => o.after.any fun e => Region.binds md e && e.on == j
  | none => false
/-- every edge leads back; guards of the head lie in the head; the first of the tail waits for all the head, each later one for the one before it -/
def tailB (md : Region.Mode) (l : List Oper) (n : Nat) : Bool :=
  (List.range l.length).all fun i =>
    (match l[i]? with
      | some o => o.after.all (fun e => decide (e.on < i)) && (decide (n ≤ i) || match o.guard with | none => true | some (j, _) => decide (j < n))
      | none => true) &&
    (if i = n then (List.range n).all (fun j => waitsB md l n j) else decide (i < n) || waitsB md l i (i - 1))

def dulled (l : List Oper) (n : Nat) : List Oper := l.take n ++ (l.drop n).map dull

theorem dulled_len (l : List Oper) (n : Nat) : (dulled l n).length = l.length := by
  simp only [dulled, List.length_append, List.length_map, List.length_take, List.length_drop]
  omega
theorem dulled_lt {l : List Oper} {n i : Nat} (h : i < n) : (dulled l n)[i]? = l[i]? := by
  unfold dulled
  rcases Nat.lt_or_ge i l.length with hl | hl
  · rw [List.getElem?_append_left (by simp; omega), List.getElem?_take, if_pos h]
  · rw [List.getElem?_eq_none (by rw [← dulled] ; rw [dulled_len]; exact hl), List.getElem?_eq_none hl]
theorem dulled_ge {l : List Oper} {n i : Nat} (h : n ≤ i) : (dulled l n)[i]? = (l[i]?).map dull := by
  unfold dulled
  rcases Nat.lt_or_ge n l.length with hl | hl
  · rw [List.getElem?_append_right (by simp; omega)]
    simp only [List.length_take, Nat.min_eq_left (Nat.le_of_lt hl), List.getElem?_map, List.getElem?_drop]
    rw [Nat.add_sub_cancel' h]
  · rw [List.getElem?_eq_none (by rw [← dulled, dulled_len]; omega), List.getElem?_eq_none (by omega)]; rfl
theorem dulled_after (l : List Oper) (n i : Nat) : ((dulled l n)[i]?).map (·.after) = (l[i]?).map (·.after) := by
  rcases Nat.lt_or_ge i n with h | h
  · rw [dulled_lt h]
  · rw [dulled_ge h]; cases l[i]? <;> rfl
theorem ready_dulled (l : List Oper) (n : Nat) (listed : Array Bool) : Region.ready md (dulled l n).toArray listed = Region.ready md l.toArray listed := by
  unfold Region.ready
  simp only [List.size_toArray, dulled_len]
  congr 1
  funext i
  have h := dulled_after l n i
  simp only [List.getElem?_toArray]
  revert h
  cases (dulled l n)[i]? <;> cases l[i]? <;> intro h <;> simp at h ⊢
  rw [h]

theorem tail_edge {l : List Oper} {n i : Nat} {o : Oper} (h : tailB md l n = true) (hi : l[i]? = some o) : (∀ e ∈ o.after, e.on < i) ∧ (i < n → ∀ j b, o.guard = some (j, b) → j < n) := by
  have hlt : i < l.length := (List.getElem?_eq_some_iff.1 hi).1
  have h1 := List.all_eq_true.1 h i (List.mem_range.2 hlt)
  simp only [hi, Bool.and_eq_true] at h1
  refine ⟨fun e he => ?_, fun hin j b hg => ?_⟩
  · have := Array.all_eq_true'.1 h1.1.1 e he
    simpa using this
  · have h2 := h1.1.2
    rw [hg] at h2
    simp at h2
    omega
theorem tail_first {l : List Oper} {n j : Nat} (h : tailB md l n = true) (hn : n < l.length) (hj : j < n) : waitsB md l n j = true := by
  have h1 := List.all_eq_true.1 h n (List.mem_range.2 hn)
  simp only [Bool.and_eq_true, if_true] at h1
  exact List.all_eq_true.1 h1.2 j (List.mem_range.2 hj)
theorem tail_chain {l : List Oper} {n i : Nat} (h : tailB md l n = true) (hn : i < l.length) (hj : n < i) : waitsB md l i (i - 1) = true := by
  have h1 := List.all_eq_true.1 h i (List.mem_range.2 hn)
  simp only [Bool.and_eq_true] at h1
  have h2 := h1.2
  rw [if_neg (by omega)] at h2
  simp at h2
  rcases h2 with h2 | h2
  · omega
  · exact h2
theorem waits_spec {l : List Oper} {i j : Nat} {listed : Array Bool} (h : waitsB md l i j = true) (hr : i ∈ Region.ready md l.toArray listed) : listed.getD j false = true := by
  obtain ⟨_, o, ho, hall⟩ := mem_ready.1 hr
  unfold waitsB at h
  rw [List.getElem?_toArray] at ho
  rw [ho] at h
  obtain ⟨e, he, hb⟩ := Array.any_eq_true'.1 h
  simp only [Bool.and_eq_true, beq_iff_eq] at hb
  rw [← hb.2]
  exact hall e he hb.1

theorem getD_flip {listed : Array Bool} {i : Nat} (hi : i < listed.size) : listed.getD i true = listed.getD i false := by simp [hi]

/-- something is ready while something is unlisted -/
theorem ready_some {l : List Oper} {n : Nat} (hT : tailB md l n = true) {listed : Array Bool} (hs : listed.size = l.length) : ∀ k, k < l.length → listed.getD k true = false → Region.ready md l.toArray listed ≠ [] := by
  intro k
  induction k using Nat.strongRecOn with
  | _ k ih =>
    intro hk hun h0
    have hok : l[k]? = some l[k] := List.getElem?_eq_getElem hk
    by_cases hall : ∀ e ∈ l[k].after, Region.binds md e = true → listed.getD e.on false = true
    · have : k ∈ Region.ready md l.toArray listed := mem_ready.2 ⟨hun, l[k], by rw [List.getElem?_toArray]; exact hok, hall⟩
      rw [h0] at this
      cases this
    · have ⟨e, he⟩ : ∃ e, ¬ (e ∈ l[k].after → Region.binds md e = true → listed.getD e.on false = true) := Classical.not_forall.1 hall
      have hm : e ∈ l[k].after := Classical.byContradiction fun h => he (fun h' => absurd h' h)
      have hlt := (tail_edge hT hok).1 e hm
      have hf : listed.getD e.on false = false := by
        cases hh : listed.getD e.on false with
        | false => rfl
        | true => exact absurd (fun _ _ => hh) he
      exact ih e.on hlt (by omega) (by rw [getD_flip (by omega)]; exact hf) h0

/-- the tail: all before k listed, nothing from k on -/
structure AtTail (l : List Oper) (k : Nat) (listed : Array Bool) : Prop where
  size : listed.size = l.length
  low : ∀ j, j < k → listed.getD j false = true
  high : ∀ t, k ≤ t → t < l.length → listed.getD t true = false
theorem AtTail.next {l : List Oper} {k : Nat} {listed : Array Bool} (h : AtTail l k listed) (hk : k < l.length) : AtTail l (k + 1) (listed.setIfInBounds k true) := by
  refine ⟨by simp [h.size], fun j hj => ?_, fun t ht htl => ?_⟩
  · by_cases hjk : k = j
    · subst hjk
      simp [h.size, hk]
    · rw [getD_set_ne false hjk]; exact h.low j (by omega)
  · rw [getD_set_ne true (by omega)]; exact h.high t (by omega) htl
theorem AtTail.ready {l : List Oper} {n k : Nat} {listed : Array Bool} (hT : tailB md l n = true) (h : AtTail l k listed) (hk : k < l.length) : k ∈ Region.ready md l.toArray listed := by
  refine mem_ready.2 ⟨h.high k (Nat.le_refl _) hk, l[k], by rw [List.getElem?_toArray]; exact List.getElem?_eq_getElem hk, fun e he _ => h.low _ ?_⟩
  exact (tail_edge hT (List.getElem?_eq_getElem hk)).1 e he
theorem AtTail.only {l : List Oper} {n k i : Nat} {listed : Array Bool} (hT : tailB md l n = true) (h : AtTail l k listed) (hn : n ≤ k) (hi : i ∈ Region.ready md l.toArray listed) : i = k := by
  obtain ⟨h0, o, ho, _⟩ := mem_ready.1 hi
  rw [List.getElem?_toArray] at ho
  have hil : i < l.length := (List.getElem?_eq_some_iff.1 ho).1
  rcases Nat.lt_trichotomy i k with h1 | h1 | h1
  · rw [getD_flip (by rw [h.size]; exact hil), h.low i h1] at h0; cases h0
  · exact h1
  · have h2 := waits_spec (tail_chain hT hil (by omega)) hi
    have h3 := h.high (i - 1) (by omega) (by omega)
    rw [getD_flip (by rw [h.size]; omega), h2] at h3
    cases h3

theorem tail_run {l : List Oper} {n : Nat} (hT : tailB md l n = true) {Q : Act → Prop} {Q' : Exit → Act → World → Prop} : ∀ (fuel k : Nat) (listed : Array Bool) (a : Act), n ≤ k → k ≤ l.length → AtTail l k listed →
    wpAnyQ P md (dulled l n).toArray C Q fuel listed a → Q a ∧ ∀ a' w', wpList P l.toArray Q' (l.drop k) a' w' → wpAny P md l.toArray Q' fuel listed a' w'
  | 0, k, listed, a, hn, hk, hA, h => by
    refine ⟨h.2, fun a' w' hw => ?_⟩
    have h0 := h.1
    rw [ready_dulled] at h0
    rcases Nat.lt_or_ge k l.length with hlt | hge
    · have := hA.ready hT hlt
      rw [h0] at this
      cases this
    · rw [List.drop_eq_nil_of_le hge] at hw
      exact ⟨h0, hw⟩
  | fuel + 1, k, listed, a, hn, hk, hA, h => by
    rcases Nat.lt_or_ge k l.length with hlt | hge
    · have hr := hA.ready hT hlt
      have h2 := h.2 k (by rw [ready_dulled]; exact hr)
      have hok : (dulled l n).toArray[k]? = some (dull l[k]) := by
        rw [List.getElem?_toArray, dulled_ge hn, List.getElem?_eq_getElem hlt]; rfl
      unfold qOp at h2
      simp only [hok] at h2
      have hw : Region.wanted (dull l[k]) (yielded (dulled l n).toArray a.tmps) = true := rfl
      rw [if_pos hw] at h2
      obtain ⟨v, _, h3⟩ := h2
      have ih := tail_run hT (Q' := Q') fuel (k + 1) _ a (by omega) (by omega) (hA.next hlt) h3
      refine ⟨ih.1, fun a' w' hl => ⟨fun h0 => (by rw [h0] at hr; cases hr), fun i hi => ?_⟩⟩
      obtain rfl := hA.only hT hn hi
      have hok' : l.toArray[i]? = some l[i] := by rw [List.getElem?_toArray]; exact List.getElem?_eq_getElem hlt
      rw [List.drop_eq_getElem_cons hlt] at hl
      unfold wpList at hl
      unfold wpOp
      simp only [hok']
      split
      · rename_i hwant
        rw [if_pos hwant] at hl
        rcases hl with hl | hl
        · exact .inl (Oper.wp_mono (fun a w hh => ih.2 a w hh) hl)
        · exact .inr hl
      · rename_i hwant
        rw [if_neg hwant] at hl
        exact ih.2 _ _ hl
    · have h0 : Region.ready md l.toArray listed = [] := by
        cases hh : Region.ready md l.toArray listed with
        | nil => rfl
        | cons i rest =>
          have hi : i ∈ Region.ready md l.toArray listed := by rw [hh]; exact List.mem_cons_self
          have := hA.only hT hn hi
          obtain ⟨_, o, ho, _⟩ := mem_ready.1 hi
          rw [List.getElem?_toArray] at ho
          have := (List.getElem?_eq_some_iff.1 ho).1
          omega
      refine ⟨h.1 (by rw [ready_dulled]; exact h0), fun a' w' hl => ?_⟩
      rw [List.drop_eq_nil_of_le hge] at hl
      exact ⟨fun _ => hl, fun i hi => by rw [h0] at hi; cases hi⟩

theorem yielded_dulled {l : List Oper} {n j : Nat} (h : j < n) (tmps : Array Value) : yielded (dulled l n).toArray tmps j = yielded l.toArray tmps j := by
  unfold yielded
  rw [List.getElem?_toArray, List.getElem?_toArray, dulled_lt h]

theorem head_run {l : List Oper} {n : Nat} (hT : tailB md l n = true) (hn : n < l.length) {Q' : Exit → Act → World → Prop} : ∀ (fuel : Nat) (listed : Array Bool) (a : Act) (w : World), listed.size = l.length → (∀ t, n ≤ t → t < l.length → listed.getD t true = false) → C w →
    wpAnyQ P md (dulled l n).toArray C (fun a' => ∀ w', C w' → wpList P l.toArray Q' (l.drop n) a' w') fuel listed a → wpAny P md l.toArray Q' fuel listed a w
  | 0, listed, a, w, hs, htl, _, h => by
    have h0 := h.1
    rw [ready_dulled] at h0
    exact absurd h0 (ready_some hT hs n hn (htl n (Nat.le_refl _) hn))
  | fuel + 1, listed, a, w, hs, htl, hC, h => by
    refine ⟨fun h0 => absurd h0 (ready_some hT hs n hn (htl n (Nat.le_refl _) hn)), fun i hi => ?_⟩
    rcases Nat.lt_or_ge i n with hin | hin
    · have h2 := h.2 i (by rw [ready_dulled]; exact hi)
      obtain ⟨_, o, ho, _⟩ := mem_ready.1 hi
      have ho' : l[i]? = some o := by rwa [List.getElem?_toArray] at ho
      have hod : (dulled l n).toArray[i]? = some o := by rw [List.getElem?_toArray, dulled_lt hin]; exact ho'
      have hq : qOp P l.toArray C i (wpAnyQ P md (dulled l n).toArray C (fun a' => ∀ w', C w' → wpList P l.toArray Q' (l.drop n) a' w') fuel (listed.setIfInBounds i true)) a := by
        unfold qOp at h2 ⊢
        simp only [hod] at h2
        simp only [ho]
        have hw : Region.wanted o (yielded (dulled l n).toArray a.tmps) = Region.wanted o (yielded l.toArray a.tmps) := by
          unfold Region.wanted
          cases hg : o.guard with
          | none => rfl
          | some p =>
            obtain ⟨j, b⟩ := p
            simp only
            rw [yielded_dulled ((tail_edge hT ho').2 hin j b hg)]
        rw [hw] at h2
        exact h2
      exact wpOp_of_qOp hC (fun a' w' hC' hh => head_run hT hn fuel _ a' w' (by simp [hs]) (fun t ht htt => by rw [getD_set_ne true (by omega)]; exact htl t ht htt) hC' hh) hq
    · have hil : i < l.length := by
        obtain ⟨_, o, ho, _⟩ := mem_ready.1 hi
        rw [List.getElem?_toArray] at ho
        exact (List.getElem?_eq_some_iff.1 ho).1
      have hin' : i = n := by
        rcases Nat.lt_or_ge n i with h1 | h1
        · have h2 := waits_spec (tail_chain hT hil h1) hi
          have h3 := htl (i - 1) (by omega) (by omega)
          rw [getD_flip (by rw [hs]; omega), h2] at h3
          cases h3
        · omega
      subst hin'
      have hA : AtTail l i listed := ⟨hs, fun j hj => waits_spec (tail_first hT hil hj) hi, htl⟩
      have hr := tail_run (Q' := Q') hT (fuel + 1) i listed a (Nat.le_refl _) (by omega) hA h
      exact (hr.2 a w (hr.1 w hC)).2 i hi

theorem wpQuiet_append {ops : Array Oper} {Q : Act → Prop} : ∀ (l1 l2 : List Oper) (a : Act), wpQuiet P ops C (wpQuiet P ops C Q l2) l1 a → wpQuiet P ops C Q (l1 ++ l2) a
  | [], _, _, h => h
  | o :: l1, l2, a, h => by
    simp only [List.cons_append, wpQuiet] at h ⊢
    split
    · rename_i hw
      rw [if_pos hw] at h
      obtain ⟨v, h1, h2⟩ := h
      exact ⟨v, h1, wpQuiet_append l1 l2 _ h2⟩
    · rename_i hw
      rw [if_neg hw] at h
      exact wpQuiet_append l1 l2 _ h
theorem wpQuiet_mono {ops : Array Oper} {Q Q' : Act → Prop} (hQ : ∀ a, Q a → Q' a) : ∀ (l : List Oper) (a : Act), wpQuiet P ops C Q l a → wpQuiet P ops C Q' l a
  | [], _, h => hQ _ h
  | o :: l, a, h => by
    simp only [wpQuiet] at h ⊢
    split
    · rename_i hw
      rw [if_pos hw] at h
      obtain ⟨v, h1, h2⟩ := h
      exact ⟨v, h1, wpQuiet_mono hQ l _ h2⟩
    · rename_i hw
      rw [if_neg hw] at h
      exact wpQuiet_mono hQ l _ h
theorem wpQuiet_dull {ops : Array Oper} {Q : Act → Prop} : ∀ (l : List Oper) (a : Act), Q a → wpQuiet P ops C Q (l.map dull) a
  | [], _, h => h
  | o :: l, a, h => by
    simp only [List.map_cons, wpQuiet]
    have hw : Region.wanted (dull o) (yielded ops a.tmps) = true := rfl
    rw [if_pos hw]
    exact BigFrame.quiet_move (.const (.bool false)) rfl (wpQuiet_dull l a h)
theorem wpQuiet_ops {l : List Oper} {n : Nat} (hT : tailB md l n = true) {Q : Act → Prop} : ∀ (r : List Oper) (k : Nat) (a : Act), (∀ j, r[j]? = if j + k < n then l[j + k]? else none) → wpQuiet P l.toArray C Q r a → wpQuiet P (dulled l n).toArray C Q r a
  | [], _, _, _, h => h
  | o :: r, k, a, hr, h => by
    have h0 := hr 0
    simp only [List.getElem?_cons_zero, Nat.zero_add] at h0
    have hk : k < n := by
      rcases Nat.lt_or_ge k n with h1 | h1
      · exact h1
      · rw [if_neg (by omega)] at h0; cases h0
    rw [if_pos hk] at h0
    have hw : Region.wanted o (yielded (dulled l n).toArray a.tmps) = Region.wanted o (yielded l.toArray a.tmps) := by
      unfold Region.wanted
      cases hg : o.guard with
      | none => rfl
      | some p =>
        obtain ⟨j, b⟩ := p
        simp only
        rw [yielded_dulled ((tail_edge hT h0.symm).2 hk j b hg)]
    have hr' : ∀ j, r[j]? = if j + (k + 1) < n then l[j + (k + 1)]? else none := fun j => by
      have := hr (j + 1)
      simpa [Nat.add_assoc, Nat.add_comm 1 k] using this
    simp only [wpQuiet] at h ⊢
    rw [hw]
    split
    · rename_i hw'
      rw [if_pos hw'] at h
      obtain ⟨v, h1, h2⟩ := h
      exact ⟨v, h1, wpQuiet_ops hT r (k + 1) _ hr' h2⟩
    · rename_i hw'
      rw [if_neg hw'] at h
      exact wpQuiet_ops hT r (k + 1) _ hr' h

theorem wp_region_tail {id : Nat} {Q : Exit → Act → World → Prop} {a : Act} {w : World} {l : List Oper} (n : Nat) (hm : P.follows .mixedOrders = true) (hB : (Region.lexB .any (dulled l n).toArray && tailB .any l n && decide (n < l.length)) = true) (hC : C { w with drawn := w.drawn + 1 })
    (h : wpQuiet P l.toArray C (fun a' => ∀ w', C w' → wpList P l.toArray Q (l.drop n) a' w') (l.take n) a) : (Code.region id l.toArray true).wp P Q a w := by
  simp only [Bool.and_eq_true, decide_eq_true_eq] at hB
  obtain ⟨⟨hL, hT⟩, hn⟩ := hB
  simp only [Region.lexB, Bool.and_eq_true] at hL
  refine wp_region_any hm ?_
  have h1 : wpQuiet P (dulled l n).toArray C (fun a' => ∀ w', C w' → wpList P l.toArray Q (l.drop n) a' w') (dulled l n) a := by
    refine wpQuiet_append _ _ _ ?_
    refine wpQuiet_ops hT (l.take n) 0 a (fun j => by simp [List.getElem?_take]) ?_
    refine wpQuiet_mono (fun a' h' => wpQuiet_dull _ a' h') _ _ h
  have h2 := wpAnyQ_lex (P := P) (C := C) (md := .any) hL.1 (dulled l n) 0 (Array.replicate (dulled l n).toArray.size false) a (by simp) (by simpa using hL.2) h1
  have h3 := head_run hT hn (Q' := Q) _ _ a { w with drawn := w.drawn + 1 } (by simp [dulled_len]) (fun t _ ht => by simp [dulled_len, ht]) hC h2
  simpa [dulled_len] using h3
end

/-- the same in the worlds that go on from w -/
theorem wp_region_overT {P : Program} {id : Nat} {Q : Exit → Act → World → Prop} {a : Act} {w : World} {l : List Oper} (n : Nat) (hm : P.follows .mixedOrders = true) (hB : (Region.lexB .any (dulled l n).toArray && tailB .any l n && decide (n < l.length)) = true)
    (h : wpQuiet P l.toArray (fun w' => ∃ X, w' = over w X) (fun a' => ∀ w', Below w.heap.size w w' → wpList P l.toArray Q (l.drop n) a' w') (l.take n) a) : (Code.region id l.toArray true).wp P Q a w := by
  refine wp_region_tail (C := fun w' => ∃ X, w' = over w X) n hm hB ⟨w.drew, over_of_below (Below.refl _ _).drew⟩ ?_
  have e : (fun a' : Act => ∀ w', Below w.heap.size w w' → wpList P l.toArray Q (l.drop n) a' w') = (fun a' => ∀ w', (∃ X, w' = over w X) → wpList P l.toArray Q (l.drop n) a' w') := by
    funext a'
    apply propext
    constructor
    · rintro g w' ⟨X, rfl⟩; exact g _ (over_below w X)
    · intro g w' hb; exact g w' ⟨w', over_of_below hb⟩
  rw [e] at h
  exact h
end Go.Proofs.YtinjdcefagaaeaaGreatDoor

namespace Go.Proofs.YtinjdcefagaaeaaGreatDoor
open Go.RowKit

/-! The same as in Tail, where the tail's first operation waits for the head through a chain of edges. -/

section
variable {P : Program} {md : Region.Mode} {C : World → Prop}
/-- every edge leads back; guards of the head lie in the head; each of the head is waited for by a later one up to the first of the tail, each later one for the one before it -/
def tailB2 (md : Region.Mode) (l : List Oper) (n : Nat) : Bool :=
  (List.range l.length).all fun i =>
    (match l[i]? with
      | some o => o.after.all (fun e => decide (e.on < i)) && (decide (n ≤ i) || match o.guard with | none => true | some (j, _) => decide (j < n))
      | none => true) &&
    (if i = n then (List.range n).all (fun j => (List.range (n + 1)).any (fun t => decide (j < t) && waitsB md l t j)) else decide (i < n) || waitsB md l i (i - 1))

theorem tail_edge2 {l : List Oper} {n i : Nat} {o : Oper} (h : tailB2 md l n = true) (hi : l[i]? = some o) : (∀ e ∈ o.after, e.on < i) ∧ (i < n → ∀ j b, o.guard = some (j, b) → j < n) := by
  have hlt : i < l.length := (List.getElem?_eq_some_iff.1 hi).1
  have h1 := List.all_eq_true.1 h i (List.mem_range.2 hlt)
  simp only [hi, Bool.and_eq_true] at h1
  refine ⟨fun e he => ?_, fun hin j b hg => ?_⟩
  · have := Array.all_eq_true'.1 h1.1.1 e he
    simpa using this
  · have h2 := h1.1.2
    rw [hg] at h2
    simp at h2
    omega
theorem tail_first2 {l : List Oper} {n j : Nat} (h : tailB2 md l n = true) (hn : n < l.length) (hj : j < n) : ∃ t, j < t ∧ t ≤ n ∧ waitsB md l t j = true := by
  have h1 := List.all_eq_true.1 h n (List.mem_range.2 hn)
  simp only [Bool.and_eq_true, if_true] at h1
  have h2 := List.all_eq_true.1 h1.2 j (List.mem_range.2 hj)
  obtain ⟨t, ht, h3⟩ := List.any_eq_true.1 h2
  simp only [Bool.and_eq_true, decide_eq_true_eq] at h3
  exact ⟨t, h3.1, by have := List.mem_range.1 ht; omega, h3.2⟩
/-- what is listed has all that it waits for listed -/
def ClosedL (md : Region.Mode) (l : List Oper) (listed : Array Bool) : Prop := ∀ t j, listed.getD t false = true → waitsB md l t j = true → listed.getD j false = true
theorem ClosedL.next {l : List Oper} {listed : Array Bool} (h : ClosedL md l listed) {i : Nat} (hi : i ∈ Region.ready md l.toArray listed) : ClosedL md l (listed.setIfInBounds i true) := by
  intro t j ht hw
  have key : listed.getD j false = true := by
    by_cases hti : i = t
    · subst hti; exact waits_spec hw hi
    · rw [getD_set_ne false hti] at ht
      exact h t j ht hw
  by_cases hij : i = j
  · subst hij
    have hs : i < listed.size := by
      rcases Nat.lt_or_ge i listed.size with h1 | h1
      · exact h1
      · simp [Array.getD, Nat.not_lt.2 h1] at key
    simp [hs]
  · rw [getD_set_ne false hij]; exact key
theorem ClosedL.all {l : List Oper} {n : Nat} {listed : Array Bool} (h : ClosedL md l listed) (hT : tailB2 md l n = true) (hn : n < l.length) (hi : n ∈ Region.ready md l.toArray listed) : ∀ d j, j + d = n → j < n → listed.getD j false = true := by
  intro d
  induction d using Nat.strongRecOn with
  | _ d ih =>
    intro j hd hj
    obtain ⟨t, h1, h2, h3⟩ := tail_first2 hT hn hj
    by_cases htn : t = n
    · subst htn; exact waits_spec h3 hi
    · exact h t j (ih (n - t) (by omega) t (by omega) (by omega)) h3
theorem tail_chain2 {l : List Oper} {n i : Nat} (h : tailB2 md l n = true) (hn : i < l.length) (hj : n < i) : waitsB md l i (i - 1) = true := by
  have h1 := List.all_eq_true.1 h i (List.mem_range.2 hn)
  simp only [Bool.and_eq_true] at h1
  have h2 := h1.2
  rw [if_neg (by omega)] at h2
  simp at h2
  rcases h2 with h2 | h2
  · omega
  · exact h2
/-- something is ready while something is unlisted -/
theorem ready_some2 {l : List Oper} {n : Nat} (hT : tailB2 md l n = true) {listed : Array Bool} (hs : listed.size = l.length) : ∀ k, k < l.length → listed.getD k true = false → Region.ready md l.toArray listed ≠ [] := by
  intro k
  induction k using Nat.strongRecOn with
  | _ k ih =>
    intro hk hun h0
    have hok : l[k]? = some l[k] := List.getElem?_eq_getElem hk
    by_cases hall : ∀ e ∈ l[k].after, Region.binds md e = true → listed.getD e.on false = true
    · have : k ∈ Region.ready md l.toArray listed := mem_ready.2 ⟨hun, l[k], by rw [List.getElem?_toArray]; exact hok, hall⟩
      rw [h0] at this
      cases this
    · have ⟨e, he⟩ : ∃ e, ¬ (e ∈ l[k].after → Region.binds md e = true → listed.getD e.on false = true) := Classical.not_forall.1 hall
      have hm : e ∈ l[k].after := Classical.byContradiction fun h => he (fun h' => absurd h' h)
      have hlt := (tail_edge2 hT hok).1 e hm
      have hf : listed.getD e.on false = false := by
        cases hh : listed.getD e.on false with
        | false => rfl
        | true => exact absurd (fun _ _ => hh) he
      exact ih e.on hlt (by omega) (by rw [getD_flip (by omega)]; exact hf) h0

theorem AtTail.ready2 {l : List Oper} {n k : Nat} {listed : Array Bool} (hT : tailB2 md l n = true) (h : AtTail l k listed) (hk : k < l.length) : k ∈ Region.ready md l.toArray listed := by
  refine mem_ready.2 ⟨h.high k (Nat.le_refl _) hk, l[k], by rw [List.getElem?_toArray]; exact List.getElem?_eq_getElem hk, fun e he _ => h.low _ ?_⟩
  exact (tail_edge2 hT (List.getElem?_eq_getElem hk)).1 e he
theorem AtTail.only2 {l : List Oper} {n k i : Nat} {listed : Array Bool} (hT : tailB2 md l n = true) (h : AtTail l k listed) (hn : n ≤ k) (hi : i ∈ Region.ready md l.toArray listed) : i = k := by
  obtain ⟨h0, o, ho, _⟩ := mem_ready.1 hi
  rw [List.getElem?_toArray] at ho
  have hil : i < l.length := (List.getElem?_eq_some_iff.1 ho).1
  rcases Nat.lt_trichotomy i k with h1 | h1 | h1
  · rw [getD_flip (by rw [h.size]; exact hil), h.low i h1] at h0; cases h0
  · exact h1
  · have h2 := waits_spec (tail_chain2 hT hil (by omega)) hi
    have h3 := h.high (i - 1) (by omega) (by omega)
    rw [getD_flip (by rw [h.size]; omega), h2] at h3
    cases h3

theorem tail_run2 {l : List Oper} {n : Nat} (hT : tailB2 md l n = true) {Q : Act → Prop} {Q' : Exit → Act → World → Prop} : ∀ (fuel k : Nat) (listed : Array Bool) (a : Act), n ≤ k → k ≤ l.length → AtTail l k listed →
    wpAnyQ P md (dulled l n).toArray C Q fuel listed a → Q a ∧ ∀ a' w', wpList P l.toArray Q' (l.drop k) a' w' → wpAny P md l.toArray Q' fuel listed a' w'
  | 0, k, listed, a, hn, hk, hA, h => by
    refine ⟨h.2, fun a' w' hw => ?_⟩
    have h0 := h.1
    rw [ready_dulled] at h0
    rcases Nat.lt_or_ge k l.length with hlt | hge
    · have := hA.ready2 hT hlt
      rw [h0] at this
      cases this
    · rw [List.drop_eq_nil_of_le hge] at hw
      exact ⟨h0, hw⟩
  | fuel + 1, k, listed, a, hn, hk, hA, h => by
    rcases Nat.lt_or_ge k l.length with hlt | hge
    · have hr := hA.ready2 hT hlt
      have h2 := h.2 k (by rw [ready_dulled]; exact hr)
      have hok : (dulled l n).toArray[k]? = some (dull l[k]) := by
        rw [List.getElem?_toArray, dulled_ge hn, List.getElem?_eq_getElem hlt]; rfl
      unfold qOp at h2
      simp only [hok] at h2
      have hw : Region.wanted (dull l[k]) (yielded (dulled l n).toArray a.tmps) = true := rfl
      rw [if_pos hw] at h2
      obtain ⟨v, _, h3⟩ := h2
      have ih := tail_run2 hT (Q' := Q') fuel (k + 1) _ a (by omega) (by omega) (hA.next hlt) h3
      refine ⟨ih.1, fun a' w' hl => ⟨fun h0 => (by rw [h0] at hr; cases hr), fun i hi => ?_⟩⟩
      obtain rfl := hA.only2 hT hn hi
      have hok' : l.toArray[i]? = some l[i] := by rw [List.getElem?_toArray]; exact List.getElem?_eq_getElem hlt
      rw [List.drop_eq_getElem_cons hlt] at hl
      unfold wpList at hl
      unfold wpOp
      simp only [hok']
      split
      · rename_i hwant
        rw [if_pos hwant] at hl
        rcases hl with hl | hl
        · exact .inl (Oper.wp_mono (fun a w hh => ih.2 a w hh) hl)
        · exact .inr hl
      · rename_i hwant
        rw [if_neg hwant] at hl
        exact ih.2 _ _ hl
    · have h0 : Region.ready md l.toArray listed = [] := by
        cases hh : Region.ready md l.toArray listed with
        | nil => rfl
        | cons i rest =>
          have hi : i ∈ Region.ready md l.toArray listed := by rw [hh]; exact List.mem_cons_self
          have := hA.only2 hT hn hi
          obtain ⟨_, o, ho, _⟩ := mem_ready.1 hi
          rw [List.getElem?_toArray] at ho
          have := (List.getElem?_eq_some_iff.1 ho).1
          omega
      refine ⟨h.1 (by rw [ready_dulled]; exact h0), fun a' w' hl => ?_⟩
      rw [List.drop_eq_nil_of_le hge] at hl
      exact ⟨fun _ => hl, fun i hi => by rw [h0] at hi; cases hi⟩

theorem head_run2 {l : List Oper} {n : Nat} (hT : tailB2 md l n = true) (hn : n < l.length) {Q' : Exit → Act → World → Prop} : ∀ (fuel : Nat) (listed : Array Bool) (a : Act) (w : World), listed.size = l.length → (∀ t, n ≤ t → t < l.length → listed.getD t true = false) → ClosedL md l listed → C w →
    wpAnyQ P md (dulled l n).toArray C (fun a' => ∀ w', C w' → wpList P l.toArray Q' (l.drop n) a' w') fuel listed a → wpAny P md l.toArray Q' fuel listed a w
  | 0, listed, a, w, hs, htl, _, _, h => by
    have h0 := h.1
    rw [ready_dulled] at h0
    exact absurd h0 (ready_some2 hT hs n hn (htl n (Nat.le_refl _) hn))
  | fuel + 1, listed, a, w, hs, htl, hcl, hC, h => by
    refine ⟨fun h0 => absurd h0 (ready_some2 hT hs n hn (htl n (Nat.le_refl _) hn)), fun i hi => ?_⟩
    rcases Nat.lt_or_ge i n with hin | hin
    · have h2 := h.2 i (by rw [ready_dulled]; exact hi)
      obtain ⟨_, o, ho, _⟩ := mem_ready.1 hi
      have ho' : l[i]? = some o := by rwa [List.getElem?_toArray] at ho
      have hod : (dulled l n).toArray[i]? = some o := by rw [List.getElem?_toArray, dulled_lt hin]; exact ho'
      have hq : qOp P l.toArray C i (wpAnyQ P md (dulled l n).toArray C (fun a' => ∀ w', C w' → wpList P l.toArray Q' (l.drop n) a' w') fuel (listed.setIfInBounds i true)) a := by
        unfold qOp at h2 ⊢
        simp only [hod] at h2
        simp only [ho]
        have hw : Region.wanted o (yielded (dulled l n).toArray a.tmps) = Region.wanted o (yielded l.toArray a.tmps) := by
          unfold Region.wanted
          cases hg : o.guard with
          | none => rfl
          | some p =>
            obtain ⟨j, b⟩ := p
            simp only
            rw [yielded_dulled ((tail_edge2 hT ho').2 hin j b hg)]
        rw [hw] at h2
        exact h2
      exact wpOp_of_qOp hC (fun a' w' hC' hh => head_run2 hT hn fuel _ a' w' (by simp [hs]) (fun t ht htt => by rw [getD_set_ne true (by omega)]; exact htl t ht htt) (hcl.next hi) hC' hh) hq
    · have hil : i < l.length := by
        obtain ⟨_, o, ho, _⟩ := mem_ready.1 hi
        rw [List.getElem?_toArray] at ho
        exact (List.getElem?_eq_some_iff.1 ho).1
      have hin' : i = n := by
        rcases Nat.lt_or_ge n i with h1 | h1
        · have h2 := waits_spec (tail_chain2 hT hil h1) hi
          have h3 := htl (i - 1) (by omega) (by omega)
          rw [getD_flip (by rw [hs]; omega), h2] at h3
          cases h3
        · omega
      subst hin'
      have hA : AtTail l i listed := ⟨hs, fun j hj => hcl.all hT hil hi (i - j) j (by omega) hj, htl⟩
      have hr := tail_run2 (Q' := Q') hT (fuel + 1) i listed a (Nat.le_refl _) (by omega) hA h
      exact (hr.2 a w (hr.1 w hC)).2 i hi

theorem wpQuiet_ops2 {l : List Oper} {n : Nat} (hT : tailB2 md l n = true) {Q : Act → Prop} : ∀ (r : List Oper) (k : Nat) (a : Act), (∀ j, r[j]? = if j + k < n then l[j + k]? else none) → wpQuiet P l.toArray C Q r a → wpQuiet P (dulled l n).toArray C Q r a
  | [], _, _, _, h => h
  | o :: r, k, a, hr, h => by
    have h0 := hr 0
    simp only [List.getElem?_cons_zero, Nat.zero_add] at h0
    have hk : k < n := by
      rcases Nat.lt_or_ge k n with h1 | h1
      · exact h1
      · rw [if_neg (by omega)] at h0; cases h0
    rw [if_pos hk] at h0
    have hw : Region.wanted o (yielded (dulled l n).toArray a.tmps) = Region.wanted o (yielded l.toArray a.tmps) := by
      unfold Region.wanted
      cases hg : o.guard with
      | none => rfl
      | some p =>
        obtain ⟨j, b⟩ := p
        simp only
        rw [yielded_dulled ((tail_edge2 hT h0.symm).2 hk j b hg)]
    have hr' : ∀ j, r[j]? = if j + (k + 1) < n then l[j + (k + 1)]? else none := fun j => by
      have := hr (j + 1)
      simpa [Nat.add_assoc, Nat.add_comm 1 k] using this
    simp only [wpQuiet] at h ⊢
    rw [hw]
    split
    · rename_i hw'
      rw [if_pos hw'] at h
      obtain ⟨v, h1, h2⟩ := h
      exact ⟨v, h1, wpQuiet_ops2 hT r (k + 1) _ hr' h2⟩
    · rename_i hw'
      rw [if_neg hw'] at h
      exact wpQuiet_ops2 hT r (k + 1) _ hr' h

theorem wp_region_tail2 {id : Nat} {Q : Exit → Act → World → Prop} {a : Act} {w : World} {l : List Oper} (n : Nat) (hm : P.follows .mixedOrders = true) (hB : (Region.lexB .any (dulled l n).toArray && tailB2 .any l n && decide (n < l.length)) = true) (hC : C { w with drawn := w.drawn + 1 })
    (h : wpQuiet P l.toArray C (fun a' => ∀ w', C w' → wpList P l.toArray Q (l.drop n) a' w') (l.take n) a) : (Code.region id l.toArray true).wp P Q a w := by
  simp only [Bool.and_eq_true, decide_eq_true_eq] at hB
  obtain ⟨⟨hL, hT⟩, hn⟩ := hB
  simp only [Region.lexB, Bool.and_eq_true] at hL
  refine wp_region_any hm ?_
  have h1 : wpQuiet P (dulled l n).toArray C (fun a' => ∀ w', C w' → wpList P l.toArray Q (l.drop n) a' w') (dulled l n) a := by
    refine wpQuiet_append _ _ _ ?_
    refine wpQuiet_ops2 hT (l.take n) 0 a (fun j => by simp [List.getElem?_take]) ?_
    refine wpQuiet_mono (fun a' h' => wpQuiet_dull _ a' h') _ _ h
  have h2 := wpAnyQ_lex (P := P) (C := C) (md := .any) hL.1 (dulled l n) 0 (Array.replicate (dulled l n).toArray.size false) a (by simp) (by simpa using hL.2) h1
  have h3 := head_run2 hT hn (Q' := Q) _ _ a { w with drawn := w.drawn + 1 } (by simp [dulled_len]) (fun t _ ht => by simp [dulled_len, ht]) (fun t j ht _ => by exfalso; simp [Array.getD] at ht) hC h2
  simpa [dulled_len] using h3
end

/-- the same in the worlds that go on from w -/
theorem wp_region_overT2 {P : Program} {id : Nat} {Q : Exit → Act → World → Prop} {a : Act} {w : World} {l : List Oper} (n : Nat) (hm : P.follows .mixedOrders = true) (hB : (Region.lexB .any (dulled l n).toArray && tailB2 .any l n && decide (n < l.length)) = true)
    (h : wpQuiet P l.toArray (fun w' => ∃ X, w' = over w X) (fun a' => ∀ w', Below w.heap.size w w' → wpList P l.toArray Q (l.drop n) a' w') (l.take n) a) : (Code.region id l.toArray true).wp P Q a w := by
  refine wp_region_tail2 (C := fun w' => ∃ X, w' = over w X) n hm hB ⟨w.drew, over_of_below (Below.refl _ _).drew⟩ ?_
  have e : (fun a' : Act => ∀ w', Below w.heap.size w w' → wpList P l.toArray Q (l.drop n) a' w') = (fun a' => ∀ w', (∃ X, w' = over w X) → wpList P l.toArray Q (l.drop n) a' w') := by
    funext a'
    apply propext
    constructor
    · rintro g w' ⟨X, rfl⟩; exact g _ (over_below w X)
    · intro g w' hb; exact g w' ⟨w', over_of_below hb⟩
  rw [e] at h
  exact h
end Go.Proofs.YtinjdcefagaaeaaGreatDoor

namespace Go.Proofs.YtinjdcefagaaeaaGreatDoor
open Go.RowKit

/-! A drawn region: a quiet head, one operation that waits for it (a call that turns memory, say), and a rest that is quiet in the one world which that operation left. -/

section
variable {P : Program} {md : Region.Mode} {C : World → Prop}
/-- the listing with all before k listed -/
def lstK (len k : Nat) : Array Bool := (List.replicate k true ++ List.replicate (len - k) false).toArray
/-- every edge that binds leads back; guards of the head lie in the head; each of the head is waited for by a later one up to operation n; each of the rest waits for an earlier one from n on; the rest may be walked in the order of the text -/
def midB (md : Region.Mode) (l : List Oper) (n : Nat) : Bool :=
  ((List.range l.length).all fun i =>
    (match l[i]? with
      | some o => o.after.all (fun e => !Region.binds md e || decide (e.on < i)) && (decide (n ≤ i) || match o.guard with | none => true | some (j, _) => decide (j < n))
      | none => true) &&
    (decide (i ≤ n) || (List.range i).any (fun j => decide (n ≤ j) && waitsB md l i j))) &&
  ((List.range n).all (fun j => (List.range (n + 1)).any (fun t => decide (j < t) && waitsB md l t j))) &&
  Region.lexFrom md l.toArray (l.length - (n + 1)) (n + 1) (lstK l.length (n + 1))

theorem AtTail.eq {l : List Oper} {k : Nat} {listed : Array Bool} (h : AtTail l k listed) (hk : k ≤ l.length) : listed = lstK l.length k := by
  apply Array.ext
  · simp [lstK, h.size]; omega
  · intro i h1 h2
    have hi : i < l.length := by rw [← h.size]; exact h1
    by_cases hik : i < k
    · have := h.low i hik
      simp [h1] at this
      simp [lstK, this, hik]
    · have := h.high i (by omega) hi
      simp [h1] at this
      simp [lstK, this, List.getElem_append, hik]
theorem mid_edge {l : List Oper} {n i : Nat} {o : Oper} (h : midB md l n = true) (hi : l[i]? = some o) : (∀ e ∈ o.after, Region.binds md e = true → e.on < i) ∧ (i < n → ∀ j b, o.guard = some (j, b) → j < n) := by
  have hlt : i < l.length := (List.getElem?_eq_some_iff.1 hi).1
  simp only [midB, Bool.and_eq_true] at h
  have h1 := List.all_eq_true.1 h.1.1 i (List.mem_range.2 hlt)
  simp only [hi, Bool.and_eq_true] at h1
  refine ⟨fun e he hb => ?_, fun hin j b hg => ?_⟩
  · have := Array.all_eq_true'.1 h1.1.1 e he
    rw [hb] at this
    simpa using this
  · have h2 := h1.1.2
    rw [hg] at h2
    simp at h2
    omega
theorem mid_later {l : List Oper} {n i : Nat} (h : midB md l n = true) (hi : i < l.length) (hn : n < i) : ∃ j, n ≤ j ∧ j < i ∧ waitsB md l i j = true := by
  simp only [midB, Bool.and_eq_true] at h
  have h1 := List.all_eq_true.1 h.1.1 i (List.mem_range.2 hi)
  simp only [Bool.and_eq_true] at h1
  have h2 := h1.2
  rw [decide_eq_false (by omega), Bool.false_or] at h2
  obtain ⟨j, hj, h3⟩ := List.any_eq_true.1 h2
  simp only [Bool.and_eq_true, decide_eq_true_eq] at h3
  exact ⟨j, h3.1, List.mem_range.1 hj, h3.2⟩
theorem mid_first {l : List Oper} {n j : Nat} (h : midB md l n = true) (hj : j < n) : ∃ t, j < t ∧ t ≤ n ∧ waitsB md l t j = true := by
  simp only [midB, Bool.and_eq_true] at h
  have h2 := List.all_eq_true.1 h.1.2 j (List.mem_range.2 hj)
  obtain ⟨t, ht, h3⟩ := List.any_eq_true.1 h2
  simp only [Bool.and_eq_true, decide_eq_true_eq] at h3
  exact ⟨t, h3.1, by have := List.mem_range.1 ht; omega, h3.2⟩
theorem ClosedL.mid {l : List Oper} {n : Nat} {listed : Array Bool} (h : ClosedL md l listed) (hT : midB md l n = true) (hi : n ∈ Region.ready md l.toArray listed) : ∀ d j, j + d = n → j < n → listed.getD j false = true := by
  intro d
  induction d using Nat.strongRecOn with
  | _ d ih =>
    intro j hd hj
    obtain ⟨t, h1, h2, h3⟩ := mid_first hT hj
    by_cases htn : t = n
    · subst htn; exact waits_spec h3 hi
    · exact h t j (ih (n - t) (by omega) t (by omega) (by omega)) h3
theorem mid_some {l : List Oper} {n : Nat} (hT : midB md l n = true) {listed : Array Bool} (hs : listed.size = l.length) : ∀ k, k < l.length → listed.getD k true = false → Region.ready md l.toArray listed ≠ [] := by
  intro k
  induction k using Nat.strongRecOn with
  | _ k ih =>
    intro hk hun h0
    have hok : l[k]? = some l[k] := List.getElem?_eq_getElem hk
    by_cases hall : ∀ e ∈ l[k].after, Region.binds md e = true → listed.getD e.on false = true
    · have : k ∈ Region.ready md l.toArray listed := mem_ready.2 ⟨hun, l[k], by rw [List.getElem?_toArray]; exact hok, hall⟩
      rw [h0] at this
      cases this
    · have ⟨e, he⟩ : ∃ e, ¬ (e ∈ l[k].after → Region.binds md e = true → listed.getD e.on false = true) := Classical.not_forall.1 hall
      have hm : e ∈ l[k].after := Classical.byContradiction fun h => he (fun h' => absurd h' h)
      have hbi : Region.binds md e = true := Classical.byContradiction fun h => he (fun _ h' => absurd h' h)
      have hlt := (mid_edge hT hok).1 e hm hbi
      have hf : listed.getD e.on false = false := by
        cases hh : listed.getD e.on false with
        | false => rfl
        | true => exact absurd (fun _ _ => hh) he
      exact ih e.on hlt (by omega) (by rw [getD_flip (by omega)]; exact hf) h0
theorem AtTail.readyM {l : List Oper} {n k : Nat} {listed : Array Bool} (hT : midB md l n = true) (h : AtTail l k listed) (hk : k < l.length) : k ∈ Region.ready md l.toArray listed := by
  refine mem_ready.2 ⟨h.high k (Nat.le_refl _) hk, l[k], by rw [List.getElem?_toArray]; exact List.getElem?_eq_getElem hk, fun e he hb => h.low _ ?_⟩
  exact (mid_edge hT (List.getElem?_eq_getElem hk)).1 e he hb
theorem wpAnyQ_more {ops : Array Oper} {Q : Act → Prop} (d : Nat) : ∀ (f : Nat) (listed : Array Bool) (a : Act), wpAnyQ P md ops C Q f listed a → wpAnyQ P md ops C Q (f + d) listed a
  | 0, listed, a, h => by
    rw [Nat.zero_add]
    cases d with
    | zero => exact h
    | succ d => exact ⟨fun _ => h.2, fun i hi => by rw [h.1] at hi; cases hi⟩
  | f + 1, listed, a, h => by
    rw [show f + 1 + d = (f + d) + 1 by omega]
    exact ⟨h.1, fun i hi => qOp_mono (fun a' h' => wpAnyQ_more d f _ a' h') (h.2 i hi)⟩
theorem mid_fuel {l : List Oper} {n : Nat} (hT : midB md l n = true) {Q : Act → Prop} : ∀ (fuel k : Nat) (listed : Array Bool) (a : Act), n ≤ k → k ≤ l.length → AtTail l k listed →
    wpAnyQ P md (dulled l n).toArray C Q fuel listed a → l.length ≤ k + fuel ∧ Q a
  | 0, k, listed, a, hn, hk, hA, h => by
    have h0 := h.1
    rw [ready_dulled] at h0
    refine ⟨?_, h.2⟩
    rcases Nat.lt_or_ge k l.length with hlt | hge
    · have := hA.readyM hT hlt
      rw [h0] at this
      cases this
    · omega
  | fuel + 1, k, listed, a, hn, hk, hA, h => by
    rcases Nat.lt_or_ge k l.length with hlt | hge
    · have hr := hA.readyM hT hlt
      have h2 := h.2 k (by rw [ready_dulled]; exact hr)
      have hok : (dulled l n).toArray[k]? = some (dull l[k]) := by
        rw [List.getElem?_toArray, dulled_ge hn, List.getElem?_eq_getElem hlt]; rfl
      unfold qOp at h2
      simp only [hok] at h2
      have hw : Region.wanted (dull l[k]) (yielded (dulled l n).toArray a.tmps) = true := rfl
      rw [if_pos hw] at h2
      obtain ⟨v, _, h3⟩ := h2
      have ih := mid_fuel hT fuel (k + 1) _ a (by omega) (by omega) (hA.next hlt) h3
      exact ⟨by omega, ih.2⟩
    · have h0 : Region.ready md l.toArray listed = [] := by
        cases hh : Region.ready md l.toArray listed with
        | nil => rfl
        | cons i rest =>
          have hi : i ∈ Region.ready md l.toArray listed := by rw [hh]; exact List.mem_cons_self
          obtain ⟨h0, o, ho, _⟩ := mem_ready.1 hi
          rw [List.getElem?_toArray] at ho
          have hil := (List.getElem?_eq_some_iff.1 ho).1
          rw [getD_flip (by rw [hA.size]; exact hil), hA.low i (by omega)] at h0
          cases h0
      exact ⟨by omega, h.1 (by rw [ready_dulled]; exact h0)⟩
/-- what stands behind operation n -/
def midQ (P : Program) (l : List Oper) (n : Nat) (Q' : Exit → Act → World → Prop) : Exit → Act → World → Prop
  | .normal, a, w => wpQuiet P l.toArray (fun v => v = w) (fun a' => Q' .normal a' w) (l.drop (n + 1)) a
  | ex, a, w => Q' ex a w
theorem letsOut_mid {l : List Oper} {n : Nat} {Q' : Exit → Act → World → Prop} (h : LetsOut (midQ P l n Q')) : LetsOut Q' := h
theorem Oper.wp_mid {o : Oper} {a : Act} {w : World} {l : List Oper} {n : Nat} {Q' : Exit → Act → World → Prop} {K K' : Act → World → Prop} (h : ∀ a w, K a w → K' a w)
    (hh : o.wp P a w K (midQ P l n Q')) : o.wp P a w K' Q' := by
  unfold Oper.wp at *
  generalize (execOp a.eval o).run P w = r at *
  cases r with
  | ok n w' =>
    cases n <;> simp only [Oper.upon] at hh ⊢ <;>
      first
        | exact h _ _ hh
        | exact Calls.mono hh (fun e w'' he => by cases e <;> first | exact h _ _ he | exact he)
        | exact Rows.mono hh (fun _ _ he => h _ _ he)
  | halt x w' => cases x <;> simp only [Oper.upon] at hh ⊢ <;> exact hh
theorem head_run3 {l : List Oper} {n : Nat} (hT : midB md l n = true) (hS : Region.noSelect l.toArray = true) (hn : n < l.length) {Q' : Exit → Act → World → Prop} : ∀ (fuel : Nat) (listed : Array Bool) (a : Act) (w : World), listed.size = l.length → (∀ t, n ≤ t → t < l.length → listed.getD t true = false) → ClosedL md l listed → C w →
    wpAnyQ P md (dulled l n).toArray C (fun a' => ∀ w', C w' → wpList P l.toArray (midQ P l n Q') [l[n]] a' w') fuel listed a → wpAny P md l.toArray Q' fuel listed a w
  | 0, listed, a, w, hs, htl, _, _, h => by
    have h0 := h.1
    rw [ready_dulled] at h0
    exact absurd h0 (mid_some hT hs n hn (htl n (Nat.le_refl _) hn))
  | fuel + 1, listed, a, w, hs, htl, hcl, hC, h => by
    refine ⟨fun h0 => absurd h0 (mid_some hT hs n hn (htl n (Nat.le_refl _) hn)), fun i hi => ?_⟩
    rcases Nat.lt_or_ge i n with hin | hin
    · have h2 := h.2 i (by rw [ready_dulled]; exact hi)
      obtain ⟨_, o, ho, _⟩ := mem_ready.1 hi
      have ho' : l[i]? = some o := by rwa [List.getElem?_toArray] at ho
      have hod : (dulled l n).toArray[i]? = some o := by rw [List.getElem?_toArray, dulled_lt hin]; exact ho'
      have hq : qOp P l.toArray C i (wpAnyQ P md (dulled l n).toArray C (fun a' => ∀ w', C w' → wpList P l.toArray (midQ P l n Q') [l[n]] a' w') fuel (listed.setIfInBounds i true)) a := by
        unfold qOp at h2 ⊢
        simp only [hod] at h2
        simp only [ho]
        have hw : Region.wanted o (yielded (dulled l n).toArray a.tmps) = Region.wanted o (yielded l.toArray a.tmps) := by
          unfold Region.wanted
          cases hg : o.guard with
          | none => rfl
          | some p =>
            obtain ⟨j, b⟩ := p
            simp only
            rw [yielded_dulled ((mid_edge hT ho').2 hin j b hg)]
        rw [hw] at h2
        exact h2
      exact wpOp_of_qOp hC (fun a' w' hC' hh => head_run3 hT hS hn fuel _ a' w' (by simp [hs]) (fun t ht htt => by rw [getD_set_ne true (by omega)]; exact htl t ht htt) (hcl.next hi) hC' hh) hq
    · have hil : i < l.length := by
        obtain ⟨_, o, ho, _⟩ := mem_ready.1 hi
        rw [List.getElem?_toArray] at ho
        exact (List.getElem?_eq_some_iff.1 ho).1
      have hin' : i = n := by
        rcases Nat.lt_or_ge n i with h1 | h1
        · obtain ⟨j, hj1, hj2, hj3⟩ := mid_later hT hil h1
          have h2 := waits_spec hj3 hi
          have h3 := htl j hj1 (by omega)
          rw [getD_flip (by rw [hs]; omega), h2] at h3
          cases h3
        · omega
      subst hin'
      have hA : AtTail l i listed := ⟨hs, fun j hj => hcl.mid hT hi (i - j) j (by omega) hj, htl⟩
      obtain ⟨hf, hq⟩ := mid_fuel hT (fuel + 1) i listed a (Nat.le_refl _) (by omega) hA h
      have hq2 := hq w hC
      have hA2 := hA.next hil
      have heq := hA2.eq (by omega)
      have hlex : Region.lexFrom md l.toArray (l.length - (i + 1)) (i + 1) (lstK l.length (i + 1)) = true := by
        simp only [midB, Bool.and_eq_true] at hT
        exact hT.2
      have key : ∀ a' w', wpQuiet P l.toArray (fun v => v = w') (fun a3 => Q' .normal a3 w') (l.drop (i + 1)) a' → wpAny P md l.toArray Q' fuel (listed.setIfInBounds i true) a' w' := by
        intro a' w' hw
        rw [heq]
        have h1 := wpAnyQ_lex (P := P) (C := fun v => v = w') (md := md) hS (l.drop (i + 1)) (i + 1) (lstK l.length (i + 1)) a' (fun j => by simp) (by simpa using hlex) hw
        have h2 := wpAnyQ_more (fuel - (l.drop (i + 1)).length) _ _ _ h1
        rw [show (l.drop (i + 1)).length + (fuel - (l.drop (i + 1)).length) = fuel by simp; omega] at h2
        exact wpAny_of_quiet (C := fun v => v = w') (fun a3 w3 e h => by subst e; exact h) _ _ _ _ rfl h2
      have hok' : l.toArray[i]? = some l[i] := by rw [List.getElem?_toArray]; exact List.getElem?_eq_getElem hil
      unfold wpList at hq2
      unfold wpOp
      simp only [hok']
      split
      · rename_i hwant
        rw [if_pos hwant] at hq2
        rcases hq2 with hq2 | hq2
        · exact .inl (Oper.wp_mid (fun a w hh => key a w hh) hq2)
        · exact .inr ⟨hq2.1, letsOut_mid hq2.2⟩
      · rename_i hwant
        rw [if_neg hwant] at hq2
        exact key _ _ hq2
theorem wpQuiet_ops3 {l : List Oper} {n : Nat} (hT : midB md l n = true) {Q : Act → Prop} : ∀ (r : List Oper) (k : Nat) (a : Act), (∀ j, r[j]? = if j + k < n then l[j + k]? else none) → wpQuiet P l.toArray C Q r a → wpQuiet P (dulled l n).toArray C Q r a
  | [], _, _, _, h => h
  | o :: r, k, a, hr, h => by
    have h0 := hr 0
    simp only [List.getElem?_cons_zero, Nat.zero_add] at h0
    have hk : k < n := by
      rcases Nat.lt_or_ge k n with h1 | h1
      · exact h1
      · rw [if_neg (by omega)] at h0; cases h0
    rw [if_pos hk] at h0
    have hw : Region.wanted o (yielded (dulled l n).toArray a.tmps) = Region.wanted o (yielded l.toArray a.tmps) := by
      unfold Region.wanted
      cases hg : o.guard with
      | none => rfl
      | some p =>
        obtain ⟨j, b⟩ := p
        simp only
        rw [yielded_dulled ((mid_edge hT h0.symm).2 hk j b hg)]
    have hr' : ∀ j, r[j]? = if j + (k + 1) < n then l[j + (k + 1)]? else none := fun j => by
      have := hr (j + 1)
      simpa [Nat.add_assoc, Nat.add_comm 1 k] using this
    simp only [wpQuiet] at h ⊢
    rw [hw]
    split
    · rename_i hw'
      rw [if_pos hw'] at h
      obtain ⟨v, h1, h2⟩ := h
      exact ⟨v, h1, wpQuiet_ops3 hT r (k + 1) _ hr' h2⟩
    · rename_i hw'
      rw [if_neg hw'] at h
      exact wpQuiet_ops3 hT r (k + 1) _ hr' h
theorem wp_region_mid {id : Nat} {Q : Exit → Act → World → Prop} {a : Act} {w : World} {l : List Oper} (n : Nat) (o : Oper) (ho : l[n]? = some o) (hm : P.follows .mixedOrders = true) (hB : (Region.lexB .any (dulled l n).toArray && midB .any l n && Region.noSelect l.toArray) = true) (hC : C { w with drawn := w.drawn + 1 })
    (h : wpQuiet P l.toArray C (fun a' => ∀ w', C w' → wpList P l.toArray (midQ P l n Q) [o] a' w') (l.take n) a) : (Code.region id l.toArray true).wp P Q a w := by
  simp only [Bool.and_eq_true] at hB
  obtain ⟨⟨hL, hT⟩, hS⟩ := hB
  have hn : n < l.length := (List.getElem?_eq_some_iff.1 ho).1
  obtain rfl : l[n] = o := (List.getElem?_eq_some_iff.1 ho).2
  simp only [Region.lexB, Bool.and_eq_true] at hL
  refine wp_region_any hm ?_
  have h1 : wpQuiet P (dulled l n).toArray C (fun a' => ∀ w', C w' → wpList P l.toArray (midQ P l n Q) [l[n]] a' w') (dulled l n) a := by
    refine wpQuiet_append _ _ _ ?_
    refine wpQuiet_ops3 hT (l.take n) 0 a (fun j => by simp [List.getElem?_take]) ?_
    refine wpQuiet_mono (fun a' h' => wpQuiet_dull _ a' h') _ _ h
  have h2 := wpAnyQ_lex (P := P) (C := C) (md := .any) hL.1 (dulled l n) 0 (Array.replicate (dulled l n).toArray.size false) a (by simp) (by simpa using hL.2) h1
  have h3 := head_run3 hT hS hn (Q' := Q) _ _ a { w with drawn := w.drawn + 1 } (by simp [dulled_len]) (fun t _ ht => by simp [dulled_len, ht]) (fun t j ht _ => by exfalso; simp [Array.getD] at ht) hC h2
  simpa [dulled_len] using h3
end
/-- the same in the worlds that go on from w -/
theorem wp_region_overM {P : Program} {id : Nat} {Q : Exit → Act → World → Prop} {a : Act} {w : World} {l : List Oper} (n : Nat) (o : Oper) (ho : l[n]? = some o) (hm : P.follows .mixedOrders = true) (hB : (Region.lexB .any (dulled l n).toArray && midB .any l n && Region.noSelect l.toArray) = true)
    (h : wpQuiet P l.toArray (fun w' => ∃ X, w' = over w X) (fun a' => ∀ w', Below w.heap.size w w' → wpList P l.toArray (midQ P l n Q) [o] a' w') (l.take n) a) : (Code.region id l.toArray true).wp P Q a w := by
  refine wp_region_mid (C := fun w' => ∃ X, w' = over w X) n o ho hm hB ⟨w.drew, over_of_below (Below.refl _ _).drew⟩ ?_
  have e : (fun a' : Act => ∀ w', Below w.heap.size w w' → wpList P l.toArray (midQ P l n Q) [o] a' w') = (fun a' => ∀ w', (∃ X, w' = over w X) → wpList P l.toArray (midQ P l n Q) [o] a' w') := by
    funext a'
    apply propext
    constructor
    · rintro g w' ⟨X, rfl⟩; exact g _ (over_below w X)
    · intro g w' hb; exact g w' ⟨w', over_of_below hb⟩
  rw [e] at h
  exact h
end Go.Proofs.YtinjdcefagaaeaaGreatDoor

namespace Go.Proofs.YtinjdcefagaaeaaGreatDoor
open Go.RowKit

theorem flat_len {α : Type} (f : α → List Value) (k : Nat) (hf : ∀ x, (f x).length = k) (xs : List α) : (xs.flatMap f).length = xs.length * k := by
  induction xs with
  | nil => simp
  | cons x xs ih => simp [List.flatMap_cons, ih, hf, Nat.add_mul, Nat.add_comm]
theorem flat_get {α : Type} (f : α → List Value) (k : Nat) (hf : ∀ x, (f x).length = k) (xs : List α) (i : Nat) (h : i < xs.length) (j : Nat) (hj : j < k) : (xs.flatMap f)[i * k + j]? = (f xs[i])[j]? := by
  induction xs generalizing i with
  | nil => simp at h
  | cons x xs ih =>
    rw [List.flatMap_cons]
    cases i with
    | zero => rw [List.getElem?_append_left (by rw [hf]; omega)]; simp
    | succ i =>
      rw [List.getElem?_append_right (by rw [hf, Nat.add_mul]; omega), hf]
      have := ih i (by simpa using h)
      rw [show (i + 1) * k + j - k = i * k + j by rw [Nat.add_mul]; omega]
      simpa using this

/-- what is owned is read -/
theorem Rd.of_own {w : World} {base : Nat} {e : TypeId} {sz n c : Nat} {A : Option Addr} {xs : List Value} (h : w.ownsRow base e sz (.slice A n c) n xs) : Rd w w.heap.size sz A n xs := by
  refine ⟨h.1, fun hn => ?_⟩
  obtain ⟨g, cap, hv, _, hlt⟩ := h.form hn
  have hA : A = some ⟨g, 0, none⟩ := by injection hv
  subst hA
  refine ⟨g, 0, rfl, hlt, fun j u hu => ?_⟩
  have := h.cells (g := g) rfl j u hu
  rwa [show (⟨g, 0, none⟩ : Addr).add j = ⟨g, 0 + j, none⟩ by unfold Addr.add; split <;> simp_all] at this
theorem own_slice {w : World} {base : Nat} {e : TypeId} {sz n : Nat} {v : Value} {xs : List Value} (h : w.ownsRow base e sz v n xs) : ∃ A c, v = .slice A n c ∧ n ≤ c ∧ c ≤ maxLen := by
  rcases h.2 with ⟨rfl, rfl⟩ | ⟨g, cap, cur, rfl, _, _, hnc, hm, _⟩
  · exact ⟨_, _, rfl, Nat.le_refl _, by simp [maxLen]⟩
  · exact ⟨_, _, rfl, hnc, hm⟩
theorem own_block {w : World} {base : Nat} {e : TypeId} {sz n : Nat} {v : Value} {xs : List Value} (h : w.ownsRow base e sz v n xs) : ∀ g, v.ownBlock = some g → base ≤ g ∧ g < w.heap.size := by
  intro g hg
  rcases h.2 with ⟨rfl, rfl⟩ | ⟨g', cap, cur, rfl, hb, hh, _⟩
  · simp [Value.ownBlock] at hg
  · simp [Value.ownBlock] at hg
    subst hg
    exact ⟨hb, (Array.getElem?_eq_some_iff.1 hh).1⟩
theorem own_below {w w' : World} {base B : Nat} {e : TypeId} {sz n : Nat} {v : Value} {xs : List Value} (h : w.ownsRow base e sz v n xs) (hb : Below B w w') (hB : ∀ g, v.ownBlock = some g → g < B) : w'.ownsRow base e sz v n xs := by
  refine ⟨h.1, ?_⟩
  rcases h.2 with h2 | ⟨g, cap, cur, rfl, hbg, hh, r⟩
  · exact .inl h2
  · exact .inr ⟨g, cap, cur, rfl, hbg, by rw [hb.block g (hB g rfl)]; exact hh, r⟩
theorem own_grow {w w' : World} {base : Nat} {e : TypeId} {sz n : Nat} {v : Value} {xs : List Value} (h : w.ownsRow base e sz v n xs) (hb : Below w.heap.size w w') : w'.ownsRow base e sz v n xs :=
  own_below h hb fun g hg => (own_block h g hg).2
theorem own_base {w : World} {base base' : Nat} {e : TypeId} {sz n : Nat} {v : Value} {xs : List Value} (h : w.ownsRow base e sz v n xs) (hb : base' ≤ base) : w.ownsRow base' e sz v n xs := by
  refine ⟨h.1, ?_⟩
  rcases h.2 with h2 | ⟨g, cap, cur, rfl, hbg, r⟩
  · exact .inl h2
  · exact .inr ⟨g, cap, cur, rfl, by omega, r⟩
theorem own_turn {w w' : World} {base b : Nat} {e : TypeId} {sz n : Nat} {v : Value} {xs : List Value} (h : w.ownsRow base e sz v n xs) (ht : Turn b w w') (hb : b < base) : w'.ownsRow base e sz v n xs := by
  refine ⟨h.1, ?_⟩
  rcases h.2 with h2 | ⟨g, cap, cur, rfl, hbg, hh, r⟩
  · exact .inl h2
  · exact .inr ⟨g, cap, cur, rfl, hbg, by rw [ht.block g (by omega)]; exact hh, r⟩
/-- new cells of one element, laid in a block of their own -/
theorem news_new (w : World) (t : TypeId) (l : List Value) : ∀ j u, l[j]? = some u → (w.alloc (.cells l.toArray t)).cell? ((⟨w.heap.size, 0, none⟩ : Addr).add j) = some u := by
  intro j u hu
  rw [show (⟨w.heap.size, 0, none⟩ : Addr).add j = ⟨w.heap.size, j, none⟩ by unfold Addr.add; split <;> simp_all]
  rw [(Blk.new w t l.toArray).cell j]
  simpa using hu
theorem flat_getq {α : Type} (f : α → List Value) (k : Nat) (hk : 0 < k) (hf : ∀ x, (f x).length = k) (xs : List α) (m : Nat) : (xs.flatMap f)[m]? = (xs[m / k]?).bind fun x => (f x)[m % k]? := by
  have hm : m = (m / k) * k + m % k := by rw [Nat.mul_comm]; exact (Nat.div_add_mod m k).symm
  have hr : m % k < k := Nat.mod_lt _ hk
  rcases Nat.lt_or_ge (m / k) xs.length with h | h
  · rw [List.getElem?_eq_getElem h]
    conv => lhs; rw [hm]
    exact flat_get f k hf xs (m / k) h (m % k) hr
  · rw [List.getElem?_eq_none h, List.getElem?_eq_none]
    · rfl
    · rw [flat_len f k hf]
      calc xs.length * k ≤ (m / k) * k := Nat.mul_le_mul_right k h
        _ ≤ m := by rw [Nat.mul_comm]; exact Nat.mul_div_le m k
theorem madeCells_flat {α : Type} (f : α → List Value) (k : Nat) (hk : 0 < k) (hf : ∀ x, (f x).length = k) (x : α) (n : Nat) : (madeCells (f x).toArray (n * k)).toList = (List.replicate n x).flatMap f := by
  apply List.ext_getElem?
  intro m
  rw [flat_getq f k hk hf]
  rcases Nat.lt_or_ge m (n * k) with h | h
  · have h1 : m / k < n := Nat.div_lt_of_lt_mul (by rw [Nat.mul_comm]; exact h)
    have h2 : m % k < k := Nat.mod_lt _ hk
    simp [madeCells, h, h1, hf, h2]
  · have h1 : n ≤ m / k := (Nat.le_div_iff_mul_le hk).2 h
    have h3 : (madeCells (f x).toArray (n * k)).toList.length ≤ m := by simp [size_madeCells, h]
    rw [List.getElem?_eq_none h3, List.getElem?_eq_none (by simp [h1])]
    rfl
theorem flat_set3 {α : Type} (f : α → List Value) (hf : ∀ x, (f x).length = 3) (xs : List α) (i : Nat) (_hi : i < xs.length) (y : α) (a b c : Value) (hy : f y = [a, b, c]) :
    (((xs.flatMap f).set (i * 3) a).set (i * 3 + 1) b).set (i * 3 + 2) c = (xs.set i y).flatMap f := by
  have hl := flat_len f 3 hf xs
  apply List.ext_getElem?
  intro m
  rw [flat_getq f 3 (by omega) hf, List.getElem?_set, List.getElem?_set, List.getElem?_set, flat_getq f 3 (by omega) hf]
  simp only [List.length_set, hl, List.getElem?_set]
  by_cases h : m / 3 = i
  · have h0 : m % 3 = 0 ∨ m % 3 = 1 ∨ m % 3 = 2 := by omega
    subst h
    have e := Nat.div_add_mod m 3
    have hlt : m / 3 < xs.length := _hi
    rcases h0 with h0 | h0 | h0
    · rw [if_neg (by omega), if_neg (by omega), if_pos (by omega), if_pos (by omega)]
      simp [hlt, hy, h0]
    · rw [if_neg (by omega), if_pos (by omega), if_pos (by omega)]
      simp [hlt, hy, h0]
    · rw [if_pos (by omega), if_pos (by omega)]
      simp [hlt, hy, h0]
  · rw [if_neg (by omega), if_neg (by omega), if_neg (by omega), if_neg (by omega)]
theorem rd1 {α : Type} {f : α → Value} {w : World} {B n : Nat} {A : Option Addr} {xs : List α} (h : Rd w B 1 A n (xs.map f)) (j : Nat) (hj : j < xs.length) : ∃ b off, A = some ⟨b, off, none⟩ ∧ b < B ∧ w.cell? ⟨b, off + j, none⟩ = some (f xs[j]) := by
  have hn : n = xs.length := by have := h.1; simp at this; omega
  obtain ⟨b, off, rfl, hb, hc⟩ := h.2 (by omega)
  exact ⟨b, off, rfl, hb, hc j _ (by simp [hj])⟩
theorem own1 {α : Type} {f : α → Value} {w : World} {base n cap g : Nat} {e : TypeId} {xs : List α} (h : w.ownsRow base e 1 (.slice (some ⟨g, 0, none⟩) n cap) n (xs.map f)) (j : Nat) (hj : j < xs.length) : w.cell? ⟨g, j, none⟩ = some (f xs[j]) := by
  have hn : n = xs.length := by have := h.1; simp at this; omega
  rw [h.cellAt j (by omega)]; simp [hj]
theorem own1_set {α : Type} {f : α → Value} {w : World} {base n cap g : Nat} {e : TypeId} {xs : List α} (h : w.ownsRow base e 1 (.slice (some ⟨g, 0, none⟩) n cap) n (xs.map f)) (j : Nat) (y : α) :
    (w.setCell ⟨g, j, none⟩ (f y)).ownsRow base e 1 (.slice (some ⟨g, 0, none⟩) n cap) n ((xs.set j y).map f) := by
  rw [List.map_set]; exact (h.stored j (f y)).1
theorem own1_len {α : Type} {f : α → Value} {w : World} {base n : Nat} {v : Value} {e : TypeId} {xs : List α} (h : w.ownsRow base e 1 v n (xs.map f)) : n = xs.length := by have := h.1; simp at this; omega
/-- a store elsewhere -/
theorem own_far {w : World} {base : Nat} {e : TypeId} {sz n : Nat} {v : Value} {xs : List Value} (h : w.ownsRow base e sz v n xs) {p : Addr} {u : Value} (hp : v.ownBlock ≠ some p.block) : (w.setCell p u).ownsRow base e sz v n xs := by
  refine h.kept (row := some p.block) ⟨rfl, rfl, rfl, by simp [World.setCell], fun k _ hk => Below.heap_setCell _ _ _ _ (by intro e; exact hk (by rw [e]))⟩ (.inr hp)
theorem Rd.far {w : World} {B sz n : Nat} {A : Option Addr} {xs : List Value} (h : Rd w B sz A n xs) {p : Addr} {u : Value} (hp : B ≤ p.block) : Rd (w.setCell p u) B sz A n xs :=
  h.keep fun k hk => Below.heap_setCell _ _ _ _ (by omega)
theorem Rd.grow {w w' : World} {B sz n : Nat} {A : Option Addr} {xs : List Value} (h : Rd w B sz A n xs) (hb : Below B w w') : Rd w' B sz A n xs := h.keep fun k hk => hb.block k hk
theorem madeCells_one {α : Type} (f : α → Value) (x : α) (n : Nat) : (madeCells #[f x] (n * 1)).toList = (List.replicate n x).map f := by
  rw [Nat.mul_one, toList_madeCells_one]; simp
end Go.Proofs.YtinjdcefagaaeaaGreatDoor

namespace Go.Proofs.YtinjdcefagaaeaaGreatDoor
open Go.RowKit
theorem own_cap {w : World} {base : Nat} {e : TypeId} {sz n c : Nat} {A : Option Addr} {xs : List Value} (h : w.ownsRow base e sz (.slice A n c) n xs) : n ≤ c ∧ c ≤ maxLen := by
  obtain ⟨A', c', hv, h1, h2⟩ := own_slice h
  injection hv with _ _ hc
  omega
/-- two rows of different element types lie apart -/
theorem own_ne {w : World} {b1 b2 : Nat} {e1 e2 : TypeId} {s1 s2 n1 n2 : Nat} {v1 v2 : Value} {xs1 xs2 : List Value} (h1 : w.ownsRow b1 e1 s1 v1 n1 xs1) (h2 : w.ownsRow b2 e2 s2 v2 n2 xs2) (hne : e1 ≠ e2) : v1.ownBlock = none ∨ v1.ownBlock ≠ v2.ownBlock := by
  rcases h1.2 with ⟨rfl, _⟩ | ⟨g1, c1, cur1, rfl, _, hh1, _⟩
  · exact .inl rfl
  · right
    intro e
    rcases h2.2 with ⟨rfl, _⟩ | ⟨g2, c2, cur2, rfl, _, hh2, _⟩
    · simp [Value.ownBlock] at e
    · simp [Value.ownBlock] at e
      subst e
      rw [hh1] at hh2
      injection hh2 with hh2
      injection hh2 with _ ht
      exact hne ht
/-- an append to a row of another element type -/
theorem own_app {w w' : World} {b1 b2 : Nat} {e1 e2 : TypeId} {s1 s2 n1 n2 : Nat} {v1 v2 : Value} {xs1 xs2 : List Value} (h1 : w.ownsRow b1 e1 s1 v1 n1 xs1) (h2 : w.ownsRow b2 e2 s2 v2 n2 xs2) (hne : e1 ≠ e2) (hg : w.grownBy w' v2.ownBlock) : w'.ownsRow b1 e1 s1 v1 n1 xs1 :=
  h1.kept hg (own_ne h1 h2 hne)
theorem below_app {B : Nat} {a w w' : World} {base : Nat} {e : TypeId} {s n : Nat} {v : Value} {xs : List Value} (h : Below B a w) (ho : w.ownsRow base e s v n xs) (hb : B ≤ base) (hw : B ≤ w.heap.size) (hg : w.grownBy w' v.ownBlock) : Below B a w' :=
  h.grown hg hw (fun k hk => Nat.le_trans hb (own_block ho k hk).1)
end Go.Proofs.YtinjdcefagaaeaaGreatDoor

namespace Go.Proofs.YtinjdcefagaaeaaGreatDoor
open Go.RowKit
theorem own_nil {w : World} {base : Nat} {e : TypeId} {sz n c : Nat} {xs : List Value} (h : w.ownsRow base e sz (.slice none n c) n xs) : n = 0 ∧ c = 0 := by
  rcases h.2 with ⟨hv, _⟩ | ⟨g, cap, cur, hv, _⟩
  · injection hv with _ h1 h2; exact ⟨h1, h2⟩
  · injection hv with h1; cases h1
theorem grownBy_refl (w : World) (r : Option Nat) : w.grownBy w r := ⟨rfl, rfl, rfl, Nat.le_refl _, fun _ _ _ => rfl⟩
/-- append of a whole slice to one that is nil or the call's own: the source may be nil -/
theorem wpList_append_any {P : Program} {w : World} {ops : Array Oper} {rest : List Oper} {o : Oper} {a : Act} {Q : Exit → Act → World → Prop} (hgd : o.guard = none) (s x : Operand) (t : TypeId)
    (ho : o.op = .call { callee := .builtin .append, args := #[s, x], argTypes := #[t, t] })
    (base : Nat) (e : TypeId) (i : TypeInfo) (z : Value) (size bytes : Nat) (ht : P.underlying t = some (.slice e)) (hi : P.info? e = some i) (hz : i.zero = some z)
    (hsize : i.size = size) (hby : i.bytes = bytes) (hzs : z.cells.size = size) (hsz : 0 < size)
    (v : Value) (n : Nat) (xs : List Value) (hs : a.eval s = v) (hown : w.ownsRow base e size v n xs)
    (ao : Option Addr) (m c B : Nat) (news : List Value) (hx : a.eval x = .slice ao m c) (hnone : ao = none → m = 0 ∧ c = 0) (hr : Rd w B size ao m news) (h1 : ∀ u ∈ news, u.oneCell' = true)
    (h63 : n + m ≤ maxLen) (hbytes : (n + m) * bytes ≤ 140737488355328) (hbase : base ≤ w.heap.size)
    (h : ∀ v' w', w'.ownsRow base e size v' (n + m) (xs ++ news) → w.grownBy w' v.ownBlock → (v'.ownBlock = v.ownBlock ∨ v'.ownBlock = some w.heap.size) → wpList P ops Q rest (a.put o.dst v') w') :
    wpList P ops Q (o :: rest) a w := by
  cases ao with
  | none =>
    obtain ⟨rfl, rfl⟩ := hnone rfl
    have hn : news = [] := List.eq_nil_of_length_eq_zero (by simpa using hr.1)
    subst hn
    exact wpList_append_own_none hgd s x t ho base e i size ht hi v n xs hs hown hx (h v w (by simpa using hown) (grownBy_refl _ _) (.inl rfl))
  | some ad =>
    refine wpList_append_own_at w hgd s x t ho base e i z size bytes ht hi hz hsize hby hzs hsz v n xs hs hown ad m c news hx hr.1 (fun j u hu => ?_) h1 h63 hbytes hbase (fun v' w' h1 h2 _ h4 => h v' w' h1 h2 h4)
    by_cases hm : 0 < m
    · obtain ⟨b, off, e1, _, hc⟩ := hr.2 hm
      injection e1 with e1
      subst e1
      rw [show (⟨b, off, none⟩ : Addr).add j = ⟨b, off + j, none⟩ by unfold Addr.add; split <;> simp_all]
      exact hc j u hu
    · have hl := hr.1
      have : m = 0 := by omega
      subst this
      have hn : news = [] := List.eq_nil_of_length_eq_zero (by simpa using hl)
      subst hn
      simp at hu
end Go.Proofs.YtinjdcefagaaeaaGreatDoor

namespace Go.Proofs.YtinjdcefagaaeaaGreatDoor
open Go.RowKit
theorem cell_app {w w1 : World} {row : Option Nat} (hg : w.grownBy w1 row) {b o : Nat} {u : Value} (hc : w.cell? ⟨b, o, none⟩ = some u) (hne : row ≠ some b) : w1.cell? ⟨b, o, none⟩ = some u := by
  rw [hg.cell_far ⟨b, o, none⟩ (World.block_lt_of_cell? _ _ hc) (fun e => hne e.symm)]
  exact hc
/-- an append of one element in a region that drew -/
theorem below_held {B : Nat} {a w w' : World} {o : Obj} {base : Nat} {e : TypeId} {s n : Nat} {v : Value} {xs : List Value} (h : Below B a w) (ho : w.ownsRow base e s v n xs) (hb : B ≤ base) (hw : B ≤ w.heap.size) (hg : (w.alloc o).drew.grownBy w' v.ownBlock) : Below B a w' :=
  ((h.alloc hw o).drew).grown hg (by simp; omega) (fun k hk => Nat.le_trans hb (own_block ho k hk).1)
end Go.Proofs.YtinjdcefagaaeaaGreatDoor

namespace Go.Proofs.YtinjdcefagaaeaaGreatDoor
open Go.ChangeShapes Go.WideShapes Go.ChangeAt Go.RowKit
end Go.Proofs.YtinjdcefagaaeaaGreatDoor

namespace Go.Proofs.YtinjdcefagaaeaaGreatDoor
open Go.RowKit
section
variable {w : World} {g : Nat} {t : TypeId} {cs : Array Value}
theorem Blk.al (h : Blk w g t cs) (o : Obj) : Blk (w.alloc o) g t cs := h.same (Below.heap_alloc _ _ _ h.lt)
theorem Blk.dr (h : Blk w g t cs) : Blk w.drew g t cs := h
theorem Blk.drN (h : Blk w g t cs) (k : Nat) : Blk (w.drewN k) g t cs := h
theorem Blk.far (h : Blk w g t cs) {b o : Nat} {u : Value} (hb : b ≠ g) : Blk (w.setCell ⟨b, o, none⟩ u) g t cs := h.same (Below.heap_setCell _ _ _ _ (by simpa using fun e => hb e.symm))
theorem Blk.bel {w' : World} (h : Blk w g t cs) (hb : Below w.heap.size w w') : Blk w' g t cs := h.same (hb.block g h.lt)
end
/-- go on in a world of which S alone is known -/
theorem world_gen {P : Program} {c : Code} {Q : Exit → Go.Act → World → Prop} {a : Go.Act} {w : World} (S : World → Prop) (h : S w) (k : ∀ w', S w' → Code.wp P c Q a w') : Code.wp P c Q a w := k w h
end Go.Proofs.YtinjdcefagaaeaaGreatDoor
