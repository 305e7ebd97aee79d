import Derived.Test.YtbmbdenjlbelaaaRows
import Derived.WalkKit
import Derived.WalkSpells
import Derived.WalkLawsBesides
import Derived.WalkSmall
import Derived.Deep.QuietTactic
import Derived.BigQuiet
import Derived.Lib.Hide
namespace Go.Proofs.Ytbmbdenjlbelaaa
open Go.RowKit

theorem ret_bool {a b : Bool} (h : a = b) : Ending.returned (.bool a) = .returned (.bool b) := by rw [h]
theorem ret_int {k : IntKind} {a b : Int} (h : a = b) : Ending.returned (.int k a) = .returned (.int k b) := by rw [h]

/-- Pick -/
def pick (v n : Int) : Int := wrap64 ((IntKind.u64.wrap v).tmod n)
theorem pick_bd (v n : Int) (h1 : 1 ≤ n) (h2 : n ≤ 1000000000) : 0 ≤ pick v n ∧ pick v n < n := by
  have hu : 0 ≤ IntKind.u64.wrap v := by rw [IntKind.wrap_u64]; omega
  have h3 : (IntKind.u64.wrap v).tmod n = IntKind.u64.wrap v % n := Int.tmod_eq_emod_of_nonneg hu
  have h4 := Int.emod_nonneg (IntKind.u64.wrap v) (show n ≠ 0 by omega)
  have h5 := Int.emod_lt_of_pos (IntKind.u64.wrap v) (show 0 < n by omega)
  unfold pick
  rw [h3, IntWalk.wrap64_in _ ⟨by omega, by omega⟩]
  exact ⟨h4, h5⟩

set_option maxHeartbeats 400000 in
theorem pick_any (v n : Int) (w : World) (h1 : 1 ≤ n) (h2 : n ≤ 1000000000) :
    Calls Try.prog 30 #[.int .i64 v, .int .i64 n] w fun e w' => e = .returned (.int .i64 (pick v n)) ∧ w = w' := by
  go_enter Try.func30, Try.ntmps30
  go_wp2
  go_ret
  exact ⟨rfl, rfl⟩

theorem pick_is (v n : Int) (w : World) (h1 : 1 ≤ n) (h2 : n ≤ 1000000000) :
    Calls Try.prog 30 #[.int .i64 v, .int .i64 n] w fun e w' => e = .returned (.int .i64 (pick v n)) ∧ w' = w :=
  (pick_any v n w h1 h2).mono fun _ _ h => ⟨h.1, h.2.symm⟩

theorem bcell {W w1 : World} (hb : Below W.heap.size W w1) : (∀ b o, b < W.heap.size → w1.cell? ⟨b, o, none⟩ = W.cell? ⟨b, o, none⟩) ∧ (∀ b o, b < W.heap.size → w1.frozen? ⟨b, o, none⟩ = W.frozen? ⟨b, o, none⟩) :=
  ⟨fun b o h => hb.cell (p := ⟨b, o, none⟩) h, fun b o h => hb.frozen (p := ⟨b, o, none⟩) h⟩

/-- block g holds just the cells cs -/
def Blk (w : World) (g : Nat) (t : TypeId) (cs : Array Value) : Prop := w.heap[g]? = some (.cells cs t (0, 0))
section
variable {w w' : World} {g : Nat} {t : TypeId} {cs : Array Value}
theorem Blk.lt (h : Blk w g t cs) : g < w.heap.size := by
  rcases Nat.lt_or_ge g w.heap.size with hlt | hge
  · exact hlt
  · unfold Blk at h; rw [Array.getElem?_eq_none hge] at h; cases h
theorem Blk.cell (h : Blk w g t cs) (i : Nat) : w.cell? ⟨g, i, none⟩ = cs[i]? := cell_of_row w g i cs t (0, 0) h
theorem Blk.frozen (h : Blk w g t cs) (i : Nat) : w.frozen? ⟨g, i, none⟩ = false := by
  unfold Blk at h
  simp [World.frozen?, h]
theorem Blk.new (w : World) (t : TypeId) (cs : Array Value) : Blk (w.alloc (.cells cs t)) w.heap.size t cs := heap_alloc_new w _
theorem Blk.set_ (h : Blk w g t cs) (i : Nat) (u : Value) : Blk (w.setCell ⟨g, i, none⟩ u) g t (cs.setIfInBounds i u) := by
  unfold Blk at h ⊢
  simp [World.setCell, Array.getElem?_modify, h]
theorem Blk.same (h : Blk w g t cs) (e : w'.heap[g]? = w.heap[g]?) : Blk w' g t cs := e.trans h
end

/-- a slice of n elements, sz cells each, whose cells are xs; it lies below block B -/
def Rd (w : World) (B sz : Nat) (A : Option Addr) (n : Nat) (xs : List Value) : Prop :=
  xs.length = n * sz ∧ (0 < n → ∃ b off, A = some ⟨b, off, none⟩ ∧ b < B ∧ ∀ j u, xs[j]? = some u → w.cell? ⟨b, off + j, none⟩ = some u)
theorem Rd.keep {w w' : World} {B sz n : Nat} {A : Option Addr} {xs : List Value} (h : Rd w B sz A n xs) (hk : ∀ k, k < B → w'.heap[k]? = w.heap[k]?) : Rd w' B sz A n xs :=
  ⟨h.1, fun hn => by
    obtain ⟨b, off, e, hb, hc⟩ := h.2 hn
    exact ⟨b, off, e, hb, fun j u hu => (World.cell?_of_block (hk b hb)).trans (hc j u hu)⟩⟩
theorem Rd.more {w : World} {B B' sz n : Nat} {A : Option Addr} {xs : List Value} (h : Rd w B sz A n xs) (hB : B ≤ B') : Rd w B' sz A n xs :=
  ⟨h.1, fun hn => by
    obtain ⟨b, off, e, hb, hc⟩ := h.2 hn
    exact ⟨b, off, e, by omega, hc⟩⟩

theorem Rd.empty (w : World) (B sz : Nat) {A : Option Addr} : Rd w B sz A 0 [] := ⟨by simp, fun h => absurd h (by omega)⟩

/-- block b is a Source with the list l of choices left -/
def Src (w : World) (b : Nat) (l : List Int) : Prop :=
  ∃ (A : Option Addr) (n cap i : Nat) (zs : List Int), Blk w b 82 #[.slice A n cap, .int .i64 i] ∧ Rd w b 1 A n (zs.map (Value.int .i64)) ∧ i ≤ n ∧ n ≤ maxLen ∧ l = zs.drop i
/-- only block b may have turned, nothing is new -/
structure Turn (b : Nat) (w w' : World) : Prop where
  os : w'.os = w.os
  tape : w'.tape = w.tape
  output : w'.output = w.output
  size : w'.heap.size = w.heap.size
  block : ∀ k, k ≠ b → w'.heap[k]? = w.heap[k]?
theorem Turn.below {b B : Nat} {a w w' : World} (h : Below B a w) (t : Turn b w w') (hb : B ≤ b) : Below B a w' :=
  h.trans ⟨t.os, t.tape, t.output, by rw [t.size]; exact Nat.le_refl _, fun k hk => t.block k (by omega)⟩

theorem Src.keep {w w' : World} {b : Nat} {l : List Int} (h : Src w b l) (hk : ∀ k, k ≤ b → w'.heap[k]? = w.heap[k]?) : Src w' b l := by
  obtain ⟨A, n, cap, i, zs, h1, h2, h3⟩ := h
  exact ⟨A, n, cap, i, zs, h1.same (hk b (Nat.le_refl _)), h2.keep (fun k hkb => hk k (by omega)), h3⟩
theorem Src.below {w w' : World} {b B : Nat} {l : List Int} (h : Src w b l) (hb : Below B w w') (hB : b < B) : Src w' b l := h.keep fun k hk => hb.block k (by omega)

def nextV (l : List Int) (n : Int) : Int := match l with | [] => 0 | x :: _ => pick x n
theorem nextV_bd (l : List Int) (n : Int) (h1 : 1 ≤ n) (h2 : n ≤ 1000000000) : 0 ≤ nextV l n ∧ nextV l n < n := by
  unfold nextV; split
  · omega
  · exact pick_bd _ _ h1 h2

set_option maxHeartbeats 400000 in
theorem from_any (A : Option Addr) (n cap : Nat) (zs : List Int) (w : World) (h : Rd w w.heap.size 1 A n (zs.map (Value.int .i64))) (hn : n ≤ maxLen) :
    Calls Try.prog 32 #[.slice A n cap] w fun e w' => e = .returned (.pointer (some ⟨w.heap.size, 0, none⟩)) ∧ Src w' w.heap.size zs ∧ Below w.heap.size w w' ∧ w'.heap.size = w.heap.size + 1 := by
  go_enter Try.func32, Try.ntmps32
  go_wp2
  go_ret
  refine ⟨rfl, ⟨A, n, cap, 0, zs, Blk.new _ _ _, h.keep (fun k hk => Below.heap_alloc _ _ _ hk), Nat.zero_le _, hn, by simp⟩, (by repeat (first | exact Below.refl _ _ | assumption | refine Below.drew ?_ | refine Below.alloc ?_ (by simp; try omega) _ | refine Below.setCell ?_ (by simp; try omega) _)), by simp⟩

theorem Turn.drewN {b : Nat} {w w' : World} (h : Turn b w w') (k : Nat) : Turn b w (w'.drewN k) := ⟨h.os, h.tape, h.output, h.size, h.block⟩
theorem Turn.refl (b : Nat) (w : World) : Turn b w w := ⟨rfl, rfl, rfl, rfl, fun _ _ => rfl⟩
theorem Turn.set (b o : Nat) (w : World) (u : Value) : Turn b w (w.setCell ⟨b, o, none⟩ u) :=
  ⟨rfl, rfl, rfl, by simp [World.setCell], fun k hk => Below.heap_setCell _ _ _ _ (by simpa using hk)⟩
theorem Src.drewN {w : World} {b : Nat} {l : List Int} (h : Src w b l) (k : Nat) : Src (w.drewN k) b l := h

set_option maxHeartbeats 400000 in
theorem next_any (b : Nat) (l : List Int) (n : Int) (w : World) (h : Src w b l) (hn1 : 1 ≤ n) (hn2 : n ≤ 1000000000) :
    Calls Try.prog 33 #[.pointer (some ⟨b, 0, none⟩), .int .i64 n] w fun e w' => e = .returned (.int .i64 (nextV l n)) ∧ Src w' b l.tail ∧ Turn b w w' := by
  obtain ⟨A, m, cap, i, zs, h1, h2, h3, hm, rfl⟩ := h
  have c0 := h1.cell 0
  have c1 := h1.cell 1
  have f1 := h1.frozen 1
  simp at c0 c1
  have hl := h2.1
  simp at hl
  have hl' := Lib.hid hl
  have h2' := Lib.hid h2
  have h1' := Lib.hid h1
  unfold maxLen at hm
  by_cases hlt : i < m
  · obtain ⟨bb, off, rfl, hbb, hc⟩ := h2.2 (by omega)
    have ci := hc i (.int .i64 (zs[i]'(by omega))) (by simp [hl, hlt])
    have hx : (zs.drop i) = zs[i]'(by omega) :: zs.drop (i + 1) := List.drop_eq_getElem_cons (by omega)
    generalize zs[i]'(by omega) = x at ci hx
    have hx' := Lib.hid hx
    have hne : bb ≠ b := by omega
    have hi0 : ((i : Int) + 1 - 1).toNat = i := by omega
    clear h1 h2 hl hc hx
    go_enter Try.func33, Try.ntmps33
    go_wp2
    go_quiet (fail)
    go_wp2
    have hb1 := ((h1'.out : Blk _ _ _ _).set_ 1 (.int .i64 ((i : Int) + 1)))
    have hT : Hid (Turn b w ((w.drewN nq).setCell ⟨b, 1, none⟩ (.int .i64 ((i : Int) + 1)))) := Turn.set b 1 w _ |>.drewN nq
    have c0' : ((w.drewN nq).setCell ⟨b, 1, none⟩ (.int .i64 ((i : Int) + 1))).cell? ⟨b, 0, none⟩ = some (.slice (some ⟨bb, off, none⟩) m cap) := hb1.cell 0
    have c1' : ((w.drewN nq).setCell ⟨b, 1, none⟩ (.int .i64 ((i : Int) + 1))).cell? ⟨b, 1, none⟩ = some (.int .i64 ((i : Int) + 1)) := (hb1.cell 1).trans (by simp)
    have ci' : ((w.drewN nq).setCell ⟨b, 1, none⟩ (.int .i64 ((i : Int) + 1))).cell? ⟨bb, off + i, none⟩ = some (.int .i64 x) := (World.cell?_of_block (hT.out.block bb hne)).trans ci
    have hb1' : Hid (Blk ((w.drewN nq).setCell ⟨b, 1, none⟩ (.int .i64 ((i : Int) + 1))) b 82 #[.slice (some ⟨bb, off, none⟩) m cap, .int .i64 ((i : Int) + 1)]) := hb1
    clear hb1 c0 c1 ci f1
    generalize (w.drewN nq).setCell ⟨b, 1, none⟩ (.int .i64 ((i : Int) + 1)) = W at *
    have e1 : IntKind.i64.wrap ((i : Int) + 1 - 1) = i := by rw [IntWalk.i64_in _ (by omega)]; omega
    go_quiet ((go_at_call 30; exact Calls.quiet_of_same (pick_is _ _ _ (by omega) (by omega))))
    go_wp2
    go_ret
    rw [hx'.out]
    refine ⟨rfl, Src.drewN ⟨some ⟨bb, off, none⟩, m, cap, i + 1, zs, hb1'.out, h2'.out.keep (fun k hk => hT.out.block k (by omega)), by omega, hm, rfl⟩ _, hT.out.drewN _⟩
  · clear h1 h2 hl
    go_enter Try.func33, Try.ntmps33
    go_wp2
    go_quiet (fail)
    go_wp2
    go_ret
    have hnil : zs.drop i = [] := by have := hl'.out; simp; omega
    refine ⟨by rw [hnil]; rfl, ?_, (Turn.refl _ _).drewN _⟩
    rw [hnil]
    exact Src.drewN ⟨A, m, cap, i, zs, h1'.out, h2'.out, h3, hm, hnil.symm⟩ _
end Go.Proofs.Ytbmbdenjlbelaaa
