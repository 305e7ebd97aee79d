import Derived.RangeFuncNested
import Derived.RangeFuncBound
import Derived.RangeFuncCalls
import Derived.RangeFuncLeaves
import Derived.Test.YtinjdcefagaaeaaGreatDoorQWo
import Derived.Shelf.Abstract
import Derived.Shelf.RegionOpen
import Derived.WalkKit
import Derived.OwnWalkIn
import Derived.TacticsInMore
import Derived.LoopNIn
import Derived.LoopIn
import Derived.Test.YtinjdcefagaaeaaGreatDoorQSh
set_option linter.unusedVariables false
set_option linter.unusedSimpArgs false
namespace Go.Proofs.YtinjdcefagaaeaaGreatDoor
open Go.RowKit
/-! a range over a function that runs to its end; the iterator keeps state in cells of its own (the blocks Cb) -/
structure Still (n0 : Nat) (Cb : Nat → Prop) (A B : World) : Prop where
  os : B.os = A.os
  tape : B.tape = A.tape
  output : B.output = A.output
  size : A.heap.size ≤ B.heap.size
  same : ∀ (k : Nat) (o : Obj), A.heap[k]? = some o → ¬ Cb k → (k < n0 ∨ o.isCells = true) → B.heap[k]? = some o
theorem Still.alloc (n0 : Nat) (Cb : Nat → Prop) (A : World) (o : Obj) : Still n0 Cb A (A.alloc o) :=
  ⟨rfl, rfl, rfl, by simp, fun k o' hk _ _ => (Below.heap_alloc A o k (Array.getElem?_eq_some_iff.1 hk).1).trans hk⟩
theorem Still.putObj {n0 : Nat} {Cb : Nat → Prop} {A : World} {l : Nat} {o : Obj} (o' : Obj) (hn : n0 ≤ l) (hl : A.heap[l]? = some o) (ho : o.isCells = false) : Still n0 Cb A (A.putObj l o') :=
  ⟨rfl, rfl, rfl, by simp, fun k o2 hk _ hor => by
    by_cases e : k = l
    · subst e
      rw [hl] at hk
      cases hk
      rcases hor with h | h
      · omega
      · rw [ho] at h; cases h
    · exact (World.putObj_heap_other e).trans hk⟩
/-- whatever is none of the iterator's blocks lies as it lay -/
structure Off (Cb : Nat → Prop) (A B : World) : Prop where
  os : B.os = A.os
  tape : B.tape = A.tape
  output : B.output = A.output
  size : A.heap.size ≤ B.heap.size
  same : ∀ (k : Nat) (o : Obj), A.heap[k]? = some o → ¬ Cb k → B.heap[k]? = some o
theorem Off.still {n0 : Nat} {Cb : Nat → Prop} {A B : World} (h : Off Cb A B) : Still n0 Cb A B := ⟨h.os, h.tape, h.output, h.size, fun k o hk hc _ => h.same k o hk hc⟩
theorem Off.refl (Cb : Nat → Prop) (A : World) : Off Cb A A := ⟨rfl, rfl, rfl, Nat.le_refl _, fun _ _ h _ => h⟩
theorem Off.trans {Cb : Nat → Prop} {A B C : World} (h : Off Cb A B) (g : Off Cb B C) : Off Cb A C := ⟨g.os.trans h.os, g.tape.trans h.tape, g.output.trans h.output, Nat.le_trans h.size g.size, fun k o hk hc => g.same k o (h.same k o hk hc) hc⟩
theorem Off.setCell (Cb : Nat → Prop) (A : World) (b i : Nat) (v : Value) (hb : Cb b) : Off Cb A (A.setCell ⟨b, i, none⟩ v) :=
  ⟨rfl, rfl, rfl, by show A.heap.size ≤ (A.heap.modify _ _).size; rw [Array.size_modify]; exact Nat.le_refl _, fun k o hk hc => (Below.heap_setCell A ⟨b, i, none⟩ v k (by rintro rfl; exact hc hb)).trans hk⟩
theorem Off.below (Cb : Nat → Prop) {A B : World} (h : Below A.heap.size A B) : Off Cb A B :=
  ⟨h.os, h.tape, h.output, h.size, fun k _ hk _ => (h.block k (Array.getElem?_eq_some_iff.1 hk).1).trans hk⟩
theorem keeps_below {A B : World} (h : Below A.heap.size A B) : KeepsOthers A B := ⟨h.size, fun k _ hk _ => (h.block k (Array.getElem?_eq_some_iff.1 hk).1).trans hk⟩
def allPost {α : Type} (Cb : Nat → Prop) (I : List α → World → Prop) (xs : List α) (W : World) : Exit → Act → World → Prop
  | .normal, _, W' => KeepsOthers W W' ∧ (∀ k, Cb k → W'.heap[k]? = W.heap[k]?) ∧ I xs W'
  | _, _, _ => False
/-- the iterator's contract: for every invariant that its own blocks do not matter to, it makes a round for each of xs -/
def ItAll {α : Type} (F : Fence) (n : Nat) (P : Program) (gf : Nat) (lb : Array Value) (enc : α → Value) (xs : List α) (Cb : Nat → Prop) (w : World) : Prop :=
  ∀ (l : Nat) (J : List α → World → Prop) (W : World), (∀ s A B, J s A → Off Cb A B → J s B) → (∀ k, Cb k → W.heap[k]? = w.heap[k]?) →
    (∀ pre x rest W1, xs = pre ++ x :: rest → J pre W1 → YieldAt F (n - 1) P l #[enc x] W1 fun e W' => e = .returned (.bool true) ∧ J (pre ++ [x]) W' ∧ (∀ k, Cb k → W'.heap[k]? = W1.heap[k]?)) →
    J [] W → CallsIn F n P gf (#[.func (.yield l) #[] #[]] ++ lb) W fun e W' => (∃ v, e = .returned v) ∧ J xs W'
theorem range_all {F : Fence} {n : Nat} {P : Program} {α : Type} {g : Operand} {ps : Array Tmp} {assign body : Code} {Q : Exit → Act → World → Prop} {a : Act} {w : World}
    (hro : F.round = none) (h1 : 1 ≤ n) {gf : Nat} {lb : Array Value} (hg : a.eval g = .func (.func gf) #[] lb) (hFg : F.fn gf) (eg : ∀ args w, (callFunc gf args).run P w = .ok (.enter gf args) w)
    {enc : α → Value} {xs : List α} {Cb : Nat → Prop} (hit : ItAll F (n - 1) P gf lb enc xs Cb w) (hCb : ∀ k, Cb k → k < w.heap.size) (hps : ps.size = 1)
    (I : List α → World → Prop) (hI : ∀ s A B, I s A → Still w.heap.size Cb A B → I s B) (h0 : I [] w) (a₁ : α → Act)
    (hassign : ∀ (l : Nat) (x : α) (W : World) (K : Act → World → Prop), K (a₁ x) W →
      assign.wpIn (F.inRound l) (n - 1 - 1) P (Exit.then K (fun _ _ _ => False)) { tmps := (ps.zip #[enc x]).foldl (fun t (p, v) => t.setIfInBounds p v) a.tmps, defers := [] } W)
    (hbody : ∀ (l : Nat) (pre : List α) (x : α) (rest : List α) (W : World), xs = pre ++ x :: rest → I pre W → w.heap.size ≤ W.heap.size → body.wpIn (F.inRound l) (n - 1 - 1) P (allPost Cb I (pre ++ [x]) W) (a₁ x) W)
    (hdone : ∀ (D : Nat) (W : World), w.heap.size ≤ D → I xs W → W.heap[D]? = some (.deferred (some [])) → Q .normal { a with defers := { target := .collected D, args := #[] } :: a.defers } W) :
    (Code.rangeFunc g ps assign body).wpIn F n P Q a w := by
  refine wpIn_rangeFunc ?_
  intro fn hfn
  rw [hro]
  obtain ⟨rec, hrec⟩ : ∃ rec : LoopState → Loop, rec = fun st => { state := st, pending := none, fn, tmps := a.tmps, params := ps, assign, body, defers := w.heap.size } := ⟨_, rfl⟩
  obtain ⟨L, hL⟩ : ∃ L, L = w.heap.size + 1 := ⟨_, rfl⟩
  obtain ⟨W1, hW1⟩ : ∃ W1, (w.alloc (.deferred (some []))).alloc (.loop (rec .ready)) = W1 := ⟨_, rfl⟩
  have hL1 : W1.heap[L]? = some (.loop (rec .ready)) := by
    rw [← hW1, hL]; have := World.alloc_heap_new (w.alloc (.deferred (some []))) (.loop (rec .ready)); rwa [World.size_alloc] at this
  have hK1 : W1.heap[w.heap.size]? = some (.deferred (some [])) := by
    rw [← hW1]; exact (Below.heap_alloc _ _ _ (by simp)).trans (World.alloc_heap_new w _)
  have hI1 : I [] W1 := by rw [← hW1]; exact hI _ _ _ (hI _ _ _ h0 (Still.alloc _ _ _ _)) (Still.alloc _ _ _ _)
  have hc1 : ∀ k, Cb k → W1.heap[k]? = w.heap[k]? := fun k hk => by
    have := hCb k hk
    rw [← hW1]
    exact (Below.heap_alloc _ _ _ (by simp; omega)).trans (Below.heap_alloc _ _ _ this)
  have hs1 : w.heap.size ≤ W1.heap.size := by rw [← hW1]; simp; omega
  have nL : ¬ Cb L := fun h => by have := hCb L h; omega
  have nD : ¬ Cb w.heap.size := fun h => by have := hCb _ h; omega
  refine ⟨L, [{ target := .collected w.heap.size, args := #[] }], W1, { target := .fn (.func gf) lb, args := #[.func (.yield L) #[] #[]] }, W1, gf,
    #[.func (.yield L) #[] #[]] ++ lb, W1, ?_, ?_, ?_, ?_, fun _ => h1, ?_⟩
  · rw [← hW1, hrec, hL]; exact run_enterLoop_outer _ _ _ _ _
  · simp only [resolve, hg]
    simp [go_sem]
  · intro f' hf'; simp [Target.leads] at hf'; subst hf'; exact hFg
  · simp [invoke, go_sem, eg]
  · refine (hit L (fun pre W => I pre W ∧ w.heap.size ≤ W.heap.size ∧ W.heap[L]? = some (.loop (rec .ready)) ∧ W.heap[w.heap.size]? = some (.deferred (some []))) W1
      (fun s A B hs hab => ⟨hI _ _ _ hs.1 hab.still, Nat.le_trans hs.2.1 hab.size, hab.same _ _ hs.2.2.1 nL, hab.same _ _ hs.2.2.2 nD⟩) hc1 ?_ ⟨hI1, hs1, hL1, hK1⟩).mono ?_
    · rintro pre x rest W hx ⟨hi, hsz, hl, hk⟩
      have hlt : L < W.heap.size := (Array.getElem?_eq_some_iff.1 hl).1
      have hy := run_yield (P := P) (args := #[enc x]) hl (by rw [hrec]; exact hps.symm)
      rw [hrec] at hy
      refine ⟨fn, _, assign, body, hy, roundIn_of_wpIn hfn (hassign _ x W _ ⟨_, run_beginRound hl (by rw [hrec]), ?_⟩)⟩
      obtain ⟨V, hV⟩ : ∃ V, W.putObj L (.loop { rec .ready with state := .busy }) = V := ⟨_, rfl⟩
      have hl2 : V.heap[L]? = some (.loop { rec .ready with state := .busy }) := by rw [← hV]; exact World.putObj_heap_same hlt
      have hk2 : V.heap[w.heap.size]? = some (.deferred (some [])) := by rw [← hV]; exact (World.putObj_heap_other (by omega)).trans hk
      have hcv : ∀ k, Cb k → V.heap[k]? = W.heap[k]? := fun k hc => by rw [← hV]; exact World.putObj_heap_other (by rintro rfl; exact nL hc)
      have hiv : I pre V := by rw [← hV]; exact hI _ _ _ hi (Still.putObj _ (by omega) hl rfl)
      have hsv : w.heap.size ≤ V.heap.size := by rw [← hV]; simpa using hsz
      rw [hV]
      refine wpIn_mono (hbody _ pre x rest V hx hiv hsv) ?_
      rintro e a3 W3 hp
      cases e with
      | normal =>
        obtain ⟨hk3, hc3, hi3⟩ := hp
        have hl3 := hk3.same _ _ hl2 rfl
        have hr := run_endRound (P := P) none hl3
        refine ⟨_, _, hr, rfl, ⟨hI _ _ _ hi3 (Still.putObj _ (by omega) hl3 rfl), by have := hk3.size; simp; omega, ?_, (World.putObj_heap_other (by omega)).trans (hk3.same _ _ hk2 rfl)⟩, fun k hc => ((World.putObj_heap_other (by rintro rfl; exact nL hc)).trans (hc3 k hc)).trans (hcv k hc)⟩
        have := World.putObj_heap_same (w := W3) (r := L) (o := .loop { ({ rec .ready with state := .busy } : Loop) with state := if (none : Option Code).isNone then .ready else .done, pending := none }) (Array.getElem?_eq_some_iff.1 hl3).1
        rw [this, hrec]
        rfl
      | ret => exact hp.elim
      | exit id => exact hp.elim
      | goto t => exact hp.elim
      | panic ch => exact hp.elim
      | outgrown => exact hp.elim
    · rintro e W2 ⟨⟨v, rfl⟩, hi, hsz, hl, hk⟩
      exact ⟨none, _, by have := run_endLoop (P := P) hl (by rw [hrec]; simp); rw [hrec] at this; exact this, hdone _ _ (Nat.le_refl _) (hI _ _ _ hi (Still.putObj _ (by omega) hl rfl)) ((World.putObj_heap_other (by omega)).trans hk)⟩
end Go.Proofs.YtinjdcefagaaeaaGreatDoor
namespace Go.Proofs.YtinjdcefagaaeaaGreatDoor
open Go.RowKit Go.Shelf
attribute [local go_sem] Oper.semAt_some
/-! strings.SplitSeq at a line feed -/
inductive Spl : ByteArray → List ByteArray → Prop
  | last (T : ByteArray) (h : Lib.indexByte T.data.toList 10 = -1) : Spl T [T]
  | more (T : ByteArray) (i : Nat) (r : List ByteArray) (h : Lib.indexByte T.data.toList 10 = (i : Int)) (hi : i < T.size) (h2 : Spl (T.extract (i + 1) T.size) r) : Spl T (T.extract 0 i :: r)
def SplB (b : Nat) (k : Nat) : Prop := k = b ∨ k = b + 1 ∨ k = b + 2
def szAt (b : Nat) (w : World) : Nat := match w.cell? ⟨b, 0, none⟩ with | some (.string t) => t.size | _ => 0
theorem szAt_of {w : World} {b : Nat} {t : ByteArray} (h : Blk w b 9 #[.string t]) : szAt b w = t.size := by
  have := h.cell 0
  simp at this
  unfold szAt; rw [this]
set_option maxRecDepth 100000 in
set_option maxHeartbeats 4000000 in
theorem split1_in (b : Nat) (T : ByteArray) (xs : List ByteArray) (w : World) (hx : Spl T xs) (hT : T.size ≤ 65536) (n : Nat) (hn : 1 ≤ n)
    (h0 : Blk w b 9 #[.string T]) (h1 : Blk w (b + 1) 9 #[.string ⟨#[10]⟩]) (h2 : Blk w (b + 2) 3 #[.int .i64 0]) :
    ItAll Fence.wide n Tryz.prog 189 #[.pointer (some ⟨b + 1, 0, none⟩), .pointer (some ⟨b, 0, none⟩), .pointer (some ⟨b + 2, 0, none⟩)] (fun x => Value.string x) xs (SplB b) w := by
  intro l J W hJ hW hY hJ0
  have g0 := h0.same (hW b (.inl rfl))
  have g1 := h1.same (hW _ (.inr (.inl rfl)))
  have g2 := h2.same (hW _ (.inr (.inr rfl)))
  clear h0 h1 h2 hW
  have c1 := g1.cell 0
  simp at c1
  refine callsIn_of_wp Tryz.func189 rfl trivial ?_ rfl
  simp only [Tryz.ntmps189, List.size_toArray, List.length_cons, List.length_nil, Nat.reduceAdd, Nat.reduceSub, Array.replicate_succ, Array.replicate_zero, List.push_toArray, List.append_toArray, List.nil_append, List.cons_append]
  gi_wp2
  gi_loopw [7, 8] (fun _ _ wr => ∃ (pre rest : List ByteArray) (t : ByteArray), xs = pre ++ rest ∧ Spl t rest ∧ t.size ≤ 65536 ∧ Blk wr b 9 #[.string t] ∧ Blk wr (b + 1) 9 #[.string ⟨#[10]⟩] ∧ Blk wr (b + 2) 3 #[.int .i64 0] ∧ J pre wr)
    (fun _ _ wr => szAt b wr)
  case atStart => exact ⟨[], xs, T, rfl, hx, hT, g0, g1, g2, hJ0⟩
  case round =>
    obtain ⟨pre, rest, t, hxs, hsp, hts, k0, k1, k2, hJs⟩ := hrel
    clear c1 g0 g1 g2 hx hT hJ0
    have c0 := k0.cell 0
    have c1 := k1.cell 0
    have c2 := k2.cell 0
    have f0 := k0.frozen 0
    simp at c0 c1 c2
    cases hsp with
    | last _ h =>
      obtain ⟨fn, tmps, assign, body, hy, hR⟩ := hY pre t [] wr hxs hJs
      have HI := Lib.hid (Tryz.strings_Index_one t 10 wr)
      rw [h] at HI
      have HX := Lib.hid hxs
      clear hxs hts
      gi_wp2_with (refine ⟨trivial, ?_⟩; gi_at_call 191; refine (callsIn_wide.2 HI.out).mono ?_; rintro e w2 ⟨rfl, rfl⟩)
      refine hR.mono ?_
      rintro e W3 ⟨rfl, hJ3, hk3⟩
      gi_wp2
      go_end0
      exact ⟨⟨_, rfl⟩, by rw [HX.out]; exact hJ3⟩
    | more _ i r h hi h2 =>
      obtain ⟨fn, tmps, assign, body, hy, hR⟩ := hY pre (t.extract 0 i) r wr hxs hJs
      have HI := Lib.hid (Tryz.strings_Index_one t 10 wr)
      rw [h] at HI
      have HX := Lib.hid hxs
      have H2 := Lib.hid h2
      have hi0 : (0 : Int) ≤ (i : Int) := by omega
      have hi1 : (i : Int) < (t.size : Int) := by omega
      clear hxs h2 h
      gi_wp2_with (refine ⟨trivial, ?_⟩; gi_at_call 191; refine (callsIn_wide.2 HI.out).mono ?_; rintro e w2 ⟨rfl, rfl⟩)
      have K0 := Lib.hid k0
      have K1 := Lib.hid k1
      have K2 := Lib.hid k2
      clear k0 k1 k2
      refine hR.mono ?_
      rintro e W3 ⟨rfl, hJ3, hk3⟩
      have m0 := K0.out.same (hk3 b (.inl rfl))
      have m1 := K1.out.same (hk3 _ (.inr (.inl rfl)))
      have m2 := K2.out.same (hk3 _ (.inr (.inr rfl)))
      have HM := Lib.hid (And.intro m0 (And.intro m1 m2))
      have HJ3 := Lib.hid hJ3
      clear c0 c1 c2 f0 hJ3 hk3
      have c0 := m0.cell 0
      have c1 := m1.cell 0
      have c2 := m2.cell 0
      have f0 := m0.frozen 0
      simp at c0 c1 c2
      clear m0 m1 m2
      gi_wp2
      go_roundw
      case rel => exact ⟨pre ++ [t.extract 0 i], r, t.extract (i + 1) t.size, by rw [HX.out]; simp, H2.out, by rw [ByteArray.size_extract]; omega, HM.out.1.set_ 0 _, HM.out.2.1.far (by omega), HM.out.2.2.far (by omega), hJ _ _ _ HJ3.out (Off.setCell _ _ _ _ _ (.inl rfl))⟩
      case measure =>
        rw [szAt_of K0.out, szAt_of (HM.out.1.set_ 0 (.string (t.extract (i + 1) t.size)))]
        rw [ByteArray.size_extract]; omega
end Go.Proofs.YtinjdcefagaaeaaGreatDoor
namespace Go.Proofs.YtinjdcefagaaeaaGreatDoor
open Go.RowKit
/-! words.Lines: what is read; rows of words in memory -/
deriving instance DecidableEq for Wd
def lnW (k : Nat) (x : ByteArray) : List Wd := match splF x ((k : Int) + 1) x.data.toList 0 none [] with | some R => wdF x ((k : Int) + 1) R.2 x.size R.1 | none => []
structure LnOk (k : Nat) (x : ByteArray) : Prop where
  h35 : Lib.indexByte x.data.toList 35 = -1
  sz : x.size ≤ 65536
  sp : ∃ R, splF x ((k : Int) + 1) x.data.toList 0 none [] = some R
  n : (lnW k x).length ≤ 64
def rowsF (xs : List ByteArray) : List (List Wd) := (xs.zipIdx.map fun p => lnW p.2 p.1).filter (fun r => !r.isEmpty)
theorem rowsF_snoc (xs : List ByteArray) (x : ByteArray) : rowsF (xs ++ [x]) = if lnW xs.length x = [] then rowsF xs else rowsF xs ++ [lnW xs.length x] := by
  unfold rowsF
  rw [List.zipIdx_append, List.map_append, List.filter_append]
  simp only [List.zipIdx_cons, List.zipIdx_nil, List.map_cons, List.map_nil, Nat.zero_add]
  by_cases h : lnW xs.length x = []
  · rw [if_pos h, h]; simp
  · rw [if_neg h]
    congr 1
    rw [List.filter_cons_of_pos]
    · rfl
    · simpa using h
theorem rowsF_len (xs : List ByteArray) : (rowsF xs).length ≤ xs.length := by
  unfold rowsF
  refine Nat.le_trans (List.length_filter_le _ _) ?_
  simp
def rwC (az : List (Nat × Nat)) (rows : List (List Wd)) : List Value := List.zipWith (fun a r => .slice (some ⟨a.1, 0, none⟩) r.length a.2) az rows
/-- a slice of rows of words -/
structure LnM (w : World) (base : Nat) (v : Value) (rows : List (List Wd)) (az : List (Nat × Nat)) : Prop where
  l : az.length = rows.length
  o : w.ownsRow base 94 1 v rows.length (rwC az rows)
  c : ∀ (i : Nat) (a : Nat × Nat) (r : List Wd), az[i]? = some a → rows[i]? = some r → WO w base (.slice (some ⟨a.1, 0, none⟩) r.length a.2) r
theorem rwC_snoc (az : List (Nat × Nat)) (rows : List (List Wd)) (h : az.length = rows.length) (a : Nat × Nat) (r : List Wd) : rwC (az ++ [a]) (rows ++ [r]) = rwC az rows ++ [.slice (some ⟨a.1, 0, none⟩) r.length a.2] := by
  unfold rwC; rw [List.zipWith_append h]; rfl
theorem infoWs : (Tryz.prog.info? 94).map (fun i => (i.zero, i.size, i.bytes)) = some (some (.slice none 0 0), 1, 24) := by kernel_rfl
theorem own_sm {w w' : World} {base : Nat} {e : TypeId} {sz n : Nat} {v : Value} {xs : List Value} (h : w.ownsRow base e sz v n xs) (hs : ∀ (k : Nat) (o : Obj), w.heap[k]? = some o → base ≤ k → o.isCells = true → w'.heap[k]? = some o) : w'.ownsRow base e sz v n xs := by
  refine ⟨h.1, ?_⟩
  rcases h.2 with h2 | ⟨g, cap, cur, rfl, hbg, hh, r⟩
  · exact .inl h2
  · exact .inr ⟨g, cap, cur, rfl, hbg, hs _ _ hh hbg rfl, r⟩
theorem LnM.sm {w w' : World} {base : Nat} {v : Value} {rows : List (List Wd)} {az : List (Nat × Nat)} (h : LnM w base v rows az) (hs : ∀ (k : Nat) (o : Obj), w.heap[k]? = some o → base ≤ k → o.isCells = true → w'.heap[k]? = some o) : LnM w' base v rows az :=
  ⟨h.l, own_sm h.o hs, fun i a r ha hr => own_sm (h.c i a r ha hr) hs⟩
theorem LnM.go {w w' : World} {base : Nat} {v : Value} {rows : List (List Wd)} {az : List (Nat × Nat)} (h : LnM w base v rows az) (hb : Below w.heap.size w w') : LnM w' base v rows az :=
  h.sm fun k _ hk _ _ => (hb.block k (Array.getElem?_eq_some_iff.1 hk).1).trans hk
theorem LnM.far {w : World} {base : Nat} {v : Value} {rows : List (List Wd)} {az : List (Nat × Nat)} (h : LnM w base v rows az) (b i : Nat) (u : Value) (hb : b < base) : LnM (w.setCell ⟨b, i, none⟩ u) base v rows az :=
  h.sm fun k o hk hle _ => (Below.heap_setCell w ⟨b, i, none⟩ u k (by simp; omega)).trans hk
theorem LnM.nil (w : World) (base : Nat) : LnM w base (.slice none 0 0) [] [] := ⟨rfl, World.ownsRow_nil _ _ _ _, fun i a r ha => by simp at ha⟩
theorem LnM.app {w w' : World} {base : Nat} {v v' : Value} {rows : List (List Wd)} {az : List (Nat × Nat)} {o : Obj} (h : LnM w base v rows az) (a : Nat × Nat) (r : List Wd) (ho : WO w base (.slice (some ⟨a.1, 0, none⟩) r.length a.2) r)
    (hg : (w.alloc o).grownBy w' v.ownBlock) (hown : w'.ownsRow base 94 1 v' (rows.length + 1) (rwC az rows ++ [.slice (some ⟨a.1, 0, none⟩) r.length a.2])) : LnM w' base v' (rows ++ [r]) (az ++ [a]) := by
  refine ⟨by simp [h.l], ?_, ?_⟩
  · rw [rwC_snoc _ _ h.l, List.length_append]; exact hown
  · intro i b q hb hq
    have key : ∀ (b : Nat × Nat) (q : List Wd), WO w base (.slice (some ⟨b.1, 0, none⟩) q.length b.2) q → WO w' base (.slice (some ⟨b.1, 0, none⟩) q.length b.2) q := fun b q hw =>
      own_app (World.ownsRow.alloc hw _) (World.ownsRow.alloc h.o _) (by decide) hg
    by_cases hi : i < az.length
    · rw [List.getElem?_append_left hi] at hb
      rw [List.getElem?_append_left (by rw [← h.l]; exact hi)] at hq
      exact key b q (h.c i b q hb hq)
    · have hil : i < (az ++ [a]).length := (List.getElem?_eq_some_iff.1 hb).1
      simp at hil
      obtain rfl : i = az.length := by omega
      rw [List.getElem?_append_right (Nat.le_refl _)] at hb
      rw [List.getElem?_append_right (by rw [h.l]; exact Nat.le_refl _)] at hq
      simp [h.l] at hb hq
      subst hb hq
      exact key a r ho
theorem Blk.gr {X w' : World} {row : Option Nat} {g : Nat} {ty : TypeId} {cs : Array Value} (h : Blk X g ty cs) (hg : X.grownBy w' row) (hne : row ≠ some g) : Blk w' g ty cs := h.same (hg.block g h.lt (fun e => hne e.symm))
theorem own_isc {w : World} {base : Nat} {e : TypeId} {sz n : Nat} {v : Value} {xs : List Value} (h : w.ownsRow base e sz v n xs) (j : Nat) (o : Obj) (hj : v.ownBlock = some j) (ho : w.heap[j]? = some o) : o.isCells = true := by
  rcases h.2 with ⟨rfl, _⟩ | ⟨g, cap, cur, rfl, _, hh, _⟩
  · simp [Value.ownBlock] at hj
  · simp [Value.ownBlock] at hj
    subst hj
    rw [hh] at ho
    cases ho
    rfl
/-- the boxes of words.Lines -/
structure LiS (w : World) (X M : Nat) (W : World) (vl : Value) (k : Int) : Prop where
  b : Below X w W
  z : M ≤ W.heap.size
  c0 : Blk W X 91 #[.slice none 0 0]
  c1 : Blk W (X + 1) 3 #[.int .i64 0]
  c2 : Blk W (X + 1 + 1) 39 #[.int .i64 0]
  cl : Blk W (X + 1 + 1 + 1) 91 #[vl]
  cn : Blk W (X + 1 + 1 + 1 + 1) 3 #[.int .i64 k]
theorem LiS.sm {w W W' : World} {X M : Nat} {vl : Value} {k : Int} (h : LiS w X M W vl k) (_hM : X + 8 ≤ M) (hb : Below X w W') (hz : M ≤ W'.heap.size) (hs : ∀ (q : Nat), X ≤ q → q < X + 5 → W'.heap[q]? = W.heap[q]?) : LiS w X M W' vl k :=
  ⟨hb, hz, h.c0.same (hs _ (by omega) (by omega)), h.c1.same (hs _ (by omega) (by omega)), h.c2.same (hs _ (by omega) (by omega)), h.cl.same (hs _ (by omega) (by omega)), h.cn.same (hs _ (by omega) (by omega))⟩
theorem LiS.go {w W W' : World} {X M : Nat} {vl : Value} {k : Int} (h : LiS w X M W vl k) (hM : X + 8 ≤ M) (hX : w.heap.size = X) (hb : Below W.heap.size W W') : LiS w X M W' vl k :=
  h.sm hM (h.b.trans (hb.mono (by have := h.z; omega))) (Nat.le_trans h.z hb.size) fun q _ hq2 => hb.block q (by have := h.z; omega)
theorem LiS.num {w W : World} {X M : Nat} {vl : Value} {k : Int} (h : LiS w X M W vl k) (k' : Int) : LiS w X M (W.setCell ⟨X + 1 + 1 + 1 + 1, 0, none⟩ (.int .i64 k')) vl k' :=
  ⟨h.b.setCell (by simp; omega) _, by show _ ≤ (W.heap.modify _ _).size; rw [Array.size_modify]; exact h.z, h.c0.far (by omega), h.c1.far (by omega), h.c2.far (by omega), h.cl.far (by omega), h.cn.set_ 0 _⟩
theorem LiS.lin {w W : World} {X M : Nat} {vl : Value} {k : Int} (h : LiS w X M W vl k) (v' : Value) : LiS w X M (W.setCell ⟨X + 1 + 1 + 1, 0, none⟩ v') v' k :=
  ⟨h.b.setCell (by simp; omega) _, by show _ ≤ (W.heap.modify _ _).size; rw [Array.size_modify]; exact h.z, h.c0.far (by omega), h.c1.far (by omega), h.c2.far (by omega), h.cl.set_ 0 _, h.cn.far (by omega)⟩
theorem LiS.still {w W W' : World} {X M : Nat} {vl : Value} {k : Int} (h : LiS w X M W vl k) (hM : X + 8 ≤ M) (hX : w.heap.size = X) (hs : Still M (SplB (X + 5)) W W') : LiS w X M W' vl k := by
  have hz := h.z
  have key : ∀ q, q < X + 5 → W'.heap[q]? = W.heap[q]? := fun q hq => by
    obtain ⟨o, ho⟩ : ∃ o, W.heap[q]? = some o := ⟨_, Array.getElem?_eq_getElem (by omega)⟩
    rw [ho]
    exact hs.same q o ho (by unfold SplB; omega) (.inl (by omega))
  exact h.sm hM ⟨hs.os.trans h.b.os, hs.tape.trans h.b.tape, hs.output.trans h.b.output, Nat.le_trans h.b.size hs.size, fun q hq => (key q (by omega)).trans (h.b.block q hq)⟩ (Nat.le_trans hz hs.size) fun q _ hq => key q hq
end Go.Proofs.YtinjdcefagaaeaaGreatDoor
