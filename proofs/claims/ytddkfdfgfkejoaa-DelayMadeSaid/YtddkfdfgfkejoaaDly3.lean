import Derived.Test.YtddkfdfgfkejoaaDly2
import Derived.Test.YtddkfdfgfkejoaaDlyMath2
import Derived.RegionTactic
import Derived.BigRegion
namespace Go.Proofs.Ytddkfdfgfkejoaa
open Go.RowKit

def Valid (ms : List Mom) (ws : List Wt) (ps : List Pri) : Prop := Basic ms ws ps ∧ Acyc ws

/-- the blocks of a state -/
structure PrS (w1 wr : World) (n m S GB GS GK : Nat) (base sec : List Int) (kept : List Bool) : Prop where
  blk : Blk wr S 58 #[.slice (some ⟨GB, 0, none⟩) n n, .slice (some ⟨GS, 0, none⟩) n n, .slice (some ⟨GK, 0, none⟩) m m]
  ob : wr.ownsRow w1.heap.size 3 1 (.slice (some ⟨GB, 0, none⟩) n n) n (base.map (Value.int .i64))
  os : wr.ownsRow w1.heap.size 3 1 (.slice (some ⟨GS, 0, none⟩) n n) n (sec.map (Value.int .i64))
  ok : wr.ownsRow w1.heap.size 4 1 (.slice (some ⟨GK, 0, none⟩) m m) m (kept.map Value.bool)
  bel : Below w1.heap.size w1 wr
  n1 : GB ≠ GS
  n2 : GB ≠ GK
  n3 : GS ≠ GK
  n4 : S ≠ GB
  n5 : S ≠ GS
  n6 : S ≠ GK
  sl : w1.heap.size ≤ S

def PropOut (ms : List Mom) (ws : List Wt) (ps : List Pri) (w : World) (e : Ending) (w' : World) : Prop :=
  Below w.heap.size w w' ∧ ((Valid ms ws ps ∧ ∃ (vb vs vk : Value) (base sec : List Int) (kept : List Bool), e = .returned (.tuple #[.agg #[vb, vs, vk], .bool true]) ∧ Sol ms ws ps base sec kept ∧
      w'.ownsRow w.heap.size 3 1 vb ms.length (base.map (Value.int .i64)) ∧ w'.ownsRow w.heap.size 3 1 vs ms.length (sec.map (Value.int .i64)) ∧ w'.ownsRow w.heap.size 4 1 vk ws.length (kept.map Value.bool)) ∨
    (¬ Valid ms ws ps ∧ e = .returned (.tuple #[.agg #[.slice none 0 0, .slice none 0 0, .slice none 0 0], .bool false])))

def Init (w1 : World) (n m : Nat) (v v39 : Value) (wr : World) : Prop :=
  ∃ S GB GS GK, v = .pointer (some ⟨S, 0, none⟩) ∧ v39 = .agg #[.slice (some ⟨GB, 0, none⟩) n n, .slice (some ⟨GS, 0, none⟩) n n, .slice (some ⟨GK, 0, none⟩) m m] ∧ PrS w1 wr n m S GB GS GK (List.replicate n 0) (List.replicate n 0) (List.replicate m false)

theorem own_rep {α : Type} (f : α → Value) (x : α) {w : World} {g base n : Nat} {e : TypeId} (h : Blk w g e (List.replicate n (f x)).toArray) (hb : base ≤ g) (hn : n ≤ 200) : w.ownsRow base e 1 (.slice (some ⟨g, 0, none⟩) n n) n ((List.replicate n x).map f) := by
  refine ⟨by simp, .inr ⟨g, n, _, rfl, hb, h, Nat.le_refl _, by simp only [maxLen]; omega, by simp, by simp⟩⟩
theorem prs_mk {w1 wr : World} {n m S GB GS GK : Nat} (hn : n ≤ 64) (hm : m ≤ 200) (hS : Blk wr S 58 #[.slice (some ⟨GB, 0, none⟩) n n, .slice (some ⟨GS, 0, none⟩) n n, .slice (some ⟨GK, 0, none⟩) m m])
    (hB : Blk wr GB 3 (List.replicate n (Value.int .i64 0)).toArray) (hs : Blk wr GS 3 (List.replicate n (Value.int .i64 0)).toArray) (hk : Blk wr GK 4 (List.replicate m (Value.bool false)).toArray) (bel : Below w1.heap.size w1 wr)
    (h : GB ≠ GS ∧ GB ≠ GK ∧ GS ≠ GK ∧ S ≠ GB ∧ S ≠ GS ∧ S ≠ GK ∧ w1.heap.size ≤ S ∧ w1.heap.size ≤ GB ∧ w1.heap.size ≤ GS ∧ w1.heap.size ≤ GK) :
    PrS w1 wr n m S GB GS GK (List.replicate n 0) (List.replicate n 0) (List.replicate m false) :=
  ⟨hS, own_rep (Value.int .i64) 0 hB h.2.2.2.2.2.2.2.1 (by omega), own_rep (Value.int .i64) 0 hs h.2.2.2.2.2.2.2.2.1 (by omega), own_rep Value.bool false hk h.2.2.2.2.2.2.2.2.2 hm, bel, h.1, h.2.1, h.2.2.1, h.2.2.2.1, h.2.2.2.2.1, h.2.2.2.2.2.1, h.2.2.2.2.2.2.1⟩

theorem blkD0 (w : World) (cs : Array Value) (t : TypeId) (o1 o2 o3 : Obj) : Blk ((((w.alloc (.cells cs t)).alloc o1).alloc o2).alloc o3).drew w.heap.size t cs := by
  show ((((w.heap.push (.cells cs t)).push o1).push o2).push o3)[w.heap.size]? = _
  simp only [Array.getElem?_push, Array.size_push]
  rw [if_neg (by omega), if_neg (by omega), if_neg (by omega), if_pos trivial]
theorem blkD1 (w : World) (cs : Array Value) (t : TypeId) (o0 o2 o3 : Obj) : Blk ((((w.alloc o0).alloc (.cells cs t)).alloc o2).alloc o3).drew (w.heap.size + 1) t cs := by
  show ((((w.heap.push o0).push (.cells cs t)).push o2).push o3)[w.heap.size + 1]? = _
  simp only [Array.getElem?_push, Array.size_push]
  rw [if_neg (by omega), if_neg (by omega), if_pos trivial]
theorem blkD2 (w : World) (cs : Array Value) (t : TypeId) (o0 o1 o3 : Obj) : Blk ((((w.alloc o0).alloc o1).alloc (.cells cs t)).alloc o3).drew (w.heap.size + 1 + 1) t cs := by
  show ((((w.heap.push o0).push o1).push (.cells cs t)).push o3)[w.heap.size + 1 + 1]? = _
  simp only [Array.getElem?_push, Array.size_push]
  rw [if_neg (by omega), if_pos trivial]
theorem blkD3 (w : World) (cs : Array Value) (t : TypeId) (o0 o1 o2 : Obj) : Blk ((((w.alloc o0).alloc o1).alloc o2).alloc (.cells cs t)).drew (w.heap.size + 1 + 1 + 1) t cs := by
  show ((((w.heap.push o0).push o1).push o2).push (.cells cs t))[w.heap.size + 1 + 1 + 1]? = _
  simp only [Array.getElem?_push, Array.size_push]
  rw [if_pos trivial]

/-- the first t moments of the order are done -/
structure PrI (ms : List Mom) (ws : List Wt) (ps : List Pri) (ord : List Int) (t : Nat) (base sec : List Int) (kept : List Bool) : Prop where
  lb : base.length = ms.length
  ls : sec.length = ms.length
  lk : kept.length = ws.length
  b : ∀ i ∈ ord.take t, gi base i = (baseS ms ws sec i).2
  s : ∀ i ∈ ord.take t, gi sec i = gi base i + prim ps i
  k : ∀ a (h : a < ws.length), ws[a].tt ∈ ord.take t → kept[a]? = some (keptB ms sec ws[a])
  lo : ∀ i : Int, 0 ≤ i → i < (ms.length : Int) → 0 ≤ gi sec i ∧ gi sec i ≤ (2 * t + 1) * 4194304
theorem pr_start (ms : List Mom) (ws : List Wt) (ps : List Pri) (ord : List Int) : PrI ms ws ps ord 0 (List.replicate ms.length 0) (List.replicate ms.length 0) (List.replicate ws.length false) :=
  ⟨by simp, by simp, by simp, by simp, by simp, by simp, fun i h0 h1 => by rw [gi_rep _ _ h0 h1]; omega⟩
def Pr1 (w1 : World) (ms : List Mom) (ws : List Wt) (ps : List Pri) (ord : List Int) (S GB GS GK k : Nat) (v : Value) (wr : World) : Prop :=
  ∃ (t : Nat) (base sec : List Int) (kept : List Bool), v = .int .i64 t ∧ t + k = ord.length ∧ PrI ms ws ps ord t base sec kept ∧ PrS w1 wr ms.length ws.length S GB GS GK base sec kept

theorem PrS.grow {w1 wr w' : World} {n m S GB GS GK : Nat} {base sec : List Int} {kept : List Bool} (h : PrS w1 wr n m S GB GS GK base sec kept) (hb : Below wr.heap.size wr w') : PrS w1 w' n m S GB GS GK base sec kept :=
  ⟨h.blk.same (hb.block S h.blk.lt), own_grow h.ob hb, own_grow h.os hb, own_grow h.ok hb, h.bel.trans (hb.mono h.bel.size), h.n1, h.n2, h.n3, h.n4, h.n5, h.n6, h.sl⟩
theorem PrS.setK {w1 wr : World} {n m S GB GS GK : Nat} {base sec : List Int} {kept : List Bool} (h : PrS w1 wr n m S GB GS GK base sec kept) (a : Nat) (x : Bool) : PrS w1 (wr.setCell ⟨GK, a, none⟩ (.bool x)) n m S GB GS GK base sec (kept.set a x) :=
  ⟨h.blk.same (Below.heap_setCell _ _ _ _ (by simpa using h.n6)), own_far h.ob (by simpa [Value.ownBlock] using h.n2), own_far h.os (by simpa [Value.ownBlock] using h.n3), own1_set h.ok a x, h.bel.setCell (p := ⟨GK, a, none⟩) (own_block h.ok GK rfl).1 _, h.n1, h.n2, h.n3, h.n4, h.n5, h.n6, h.sl⟩
theorem PrS.setS {w1 wr : World} {n m S GB GS GK : Nat} {base sec : List Int} {kept : List Bool} (h : PrS w1 wr n m S GB GS GK base sec kept) (a : Nat) (x : Int) : PrS w1 (wr.setCell ⟨GS, a, none⟩ (.int .i64 x)) n m S GB GS GK base (sec.set a x) kept :=
  ⟨h.blk.same (Below.heap_setCell _ _ _ _ (by simpa using h.n5)), own_far h.ob (by simpa [Value.ownBlock] using h.n1), own1_set h.os a x, own_far h.ok (by simpa [Value.ownBlock] using h.n3.symm), h.bel.setCell (p := ⟨GS, a, none⟩) (own_block h.os GS rfl).1 _, h.n1, h.n2, h.n3, h.n4, h.n5, h.n6, h.sl⟩
theorem PrS.setB {w1 wr : World} {n m S GB GS GK : Nat} {base sec : List Int} {kept : List Bool} (h : PrS w1 wr n m S GB GS GK base sec kept) (a : Nat) (x : Int) : PrS w1 (wr.setCell ⟨GB, a, none⟩ (.int .i64 x)) n m S GB GS GK (base.set a x) sec kept :=
  ⟨h.blk.same (Below.heap_setCell _ _ _ _ (by simpa using h.n4)), own1_set h.ob a x, own_far h.os (by simpa [Value.ownBlock] using h.n1.symm), own_far h.ok (by simpa [Value.ownBlock] using h.n2.symm), h.bel.setCell (p := ⟨GB, a, none⟩) (own_block h.ob GB rfl).1 _, h.n1, h.n2, h.n3, h.n4, h.n5, h.n6, h.sl⟩
theorem PrS.cells {w1 wr : World} {n m S GB GS GK : Nat} {base sec : List Int} {kept : List Bool} (h : PrS w1 wr n m S GB GS GK base sec kept) :
    wr.cell? ⟨S, 0, none⟩ = some (.slice (some ⟨GB, 0, none⟩) n n) ∧ wr.cell? ⟨S, 1, none⟩ = some (.slice (some ⟨GS, 0, none⟩) n n) ∧ wr.cell? ⟨S, 2, none⟩ = some (.slice (some ⟨GK, 0, none⟩) m m) ∧ S < wr.heap.size ∧ GB < wr.heap.size ∧ GS < wr.heap.size ∧ GK < wr.heap.size :=
  ⟨h.blk.cell 0, h.blk.cell 1, h.blk.cell 2, h.blk.lt, (own_block h.ob GB rfl).2, (own_block h.os GS rfl).2, (own_block h.ok GK rfl).2⟩

/-- the waits of moment i, the first a of them seen -/
def Kup (ms : List Mom) (ws : List Wt) (sec : List Int) (i : Int) (kept kept' : List Bool) (a : Nat) : Prop :=
  kept'.length = ws.length ∧ ∀ b (h : b < ws.length), kept'[b]? = if b < a ∧ ws[b].tt = i then some (keptB ms sec ws[b]) else kept[b]?
def Pr2 (w1 : World) (ms : List Mom) (ws : List Wt) (i : Int) (base sec : List Int) (kept : List Bool) (S GB GS GK k : Nat) (v13 v14 v : Value) (wr : World) : Prop :=
  ∃ (a : Nat) (kept' : List Bool), v = .int .i64 a ∧ a + k = ws.length ∧ v13 = .bool ((ws.take a).foldl (stepB ms sec i) (hd ms i, tm ms i)).1 ∧ v14 = .int .i64 ((ws.take a).foldl (stepB ms sec i) (hd ms i, tm ms i)).2 ∧ Kup ms ws sec i kept kept' a ∧ PrS w1 wr ms.length ws.length S GB GS GK base sec kept'

theorem Kup.skip {ms : List Mom} {ws : List Wt} {sec : List Int} {i : Int} {kept kept' : List Bool} {a : Nat} (h : Kup ms ws sec i kept kept' a) (ha : a < ws.length) (hne : ws[a].tt ≠ i) : Kup ms ws sec i kept kept' (a + 1) := by
  refine ⟨h.1, fun b hb => ?_⟩
  rw [h.2 b hb]
  by_cases e : b = a
  · subst e; rw [if_neg (by omega), if_neg (fun h => hne h.2)]
  · have : b < a ↔ b < a + 1 := by omega
    simp only [this]
theorem Kup.take {ms : List Mom} {ws : List Wt} {sec : List Int} {i : Int} {kept kept' : List Bool} {a : Nat} (h : Kup ms ws sec i kept kept' a) (ha : a < ws.length) (he : ws[a].tt = i) : Kup ms ws sec i kept (kept'.set a (keptB ms sec ws[a])) (a + 1) := by
  refine ⟨by simp [h.1], fun b hb => ?_⟩
  rw [List.getElem?_set]
  by_cases e : a = b
  · subst e; rw [if_pos rfl, if_pos (by rw [h.1]; exact ha), if_pos ⟨by omega, he⟩]
  · rw [if_neg e, h.2 b hb]
    have : b < a ↔ b < a + 1 := by omega
    simp only [this]
theorem take_fold {ms : List Mom} {ws : List Wt} {sec : List Int} {i : Int} {a : Nat} (ha : a < ws.length) (s : Bool × Int) : (ws.take (a + 1)).foldl (stepB ms sec i) s = stepB ms sec i ((ws.take a).foldl (stepB ms sec i) s) ws[a] := by
  rw [List.take_succ_eq_append_getElem ha, List.foldl_append]; rfl

theorem base_bd (ms : List Mom) (ws : List Wt) (sec : List Int) (i M : Int) (h : ∀ k ∈ ws, k.tt = i → 0 ≤ rdy sec k ∧ rdy sec k ≤ M + 4194304) (h0 : 0 ≤ tm ms i) (h1 : tm ms i ≤ M + 4194304) : 0 ≤ (baseS ms ws sec i).2 ∧ (baseS ms ws sec i).2 ≤ M + 4194304 := by
  unfold baseS
  rcases fold_or ms sec i ws (hd ms i, tm ms i) with e | ⟨k, hk, e, _, hv⟩
  · rw [e]; exact ⟨h0, h1⟩
  · rw [hv]; exact h k hk e
theorem okP_prim {n : Nat} {ps : List Pri} (h : ∀ i (h : i < ps.length), okP n ps i h) : (ps.map Pri.mo).Nodup ∧ ∀ d ∈ ps, 0 ≤ d.sec ∧ d.sec ≤ 4194304 := by
  refine ⟨?_, fun d hd => ?_⟩
  · unfold List.Nodup
    rw [List.pairwise_iff_getElem]
    intro i j hi hj hij
    have hj' : j < ps.length := by simpa using hj
    have hi' : i < ps.length := by simpa using hi
    have := (h j hj').2.2
    intro e
    apply this
    simp only [List.getElem_map] at e
    rw [← e]
    refine List.mem_map.2 ⟨ps[i], ?_, rfl⟩
    rw [List.mem_take_iff_getElem]
    exact ⟨i, by omega, rfl⟩
  · obtain ⟨i, hi, rfl⟩ := List.getElem_of_mem hd
    have := (h i hi).2.1
    simpa [clkB] using this
theorem PrI.next {ms : List Mom} {ws : List Wt} {ps : List Pri} {ord : List Int} {t : Nat} {base sec : List Int} {kept kept' : List Bool} {i : Nat} (h : PrI ms ws ps ord t base sec kept) (hT : Topo ms.length ws ord) (hlt : t < ord.length) (hi : ord[t] = (i : Int))
    (hw : ∀ k ∈ ws, WOk ms.length k) (hB : Basic ms ws ps) (hK : Kup ms ws sec i kept kept' ws.length) :
    PrI ms ws ps ord (t + 1) (base.set i (baseS ms ws sec i).2) (sec.set i ((baseS ms ws sec i).2 + prim ps i)) kept' := by
  have hrange := hT.lt (i : Int) (by rw [← hi]; exact List.getElem_mem hlt)
  have him : i < ms.length := by omega
  have htake : ord.take (t + 1) = ord.take t ++ [(i : Int)] := by rw [List.take_succ_eq_append_getElem hlt, hi]
  have hnot : (i : Int) ∉ ord.take t := by
    intro hm
    have hnd := hT.nd
    rw [← List.take_append_drop t ord, List.drop_eq_getElem_cons hlt, hi] at hnd
    exact (List.nodup_append.1 hnd).2.2 _ hm _ List.mem_cons_self rfl
  have hgs : ∀ (v : Int) (j : Int), 0 ≤ j → gi (sec.set i v) j = if j = i then v else gi sec j := fun v j hj => by
    have := gi_set sec i j v (by omega) (by rw [h.ls]; omega) hj
    simpa using this
  have hgb : ∀ (v : Int) (j : Int), 0 ≤ j → gi (base.set i v) j = if j = i then v else gi base j := fun v j hj => by
    have := gi_set base i j v (by omega) (by rw [h.lb]; omega) hj
    simpa using this
  have hpre : ∀ k ∈ ws, k.tt ∈ ord.take (t + 1) → k.fr ∈ ord.take t := fun k hk hm => by
    obtain ⟨s, hs, e⟩ := List.mem_take_iff_getElem.1 hm
    have := hT.pre s (by omega) k hk e.symm
    exact (List.take_subset_take_left ord (by omega : s ≤ t)) this
  have hsec : ∀ v, ∀ k ∈ ws, k.tt ∈ ord.take (t + 1) → gi (sec.set i v) k.fr = gi sec k.fr := fun v k hk hm => by
    rw [hgs v k.fr (hw k hk).f0, if_neg]
    intro e
    exact hnot (by rw [← e]; exact hpre k hk hm)
  have hbs : ∀ v, ∀ j ∈ ord.take (t + 1), baseS ms ws (sec.set i v) j = baseS ms ws sec j := fun v j hj =>
    baseS_congr ms ws _ _ j (fun k hk e => hsec v k hk (by rw [e]; exact hj))
  have hprim := prim_bd ps i (okP_prim hB.pAll).1 (okP_prim hB.pAll).2
  have htm : 0 ≤ tm ms i ∧ tm ms i ≤ 4194304 := by
    have := hB.mAll ms[i] (List.getElem_mem him)
    rw [tm_nat ms i him]; simpa [clkB] using this
  have hbd := base_bd ms ws sec i ((2 * t + 1) * 4194304) (fun k hk e => by
    have := h.lo k.fr (hw k hk).f0 (hw k hk).f1
    have := (hw k hk).m0
    have := (hw k hk).m1
    unfold rdy; omega) htm.1 (by omega)
  refine ⟨by simp [h.lb], by simp [h.ls], hK.1, fun j hj => ?_, fun j hj => ?_, fun a ha hm => ?_, fun j h0 h1 => ?_⟩
  · have hj0 : 0 ≤ j := (hT.lt j (List.mem_of_mem_take hj)).1
    rw [hbs _ j hj, hgb _ j hj0]
    by_cases e : j = i
    · rw [if_pos e, e]
    · rw [if_neg e]
      rw [htake, List.mem_append] at hj
      rcases hj with hj | hj
      · exact h.b j hj
      · simp at hj; exact absurd hj e
  · have hj0 : 0 ≤ j := (hT.lt j (List.mem_of_mem_take hj)).1
    rw [hgs _ j hj0, hgb _ j hj0]
    by_cases e : j = i
    · rw [if_pos e, if_pos e, e]
    · rw [if_neg e, if_neg e]
      rw [htake, List.mem_append] at hj
      rcases hj with hj | hj
      · exact h.s j hj
      · simp at hj; exact absurd hj e
  · rw [hK.2 a ha]
    have hke : keptB ms (sec.set i ((baseS ms ws sec i).2 + prim ps i)) ws[a] = keptB ms sec ws[a] := keptB_congr ms _ _ _ (hsec _ _ (List.getElem_mem ha) hm)
    rw [hke]
    by_cases e : ws[a].tt = i
    · rw [if_pos ⟨ha, e⟩]
    · rw [if_neg (fun h => e h.2)]
      rw [htake, List.mem_append] at hm
      rcases hm with hm | hm
      · exact h.k a ha hm
      · simp at hm; exact absurd hm e
  · rw [hgs _ j h0]
    split
    · omega
    · have := h.lo j h0 h1; omega
theorem PrI.sol {ms : List Mom} {ws : List Wt} {ps : List Pri} {ord : List Int} {t : Nat} {base sec : List Int} {kept : List Bool} (h : PrI ms ws ps ord t base sec kept) (hT : Topo ms.length ws ord) (hl : ord.length = ms.length) (ht : ord.length ≤ t) (hw : ∀ k ∈ ws, WOk ms.length k) : Sol ms ws ps base sec kept := by
  have hm : ∀ j : Int, 0 ≤ j → j < (ms.length : Int) → j ∈ ord.take t := fun j h0 h1 => by
    rw [List.take_of_length_le ht]; exact full_mem hT.nd hT.lt hl h0 h1
  exact ⟨h.lb, h.ls, h.lk, fun i h0 h1 => h.b i (hm i h0 h1), fun i h0 h1 => h.s i (hm i h0 h1), fun a ha => h.k a ha (hm _ (hw _ (List.getElem_mem ha)).t0 (hw _ (List.getElem_mem ha)).t1)⟩

def Pr3 (w1 : World) (ms : List Mom) (ws : List Wt) (ps : List Pri) (i : Nat) (bv : Int) (base sec : List Int) (kept : List Bool) (S GB GS GK k : Nat) (v : Value) (wr : World) : Prop :=
  ∃ d : Nat, v = .int .i64 d ∧ d + k = ps.length ∧ PrS w1 wr ms.length ws.length S GB GS GK base (sec.set i (bv + prim (ps.take d) i)) kept

set_option maxRecDepth 100000 in
set_option maxHeartbeats 6400000 in
theorem propagate_any (A B C : Option Addr) (a b c a' b' c' : Nat) (ms : List Mom) (ws : List Wt) (ps : List Pri) (w : World) (hA : Rd w w.heap.size 2 A a (ms.flatMap Mom.cells)) (hB : Rd w w.heap.size 4 B b (ws.flatMap Wt.cells)) (hC : Rd w w.heap.size 2 C c (ps.flatMap Pri.cells))
    (ha : a = ms.length) (hb : b = ws.length) (hc : c = ps.length) (hal : ms.length ≤ 4611686018427387904) (hbl : ws.length ≤ 4611686018427387904) (hcl : ps.length ≤ 4611686018427387904) :
    Calls Try.prog 28 #[.slice A a a', .slice B b b', .slice C c c'] w (PropOut ms ws ps w) := by
  subst ha hb hc
  have HA := Lib.hid hA
  have HB := Lib.hid hB
  have HC := Lib.hid hC
  clear hA hB hC
  go_enter Try.func28, Try.ntmps28
  go_wp2_with fail
  have Hb0 := Lib.hid (show Below w.heap.size w (w.alloc (.cells #[.slice none 0 0, .slice none 0 0, .slice none 0 0] 58)) from (by repeat (first | exact Below.refl _ _ | (with_reducible refine Below.drew ?_) | (with_reducible refine below_drewN ?_ _) | (with_reducible refine Below.alloc ?_ (by first | omega | (simp; done) | (simp; omega)) _) | (with_reducible refine Below.setCell ?_ (by first | omega | (simp; done) | (simp; omega)) _) | (refine Below.trans ?_ (Below.mono (by with_reducible assumption) (by first | omega | (simp; done) | (simp; omega)))))))
  have hR0 := Blk.new w 58 #[.slice none 0 0, .slice none 0 0, .slice none 0 0]
  have HR0 := Lib.hid hR0
  have hlt0 : w.heap.size < (w.alloc (.cells #[.slice none 0 0, .slice none 0 0, .slice none 0 0] 58)).heap.size := hR0.lt
  clear hR0
  generalize w.alloc (.cells #[.slice none 0 0, .slice none 0 0, .slice none 0 0] 58) = w0 at *
  refine (sorted_any A B C _ _ _ a' b' c' ms ws ps w0 ((HA.out.grow Hb0.out).more Hb0.out.size) ((HB.out.grow Hb0.out).more Hb0.out.size) ((HC.out.grow Hb0.out).more Hb0.out.size) rfl rfl rfl hal hbl hcl).mono ?_
  rintro e w1 ⟨hb1, hcase⟩
  have Hb1 := Lib.hid (Hb0.out.trans (hb1.mono Hb0.out.size))
  have HR1 := Lib.hid (HR0.out.same (hb1.block _ hlt0))
  have hsz1 := hb1.size
  clear hb1 Hb0 HR0
  rcases hcase with ⟨hba, v1, ord, rfl, htopo, hacy, hown1⟩ | ⟨hba, rfl⟩
  case inr =>
    have q0 := HR1.out.cell 0
    have q1 := HR1.out.cell 1
    have q2 := HR1.out.cell 2
    have f0 := HR1.out.frozen 0
    have f1 := HR1.out.frozen 1
    have f2 := HR1.out.frozen 2
    simp at q0 q1 q2
    have HZ := Lib.hid (((HR1.out.set_ 0 (.slice none 0 0)).set_ 1 (.slice none 0 0)).set_ 2 (.slice none 0 0))
    have hnv : ¬ Valid ms ws ps := fun h => hba h.1
    have Hnv := Lib.hid hnv
    have hws : w.heap.size ≤ w1.heap.size := Hb1.out.size
    clear hnv hba
    go_wp2_with fail
    have g0 := HZ.out.cell 0
    have g1 := HZ.out.cell 1
    have g2 := HZ.out.cell 2
    simp at g0 g1 g2
    refine bodyPost_ret (v := .tuple #[.agg #[.slice none 0 0, .slice none 0 0, .slice none 0 0], .bool false]) (by simp [results, Try.results28, go_sem, g0, g1, g2]) rfl ⟨?_, .inr ⟨Hnv.out, rfl⟩⟩
    exact (by have hbelh := Hb1.out; have hbels := hbelh.size; exact (by repeat (first | exact Below.refl _ _ | (with_reducible refine Below.drew ?_) | (with_reducible refine below_drewN ?_ _) | (with_reducible refine Below.alloc ?_ (by first | omega | (simp; done) | (simp; omega)) _) | (with_reducible refine Below.setCell ?_ (by first | omega | (simp; done) | (simp; omega)) _) | (refine Below.trans ?_ (Below.mono (by with_reducible assumption) (by first | omega | (simp; done) | (simp; omega)))))))
  case inl =>
    obtain ⟨A1, c1, rfl, hc1, hm1⟩ := own_slice hown1
    have HBa := Lib.hid hba
    have HT := Lib.hid htopo
    have HAc := Lib.hid hacy
    have HOr := Lib.hid (Rd.of_own hown1)
    clear hba htopo hacy hown1
    unfold maxLen at hm1
    by_cases hfull : ord.length = ms.length
    case neg =>
      have hd' : decide (ord.length = ms.length) = false := by simpa using hfull
      have hnv : ¬ Valid ms ws ps := fun h => hfull (HAc.out h.2)
      have Hnv := Lib.hid hnv
      clear hnv hfull
      have q0 := HR1.out.cell 0
      have q1 := HR1.out.cell 1
      have q2 := HR1.out.cell 2
      have f0 := HR1.out.frozen 0
      have f1 := HR1.out.frozen 1
      have f2 := HR1.out.frozen 2
      simp at q0 q1 q2
      have HZ := Lib.hid (((HR1.out.set_ 0 (.slice none 0 0)).set_ 1 (.slice none 0 0)).set_ 2 (.slice none 0 0))
      have hws : w.heap.size ≤ w1.heap.size := Hb1.out.size
      go_wp2_with fail
      have g0 := HZ.out.cell 0
      have g1 := HZ.out.cell 1
      have g2 := HZ.out.cell 2
      simp at g0 g1 g2
      refine bodyPost_ret (v := .tuple #[.agg #[.slice none 0 0, .slice none 0 0, .slice none 0 0], .bool false]) (by simp [results, Try.results28, go_sem, g0, g1, g2]) rfl ⟨?_, .inr ⟨Hnv.out, rfl⟩⟩
      exact (by have hbelh := Hb1.out; have hbels := hbelh.size; exact (by repeat (first | exact Below.refl _ _ | (with_reducible refine Below.drew ?_) | (with_reducible refine below_drewN ?_ _) | (with_reducible refine Below.alloc ?_ (by first | omega | (simp; done) | (simp; omega)) _) | (with_reducible refine Below.setCell ?_ (by first | omega | (simp; done) | (simp; omega)) _) | (refine Below.trans ?_ (Below.mono (by with_reducible assumption) (by first | omega | (simp; done) | (simp; omega)))))))
    have hd' : decide (ord.length = ms.length) = true := by simpa using hfull
    have hs1 : ms.length ≤ 64 := HBa.out.m
    have hs2 : ws.length ≤ 200 := HBa.out.w
    have Hfull := Lib.hid hfull
    clear hfull
    obtain ⟨i0, hi0, hz0, hz1, hz2⟩ := info_parts infoInt
    obtain ⟨i1, hi1, hy0, hy1, hy2⟩ := info_parts infoBool
    have hmkI : ∀ W : World, (Instr.makeSlice 22 (.int .i64 (ms.length : Int)) (.int .i64 (ms.length : Int))).run Try.prog W = .ok (.slice (some ⟨W.heap.size, 0, none⟩) ms.length ms.length) (W.alloc (.cells (List.replicate ms.length (Value.int .i64 0)).toArray 3)) := fun W => by
      have := run_make (P := Try.prog) W 22 3 i0 _ Try.underlying22 hi0 hz0 .i64 .i64 ms.length ms.length (by omega) (by omega) (by rw [hz2]; omega) (by omega)
      rw [this, hz1]
      simp only [Int.toNat_natCast]
      congr 3
      apply Array.toList_inj.1
      have h2 := madeCells_one (Value.int .i64) 0 ms.length
      simpa [Value.cells] using h2
    have hmkB : ∀ W : World, (Instr.makeSlice 28 (.int .i64 (ws.length : Int)) (.int .i64 (ws.length : Int))).run Try.prog W = .ok (.slice (some ⟨W.heap.size, 0, none⟩) ws.length ws.length) (W.alloc (.cells (List.replicate ws.length (Value.bool false)).toArray 4)) := fun W => by
      have := run_make (P := Try.prog) W 28 4 i1 _ Try.underlying28 hi1 hy0 .i64 .i64 ws.length ws.length (by omega) (by omega) (by rw [hy2]; omega) (by omega)
      rw [this, hy1]
      simp only [Int.toNat_natCast]
      congr 3
      apply Array.toList_inj.1
      have h2 := madeCells_one Value.bool false ws.length
      simpa [Value.cells] using h2
    generalize hri : (List.replicate ms.length (Value.int .i64 0)).toArray = RI at hmkI
    generalize hrb : (List.replicate ws.length (Value.bool false)).toArray = RB at hmkB
    have Hri := Lib.hid hri
    have Hrb := Lib.hid hrb
    clear hri hrb hi0 hz0 hz1 hz2 hi1 hy0 hy1 hy2
    go_upto_region 4 with fail
    go_cut [10, 39] (fun v v39 wx => Init w1 ms.length ws.length v v39 wx)
    case first =>
      go_region
      all_goals clear hmkI hmkB
      all_goals
        go_wp2_with fail
        go_meet
        case rel =>
          refine ⟨_, _, _, _, rfl, rfl, prs_mk hs1 hs2 ?_ ?_ ?_ ?_ ?_ ?_⟩
          · with_reducible first | exact blkD0 _ _ _ _ _ _ | exact blkD1 _ _ _ _ _ _ | exact blkD2 _ _ _ _ _ _ | exact blkD3 _ _ _ _ _ _
          · rw [Hri.out]; with_reducible first | exact blkD0 _ _ _ _ _ _ | exact blkD1 _ _ _ _ _ _ | exact blkD2 _ _ _ _ _ _ | exact blkD3 _ _ _ _ _ _
          · rw [Hri.out]; with_reducible first | exact blkD0 _ _ _ _ _ _ | exact blkD1 _ _ _ _ _ _ | exact blkD2 _ _ _ _ _ _ | exact blkD3 _ _ _ _ _ _
          · rw [Hrb.out]; with_reducible first | exact blkD0 _ _ _ _ _ _ | exact blkD1 _ _ _ _ _ _ | exact blkD2 _ _ _ _ _ _ | exact blkD3 _ _ _ _ _ _
          · exact (by repeat (first | exact Below.refl _ _ | (with_reducible refine Below.drew ?_) | (with_reducible refine below_drewN ?_ _) | (with_reducible refine Below.alloc ?_ (by first | omega | (simp; done) | (simp; omega)) _) | (with_reducible refine Below.setCell ?_ (by first | omega | (simp; done) | (simp; omega)) _) | (refine Below.trans ?_ (Below.mono (by with_reducible assumption) (by first | omega | (simp; done) | (simp; omega))))))
          · omega
    case rest =>
      obtain ⟨S, GB, GS, GK, rfl, rfl, hprs⟩ := hcut
      have HP := Lib.hid hprs
      have HPr0 := Lib.hid (pr_start ms ws ps ord)
      clear hprs hmkI hmkB Hri Hrb
      have hws : w.heap.size ≤ w1.heap.size := Hb1.out.size
      have hbS : w.heap.size ≠ S := by have := HP.out.sl; omega
      go_wp2_with fail
      go_loopg [12, 13, 14, 15, 16, 17, 19, 42, 58, 123] ord.length (fun k _ _ _ _ _ _ _ v _ _ wr => Pr1 w1 ms ws ps ord S GB GS GK k v wr)
      case atStart => exact ⟨0, _, _, _, rfl, by omega, HPr0.out, HP.out⟩
      case round =>
        obtain ⟨t, base, sec, kept, rfl, ht, hpr, hprs⟩ := hrel
        have Ht := Lib.hid ht
        have HPr := Lib.hid hpr
        clear HP HPr0
        have HP := Lib.hid hprs
        clear ht hpr hprs
        by_cases hlt : t < ord.length
        · obtain ⟨bo, oo, rfl, hbo, qo⟩ := rd1 (HOr.out.grow HP.out.bel) t hlt
          have hin := HT.out.lt ord[t] (List.getElem_mem hlt)
          have hiP : ord[t] ∈ ord := List.getElem_mem hlt
          generalize hoi : ord[t] = oi at *
          have Hoi := Lib.hid hoi
          clear hoi hiP
          obtain ⟨hi0, hi1⟩ := hin
          obtain ⟨i, rfl⟩ := Int.eq_ofNat_of_zero_le hi0
          have him : i < ms.length := by omega
          obtain ⟨bm, om, rfl, hbm, m0, m1⟩ := rdMom ((HA.out.grow Hb1.out).more Hb1.out.size |>.grow HP.out.bel) rfl i him
          rw [← tm_nat ms i him] at m0
          rw [← hd_nat ms i him] at m1
          have htm : 0 ≤ tm ms i ∧ tm ms i ≤ 4194304 := by
            have := HBa.out.mAll ms[i] (List.getElem_mem him)
            rw [tm_nat ms i him]; simpa [clkB] using this
          obtain ⟨htm0, htm1⟩ := htm
          generalize htme : tm ms i = tmi at *
          generalize hhde : hd ms i = hdi at *
          have Htme := Lib.hid htme
          have Hhde := Lib.hid hhde
          clear htme hhde
          obtain ⟨wo, rfl⟩ : ∃ wo : World, wo = wr := ⟨_, rfl⟩
          go_wp2_with fail
          go_loopg [13, 14, 15, 16, 17, 58] ws.length (fun k v13 v14 _ _ _ v wr => Pr2 w1 ms ws i base sec kept S GB GS GK k v13 v14 v wr)
          case atStart => exact ⟨0, kept, rfl, by omega, by simp [Hhde.out], by simp [Htme.out], ⟨HPr.out.lk, fun b hb => by simp⟩, HP.out⟩
          case round =>
            obtain ⟨a, kept', rfl, ha, rfl, rfl, hkup, hprs⟩ := hrel
            have Ha := Lib.hid ha
            have HKu := Lib.hid hkup
            have HP2 := Lib.hid hprs
            clear ha hkup hprs HP m0 m1 qo
            by_cases hlta : a < ws.length
            · obtain ⟨bw, ow, rfl, hbw, d0, d1, d2, d3⟩ := rdWt ((HB.out.grow Hb1.out).more Hb1.out.size |>.grow HP2.out.bel) rfl a hlta
              have hwk := (wtB_ok _ _).1 (HBa.out.wAll ws[a] (List.getElem_mem hlta))
              have htf := take_fold (ms := ms) (sec := sec) (i := i) hlta (hd ms i, tm ms i)
              have Hskip := Lib.hid (fun h => HKu.out.skip hlta h)
              have Htake := Lib.hid (fun h => HKu.out.take hlta h)
              generalize hk : ws[a] = kk at *
              generalize (ws.take a).foldl (stepB ms sec i) (hd ms i, tm ms i) = st at *
              obtain ⟨sb, sv⟩ := st
              have Htf := Lib.hid htf
              clear hk htf HKu
              obtain ⟨kf, kt, km, kx⟩ := kk
              simp only at d0 d1 d2 d3 Hskip Htake
              by_cases hti : kt = (i : Int)
              · subst hti
                have hti' : ((i : Int) != (i : Int)) = false := by simp
                obtain ⟨f, rfl⟩ := Int.eq_ofNat_of_zero_le (show 0 ≤ kf from hwk.f0)
                have hfn : f < ms.length := by have := hwk.f1; simp only at this; omega
                have hkm0 : 0 ≤ km := hwk.m0
                have hkm1 : km ≤ 4194304 := hwk.m1
                have hkx0 : -1 ≤ kx := hwk.x0
                have hkx1 : kx ≤ 4194304 := hwk.x1
                have hlo := HPr.out.lo f (by omega) (by omega)
                have hsl : f < sec.length := by rw [HPr.out.ls]; exact hfn
                have q0 := own1 HP2.out.os f hsl
                rw [show sec[f] = gi sec f from (gi_nat sec f hsl).symm] at q0
                have htl : t < 64 := by have := Hfull.out; omega
                have hrd : rdy sec ⟨f, i, km, kx⟩ = gi sec f + km := rfl
                have Hrd := Lib.hid hrd
                have hkb : keptB ms sec ⟨f, i, km, kx⟩ = (kx == -1 || decide (gi sec f + km ≤ tmi + kx)) := by unfold keptB; rw [hrd, Htme.out]
                have Hkb := Lib.hid hkb
                have HK3 := Lib.hid (Htake.out rfl)
                obtain ⟨hlo0, hlo1⟩ := hlo
                have hlo2 : gi sec f ≤ 541065216 := by omega
                clear hwk hrd hkb Htake Hskip hlo1 hsl
                generalize gi sec f = rv at *
                obtain ⟨s0, s1, s2, z0, z1, z2, z3⟩ := HP2.out.cells
                cases hx : (kx == -1)
                · cases hle : decide (rv + km ≤ tmi + kx)
                  · rw [Hkb.out, hx, hle] at HK3
                    simp only [Bool.or_self] at HK3
                    have Hst := Lib.hid (show stepB ms sec i (sb, sv) ⟨f, i, km, kx⟩ = (sb, sv) by unfold stepB; rw [Hkb.out, hx, hle]; simp)
                    go_upto_region 14 with fail
                    refine wp_region_overL (by kernel_rfl) (by kernel_rfl) ?_
                    repeat (go_big_quiet_step ((fail)))
                    refine wpQuiet_nil ?_
                    intro w5 hb5
                    have hb5' : Below wr.heap.size wr w5 := ((Below.refl _ _).alloc (Nat.le_refl _) _).trans (hb5.mono (by simp))
                    have HP5 := Lib.hid (HP2.out.grow hb5')
                    have HX5 := Lib.hid ((Blk.new wr 35 #[.int .i64 (f : Int), .int .i64 (i : Int), .int .i64 km, .int .i64 kx]).same (hb5.block _ (by simp)))
                    clear HP2 hb5 hb5' d0 d1 d2 d3 s0 s1 s2 z0 z1 z2 z3 q0
                    generalize wr.heap.size = bx at *
                    obtain ⟨s0, s1, s2, z0, z1, z2, z3⟩ := HP5.out.cells
                    have x3 := HX5.out.cell 3
                    simp at x3
                    have hbx5 : bx < w5.heap.size := HX5.out.lt
                    have ka := own1 HP5.out.ok a (by have := own1_len HP5.out.ok; omega)
                    have fa := HP5.out.ok.frozenAt a
                    obtain ⟨bm, om, hAm, hbm2, m0, _⟩ := rdMom ((HA.out.grow Hb1.out).more Hb1.out.size |>.grow HP5.out.bel) rfl i him
                    rw [← tm_nat ms i him, Htme.out] at m0
                    injection hAm with hAm
                    injection hAm with hAm1 hAm2
                    subst hAm1 hAm2
                    have hbm5 : bm < w5.heap.size := World.block_lt_of_cell? _ _ m0
                    go_upto_region 15 with fail
                    refine wp_region_overT 19 (by kernel_rfl) (by kernel_rfl) ?_
                    simp only [List.take_succ_cons, List.take_zero, List.drop_succ_cons, List.drop_zero]
                    repeat (go_big_quiet_step ((fail)))
                    refine wpQuiet_nil ?_
                    intro w6 hb6
                    have HP6 := Lib.hid (HP5.out.grow hb6)
                    clear HP5 HX5 hb6 s0 s1 s2 z0 z1 z2 z3 x3 hbx5 ka fa m0 hbm5
                    obtain ⟨s0, s1, s2, z0, z1, z2, z3⟩ := HP6.out.cells
                    have ka := own1 HP6.out.ok a (by have := own1_len HP6.out.ok; omega)
                    have fa := HP6.out.ok.frozenAt a
                    have HP7 := Lib.hid (HP6.out.setK a false)
                    have hSK : S ≠ GK := HP6.out.n6
                    go_upto_region 16 with fail
                    clear s0 s1 s2 z0 z1 z2 z3 ka fa HP6
                    generalize w6.setCell ⟨GK, a, none⟩ (.bool false) = w7 at *
                    obtain ⟨s0, s1, s2, z0, z1, z2, z3⟩ := HP7.out.cells
                    have ka := own1 HP7.out.ok a (by have := own1_len HP7.out.ok; omega)
                    rw [List.getElem_set_self] at ka
                    go_wp2_with fail
                    go_roundg (ws.length - a - 1)
                    case measure => have := Ha.out; omega
                    case rel => exact ⟨a + 1, _, by first | rfl | go_num, by omega, by rw [Htf.out, Hst.out], by rw [Htf.out, Hst.out], HK3.out, HP7.out⟩
                  · rw [Hkb.out, hx, hle] at HK3
                    simp only [Bool.or_true] at HK3
                    cases sb
                    · have Hst := Lib.hid (show stepB ms sec i (false, sv) ⟨f, i, km, kx⟩ = (true, rv + km) by unfold stepB; rw [Hkb.out, hx, hle, Hrd.out]; simp)
                      go_upto_region 14 with fail
                      refine wp_region_overL (by kernel_rfl) (by kernel_rfl) ?_
                      repeat (go_big_quiet_step ((fail)))
                      refine wpQuiet_nil ?_
                      intro w5 hb5
                      have hb5' : Below wr.heap.size wr w5 := ((Below.refl _ _).alloc (Nat.le_refl _) _).trans (hb5.mono (by simp))
                      have HP5 := Lib.hid (HP2.out.grow hb5')
                      have HX5 := Lib.hid ((Blk.new wr 35 #[.int .i64 (f : Int), .int .i64 (i : Int), .int .i64 km, .int .i64 kx]).same (hb5.block _ (by simp)))
                      clear HP2 hb5 hb5' d0 d1 d2 d3 s0 s1 s2 z0 z1 z2 z3 q0
                      generalize wr.heap.size = bx at *
                      obtain ⟨s0, s1, s2, z0, z1, z2, z3⟩ := HP5.out.cells
                      have x3 := HX5.out.cell 3
                      simp at x3
                      have hbx5 : bx < w5.heap.size := HX5.out.lt
                      have ka := own1 HP5.out.ok a (by have := own1_len HP5.out.ok; omega)
                      have fa := HP5.out.ok.frozenAt a
                      obtain ⟨bm, om, hAm, hbm2, m0, _⟩ := rdMom ((HA.out.grow Hb1.out).more Hb1.out.size |>.grow HP5.out.bel) rfl i him
                      rw [← tm_nat ms i him, Htme.out] at m0
                      injection hAm with hAm
                      injection hAm with hAm1 hAm2
                      subst hAm1 hAm2
                      have hbm5 : bm < w5.heap.size := World.block_lt_of_cell? _ _ m0
                      go_upto_region 15 with fail
                      refine wp_region_overT 19 (by kernel_rfl) (by kernel_rfl) ?_
                      simp only [List.take_succ_cons, List.take_zero, List.drop_succ_cons, List.drop_zero]
                      repeat (go_big_quiet_step ((fail)))
                      refine wpQuiet_nil ?_
                      intro w6 hb6
                      have HP6 := Lib.hid (HP5.out.grow hb6)
                      clear HP5 HX5 hb6 s0 s1 s2 z0 z1 z2 z3 x3 hbx5 ka fa m0 hbm5
                      obtain ⟨s0, s1, s2, z0, z1, z2, z3⟩ := HP6.out.cells
                      have ka := own1 HP6.out.ok a (by have := own1_len HP6.out.ok; omega)
                      have fa := HP6.out.ok.frozenAt a
                      have HP7 := Lib.hid (HP6.out.setK a true)
                      have hSK : S ≠ GK := HP6.out.n6
                      go_upto_region 16 with fail
                      clear s0 s1 s2 z0 z1 z2 z3 ka fa HP6
                      generalize w6.setCell ⟨GK, a, none⟩ (.bool true) = w7 at *
                      obtain ⟨s0, s1, s2, z0, z1, z2, z3⟩ := HP7.out.cells
                      have ka := own1 HP7.out.ok a (by have := own1_len HP7.out.ok; omega)
                      rw [List.getElem_set_self] at ka
                      go_wp2_with fail
                      go_roundg (ws.length - a - 1)
                      case measure => have := Ha.out; omega
                      case rel => exact ⟨a + 1, _, by first | rfl | go_num, by omega, by rw [Htf.out, Hst.out], by rw [Htf.out, Hst.out], HK3.out, HP7.out⟩
                    · by_cases hgt : sv < rv + km
                      · have Hst := Lib.hid (show stepB ms sec i (true, sv) ⟨f, i, km, kx⟩ = (true, rv + km) by unfold stepB; rw [Hkb.out, hx, hle, Hrd.out]; simp [hgt])
                        go_upto_region 14 with fail
                        refine wp_region_overL (by kernel_rfl) (by kernel_rfl) ?_
                        repeat (go_big_quiet_step ((fail)))
                        refine wpQuiet_nil ?_
                        intro w5 hb5
                        have hb5' : Below wr.heap.size wr w5 := ((Below.refl _ _).alloc (Nat.le_refl _) _).trans (hb5.mono (by simp))
                        have HP5 := Lib.hid (HP2.out.grow hb5')
                        have HX5 := Lib.hid ((Blk.new wr 35 #[.int .i64 (f : Int), .int .i64 (i : Int), .int .i64 km, .int .i64 kx]).same (hb5.block _ (by simp)))
                        clear HP2 hb5 hb5' d0 d1 d2 d3 s0 s1 s2 z0 z1 z2 z3 q0
                        generalize wr.heap.size = bx at *
                        obtain ⟨s0, s1, s2, z0, z1, z2, z3⟩ := HP5.out.cells
                        have x3 := HX5.out.cell 3
                        simp at x3
                        have hbx5 : bx < w5.heap.size := HX5.out.lt
                        have ka := own1 HP5.out.ok a (by have := own1_len HP5.out.ok; omega)
                        have fa := HP5.out.ok.frozenAt a
                        obtain ⟨bm, om, hAm, hbm2, m0, _⟩ := rdMom ((HA.out.grow Hb1.out).more Hb1.out.size |>.grow HP5.out.bel) rfl i him
                        rw [← tm_nat ms i him, Htme.out] at m0
                        injection hAm with hAm
                        injection hAm with hAm1 hAm2
                        subst hAm1 hAm2
                        have hbm5 : bm < w5.heap.size := World.block_lt_of_cell? _ _ m0
                        go_upto_region 15 with fail
                        refine wp_region_overT 19 (by kernel_rfl) (by kernel_rfl) ?_
                        simp only [List.take_succ_cons, List.take_zero, List.drop_succ_cons, List.drop_zero]
                        repeat (go_big_quiet_step ((fail)))
                        refine wpQuiet_nil ?_
                        intro w6 hb6
                        have HP6 := Lib.hid (HP5.out.grow hb6)
                        clear HP5 HX5 hb6 s0 s1 s2 z0 z1 z2 z3 x3 hbx5 ka fa m0 hbm5
                        obtain ⟨s0, s1, s2, z0, z1, z2, z3⟩ := HP6.out.cells
                        have ka := own1 HP6.out.ok a (by have := own1_len HP6.out.ok; omega)
                        have fa := HP6.out.ok.frozenAt a
                        have HP7 := Lib.hid (HP6.out.setK a true)
                        have hSK : S ≠ GK := HP6.out.n6
                        go_upto_region 16 with fail
                        clear s0 s1 s2 z0 z1 z2 z3 ka fa HP6
                        generalize w6.setCell ⟨GK, a, none⟩ (.bool true) = w7 at *
                        obtain ⟨s0, s1, s2, z0, z1, z2, z3⟩ := HP7.out.cells
                        have ka := own1 HP7.out.ok a (by have := own1_len HP7.out.ok; omega)
                        rw [List.getElem_set_self] at ka
                        go_wp2_with fail
                        go_roundg (ws.length - a - 1)
                        case measure => have := Ha.out; omega
                        case rel => exact ⟨a + 1, _, by first | rfl | go_num, by omega, by rw [Htf.out, Hst.out], by rw [Htf.out, Hst.out], HK3.out, HP7.out⟩
                      · have Hst := Lib.hid (show stepB ms sec i (true, sv) ⟨f, i, km, kx⟩ = (true, sv) by unfold stepB; rw [Hkb.out, hx, hle, Hrd.out]; simp [hgt])
                        have hgt' : decide (sv < rv + km) = false := by simpa using hgt
                        go_upto_region 14 with fail
                        refine wp_region_overL (by kernel_rfl) (by kernel_rfl) ?_
                        repeat (go_big_quiet_step ((fail)))
                        refine wpQuiet_nil ?_
                        intro w5 hb5
                        have hb5' : Below wr.heap.size wr w5 := ((Below.refl _ _).alloc (Nat.le_refl _) _).trans (hb5.mono (by simp))
                        have HP5 := Lib.hid (HP2.out.grow hb5')
                        have HX5 := Lib.hid ((Blk.new wr 35 #[.int .i64 (f : Int), .int .i64 (i : Int), .int .i64 km, .int .i64 kx]).same (hb5.block _ (by simp)))
                        clear HP2 hb5 hb5' d0 d1 d2 d3 s0 s1 s2 z0 z1 z2 z3 q0
                        generalize wr.heap.size = bx at *
                        obtain ⟨s0, s1, s2, z0, z1, z2, z3⟩ := HP5.out.cells
                        have x3 := HX5.out.cell 3
                        simp at x3
                        have hbx5 : bx < w5.heap.size := HX5.out.lt
                        have ka := own1 HP5.out.ok a (by have := own1_len HP5.out.ok; omega)
                        have fa := HP5.out.ok.frozenAt a
                        obtain ⟨bm, om, hAm, hbm2, m0, _⟩ := rdMom ((HA.out.grow Hb1.out).more Hb1.out.size |>.grow HP5.out.bel) rfl i him
                        rw [← tm_nat ms i him, Htme.out] at m0
                        injection hAm with hAm
                        injection hAm with hAm1 hAm2
                        subst hAm1 hAm2
                        have hbm5 : bm < w5.heap.size := World.block_lt_of_cell? _ _ m0
                        go_upto_region 15 with fail
                        refine wp_region_overT 19 (by kernel_rfl) (by kernel_rfl) ?_
                        simp only [List.take_succ_cons, List.take_zero, List.drop_succ_cons, List.drop_zero]
                        repeat (go_big_quiet_step ((fail)))
                        refine wpQuiet_nil ?_
                        intro w6 hb6
                        have HP6 := Lib.hid (HP5.out.grow hb6)
                        clear HP5 HX5 hb6 s0 s1 s2 z0 z1 z2 z3 x3 hbx5 ka fa m0 hbm5
                        obtain ⟨s0, s1, s2, z0, z1, z2, z3⟩ := HP6.out.cells
                        have ka := own1 HP6.out.ok a (by have := own1_len HP6.out.ok; omega)
                        have fa := HP6.out.ok.frozenAt a
                        have HP7 := Lib.hid (HP6.out.setK a true)
                        have hSK : S ≠ GK := HP6.out.n6
                        go_upto_region 16 with fail
                        clear s0 s1 s2 z0 z1 z2 z3 ka fa HP6
                        generalize w6.setCell ⟨GK, a, none⟩ (.bool true) = w7 at *
                        obtain ⟨s0, s1, s2, z0, z1, z2, z3⟩ := HP7.out.cells
                        have ka := own1 HP7.out.ok a (by have := own1_len HP7.out.ok; omega)
                        rw [List.getElem_set_self] at ka
                        go_wp2_with fail
                        go_roundg (ws.length - a - 1)
                        case measure => have := Ha.out; omega
                        case rel => exact ⟨a + 1, _, by first | rfl | go_num, by omega, by rw [Htf.out, Hst.out], by rw [Htf.out, Hst.out], HK3.out, HP7.out⟩
                · rw [Hkb.out, hx] at HK3
                  simp only [Bool.true_or] at HK3
                  cases sb
                  · have Hst := Lib.hid (show stepB ms sec i (false, sv) ⟨f, i, km, kx⟩ = (true, rv + km) by unfold stepB; rw [Hkb.out, hx, Hrd.out]; simp)
                    go_upto_region 14 with fail
                    refine wp_region_overL (by kernel_rfl) (by kernel_rfl) ?_
                    repeat (go_big_quiet_step ((fail)))
                    refine wpQuiet_nil ?_
                    intro w5 hb5
                    have hb5' : Below wr.heap.size wr w5 := ((Below.refl _ _).alloc (Nat.le_refl _) _).trans (hb5.mono (by simp))
                    have HP5 := Lib.hid (HP2.out.grow hb5')
                    have HX5 := Lib.hid ((Blk.new wr 35 #[.int .i64 (f : Int), .int .i64 (i : Int), .int .i64 km, .int .i64 kx]).same (hb5.block _ (by simp)))
                    clear HP2 hb5 hb5' d0 d1 d2 d3 s0 s1 s2 z0 z1 z2 z3 q0
                    generalize wr.heap.size = bx at *
                    obtain ⟨s0, s1, s2, z0, z1, z2, z3⟩ := HP5.out.cells
                    have x3 := HX5.out.cell 3
                    simp at x3
                    have hbx5 : bx < w5.heap.size := HX5.out.lt
                    have ka := own1 HP5.out.ok a (by have := own1_len HP5.out.ok; omega)
                    have fa := HP5.out.ok.frozenAt a
                    obtain ⟨bm, om, hAm, hbm2, m0, _⟩ := rdMom ((HA.out.grow Hb1.out).more Hb1.out.size |>.grow HP5.out.bel) rfl i him
                    rw [← tm_nat ms i him, Htme.out] at m0
                    injection hAm with hAm
                    injection hAm with hAm1 hAm2
                    subst hAm1 hAm2
                    have hbm5 : bm < w5.heap.size := World.block_lt_of_cell? _ _ m0
                    go_upto_region 15 with fail
                    refine wp_region_overT 19 (by kernel_rfl) (by kernel_rfl) ?_
                    simp only [List.take_succ_cons, List.take_zero, List.drop_succ_cons, List.drop_zero]
                    repeat (go_big_quiet_step ((fail)))
                    refine wpQuiet_nil ?_
                    intro w6 hb6
                    have HP6 := Lib.hid (HP5.out.grow hb6)
                    clear HP5 HX5 hb6 s0 s1 s2 z0 z1 z2 z3 x3 hbx5 ka fa m0 hbm5
                    obtain ⟨s0, s1, s2, z0, z1, z2, z3⟩ := HP6.out.cells
                    have ka := own1 HP6.out.ok a (by have := own1_len HP6.out.ok; omega)
                    have fa := HP6.out.ok.frozenAt a
                    have HP7 := Lib.hid (HP6.out.setK a true)
                    have hSK : S ≠ GK := HP6.out.n6
                    go_upto_region 16 with fail
                    clear s0 s1 s2 z0 z1 z2 z3 ka fa HP6
                    generalize w6.setCell ⟨GK, a, none⟩ (.bool true) = w7 at *
                    obtain ⟨s0, s1, s2, z0, z1, z2, z3⟩ := HP7.out.cells
                    have ka := own1 HP7.out.ok a (by have := own1_len HP7.out.ok; omega)
                    rw [List.getElem_set_self] at ka
                    go_wp2_with fail
                    go_roundg (ws.length - a - 1)
                    case measure => have := Ha.out; omega
                    case rel => exact ⟨a + 1, _, by first | rfl | go_num, by omega, by rw [Htf.out, Hst.out], by rw [Htf.out, Hst.out], HK3.out, HP7.out⟩
                  · by_cases hgt : sv < rv + km
                    · have Hst := Lib.hid (show stepB ms sec i (true, sv) ⟨f, i, km, kx⟩ = (true, rv + km) by unfold stepB; rw [Hkb.out, hx, Hrd.out]; simp [hgt])
                      go_upto_region 14 with fail
                      refine wp_region_overL (by kernel_rfl) (by kernel_rfl) ?_
                      repeat (go_big_quiet_step ((fail)))
                      refine wpQuiet_nil ?_
                      intro w5 hb5
                      have hb5' : Below wr.heap.size wr w5 := ((Below.refl _ _).alloc (Nat.le_refl _) _).trans (hb5.mono (by simp))
                      have HP5 := Lib.hid (HP2.out.grow hb5')
                      have HX5 := Lib.hid ((Blk.new wr 35 #[.int .i64 (f : Int), .int .i64 (i : Int), .int .i64 km, .int .i64 kx]).same (hb5.block _ (by simp)))
                      clear HP2 hb5 hb5' d0 d1 d2 d3 s0 s1 s2 z0 z1 z2 z3 q0
                      generalize wr.heap.size = bx at *
                      obtain ⟨s0, s1, s2, z0, z1, z2, z3⟩ := HP5.out.cells
                      have x3 := HX5.out.cell 3
                      simp at x3
                      have hbx5 : bx < w5.heap.size := HX5.out.lt
                      have ka := own1 HP5.out.ok a (by have := own1_len HP5.out.ok; omega)
                      have fa := HP5.out.ok.frozenAt a
                      obtain ⟨bm, om, hAm, hbm2, m0, _⟩ := rdMom ((HA.out.grow Hb1.out).more Hb1.out.size |>.grow HP5.out.bel) rfl i him
                      rw [← tm_nat ms i him, Htme.out] at m0
                      injection hAm with hAm
                      injection hAm with hAm1 hAm2
                      subst hAm1 hAm2
                      have hbm5 : bm < w5.heap.size := World.block_lt_of_cell? _ _ m0
                      go_upto_region 15 with fail
                      refine wp_region_overT 19 (by kernel_rfl) (by kernel_rfl) ?_
                      simp only [List.take_succ_cons, List.take_zero, List.drop_succ_cons, List.drop_zero]
                      repeat (go_big_quiet_step ((fail)))
                      refine wpQuiet_nil ?_
                      intro w6 hb6
                      have HP6 := Lib.hid (HP5.out.grow hb6)
                      clear HP5 HX5 hb6 s0 s1 s2 z0 z1 z2 z3 x3 hbx5 ka fa m0 hbm5
                      obtain ⟨s0, s1, s2, z0, z1, z2, z3⟩ := HP6.out.cells
                      have ka := own1 HP6.out.ok a (by have := own1_len HP6.out.ok; omega)
                      have fa := HP6.out.ok.frozenAt a
                      have HP7 := Lib.hid (HP6.out.setK a true)
                      have hSK : S ≠ GK := HP6.out.n6
                      go_upto_region 16 with fail
                      clear s0 s1 s2 z0 z1 z2 z3 ka fa HP6
                      generalize w6.setCell ⟨GK, a, none⟩ (.bool true) = w7 at *
                      obtain ⟨s0, s1, s2, z0, z1, z2, z3⟩ := HP7.out.cells
                      have ka := own1 HP7.out.ok a (by have := own1_len HP7.out.ok; omega)
                      rw [List.getElem_set_self] at ka
                      go_wp2_with fail
                      go_roundg (ws.length - a - 1)
                      case measure => have := Ha.out; omega
                      case rel => exact ⟨a + 1, _, by first | rfl | go_num, by omega, by rw [Htf.out, Hst.out], by rw [Htf.out, Hst.out], HK3.out, HP7.out⟩
                    · have Hst := Lib.hid (show stepB ms sec i (true, sv) ⟨f, i, km, kx⟩ = (true, sv) by unfold stepB; rw [Hkb.out, hx, Hrd.out]; simp [hgt])
                      have hgt' : decide (sv < rv + km) = false := by simpa using hgt
                      go_upto_region 14 with fail
                      refine wp_region_overL (by kernel_rfl) (by kernel_rfl) ?_
                      repeat (go_big_quiet_step ((fail)))
                      refine wpQuiet_nil ?_
                      intro w5 hb5
                      have hb5' : Below wr.heap.size wr w5 := ((Below.refl _ _).alloc (Nat.le_refl _) _).trans (hb5.mono (by simp))
                      have HP5 := Lib.hid (HP2.out.grow hb5')
                      have HX5 := Lib.hid ((Blk.new wr 35 #[.int .i64 (f : Int), .int .i64 (i : Int), .int .i64 km, .int .i64 kx]).same (hb5.block _ (by simp)))
                      clear HP2 hb5 hb5' d0 d1 d2 d3 s0 s1 s2 z0 z1 z2 z3 q0
                      generalize wr.heap.size = bx at *
                      obtain ⟨s0, s1, s2, z0, z1, z2, z3⟩ := HP5.out.cells
                      have x3 := HX5.out.cell 3
                      simp at x3
                      have hbx5 : bx < w5.heap.size := HX5.out.lt
                      have ka := own1 HP5.out.ok a (by have := own1_len HP5.out.ok; omega)
                      have fa := HP5.out.ok.frozenAt a
                      obtain ⟨bm, om, hAm, hbm2, m0, _⟩ := rdMom ((HA.out.grow Hb1.out).more Hb1.out.size |>.grow HP5.out.bel) rfl i him
                      rw [← tm_nat ms i him, Htme.out] at m0
                      injection hAm with hAm
                      injection hAm with hAm1 hAm2
                      subst hAm1 hAm2
                      have hbm5 : bm < w5.heap.size := World.block_lt_of_cell? _ _ m0
                      go_upto_region 15 with fail
                      refine wp_region_overT 19 (by kernel_rfl) (by kernel_rfl) ?_
                      simp only [List.take_succ_cons, List.take_zero, List.drop_succ_cons, List.drop_zero]
                      repeat (go_big_quiet_step ((fail)))
                      refine wpQuiet_nil ?_
                      intro w6 hb6
                      have HP6 := Lib.hid (HP5.out.grow hb6)
                      clear HP5 HX5 hb6 s0 s1 s2 z0 z1 z2 z3 x3 hbx5 ka fa m0 hbm5
                      obtain ⟨s0, s1, s2, z0, z1, z2, z3⟩ := HP6.out.cells
                      have ka := own1 HP6.out.ok a (by have := own1_len HP6.out.ok; omega)
                      have fa := HP6.out.ok.frozenAt a
                      have HP7 := Lib.hid (HP6.out.setK a true)
                      have hSK : S ≠ GK := HP6.out.n6
                      go_upto_region 16 with fail
                      clear s0 s1 s2 z0 z1 z2 z3 ka fa HP6
                      generalize w6.setCell ⟨GK, a, none⟩ (.bool true) = w7 at *
                      obtain ⟨s0, s1, s2, z0, z1, z2, z3⟩ := HP7.out.cells
                      have ka := own1 HP7.out.ok a (by have := own1_len HP7.out.ok; omega)
                      rw [List.getElem_set_self] at ka
                      go_wp2_with fail
                      go_roundg (ws.length - a - 1)
                      case measure => have := Ha.out; omega
                      case rel => exact ⟨a + 1, _, by first | rfl | go_num, by omega, by rw [Htf.out, Hst.out], by rw [Htf.out, Hst.out], HK3.out, HP7.out⟩
              · have hti' : (kt != (i : Int)) = true := by simpa using hti
                have HK3 := Lib.hid (Hskip.out hti)
                have Hst := Lib.hid (show stepB ms sec i (sb, sv) ⟨kf, kt, km, kx⟩ = (sb, sv) by unfold stepB; rw [if_neg (fun h => hti h.1)])
                clear hti Hskip Htake
                go_wp2_with fail
                go_roundg (ws.length - a - 1)
                case measure => have := Ha.out; omega
                case rel =>
                  exact ⟨a + 1, kept', by first | rfl | go_num, by omega, by rw [Htf.out, Hst.out], by rw [Htf.out, Hst.out], HK3.out, HP2.out.grow ((Below.refl _ _).alloc (Nat.le_refl _) _)⟩
            · have hfold : (ws.take a).foldl (stepB ms sec i) (hd ms i, tm ms i) = baseS ms ws sec i := by rw [List.take_of_length_le (by omega)]; rfl
              rw [hfold]
              have hKf := HKu.out
              have haw : a = ws.length := by have := Ha.out; omega
              rw [haw] at hKf
              have hnext := HPr.out.next HT.out hlt Hoi.out (fun k hk => (wtB_ok _ _).1 (HBa.out.wAll k hk)) HBa.out hKf
              have hbb := base_bd ms ws sec i ((2 * t + 1) * 4194304) (fun k hk e => by
                have hk' := (wtB_ok _ _).1 (HBa.out.wAll k hk)
                have := HPr.out.lo k.fr hk'.f0 hk'.f1
                have := hk'.m0
                have := hk'.m1
                unfold rdy; omega) (by rw [Htme.out]; omega) (by rw [Htme.out]; omega)
              have htl : t < 64 := by have := Hfull.out; omega
              generalize baseS ms ws sec i = bs at *
              obtain ⟨bb, bv⟩ := bs
              simp only at hnext hbb
              have Hnext := Lib.hid hnext
              obtain ⟨hbv0, hbv1⟩ := hbb
              have hbv2 : bv ≤ 600000000 := by omega
              clear hnext hKf hfold haw HKu Ha hbv1
              obtain ⟨s0, s1, s2, z0, z1, z2, z3⟩ := HP2.out.cells
              have qb := own1 HP2.out.ob i (by have := own1_len HP2.out.ob; omega)
              have qs := own1 HP2.out.os i (by have := own1_len HP2.out.os; omega)
              have fb := HP2.out.ob.frozenAt i
              have fs := HP2.out.os.frozenAt i
              have hSB : S ≠ GB := HP2.out.n4
              have hSS : S ≠ GS := HP2.out.n5
              have hBS : GB ≠ GS := HP2.out.n1
              have hSB' : GB ≠ S := hSB.symm
              have hSS' : GS ≠ S := hSS.symm
              have hBS' : GS ≠ GB := hBS.symm
              have HP3 := Lib.hid ((HP2.out.setB i bv).setS i bv)
              go_upto_region 19 with fail
              go_region
              have HP4 := Lib.hid (HP3.out.grow ((Below.refl _ _).drew))
              clear HP2 HP3 s0 s1 s2 z0 z1 z2 z3 qb qs fb fs
              go_wp2_with fail
              generalize ((wr.setCell ⟨GB, i, none⟩ (.int .i64 bv)).setCell ⟨GS, i, none⟩ (.int .i64 bv)).drew = w8 at *
              go_loopg [19, 123] ps.length (fun k _ v wr => Pr3 w1 ms ws ps i bv (base.set i bv) sec kept' S GB GS GK k v wr)
              case atStart => exact ⟨0, rfl, by omega, by simpa [prim] using HP4.out⟩
              case round =>
                obtain ⟨d, rfl, hdd, hprs⟩ := hrel
                have Hdd := Lib.hid hdd
                have HP5 := Lib.hid hprs
                clear hdd hprs HP4
                by_cases hltd : d < ps.length
                · obtain ⟨bp, op, rfl, hbp, d0, d1⟩ := rdPri ((HC.out.grow Hb1.out).more Hb1.out.size |>.grow HP5.out.bel) rfl d hltd
                  have hps := prim_snoc (ps.take d) ps[d] i
                  rw [← List.take_succ_eq_append_getElem hltd] at hps
                  have hbp1 := prim_bd (ps.take d) i (by
                    have := (okP_prim HBa.out.pAll).1
                    rw [← List.take_append_drop d ps, List.map_append, List.nodup_append] at this
                    exact this.1) (fun x hx => (okP_prim HBa.out.pAll).2 x (List.mem_of_mem_take hx))
                  have hsd := (okP_prim HBa.out.pAll).2 ps[d] (List.getElem_mem hltd)
                  generalize ps[d] = pd at *
                  obtain ⟨pm, pc⟩ := pd
                  simp only at d0 d1 hps hsd
                  have Hps := Lib.hid hps
                  clear hps
                  obtain ⟨hpr0, hpr1⟩ := hbp1
                  obtain ⟨hsd0, hsd1⟩ := hsd
                  have his : i < (sec.set i (bv + prim (ps.take d) i)).length := by rw [List.length_set, HPr.out.ls]; exact him
                  by_cases hpm : pm = (i : Int)
                  · subst hpm
                    rw [if_pos rfl] at Hps
                    have qs := own1 HP5.out.os i his
                    rw [List.getElem_set_self] at qs
                    have fs := HP5.out.os.frozenAt i
                    generalize prim (ps.take d) i = pv at *
                    obtain ⟨s0, s1, s2, z0, z1, z2, z3⟩ := HP5.out.cells
                    go_upto_region 24 with fail
                    refine wp_region_overT 9 (by kernel_rfl) (by kernel_rfl) ?_
                    simp only [List.take_succ_cons, List.take_zero, List.drop_succ_cons, List.drop_zero]
                    repeat (go_big_quiet_step ((fail)))
                    refine wpQuiet_nil ?_
                    intro w9 hb9
                    have hb9' : Below wr.heap.size wr w9 := ((Below.refl _ _).alloc (Nat.le_refl _) _).trans (hb9.mono (by simp))
                    have HP6 := Lib.hid (HP5.out.grow hb9')
                    clear HP5 hb9 hb9' d0 d1 qs fs s0 s1 s2 z0 z1 z2 z3
                    have qs := own1 HP6.out.os i his
                    rw [List.getElem_set_self] at qs
                    have fs := HP6.out.os.frozenAt i
                    have HP7 := Lib.hid (HP6.out.setS i (bv + pv + pc))
                    go_wp2_with fail
                    go_roundg (ps.length - d - 1)
                    case measure => have := Hdd.out; omega
                    case rel =>
                      refine ⟨d + 1, by first | rfl | go_num, by omega, ?_⟩
                      have h7 := HP7.out
                      rw [List.set_set] at h7
                      rw [Hps.out, show bv + (pv + pc) = bv + pv + pc by omega]
                      exact h7
                  · have hpm' : (pm == (i : Int)) = false := by simpa using hpm
                    rw [if_neg hpm] at Hps
                    clear hpm
                    go_wp2_with fail
                    go_roundg (ps.length - d - 1)
                    case measure => have := Hdd.out; omega
                    case rel =>
                      refine ⟨d + 1, by first | rfl | go_num, by omega, ?_⟩
                      rw [Hps.out, Int.add_zero]
                      exact HP5.out.grow ((Below.refl _ _).alloc (Nat.le_refl _) _)
                · have hpt : prim (ps.take d) i = prim ps i := by rw [List.take_of_length_le (by omega)]
                  rw [hpt] at HP5
                  clear hpt
                  go_wp2_with fail
                  go_roundg (ord.length - t - 1)
                  case measure => have := Ht.out; omega
                  case rel => exact ⟨t + 1, _, _, _, by first | rfl | go_num, by omega, Hnext.out, HP5.out⟩
        · have hsol := HPr.out.sol HT.out Hfull.out (by omega) (fun k hk => (wtB_ok _ _).1 (HBa.out.wAll k hk))
          have hacyc := HT.out.acyc Hfull.out (fun k hk => (wtB_ok _ _).1 (HBa.out.wAll k hk))
          have HSol := Lib.hid hsol
          have HAcy := Lib.hid hacyc
          clear hsol hacyc HPr
          have hbw : w.heap.size < w1.heap.size := HR1.out.lt
          have hR := HR1.out.same (HP.out.bel.block _ hbw)
          have HR2 := Lib.hid hR
          obtain ⟨s0, s1, s2, z0, z1, z2, z3⟩ := HP.out.cells
          have q0 := hR.cell 0
          have q1 := hR.cell 1
          have q2 := hR.cell 2
          have f0 := hR.frozen 0
          have f1 := hR.frozen 1
          have f2 := hR.frozen 2
          simp at q0 q1 q2
          clear hR
          have HZ := Lib.hid (((HR2.out.set_ 0 (.slice (some ⟨GB, 0, none⟩) ms.length ms.length)).set_ 1 (.slice (some ⟨GS, 0, none⟩) ms.length ms.length)).set_ 2 (.slice (some ⟨GK, 0, none⟩) ws.length ws.length))
          go_wp2_with fail
          have g0 := HZ.out.cell 0
          have g1 := HZ.out.cell 1
          have g2 := HZ.out.cell 2
          simp at g0 g1 g2
          have e0 := (own_block HP.out.ob GB rfl).1
          have e1 := (own_block HP.out.os GS rfl).1
          have e2 := (own_block HP.out.ok GK rfl).1
          refine bodyPost_ret (v := .tuple #[.agg #[.slice (some ⟨GB, 0, none⟩) ms.length ms.length, .slice (some ⟨GS, 0, none⟩) ms.length ms.length, .slice (some ⟨GK, 0, none⟩) ws.length ws.length], .bool true]) (by simp [results, Try.results28, go_sem, g0, g1, g2]) rfl ⟨?_, .inl ⟨⟨HBa.out, HAcy.out⟩, _, _, _, base, sec, kept, rfl, HSol.out, ?_, ?_, ?_⟩⟩
          · exact (by have hbelh := Hb1.out.trans (HP.out.bel.mono Hb1.out.size); have hbels := hbelh.size; exact (by repeat (first | exact Below.refl _ _ | (with_reducible refine Below.drew ?_) | (with_reducible refine below_drewN ?_ _) | (with_reducible refine Below.alloc ?_ (by first | omega | (simp; done) | (simp; omega)) _) | (with_reducible refine Below.setCell ?_ (by first | omega | (simp; done) | (simp; omega)) _) | (refine Below.trans ?_ (Below.mono (by with_reducible assumption) (by first | omega | (simp; done) | (simp; omega)))))))
          · exact own_base (own_far (own_far (own_far HP.out.ob (by simp [Value.ownBlock]; omega)) (by simp [Value.ownBlock]; omega)) (by simp [Value.ownBlock]; omega)) hws
          · exact own_base (own_far (own_far (own_far HP.out.os (by simp [Value.ownBlock]; omega)) (by simp [Value.ownBlock]; omega)) (by simp [Value.ownBlock]; omega)) hws
          · exact own_base (own_far (own_far (own_far HP.out.ok (by simp [Value.ownBlock]; omega)) (by simp [Value.ownBlock]; omega)) (by simp [Value.ownBlock]; omega)) hws
end Go.Proofs.Ytddkfdfgfkejoaa
