import Derived.Test.YthmnalaeckfaaaaMp26
namespace Go.Proofs.Ythmnalaeckfaaaa
open Go.RowKit
attribute [local go_sem ↓] run_max_keep
def stE (n : Nat) (a : List (List Int)) (i j : Nat) : Nat → Int
  | 0 => gm (idM n) i j
  | k + 1 => max (stE n a i j k) (gm (powM n a (k + 1)) i j)
def stM (n : Nat) (a : List (List Int)) (k : Nat) : List (List Int) := tab n fun i j => stE n a i j k
def posB (r : Int × Int × Bool) : Bool := r.2.2 && decide (0 < r.1)
def starE (a : List (List Int)) : Int := if chkM a = true then (if posB (meanF a) = true then 14 else if powOk a.length a (a.length - 1) = true then 0 else 8) else 1
def starV (a : List (List Int)) : List (List Int) := if starE a = 0 then stM a.length a (a.length - 1) else []
/-- a matrix whose entries are stored: row i lies in block g i -/
structure StS (w wr : World) (G c n : Nat) (g cp : Nat → Nat) (f : Nat → Nat → Int) : Prop where
  bel : Below w.heap.size w wr
  o : wr.ownsRow w.heap.size 22 1 (.slice (some ⟨G, 0, none⟩) n c) n ((List.range n).map fun i => Value.slice (some ⟨g i, 0, none⟩) n (cp i))
  r : ∀ i, i < n → wr.ownsRow w.heap.size 3 1 (.slice (some ⟨g i, 0, none⟩) n (cp i)) n ((List.range n).map fun j => Value.int .i64 (f i j))
  d : ∀ i j, i < n → j < n → g i = g j → i = j
section
variable {w wr w' : World} {G c n : Nat} {g cp : Nat → Nat} {f f' : Nat → Nat → Int}
theorem StS.grow (h : StS w wr G c n g cp f) (hb : Below wr.heap.size wr w') : StS w w' G c n g cp f := ⟨h.bel.trans (hb.mono h.bel.size), own_grow h.o hb, fun i hi => own_grow (h.r i hi) hb, h.d⟩
theorem StS.congr (h : StS w wr G c n g cp f) (e : ∀ i j, i < n → j < n → f i j = f' i j) : StS w wr G c n g cp f' := ⟨h.bel, h.o, fun i hi => by
  have h1 := h.r i hi
  rwa [show ((List.range n).map fun j => Value.int .i64 (f i j)) = (List.range n).map fun j => Value.int .i64 (f' i j) from List.map_congr_left fun j hj => by rw [e i j hi (List.mem_range.1 hj)]] at h1, h.d⟩
theorem StS.at (h : StS w wr G c n g cp f) {i j : Nat} (hi : i < n) (hj : j < n) : wr.cell? ⟨G, i, none⟩ = some (.slice (some ⟨g i, 0, none⟩) n (cp i)) ∧ wr.cell? ⟨g i, j, none⟩ = some (.int .i64 (f i j)) ∧ wr.frozen? ⟨g i, j, none⟩ = false ∧ g i < wr.heap.size ∧ G < wr.heap.size ∧ w.heap.size ≤ g i := by
  have h1 := h.o.cellAt i (by omega)
  have h2 := (h.r i hi).cellAt j (by omega)
  simp [hi] at h1
  simp [hj] at h2
  exact ⟨h1, h2, (h.r i hi).frozenAt j, (own_block (h.r i hi) (g i) rfl).2, (own_block h.o G rfl).2, (own_block (h.r i hi) (g i) rfl).1⟩
theorem StS.set (h : StS w wr G c n g cp f) {i j : Nat} (hi : i < n) (hj : j < n) (v : Int) : StS w (wr.setCell ⟨g i, j, none⟩ (.int .i64 v)) G c n g cp (fun i' j' => if i' = i ∧ j' = j then v else f i' j') := by
  refine ⟨h.bel.setCell (own_block (h.r i hi) (g i) rfl).1 _, own_far h.o (own_ne2 h.o (h.r i hi) (by decide) rfl), fun i' hi' => ?_, h.d⟩
  by_cases e : i' = i
  · subst e
    have h1 := ((h.r i' hi').stored j (Value.int .i64 v)).1
    have e1 : ((List.range n).map fun j => Value.int .i64 (f i' j)).set j (Value.int .i64 v) = (List.range n).map fun j' => Value.int .i64 (if i' = i' ∧ j' = j then v else f i' j') := by
      apply List.ext_getElem?
      intro t
      rw [List.getElem?_set]
      by_cases ht : t < n
      · by_cases e2 : j = t
        · subst e2; simp [hj]
        · rw [if_neg e2]
          simp [ht, show ¬ t = j from fun e => e2 e.symm]
      · rw [if_neg (by omega)]; simp [ht]
    rw [e1] at h1
    exact h1
  · have h1 := own_far (p := ⟨g i, j, none⟩) (u := .int .i64 v) (h.r i' hi') (fun e2 => by
      simp [Value.ownBlock] at e2
      exact e (h.d i' i hi' hi e2))
    rwa [show ((List.range n).map fun j' => Value.int .i64 (if i' = i ∧ j' = j then v else f i' j')) = (List.range n).map fun j => Value.int .i64 (f i' j) from List.map_congr_left fun j' _ => by rw [if_neg (fun h => e h.1)]]
def stRows (n : Nat) (g cp : Nat → Nat) (f : Nat → Nat → Int) : List Row := (List.range n).map fun i => ⟨some ⟨g i, 0, none⟩, cp i, (List.range n).map (f i)⟩
theorem stRows_mat : matR (stRows n g cp f) = tab n f := by simp [matR, stRows, tab]
theorem stRows_len : (stRows n g cp f).length = n := by simp [stRows]
theorem StS.own (h : StS w wr G c n g cp f) (hn : n ≤ 12) : MOwn wr w.heap.size (.slice (some ⟨G, 0, none⟩) n c) (stRows n g cp f) := by
  refine ⟨?_, fun x hx => ?_, by rw [stRows_len]; omega⟩
  · rw [stRows_len]
    have e : (stRows n g cp f).map Row.val = (List.range n).map fun i => Value.slice (some ⟨g i, 0, none⟩) n (cp i) := by simp [stRows, Row.val]
    rw [e]
    exact h.o
  · obtain ⟨i, hi, rfl⟩ := List.mem_map.1 hx
    have h1 := h.r i (List.mem_range.1 hi)
    refine ⟨?_, by simp; omega⟩
    simp only [Row.val, List.length_map, List.length_range, List.map_map]
    exact h1
/-- the power 0: its rows differ, so they lie in blocks of their own -/
theorem StS.of_id {A : Option Addr} {rows : List Row} (ho : MOwn wr w.heap.size (.slice A n c) rows) (hm : matR rows = idM n) (hb : Below w.heap.size w wr) (hn : 1 ≤ n ∧ n ≤ 12) : ∃ G g cp, A = some ⟨G, 0, none⟩ ∧ StS w wr G c n g cp (fun i j => gm (idM n) i j) := by
  have hl : rows.length = n := by
    obtain ⟨A', c', e, _, _⟩ := own_slice ho.o
    injection e with _ e2 _
    exact e2.symm
  obtain ⟨G, c', e, _, _⟩ := ho.o.form (by omega)
  injection e with e _ _
  subst e
  have hz : ∀ i (h : i < rows.length), rows[i].zs = (List.range n).map fun j => gm (idM n) i j := fun i h => by
    have h1 : (matR rows)[i]'(by rw [matR_len]; exact h) = rows[i].zs := by simp [matR]
    rw [← h1]
    have h2 : i < (idM n).length := by rw [id_len]; omega
    have e2 : (matR rows)[i]'(by rw [matR_len]; exact h) = (idM n)[i] := by simp only [hm]
    rw [e2]
    refine List.ext_getElem (by rw [(sq_of_tab n _).2 _ (List.getElem_mem h2)]; simp) fun j h3 h4 => ?_
    have hj : j < n := by simpa using h4
    rw [← gm_at h2 h3]
    simp
  have hblk : ∀ i (h : i < rows.length), ∃ b, rows[i].A = some ⟨b, 0, none⟩ := fun i h => by
    have h1 := (ho.c rows[i] (List.getElem_mem h)).1
    obtain ⟨b, c', e, _, _⟩ := h1.form (by rw [hz i h]; simp; omega)
    unfold Row.val at e
    injection e with e
    exact ⟨b, e⟩
  refine ⟨G, fun i => ((rows[i]?).bind fun x => x.A.map (·.block)).getD 0, fun i => ((rows[i]?).map (·.c)).getD 0, rfl, hb, ?_, fun i hi => ?_, fun i j hi hj e => ?_⟩
  · have h1 := ho.o
    rw [hl] at h1
    rwa [show rows.map Row.val = (List.range n).map fun i => Value.slice (some ⟨((rows[i]?).bind fun x => x.A.map (·.block)).getD 0, 0, none⟩) n (((rows[i]?).map (·.c)).getD 0) from by
      refine List.ext_getElem (by simp [hl]) fun i h1 h2 => ?_
      have hi : i < rows.length := by simpa using h1
      obtain ⟨b, eb⟩ := hblk i hi
      have hzl : rows[i].zs.length = n := by rw [hz i hi]; simp
      simp [hi, eb, Row.val, hzl]] at h1
  · have hi' : i < rows.length := by omega
    obtain ⟨b, eb⟩ := hblk i hi'
    have h1 := (ho.c rows[i] (List.getElem_mem hi')).1
    unfold Row.val at h1
    rw [hz i hi', eb] at h1
    simp only [List.length_map, List.length_range, List.map_map] at h1
    simp [hi', eb]
    exact h1
  · have hi' : i < rows.length := by omega
    have hj' : j < rows.length := by omega
    obtain ⟨b, eb⟩ := hblk i hi'
    obtain ⟨b', eb'⟩ := hblk j hj'
    simp [hi', hj', eb, eb'] at e
    subst e
    have h1 := (ho.c rows[i] (List.getElem_mem hi')).1
    have h2 := (ho.c rows[j] (List.getElem_mem hj')).1
    unfold Row.val at h1 h2
    rw [hz i hi', eb] at h1
    rw [hz j hj', eb'] at h2
    have c1 := h1.cellAt i (by simp; omega)
    have c2 := h2.cellAt i (by simp; omega)
    rw [c1] at c2
    simp [hi, gm_id hi hi, gm_id hj hi] at c2
    exact c2.symm
end
/-- the entries up to (i, j) are turned -/
def midF (f f' : Nat → Nat → Int) (i j : Nat) : Nat → Nat → Int := fun i' j' => if i' < i ∨ (i' = i ∧ j' < j) then f' i' j' else f i' j'
theorem midF_set {f f' : Nat → Nat → Int} {i j : Nat} {v : Int} (h : f' i j = v) : (fun i' j' => if i' = i ∧ j' = j then v else midF f f' i j i' j') = midF f f' i (j + 1) := by
  funext i' j'
  unfold midF
  by_cases h1 : i' = i ∧ j' = j
  · obtain ⟨rfl, rfl⟩ := h1
    rw [if_pos ⟨rfl, rfl⟩, if_pos (.inr ⟨rfl, by omega⟩), h]
  · rw [if_neg h1]
    by_cases h2 : i' < i ∨ (i' = i ∧ j' < j)
    · rw [if_pos h2, if_pos (by omega)]
    · rw [if_neg h2, if_neg (by omega)]
theorem midF_at {f f' : Nat → Nat → Int} {i j : Nat} : midF f f' i j i j = f i j := by
  unfold midF; rw [if_neg (by omega)]
def ST1 (w : World) (Bp G c n : Nat) (g cp : Nat → Nat) (a : List (List Int)) (u : Nat) (v8 v : Value) (wr : World) : Prop :=
  ∃ (k : Nat) (A : Option Addr) (c8 : Nat) (rows : List Row), v = .int .i64 (k : Int) ∧ k + u + 1 = n ∧ v8 = .slice A n c8 ∧ rows.length = n ∧ matR rows = powM n a k ∧ powOk n a k = true ∧ MOwn wr Bp (.slice A n c8) rows ∧ Bp ≤ wr.heap.size ∧ StS w wr G c n g cp (fun i j => stE n a i j k)
def ST2 (w : World) (Bp G c n k c8 : Nat) (g cp : Nat → Nat) (a : List (List Int)) (A : Option Addr) (rows : List Row) (u : Nat) (v : Value) (wr : World) : Prop :=
  ∃ i : Nat, v = .int .i64 i ∧ i + u = n ∧ MOwn wr Bp (.slice A n c8) rows ∧ StS w wr G c n g cp (midF (fun i j => stE n a i j k) (fun i j => stE n a i j (k + 1)) i 0)
def ST3 (w : World) (Bp G c n k i c8 : Nat) (g cp : Nat → Nat) (a : List (List Int)) (A : Option Addr) (rows : List Row) (u : Nat) (v : Value) (wr : World) : Prop :=
  ∃ j : Nat, v = .int .i64 j ∧ j + u = n ∧ MOwn wr Bp (.slice A n c8) rows ∧ StS w wr G c n g cp (midF (fun i j => stE n a i j k) (fun i j => stE n a i j (k + 1)) i j)
end Go.Proofs.Ythmnalaeckfaaaa
