import Derived.Test.YthmnalaeckfaaaaMp1
namespace Go.Proofs.Ythmnalaeckfaaaa
open Go.RowKit

theorem run_max_keep {P : Program} {w : World} (ts : Array TypeId) (t : TypeId) (k k' : IntKind) (x y : Int) : (Builtin.max_ ts t #[.int k x, .int k' y]).run P w = .ok (.int k (max x y)) w := by
  rw [run_max_int2]; congr 2; split <;> omega
theorem run_min_keep {P : Program} {w : World} (ts : Array TypeId) (t : TypeId) (k k' : IntKind) (x y : Int) : (Builtin.min_ ts t #[.int k x, .int k' y]).run P w = .ok (.int k (min x y)) w := by
  rw [run_min_int2]; congr 2; split <;> omega
theorem infoInt : (Try.prog.info? 3).map (fun i => (i.zero, i.size, i.bytes)) = some (some (.int .i64 0), 1, 8) := by kernel_rfl
theorem infoRow : (Try.prog.info? 22).map (fun i => (i.zero, i.size, i.bytes)) = some (some (.slice none 0 0), 1, 24) := by kernel_rfl
theorem own_ne2 {w : World} {base base' : Nat} {e e' : TypeId} {sz sz' n n' : Nat} {v v' : Value} {xs xs' : List Value} (h : w.ownsRow base e sz v n xs) (h' : w.ownsRow base' e' sz' v' n' xs') (hne : e ≠ e') {g : Nat} (hg : v'.ownBlock = some g) : v.ownBlock ≠ some g := by
  intro hv
  rcases h.2 with ⟨rfl, _⟩ | ⟨g1, cap, cur, rfl, _, hh, _⟩
  · simp [Value.ownBlock] at hv
  · rcases h'.2 with ⟨rfl, _⟩ | ⟨g2, cap', cur', rfl, _, hh', _⟩
    · simp [Value.ownBlock] at hg
    · simp [Value.ownBlock] at hv hg
      subst hv hg
      rw [hh] at hh'
      injection hh' with hh'
      injection hh' with _ h2
      exact hne h2
theorem gm_row {rows : List Row} {i k : Nat} (hi : i < rows.length) (hk : k < rows[i].zs.length) : gm (matR rows) i k = rows[i].zs[k] := by
  have h1 : i < (matR rows).length := by simpa [matR] using hi
  have h2 : (matR rows)[i] = rows[i].zs := by simp [matR]
  rw [gm_at h1 (by rw [h2]; exact hk)]
  simp only [h2]
def RowOwn (w : World) (base : Nat) (x : Row) : Prop := w.ownsRow base 3 1 x.val x.zs.length (x.zs.map (Value.int .i64)) ∧ x.zs.length ≤ 4611686018427387904
theorem RowOwn.grow {w w' : World} {base : Nat} {x : Row} (h : RowOwn w base x) (hb : Below w.heap.size w w') : RowOwn w' base x := ⟨own_grow h.1 hb, h.2⟩
theorem RowOwn.rd {w : World} {base : Nat} {x : Row} (h : RowOwn w base x) : RowRd w x := ⟨Rd.of_own h.1, h.2⟩
/-- a matrix of the call's own -/
structure MOwn (w : World) (base : Nat) (v : Value) (rows : List Row) : Prop where
  o : w.ownsRow base 22 1 v rows.length (rows.map Row.val)
  c : ∀ x ∈ rows, RowOwn w base x
  n : rows.length ≤ 4611686018427387904
theorem MOwn.grow {w w' : World} {base : Nat} {v : Value} {rows : List Row} (h : MOwn w base v rows) (hb : Below w.heap.size w w') : MOwn w' base v rows := ⟨own_grow h.o hb, fun x hx => (h.c x hx).grow hb, h.n⟩
theorem MOwn.rd {w : World} {base : Nat} {A : Option Addr} {n c : Nat} {rows : List Row} (h : MOwn w base (.slice A n c) rows) : MRd w A rows := ⟨by
  have h1 := h.o
  obtain ⟨A', c', e, _, _⟩ := own_slice h1
  injection e with _ e2 _
  subst e2
  exact Rd.of_own h1, fun x hx => (h.c x hx).rd, h.n⟩
/-- a matrix in the making: its outer row at G, the rows that are there -/
structure MkS (w wr : World) (G n : Nat) (rows : List Row) : Prop where
  bel : Below w.heap.size w wr
  o : wr.ownsRow w.heap.size 22 1 (.slice (some ⟨G, 0, none⟩) n n) n (rows.map Row.val ++ List.replicate (n - rows.length) (.slice none 0 0))
  c : ∀ x ∈ rows, RowOwn wr w.heap.size x
section
variable {w wr w' : World} {G n : Nat} {rows : List Row}
theorem MkS.grow (h : MkS w wr G n rows) (hb : Below wr.heap.size wr w') : MkS w w' G n rows := ⟨h.bel.trans (hb.mono h.bel.size), own_grow h.o hb, fun x hx => (h.c x hx).grow hb⟩
theorem set_rows (hl : rows.length < n) (x : Row) : (rows.map Row.val ++ List.replicate (n - rows.length) (Value.slice none 0 0)).set rows.length x.val = (rows ++ [x]).map Row.val ++ List.replicate (n - (rows ++ [x]).length) (.slice none 0 0) := by
  rw [List.set_append_right _ _ (by simp)]
  obtain ⟨m, hm⟩ : ∃ m, n - rows.length = m + 1 := ⟨n - rows.length - 1, by omega⟩
  rw [hm, List.replicate_succ]
  simp
  omega
theorem MkS.new (h : MkS w wr G n rows) (hl : rows.length < n) (hn : n ≤ 12) {zs : List Int} (hz : zs.length = n) (hb : Below wr.heap.size wr w') (ho : w'.ownsRow wr.heap.size 3 1 (.slice (some ⟨wr.heap.size, 0, none⟩) n n) n (zs.map (Value.int .i64))) :
    MkS w (w'.setCell ⟨G, rows.length, none⟩ (.slice (some ⟨wr.heap.size, 0, none⟩) n n)) G n (rows ++ [⟨some ⟨wr.heap.size, 0, none⟩, n, zs⟩]) := by
  subst hz
  have h1 := h.grow hb
  have hG := own_block h1.o G rfl
  have far : ∀ {base m : Nat} {v : Value} {ys : List Value}, w'.ownsRow base 3 1 v m ys → (w'.setCell ⟨G, rows.length, none⟩ (.slice (some ⟨wr.heap.size, 0, none⟩) zs.length zs.length)).ownsRow base 3 1 v m ys := fun ho => own_far ho (own_ne2 ho h1.o (by decide) rfl)
  refine ⟨h1.bel.setCell hG.1 _, ?_, fun x hx => ?_⟩
  · have := (h1.o.stored rows.length (Value.slice (some ⟨wr.heap.size, 0, none⟩) zs.length zs.length)).1
    rw [show Value.slice (some ⟨wr.heap.size, 0, none⟩) zs.length zs.length = (⟨some ⟨wr.heap.size, 0, none⟩, zs.length, zs⟩ : Row).val from rfl, set_rows hl] at this
    exact this
  · rcases List.mem_append.1 hx with hx | hx
    · exact ⟨far (h1.c x hx).1, (h1.c x hx).2⟩
    · simp at hx
      subst hx
      exact ⟨far (own_base ho h.bel.size), by simp only; omega⟩
/-- a store into the last row -/
theorem MkS.set {g m : Nat} {zs : List Int} (h : MkS w wr G n (rows ++ [⟨some ⟨g, 0, none⟩, m, zs⟩])) (hd : ∀ x ∈ rows, ∀ b, x.val.ownBlock = some b → b < g) (j : Nat) (v : Int) : MkS w (wr.setCell ⟨g, j, none⟩ (.int .i64 v)) G n (rows ++ [⟨some ⟨g, 0, none⟩, m, zs.set j v⟩]) := by
  have hc := h.c ⟨some ⟨g, 0, none⟩, m, zs⟩ (by simp)
  have hg := own_block hc.1 g rfl
  refine ⟨h.bel.setCell hg.1 _, ?_, fun x hx => ?_⟩
  · have e : (rows ++ [(⟨some ⟨g, 0, none⟩, m, zs.set j v⟩ : Row)]).map Row.val ++ List.replicate (n - (rows ++ [(⟨some ⟨g, 0, none⟩, m, zs.set j v⟩ : Row)]).length) (Value.slice none 0 0) = (rows ++ [(⟨some ⟨g, 0, none⟩, m, zs⟩ : Row)]).map Row.val ++ List.replicate (n - (rows ++ [(⟨some ⟨g, 0, none⟩, m, zs⟩ : Row)]).length) (Value.slice none 0 0) := by
      simp [Row.val]
    rw [e]
    exact own_far h.o (own_ne2 h.o hc.1 (by decide) rfl)
  · rcases List.mem_append.1 hx with hx | hx
    · have := h.c x (List.mem_append_left _ hx)
      exact ⟨own_far this.1 (fun e => by have := hd x hx _ e; simp at this), this.2⟩
    · simp at hx
      subst hx
      refine ⟨?_, by simpa using hc.2⟩
      have := own1_set hc.1 j v
      simpa [Row.val] using this
/-- the row at a place, and where it lies -/
theorem MkS.last {g m : Nat} {zs : List Int} (h : MkS w wr G n (rows ++ [⟨some ⟨g, 0, none⟩, m, zs⟩])) (hl : rows.length < n) : wr.cell? ⟨G, rows.length, none⟩ = some (.slice (some ⟨g, 0, none⟩) zs.length m) ∧ (∀ j (hj : j < zs.length), wr.cell? ⟨g, j, none⟩ = some (.int .i64 zs[j])) ∧ (∀ j, wr.frozen? ⟨g, j, none⟩ = false) ∧ g < wr.heap.size ∧ G < wr.heap.size := by
  have hc := h.c ⟨some ⟨g, 0, none⟩, m, zs⟩ (by simp)
  refine ⟨?_, fun j hj => own1 hc.1 j hj, fun j => hc.1.frozenAt j, (own_block hc.1 g rfl).2, (own_block h.o G rfl).2⟩
  rw [h.o.cellAt rows.length (by omega)]
  rw [List.getElem?_append_left (by simp)]
  simp [Row.val]
theorem MkS.done (h : MkS w wr G n rows) (hl : rows.length = n) (hn : n ≤ 12) : MOwn wr w.heap.size (.slice (some ⟨G, 0, none⟩) n n) rows := by
  subst hl
  have := h.o
  simp at this
  exact ⟨this, h.c, by omega⟩
end
/-- what a function that makes a matrix gives -/
def MatOut (p : List (List Int)) (w : World) (e : Ending) (w' : World) : Prop :=
  ∃ (A : Option Addr) (c : Nat) (rows : List Row), e = .returned (.slice A rows.length c) ∧ matR rows = p ∧ MOwn w' w.heap.size (.slice A rows.length c) rows ∧ Below w.heap.size w w'
def PD1 (w : World) (G n : Nat) (P : List (List Int)) (k : Nat) (v : Value) (wr : World) : Prop :=
  ∃ (i : Nat) (rows : List Row), v = .int .i64 i ∧ i + k = n ∧ matR rows = P.take i ∧ rows.length = i ∧ MkS w wr G n rows
def PD2 (w : World) (G g n : Nat) (L : List Int) (rows : List Row) (k : Nat) (v : Value) (wr : World) : Prop :=
  ∃ j : Nat, v = .int .i64 j ∧ j + k = n ∧ MkS w wr G n (rows ++ [⟨some ⟨g, 0, none⟩, n, L.take j ++ List.replicate (n - j) 0⟩])
def PD3 (w : World) (G g n : Nat) (Z : List Int) (j : Nat) (f : Nat → Int) (rows : List Row) (k : Nat) (v : Value) (wr : World) : Prop :=
  ∃ t : Nat, v = .int .i64 t ∧ t + k = n ∧ MkS w wr G n (rows ++ [⟨some ⟨g, 0, none⟩, n, Z.set j (mx f t)⟩])
theorem prod_row {n : Nat} {a b : List (List Int)} {i : Nat} (h : i < (prodM n a b).length) : (prodM n a b)[i] = (List.range n).map fun j => mx (fun k => plusF (gm a i k) (gm b k j)) n := by
  simp [prodM, tab]
theorem prod_len {n : Nat} {a b : List (List Int)} : (prodM n a b).length = n := by simp [prodM, tab]
theorem bd_plus {x y : Int} (hx : x = -1125899906842624 ∨ (-1099511627776 ≤ x ∧ x ≤ 1099511627776)) (hy : y = -1125899906842624 ∨ (-1099511627776 ≤ y ∧ y ≤ 1099511627776)) : -1125899906842624 ≤ plusF x y ∧ plusF x y ≤ 2199023255552 := by
  unfold plusF
  split <;> omega
end Go.Proofs.Ythmnalaeckfaaaa
