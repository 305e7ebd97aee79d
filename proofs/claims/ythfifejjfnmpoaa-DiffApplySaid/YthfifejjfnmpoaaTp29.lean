import Derived.Test.YthfifejjfnmpoaaTp21
namespace Go.Proofs.Ythfifejjfnmpoaa
open Go.RowKit
/-! A change of one trip of an owned list. -/
theorem flat_set1 {α : Type} (f : α → List Value) (k : Nat) (hf : ∀ x, (f x).length = k) : ∀ (xs : List α) (i : Nat) (hi : i < xs.length) (j : Nat) (_hj : j < k) (y : α) (u : Value), f y = (f xs[i]).set j u → (xs.flatMap f).set (i * k + j) u = (xs.set i y).flatMap f
  | x :: xs, 0, _, j, hj, y, u, h => by
    rw [List.set_cons_zero, List.flatMap_cons, List.flatMap_cons, List.set_append_left _ _ (by rw [hf]; omega), h]
    simp
  | x :: xs, i + 1, hi, j, hj, y, u, h => by
    rw [List.set_cons_succ, List.flatMap_cons, List.flatMap_cons, List.set_append_right _ _ (by rw [hf, Nat.add_mul]; omega), hf, show (i + 1) * k + j - k = i * k + j by rw [Nat.add_mul]; omega]
    rw [flat_set1 f k hf xs i (by simpa using hi) j hj y u (by simpa using h)]
section
variable {w : World} {base b c k f : Nat} {ts : List CT} {es : List CE} {u : Value}
theorem TO.st (h : TO w base (.slice (some ⟨b, 0, none⟩) ts.length c) ts) (hk : k < ts.length) (hf : f < 4) (x : CT) (hx : x.cells = (ts[k]).cells.set f u) (hm : TM w base x) :
    TO (w.setCell ⟨b, k * 4 + f, none⟩ u) base (.slice (some ⟨b, 0, none⟩) (ts.set k x).length c) (ts.set k x) := by
  have hs := (h.o.stored (k * 4 + f) u).1
  rw [flat_set1 CT.cells 4 CT.len ts k hk f hf x u hx] at hs
  obtain ⟨cur, hcur⟩ := own_blk h.o (k := b) rfl
  have hK : Kp base w (w.setCell ⟨b, k * 4 + f, none⟩ u) := Kp.set hcur (by decide) (own_block h.o b rfl).1
  refine ⟨by rw [List.length_set]; exact hs, fun t ht => ?_⟩
  rcases List.mem_or_eq_of_mem_set ht with ht | rfl
  · exact (h.m t ht).kp hK
  · exact hm.kp hK
theorem EO.st (h : EO w base (.slice (some ⟨b, 0, none⟩) es.length c) es) (hk : k < es.length) (hf : f < 9) (x : CE) (hx : x.cells = (es[k]).cells.set f u) (hm : EM w base x) :
    EO (w.setCell ⟨b, k * 9 + f, none⟩ u) base (.slice (some ⟨b, 0, none⟩) (es.set k x).length c) (es.set k x) := by
  have hs := (h.o.stored (k * 9 + f) u).1
  rw [flat_set1 CE.cells 9 CE.len es k hk f hf x u hx] at hs
  obtain ⟨cur, hcur⟩ := own_blk h.o (k := b) rfl
  have hK : Kp base w (w.setCell ⟨b, k * 9 + f, none⟩ u) := Kp.set hcur (by decide) (own_block h.o b rfl).1
  refine ⟨by rw [List.length_set]; exact hs, fun t ht => ?_⟩
  rcases List.mem_or_eq_of_mem_set ht with ht | rfl
  · exact (h.m t ht).kp hK
  · exact hm.kp hK
theorem TO.kset (h : TO w base (.slice (some ⟨b, 0, none⟩) ts.length c) ts) {o : Nat} : Kp base w (w.setCell ⟨b, o, none⟩ u) := by
  obtain ⟨cur, hcur⟩ := own_blk h.o (k := b) rfl
  exact Kp.set hcur (by decide) (own_block h.o b rfl).1
theorem TO.fin {n : Nat} {A : Option Addr} (h : TO w base (.slice A ts.length c) ts) (hn : ts.length = n) (hs : n ≤ 6) : ∃ L, n = List.length L ∧ TL w A c L := ⟨ts, hn.symm, h.tl (by omega)⟩
theorem TO.cells (h : TO w base (.slice (some ⟨b, 0, none⟩) ts.length c) ts) (hk : k < ts.length) : (base ≤ b ∧ b < w.heap.size) ∧
    (w.cell? ⟨b, k * 4, none⟩ = some (.int .i64 ts[k].ln) ∧ w.cell? ⟨b, k * 4 + 1, none⟩ = some (.int .i64 ts[k].dy) ∧ w.cell? ⟨b, k * 4 + 2, none⟩ = some (.slice ts[k].Ad ts[k].dep.length ts[k].cd) ∧ w.cell? ⟨b, k * 4 + 3, none⟩ = some (.slice ts[k].Aa ts[k].arr.length ts[k].ca)) ∧
    (w.frozen? ⟨b, k * 4, none⟩ = false ∧ w.frozen? ⟨b, k * 4 + 1, none⟩ = false ∧ w.frozen? ⟨b, k * 4 + 2, none⟩ = false ∧ w.frozen? ⟨b, k * 4 + 3, none⟩ = false) := by
  have hc : ∀ i, i < 4 → w.cell? ⟨b, k * 4 + i, none⟩ = (ts[k]).cells[i]? := fun i hi => by
    rw [h.o.cellAt (k * 4 + i) (by omega)]
    exact flat_get CT.cells 4 CT.len ts k hk i hi
  exact ⟨own_block h.o b rfl, ⟨hc 0 (by omega), hc 1 (by omega), hc 2 (by omega), hc 3 (by omega)⟩, h.o.frozenAt _, h.o.frozenAt _, h.o.frozenAt _, h.o.frozenAt _⟩
end
theorem rd_tl {w : World} {B n b off : Nat} {xs : List Value} (h : Rd w B 1 (some ⟨b, off, none⟩) n xs) (hn : 1 ≤ n) : Rd w B 1 (some ⟨b, off + 1, none⟩) (n - 1) (xs.drop 1) := by
  refine ⟨by rw [List.length_drop, h.1]; omega, fun h0 => ?_⟩
  obtain ⟨b', off', e1, hb, hc⟩ := h.2 (by omega)
  injection e1 with e1
  injection e1 with e1 e2
  subst e1 e2
  refine ⟨b, off + 1, rfl, hb, fun j u hu => ?_⟩
  rw [List.getElem?_drop] at hu
  have := hc (1 + j) u hu
  rwa [← Nat.add_assoc] at this
theorem IRd.tl {w : World} {B c b off : Nat} {xs : List Int} (h : IRd w B (some ⟨b, off, none⟩) c xs) (h1 : 1 ≤ xs.length) (_hc : c ≠ 1) : IRd w B (some ⟨b, off + 1, none⟩) (c - 1) (xs.drop 1) := by
  have hl : (xs.drop 1).length = xs.length - 1 := List.length_drop
  have h2 := h.le
  have h3 := h.sz
  have h4 := h.cm
  refine ⟨?_, fun hn a ha => ?_, fun e => (by cases e), by omega, by omega, by omega⟩
  · rw [hl, List.map_drop]
    exact rd_tl h.r h1
  · injection ha with ha
    subst ha
    exact h.t (by omega) ⟨b, off, none⟩ rfl
theorem IRd.tl1 {w : World} {B b off : Nat} {xs : List Int} (h : IRd w B (some ⟨b, off, none⟩) 1 xs) (h1 : 1 ≤ xs.length) : IRd w B (some ⟨b, off, none⟩) 0 (xs.drop 1) := by
  have hl : (xs.drop 1).length = xs.length - 1 := List.length_drop
  have h2 := h.le
  have hd : xs.drop 1 = [] := List.eq_nil_of_length_eq_zero (by omega)
  rw [hd]
  exact ⟨⟨by simp, fun h0 => by simp at h0⟩, fun hn => by simp at hn, fun e => (by cases e), by simp, by simp, by simp [maxLen]⟩
theorem IRd.mk0 {w : World} {base B g u : Nat} (h : w.ownsRow base 3 1 (.slice (some ⟨g, 0, none⟩) u u) u (madeCells (Value.int .i64 0).cells (u * 1)).toList) (hu : u ≤ 17592186044416) : IRd w B (some ⟨g, 0, none⟩) u (List.replicate u (0 : Int)) := by
  have e : (Value.int .i64 0).cells = #[.int .i64 0] := rfl
  rw [Nat.mul_one, e, toList_madeCells_one] at h
  exact IRd.of_own (base := base) (by rw [List.length_replicate, List.map_replicate]; exact h) (by simpa using hu)
end Go.Proofs.Ythfifejjfnmpoaa
