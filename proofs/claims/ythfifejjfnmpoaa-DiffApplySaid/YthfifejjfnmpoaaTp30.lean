import Derived.Test.YthfifejjfnmpoaaTp29
namespace Go.Proofs.Ythfifejjfnmpoaa
open Go.RowKit
/-! A change of one edit of an owned list. -/
section
variable {w : World} {base b c k f n : Nat} {es : List CE} {u : Value}
theorem EO.kset (h : EO w base (.slice (some ⟨b, 0, none⟩) n c) es) {o : Nat} : Kp base w (w.setCell ⟨b, o, none⟩ u) := by
  obtain ⟨cur, hcur⟩ := own_blk h.o (k := b) rfl
  exact Kp.set hcur (by decide) (own_block h.o b rfl).1
theorem EO.fin {A : Option Addr} (h : EO w base (.slice A es.length c) es) (hn : es.length = n) (hs : n ≤ 4096) : ∃ L, n = List.length L ∧ EL w A c L := ⟨es, hn.symm, h.el (by omega)⟩
theorem EO.cells (h : EO w base (.slice (some ⟨b, 0, none⟩) es.length c) es) (hk : k < es.length) : (base ≤ b ∧ b < w.heap.size) ∧
    (w.cell? ⟨b, k * 9, none⟩ = some (.int .i64 es[k].k) ∧ w.cell? ⟨b, k * 9 + 1, none⟩ = some (.int .i64 es[k].o.ln) ∧ w.cell? ⟨b, k * 9 + 2, none⟩ = some (.int .i64 es[k].o.dy) ∧ w.cell? ⟨b, k * 9 + 3, none⟩ = some (.slice es[k].o.Ad es[k].o.dep.length es[k].o.cd) ∧ w.cell? ⟨b, k * 9 + 4, none⟩ = some (.slice es[k].o.Aa es[k].o.arr.length es[k].o.ca) ∧
      w.cell? ⟨b, k * 9 + 5, none⟩ = some (.int .i64 es[k].n.ln) ∧ w.cell? ⟨b, k * 9 + 6, none⟩ = some (.int .i64 es[k].n.dy) ∧ w.cell? ⟨b, k * 9 + 7, none⟩ = some (.slice es[k].n.Ad es[k].n.dep.length es[k].n.cd) ∧ w.cell? ⟨b, k * 9 + 8, none⟩ = some (.slice es[k].n.Aa es[k].n.arr.length es[k].n.ca)) ∧
    (∀ i, w.frozen? ⟨b, i, none⟩ = false) := by
  have hc : ∀ i, i < 9 → w.cell? ⟨b, k * 9 + i, none⟩ = (es[k]).cells[i]? := fun i hi => by
    rw [h.o.cellAt (k * 9 + i) (by omega)]
    exact flat_get CE.cells 9 CE.len es k hk i hi
  exact ⟨own_block h.o b rfl, ⟨hc 0 (by omega), hc 1 (by omega), hc 2 (by omega), hc 3 (by omega), hc 4 (by omega), hc 5 (by omega), hc 6 (by omega), hc 7 (by omega), hc 8 (by omega)⟩, fun i => h.o.frozenAt _⟩
/-- the list with its edit k replaced by x -/
structure ES (w : World) (base b c k : Nat) (es : List CE) (x : CE) (o n : CT) : Prop where
  e : EO w base (.slice (some ⟨b, 0, none⟩) (es.set k x).length c) (es.set k x)
  o : TM w base o
  n : TM w base n
theorem ES.st {x : CE} {o n : CT} (h : ES w base b c k es x o n) (hk : k < es.length) (hf : f < 9) (u : Value) (y : CE) (hy : y.cells = x.cells.set f u) (hm : EM w base y) : ES (w.setCell ⟨b, k * 9 + f, none⟩ u) base b c k es y o n := by
  have hk' : k < (es.set k x).length := by simpa using hk
  have h1 := h.e.st hk' hf y (by rw [List.getElem_set_self]; exact hy) hm
  rw [List.set_set] at h1
  exact ⟨h1, h.o.kp h.e.kset, h.n.kp h.e.kset⟩
theorem EO.swap {x : CE} (h : EO w base (.slice (some ⟨b, 0, none⟩) es.length c) es) (hk : k < es.length) (hx : es[k] = x) :
    EO ((((((((w.setCell ⟨b, k * 9 + 1, none⟩ (.int .i64 x.n.ln)).setCell ⟨b, k * 9 + 2, none⟩ (.int .i64 x.n.dy)).setCell ⟨b, k * 9 + 3, none⟩ (.slice x.n.Ad x.n.dep.length x.n.cd)).setCell ⟨b, k * 9 + 4, none⟩ (.slice x.n.Aa x.n.arr.length x.n.ca)).setCell ⟨b, k * 9 + 5, none⟩ (.int .i64 x.o.ln)).setCell ⟨b, k * 9 + 6, none⟩ (.int .i64 x.o.dy)).setCell ⟨b, k * 9 + 7, none⟩ (.slice x.o.Ad x.o.dep.length x.o.cd)).setCell ⟨b, k * 9 + 8, none⟩ (.slice x.o.Aa x.o.arr.length x.o.ca))
      base (.slice (some ⟨b, 0, none⟩) (es.set k ⟨x.k, x.n, x.o⟩).length c) (es.set k ⟨x.k, x.n, x.o⟩) := by
  obtain ⟨kk, o, n⟩ := x
  have hm := h.m _ (List.getElem_mem hk)
  rw [hx] at hm
  have s0 : ES w base b c k es ⟨kk, o, n⟩ o n := ⟨by rw [← hx, List.set_getElem_self]; exact h, hm.o, hm.n⟩
  have s1 := s0.st hk (f := 1) (by omega) (.int .i64 n.ln) ⟨kk, ⟨n.ln, o.dy, o.Ad, o.cd, o.Aa, o.ca, o.dep, o.arr⟩, n⟩ rfl ⟨⟨s0.o.d, s0.o.a⟩, s0.n⟩
  have s2 := s1.st hk (f := 2) (by omega) (.int .i64 n.dy) ⟨kk, ⟨n.ln, n.dy, o.Ad, o.cd, o.Aa, o.ca, o.dep, o.arr⟩, n⟩ rfl ⟨⟨s1.o.d, s1.o.a⟩, s1.n⟩
  have s3 := s2.st hk (f := 3) (by omega) (.slice n.Ad n.dep.length n.cd) ⟨kk, ⟨n.ln, n.dy, n.Ad, n.cd, o.Aa, o.ca, n.dep, o.arr⟩, n⟩ rfl ⟨⟨s2.n.d, s2.o.a⟩, s2.n⟩
  have s4 := s3.st hk (f := 4) (by omega) (.slice n.Aa n.arr.length n.ca) ⟨kk, n, n⟩ rfl ⟨s3.n, s3.n⟩
  have s5 := s4.st hk (f := 5) (by omega) (.int .i64 o.ln) ⟨kk, n, ⟨o.ln, n.dy, n.Ad, n.cd, n.Aa, n.ca, n.dep, n.arr⟩⟩ rfl ⟨s4.n, ⟨s4.n.d, s4.n.a⟩⟩
  have s6 := s5.st hk (f := 6) (by omega) (.int .i64 o.dy) ⟨kk, n, ⟨o.ln, o.dy, n.Ad, n.cd, n.Aa, n.ca, n.dep, n.arr⟩⟩ rfl ⟨s5.n, ⟨s5.n.d, s5.n.a⟩⟩
  have s7 := s6.st hk (f := 7) (by omega) (.slice o.Ad o.dep.length o.cd) ⟨kk, n, ⟨o.ln, o.dy, o.Ad, o.cd, n.Aa, n.ca, o.dep, n.arr⟩⟩ rfl ⟨s6.n, ⟨s6.o.d, s6.n.a⟩⟩
  have s8 := s7.st hk (f := 8) (by omega) (.slice o.Aa o.arr.length o.ca) ⟨kk, n, o⟩ rfl ⟨s7.n, s7.o⟩
  exact s8.e
theorem below_swap {w0 : World} {u1 u2 u3 u4 u5 u6 u7 u8 : Value} {p1 p2 p3 p4 p5 p6 p7 p8 : Nat} (h : Below base w0 w) (hb : base ≤ b) : Below base w0 ((((((((w.setCell ⟨b, p1, none⟩ u1).setCell ⟨b, p2, none⟩ u2).setCell ⟨b, p3, none⟩ u3).setCell ⟨b, p4, none⟩ u4).setCell ⟨b, p5, none⟩ u5).setCell ⟨b, p6, none⟩ u6).setCell ⟨b, p7, none⟩ u7).setCell ⟨b, p8, none⟩ u8) :=
  (((((((h.setCell hb _).setCell hb _).setCell hb _).setCell hb _).setCell hb _).setCell hb _).setCell hb _).setCell hb _
end
theorem step_val {P : Program} {w : World} {ops : Array Oper} {o : Oper} {a : Go.Act} {K : Go.Act → World → Prop} {Q : Exit → Go.Act → World → Prop} {E : Prop} {v : Value} (hgd : o.guard = none)
    (hrun : (execOp a.eval o).run P w = .ok (.value v) w) (h : K (a.put o.dst v) w) : if Region.wanted o (yielded ops a.tmps) = true then Oper.wp P o a w K Q else E := by
  have hw : Region.wanted o (yielded ops a.tmps) = true := by simp [Region.wanted, hgd]
  rw [if_pos hw]
  unfold Oper.wp
  rw [hrun]
  exact h
end Go.Proofs.Ythfifejjfnmpoaa
