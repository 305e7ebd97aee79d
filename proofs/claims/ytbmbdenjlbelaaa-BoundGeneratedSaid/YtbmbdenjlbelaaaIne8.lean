import Derived.Test.YtbmbdenjlbelaaaIne7
namespace Go.Proofs.Ytbmbdenjlbelaaa
open Go.RowKit

/-- a cycle that lies in memory -/
structure Cyc where
  Ar : Option Addr
  cr : Nat
  As : Option Addr
  cs : Nat
  arcs : List Int
  signs : List Int
def Cyc.cells (c : Cyc) : List Value := [.slice c.Ar c.arcs.length c.cr, .slice c.As c.signs.length c.cs]
theorem Cyc.len (c : Cyc) : c.cells.length = 2 := rfl
theorem Cyc.one (x : Cyc) : ∀ u ∈ x.cells, u.oneCell' = true := by intro u hu; simp only [Cyc.cells, List.mem_cons, List.not_mem_nil, or_false] at hu; rcases hu with rfl | rfl <;> rfl
structure CyRd (w : World) (c : Cyc) : Prop where
  r : Rd w w.heap.size 1 c.Ar c.arcs.length (c.arcs.map (Value.int .i64))
  s : Rd w w.heap.size 1 c.As c.signs.length (c.signs.map (Value.int .i64))
  hr : c.arcs.length ≤ 4611686018427387904
  hs : c.signs.length ≤ 4611686018427387904
theorem CyRd.grow {w w' : World} {c : Cyc} (h : CyRd w c) (hb : Below w.heap.size w w') : CyRd w' c := ⟨(h.r.grow hb).more hb.size, (h.s.grow hb).more hb.size, h.hr, h.hs⟩
theorem rdCyc {w : World} {B n : Nat} {A : Option Addr} {xs : List Cyc} (h : Rd w B 2 A n (xs.flatMap Cyc.cells)) (hn : n = xs.length) (j : Nat) (hj : j < xs.length) :
    ∃ b off, A = some ⟨b, off, none⟩ ∧ b < B ∧ w.cell? ⟨b, off + j * 2, none⟩ = some (.slice xs[j].Ar xs[j].arcs.length xs[j].cr) ∧ w.cell? ⟨b, off + j * 2 + 1, none⟩ = some (.slice xs[j].As xs[j].signs.length xs[j].cs) := by
  obtain ⟨b, off, rfl, hb, hc⟩ := h.2 (by omega)
  have h2 : ∀ i u, i < 2 → xs[j].cells[i]? = some u → w.cell? ⟨b, off + (j * 2 + i), none⟩ = some u := fun i u hi hu => hc _ u (by rw [flat_get Cyc.cells 2 Cyc.len xs j hj i hi]; exact hu)
  exact ⟨b, off, rfl, hb, h2 0 _ (by omega) rfl, h2 1 _ (by omega) rfl⟩
/-- a list of cycles that is read in a world -/
structure CysRd (w : World) (A : Option Addr) (l : List Cyc) : Prop where
  r : Rd w w.heap.size 2 A l.length (l.flatMap Cyc.cells)
  c : ∀ c ∈ l, CyRd w c
  n : l.length ≤ 4611686018427387904
theorem CysRd.grow {w w' : World} {A : Option Addr} {l : List Cyc} (h : CysRd w A l) (hb : Below w.heap.size w w') : CysRd w' A l := ⟨(h.r.grow hb).more hb.size, fun c hc => (h.c c hc).grow hb, h.n⟩
theorem CyRd.ncyc {w : World} {c : Cyc} (h : CyRd w c) {AA : Option Addr} {acts : List Act} {ne : Nat} (ha : Rd w w.heap.size 6 AA acts.length (acts.flatMap Act.cells)) (he : ne ≤ 4611686018427387904) (hl : acts.length ≤ 4611686018427387904) : NCyc w AA c.Ar c.As ne acts c.arcs c.signs :=
  ⟨ha, h.r, h.s, he, hl, h.hr, h.hs⟩
noncomputable def sepR (T : Int) (ne : Nat) (acts : List Act) (sl : List Int) : List Cyc → Nat → Int → Int → Int × Int × Int
  | [], _, a, v => (a, v, 0)
  | c :: l, i, a, v =>
    if leftE T ne acts c.arcs c.signs sl = 0 then
      (if v < rightV T ne acts c.arcs c.signs - leftV T ne acts c.arcs c.signs sl then sepR T ne acts sl l (i + 1) i (rightV T ne acts c.arcs c.signs - leftV T ne acts c.arcs c.signs sl) else sepR T ne acts sl l (i + 1) a v)
    else (0, 0, leftE T ne acts c.arcs c.signs sl)
noncomputable def sepV (T : Int) (ne : Nat) (acts : List Act) (sl : List Int) (l : List Cyc) : Int × Int × Int := sepR T ne acts sl l 0 (-1) 0
theorem leftE_zero {T : Int} {ne : Nat} {acts : List Act} {arcs signs sl : List Int} (h : leftE T ne acts arcs signs sl = 0) : CycOk T ne acts arcs signs ∧ slOk acts sl := by
  unfold leftE at h
  split at h
  · rename_i h1
    split at h
    · rename_i h2; exact ⟨cycB_iff.1 h1, h2⟩
    · cases h
  · cases h
theorem sep_bd {T : Int} {ne : Nat} {acts : List Act} {arcs signs sl : List Int} (h : leftE T ne acts arcs signs sl = 0) : 0 ≤ rightV T ne acts arcs signs ∧ rightV T ne acts arcs signs ≤ 51840000 ∧ 0 ≤ leftV T ne acts arcs signs sl ∧ leftV T ne acts arcs signs sl ≤ 100000000000 := by
  obtain ⟨hk, hs⟩ := leftE_zero h
  have hr := res_bd hk
  have ht1 := hk.net.t1
  have hb := sl_bd hk hs arcs.length (Nat.le_refl _)
  rw [(leftE_ok (cycB_yes hk) hs).2]
  unfold rightV leftR
  have h1 := mul_bd2 (resV T ne acts arcs signs) (T - resV T ne acts arcs signs) 7200 7200 hr.1 (by omega) (by omega) (by omega)
  have h2 := mul_bd2 (T - resV T ne acts arcs signs) (sumN (slF arcs signs sl) arcs.length) 7200 3686400 (by omega) (by omega) hb.1 hb.2.1
  have h3 := mul_bd2 (resV T ne acts arcs signs) (sumN (slB arcs signs sl) arcs.length) 7200 3686400 (by omega) (by omega) hb.2.2.1 hb.2.2.2
  omega
def SepOut (T : Int) (ne : Nat) (acts : List Act) (sl : List Int) (l : List Cyc) (w : World) (e : Ending) (w' : World) : Prop :=
  e = .returned (.tuple #[.int .i64 (sepV T ne acts sl l).1, .int .i64 (sepV T ne acts sl l).2.1, .int .i64 (sepV T ne acts sl l).2.2]) ∧ Below w.heap.size w w'
def Sp1 (w : World) (T : Int) (ne : Nat) (acts : List Act) (sl : List Int) (l : List Cyc) (X : Nat) (xs : Array Value) (k : Nat) (v6 v7 v : Value) (wr : World) : Prop :=
  ∃ (j : Nat) (a m : Int), v = .int .i64 j ∧ j + k = l.length ∧ v6 = .int .i64 a ∧ v7 = .int .i64 m ∧ sepR T ne acts sl (l.drop j) j a m = sepV T ne acts sl l ∧ Blk wr X 26 xs ∧ Below w.heap.size w wr

end Go.Proofs.Ytbmbdenjlbelaaa
