import Derived.Test.YtcgamkldlmmdnaaIne7
namespace Go.Proofs.Ytcgamkldlmmdnaa
open Go.RowKit

/-- a cycle that lies in memory -/
structure Cyc where
  Ar : Option Addr
  cr : Nat
  As : Option Addr
  cs : Nat
  arcs : List Int
  signs : List Int
def Cyc.cells (c : Cyc) : List Value := [.slice c.Ar c.arcs.length c.cr, .slice c.As c.signs.length c.cs]
theorem Cyc.len (c : Cyc) : c.cells.length = 2 := rfl
theorem Cyc.one (x : Cyc) : ∀ u ∈ x.cells, u.oneCell' = true := by intro u hu; simp only [Cyc.cells, List.mem_cons, List.not_mem_nil, or_false] at hu; rcases hu with rfl | rfl <;> rfl
structure CyRd (w : World) (c : Cyc) : Prop where
  r : Rd w w.heap.size 1 c.Ar c.arcs.length (c.arcs.map (Value.int .i64))
  s : Rd w w.heap.size 1 c.As c.signs.length (c.signs.map (Value.int .i64))
  hr : c.arcs.length ≤ 4611686018427387904
  hs : c.signs.length ≤ 4611686018427387904
theorem CyRd.grow {w w' : World} {c : Cyc} (h : CyRd w c) (hb : Below w.heap.size w w') : CyRd w' c := ⟨(h.r.grow hb).more hb.size, (h.s.grow hb).more hb.size, h.hr, h.hs⟩
theorem rdCyc {w : World} {B n : Nat} {A : Option Addr} {xs : List Cyc} (h : Rd w B 2 A n (xs.flatMap Cyc.cells)) (hn : n = xs.length) (j : Nat) (hj : j < xs.length) :
    ∃ b off, A = some ⟨b, off, none⟩ ∧ b < B ∧ w.cell? ⟨b, off + j * 2, none⟩ = some (.slice xs[j].Ar xs[j].arcs.length xs[j].cr) ∧ w.cell? ⟨b, off + j * 2 + 1, none⟩ = some (.slice xs[j].As xs[j].signs.length xs[j].cs) := by
  obtain ⟨b, off, rfl, hb, hc⟩ := h.2 (by omega)
  have h2 : ∀ i u, i < 2 → xs[j].cells[i]? = some u → w.cell? ⟨b, off + (j * 2 + i), none⟩ = some u := fun i u hi hu => hc _ u (by rw [flat_get Cyc.cells 2 Cyc.len xs j hj i hi]; exact hu)
  exact ⟨b, off, rfl, hb, h2 0 _ (by omega) rfl, h2 1 _ (by omega) rfl⟩
/-- a list of cycles that is read in a world -/
structure CysRd (w : World) (A : Option Addr) (l : List Cyc) : Prop where
  r : Rd w w.heap.size 2 A l.length (l.flatMap Cyc.cells)
  c : ∀ c ∈ l, CyRd w c
  n : l.length ≤ 4611686018427387904
theorem CysRd.grow {w w' : World} {A : Option Addr} {l : List Cyc} (h : CysRd w A l) (hb : Below w.heap.size w w') : CysRd w' A l := ⟨(h.r.grow hb).more hb.size, fun c hc => (h.c c hc).grow hb, h.n⟩
theorem CyRd.ncyc {w : World} {c : Cyc} (h : CyRd w c) {AA : Option Addr} {acts : List Act} {ne : Nat} (ha : Rd w w.heap.size 6 AA acts.length (acts.flatMap Act.cells)) (he : ne ≤ 4611686018427387904) (hl : acts.length ≤ 4611686018427387904) : NCyc w AA c.Ar c.As ne acts c.arcs c.signs :=
  ⟨ha, h.r, h.s, he, hl, h.hr, h.hs⟩
noncomputable def sepR (T : Int) (ne : Nat) (acts : List Act) (sl : List Int) : List Cyc → Nat → Int → Int → Int × Int × Int
  | [], _, a, v => (a, v, 0)
  | c :: l, i, a, v =>
    if leftE T ne acts c.arcs c.signs sl = 0 then
      (if v < rightV T ne acts c.arcs c.signs - leftV T ne acts c.arcs c.signs sl then sepR T ne acts sl l (i + 1) i (rightV T ne acts c.arcs c.signs - leftV T ne acts c.arcs c.signs sl) else sepR T ne acts sl l (i + 1) a v)
    else (0, 0, leftE T ne acts c.arcs c.signs sl)
noncomputable def sepV (T : Int) (ne : Nat) (acts : List Act) (sl : List Int) (l : List Cyc) : Int × Int × Int := sepR T ne acts sl l 0 (-1) 0
theorem leftE_zero {T : Int} {ne : Nat} {acts : List Act} {arcs signs sl : List Int} (h : leftE T ne acts arcs signs sl = 0) : CycOk T ne acts arcs signs ∧ slOk acts sl := by
  unfold leftE at h
  split at h
  · rename_i h1
    split at h
    · rename_i h2; exact ⟨cycB_iff.1 h1, h2⟩
    · cases h
  · cases h
theorem sep_bd {T : Int} {ne : Nat} {acts : List Act} {arcs signs sl : List Int} (h : leftE T ne acts arcs signs sl = 0) : 0 ≤ rightV T ne acts arcs signs ∧ rightV T ne acts arcs signs ≤ 51840000 ∧ 0 ≤ leftV T ne acts arcs signs sl ∧ leftV T ne acts arcs signs sl ≤ 100000000000 := by
  obtain ⟨hk, hs⟩ := leftE_zero h
  have hr := res_bd hk
  have ht1 := hk.net.t1
  have hb := sl_bd hk hs arcs.length (Nat.le_refl _)
  rw [(leftE_ok (cycB_yes hk) hs).2]
  unfold rightV leftR
  have h1 := mul_bd2 (resV T ne acts arcs signs) (T - resV T ne acts arcs signs) 7200 7200 hr.1 (by omega) (by omega) (by omega)
  have h2 := mul_bd2 (T - resV T ne acts arcs signs) (sumN (slF arcs signs sl) arcs.length) 7200 3686400 (by omega) (by omega) hb.1 hb.2.1
  have h3 := mul_bd2 (resV T ne acts arcs signs) (sumN (slB arcs signs sl) arcs.length) 7200 3686400 (by omega) (by omega) hb.2.2.1 hb.2.2.2
  omega
def SepOut (T : Int) (ne : Nat) (acts : List Act) (sl : List Int) (l : List Cyc) (w : World) (e : Ending) (w' : World) : Prop :=
  e = .returned (.tuple #[.int .i64 (sepV T ne acts sl l).1, .int .i64 (sepV T ne acts sl l).2.1, .int .i64 (sepV T ne acts sl l).2.2]) ∧ Below w.heap.size w w'
def Sp1 (w : World) (T : Int) (ne : Nat) (acts : List Act) (sl : List Int) (l : List Cyc) (X : Nat) (xs : Array Value) (k : Nat) (v6 v7 v : Value) (wr : World) : Prop :=
  ∃ (j : Nat) (a m : Int), v = .int .i64 j ∧ j + k = l.length ∧ v6 = .int .i64 a ∧ v7 = .int .i64 m ∧ sepR T ne acts sl (l.drop j) j a m = sepV T ne acts sl l ∧ Blk wr X 26 xs ∧ Below w.heap.size w wr

set_option maxRecDepth 100000 in
set_option maxHeartbeats 3200000 in
theorem separate_any (T : Int) (AE AA Al Ac : Option Addr) (ne ce ca cl cc : Nat) (acts : List Act) (sl : List Int) (l : List Cyc) (w : World) (hA : Rd w w.heap.size 6 AA acts.length (acts.flatMap Act.cells)) (he : ne ≤ 4611686018427387904) (hla : acts.length ≤ 4611686018427387904)
    (hC : CysRd w Ac l) (hL : Rd w w.heap.size 1 Al sl.length (sl.map (Value.int .i64))) (hll : sl.length ≤ 4611686018427387904) :
    Calls Try.prog 25 #[.agg #[.int .i64 T, .slice AE ne ce, .slice AA acts.length ca], .slice Ac l.length cc, .slice Al sl.length cl] w (SepOut T ne acts sl l w) := by
  have HA := Lib.hid hA
  have HCs := Lib.hid hC
  have HSl := Lib.hid hL
  have hlc := hC.n
  clear hA hC hL
  have HX0 := Lib.hid (Blk.new w 26 #[.int .i64 T, .slice AE ne ce, .slice AA acts.length ca])
  have HL0 := Lib.hid (show Below w.heap.size w (w.alloc (.cells #[.int .i64 T, .slice AE ne ce, .slice AA acts.length ca] 26)) from (Below.refl _ _).alloc (Nat.le_refl _) _)
  go_enter Try.func25, Try.ntmps25
  go_wp2_with fail
  go_loopg [6, 7, 9, 10, 11, 12, 13, 16] l.length (fun k v6 v7 _ _ _ _ _ v wr => Sp1 w T ne acts sl l w.heap.size #[.int .i64 T, .slice AE ne ce, .slice AA acts.length ca] k v6 v7 v wr)
  case atStart => exact ⟨0, -1, 0, rfl, by omega, rfl, rfl, rfl, HX0.out, HL0.out⟩
  case round =>
    obtain ⟨j, a, m, rfl, hj, rfl, rfl, hsp, hx, hbel⟩ := hrel
    clear HX0 HL0
    have Hj := Lib.hid hj
    have Hsp := Lib.hid hsp
    have HX := Lib.hid hx
    have HL := Lib.hid hbel
    clear hj hsp hx hbel
    by_cases hlt : j < l.length
    · obtain ⟨bc, oc, rfl, hbc, d0, d1⟩ := rdCyc (HCs.out.r.grow HL.out) rfl j hlt
      have HCy := Lib.hid (HCs.out.c l[j] (List.getElem_mem hlt))
      have hd := List.drop_eq_getElem_cons hlt
      rw [hd] at Hsp
      clear hd
      generalize l[j] = c at *
      obtain ⟨Ar, cr, As, cs, arcs, signs⟩ := c
      simp only at d0 d1
      have hxl := HX.out.lt
      have hbc' : bc < wr.heap.size := World.block_lt_of_cell? _ _ d0
      go_upto_region 5 with fail
      refine world_gen (fun w6 => Blk w6 w.heap.size 26 #[.int .i64 T, .slice AE ne ce, .slice AA acts.length ca] ∧ Blk w6 wr.heap.size 32 #[.slice Ar arcs.length cr, .slice As signs.length cs] ∧ Below w.heap.size w w6) ⟨(by have hblk := HX.out; repeat (first | exact hblk | refine Blk.al ?_ _ | refine Blk.dr ?_ | refine Blk.drN ?_ _)), (by have hblk := Blk.new wr 32 #[.slice Ar arcs.length cr, .slice As signs.length cs]; repeat (first | exact hblk | refine Blk.al ?_ _ | refine Blk.dr ?_ | refine Blk.drN ?_ _)), (by have hbelh := HL.out; have hbels := hbelh.size; exact (by repeat (first | exact Below.refl _ _ | (with_reducible refine Below.drew ?_) | (with_reducible refine below_drewN ?_ _) | (with_reducible refine Below.alloc ?_ (by first | omega | (simp; done) | (simp; omega)) _) | (with_reducible refine Below.setCell ?_ (by first | omega | (simp; done) | (simp; omega)) _) | (refine Below.trans ?_ (Below.mono (by with_reducible assumption) (by first | omega | (simp; done) | (simp; omega)))))))⟩ ?_
      rintro w6 ⟨hx6, hy6, hl6⟩
      have HX6 := Lib.hid hx6
      have HY6 := Lib.hid hy6
      have HL6 := Lib.hid hl6
      clear d0 d1 hxl HX HL hbc' hx6 hy6 hl6
      have x0 := HX6.out.cell 0
      have x1 := HX6.out.cell 1
      have x2 := HX6.out.cell 2
      have y0 := HY6.out.cell 0
      have y1 := HY6.out.cell 1
      simp at x0 x1 x2 y0 y1
      go_wp2_with fail
      refine (left_any T AE AA Ar As Al ne ce ca cr cs cl acts arcs signs sl w6 (((HCy.out.grow HL6.out).ncyc ((HA.out.grow HL6.out).more HL6.out.size) he hla)) ((HSl.out.grow HL6.out).more HL6.out.size) hll).mono ?_
      rintro e w7 ⟨rfl, hb7⟩
      have HX7 := Lib.hid (HX6.out.bel hb7)
      have HY7 := Lib.hid (HY6.out.bel hb7)
      have HL7 := Lib.hid (HL6.out.trans (hb7.mono HL6.out.size))
      clear x0 x1 x2 y0 y1 HX6 HY6 HL6 hb7
      by_cases h0 : leftE T ne acts arcs signs sl = 0
      case neg =>
        have HO := Lib.hid (show sepV T ne acts sl l = (0, 0, leftE T ne acts arcs signs sl) by rw [← Hsp.out]; unfold sepR; rw [if_neg h0])
        generalize leftE T ne acts arcs signs sl = er at *
        have h0' : (er != 0) = true := by simpa using h0
        go_wp2_with fail
        go_ret3
        exact ⟨by rw [HO.out]; rfl, HL7.out⟩
      have hbd := sep_bd h0
      have Hsp2 := Lib.hid (show (if m < rightV T ne acts arcs signs - leftV T ne acts arcs signs sl then sepR T ne acts sl (l.drop (j + 1)) (j + 1) j (rightV T ne acts arcs signs - leftV T ne acts arcs signs sl) else sepR T ne acts sl (l.drop (j + 1)) (j + 1) a m) = sepV T ne acts sl l by rw [← Hsp.out]; conv => rhs; unfold sepR; rw [if_pos h0])
      rw [h0]
      clear h0 Hsp
      have x0 := HX7.out.cell 0
      have x1 := HX7.out.cell 1
      have x2 := HX7.out.cell 2
      have y0 := HY7.out.cell 0
      have y1 := HY7.out.cell 1
      simp at x0 x1 x2 y0 y1
      go_wp2_with fail
      refine (right_any T AE AA Ar As ne ce ca cr cs acts arcs signs w7 ((HCy.out.grow HL7.out).ncyc ((HA.out.grow HL7.out).more HL7.out.size) he hla)).mono ?_
      rintro e w8 ⟨rfl, hb8⟩
      have HX8 := Lib.hid (HX7.out.bel hb8)
      have HL8 := Lib.hid (HL7.out.trans (hb8.mono HL7.out.size))
      clear x0 x1 x2 y0 y1 HX7 HY7 HL7 hb8
      generalize rightV T ne acts arcs signs = rv at *
      generalize leftV T ne acts arcs signs sl = lv at *
      obtain ⟨hb0, hb1, hb2, hb3⟩ := hbd
      by_cases hm : m < rv - lv
      · rw [if_pos hm] at Hsp2
        go_wp2_with fail
        go_roundg (l.length - j - 1)
        case measure => have := Hj.out; omega
        case rel => exact ⟨j + 1, _, _, by first | rfl | go_num, by omega, rfl, rfl, Hsp2.out, HX8.out, HL8.out⟩
      · rw [if_neg hm] at Hsp2
        go_wp2_with fail
        go_roundg (l.length - j - 1)
        case measure => have := Hj.out; omega
        case rel => exact ⟨j + 1, _, _, by first | rfl | go_num, by omega, rfl, rfl, Hsp2.out, HX8.out, HL8.out⟩
    · have HO := Lib.hid (show sepV T ne acts sl l = (a, m, 0) by rw [← Hsp.out, List.drop_eq_nil_of_le (by omega)]; rfl)
      go_wp2_with fail
      go_ret3
      exact ⟨by rw [HO.out]; rfl, HL.out⟩
end Go.Proofs.Ytcgamkldlmmdnaa
