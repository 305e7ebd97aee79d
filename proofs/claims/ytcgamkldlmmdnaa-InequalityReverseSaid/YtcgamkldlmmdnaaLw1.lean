import Derived.Test.YtcgamkldlmmdnaaSks
import Derived.Test.YtcgamkldlmmdnaaSlk
namespace Go.Proofs.Ytcgamkldlmmdnaa
open Go.RowKit

/-- the network that a law holds in its block X -/
structure LwN (w wr : World) (X : Nat) (T : Int) (AE AA : Option Addr) (ne ce ca : Nat) (acts : List Act) : Prop where
  bel : Below w.heap.size w wr
  x : Blk wr X 26 #[.int .i64 T, .slice AE ne ce, .slice AA acts.length ca]
  a : Rd wr wr.heap.size 6 AA acts.length (acts.flatMap Act.cells)
section
variable {w wr w' : World} {X : Nat} {T : Int} {AE AA : Option Addr} {ne ce ca : Nat} {acts : List Act}
theorem LwN.grow (h : LwN w wr X T AE AA ne ce ca acts) (hb : Below wr.heap.size wr w') : LwN w w' X T AE AA ne ce ca acts :=
  ⟨h.bel.trans (hb.mono h.bel.size), h.x.bel hb, (h.a.grow hb).more hb.size⟩
theorem LwN.mk' (hb : Below w.heap.size w wr) (ha : Rd wr wr.heap.size 6 AA acts.length (acts.flatMap Act.cells)) : LwN w (wr.alloc (.cells #[.int .i64 T, .slice AE ne ce, .slice AA acts.length ca] 26)) wr.heap.size T AE AA ne ce ca acts :=
  have hb' : Below wr.heap.size wr (wr.alloc (.cells #[.int .i64 T, .slice AE ne ce, .slice AA acts.length ca] 26)) := (Below.refl _ _).alloc (Nat.le_refl _) _
  ⟨hb.trans (hb'.mono hb.size), Blk.new _ _ _, (ha.grow hb').more hb'.size⟩
end

/-- with one of its cycles in block Y -/
structure LwC (w wr : World) (X Y : Nat) (T : Int) (AE AA : Option Addr) (ne ce ca : Nat) (acts : List Act) (Ar : Option Addr) (cr : Nat) (As : Option Addr) (cs : Nat) (arcs signs : List Int) : Prop where
  n : LwN w wr X T AE AA ne ce ca acts
  y : Blk wr Y 32 #[.slice Ar arcs.length cr, .slice As signs.length cs]
  c : CyRd wr ⟨Ar, cr, As, cs, arcs, signs⟩
section
variable {w wr w' : World} {X Y : Nat} {T : Int} {AE AA Ar As : Option Addr} {ne ce ca cr cs : Nat} {acts : List Act} {arcs signs : List Int}
theorem LwC.grow (h : LwC w wr X Y T AE AA ne ce ca acts Ar cr As cs arcs signs) (hb : Below wr.heap.size wr w') : LwC w w' X Y T AE AA ne ce ca acts Ar cr As cs arcs signs :=
  ⟨h.n.grow hb, h.y.bel hb, h.c.grow hb⟩
theorem LwC.drew (h : LwC w wr X Y T AE AA ne ce ca acts Ar cr As cs arcs signs) : LwC w wr.drew X Y T AE AA ne ce ca acts Ar cr As cs arcs signs := h.grow (Below.refl _ _).drew
theorem LwC.mk' (h : LwN w wr X T AE AA ne ce ca acts) (hc : CyRd wr ⟨Ar, cr, As, cs, arcs, signs⟩) : LwC w (wr.alloc (.cells #[.slice Ar arcs.length cr, .slice As signs.length cs] 32)) X wr.heap.size T AE AA ne ce ca acts Ar cr As cs arcs signs :=
  have hb' : Below wr.heap.size wr (wr.alloc (.cells #[.slice Ar arcs.length cr, .slice As signs.length cs] 32)) := (Below.refl _ _).alloc (Nat.le_refl _) _
  ⟨h.grow hb', Blk.new _ _ _, hc.grow hb'⟩
theorem LwC.ncyc (h : LwC w wr X Y T AE AA ne ce ca acts Ar cr As cs arcs signs) (he : ne ≤ 512) (ha : acts.length ≤ 512) : NCyc wr AA Ar As ne acts arcs signs :=
  h.c.ncyc h.n.a (by omega) (by omega)
end

set_option maxRecDepth 100000 in
set_option maxHeartbeats 6400000 in
theorem nachtigall_true (A0 : Option Addr) (n0 c0 : Nat) (z0 : List Int) (A1 : Option Addr) (n1 c1 : Nat) (z1 : List Int) (k : Int) (w : World) (h0 : Rd w w.heap.size 1 A0 n0 (z0.map (Value.int .i64))) (m0 : n0 ≤ c0 ∧ c0 ≤ maxLen ∧ c0 * 8 ≤ 140737488351232) (h1 : Rd w w.heap.size 1 A1 n1 (z1.map (Value.int .i64))) (m1 : n1 ≤ c1 ∧ c1 ≤ maxLen ∧ c1 * 8 ≤ 140737488351232) (_hk : (Lit.int .i64 k).wf = true) :
    Calls Try.prog 3 #[.slice A0 n0 c0, .slice A1 n1 c1, .int .i64 k] w fun e w' => e = .returned (.bool true) ∧ Below w.heap.size w w' := by
  have H0 := Lib.hid h0
  have H1 := Lib.hid h1
  have Hm0 := Lib.hid (show n0 ≤ maxLen by omega)
  have Hm1 := Lib.hid (show n1 ≤ maxLen by omega)
  clear h0 h1 m0 m1
  go_enter Try.func3, Try.ntmps3
  go_wp2_with fail
  refine (mknet_any A0 n0 c0 z0 w H0.out Hm0.out).mono ?_
  rintro e w1 ⟨T, AE, AA, ne, ce, ca, acts, rfl, hsm, ho, hb1⟩
  have HN := Lib.hid hsm.ok
  have ht0 := hsm.t0
  have ht1 := hsm.t1
  have hne := hsm.e1
  have hna := hsm.n
  have Hb1 := Lib.hid hb1
  have HA1 := Lib.hid (Rd.of_own ho)
  clear hsm ho hb1
  go_upto_region 2 with fail
  refine world_gen (fun w2 => LwN w w2 w1.heap.size T AE AA ne ce ca acts) (LwN.mk' Hb1.out HA1.out) ?_
  intro w2 hl2
  generalize w1.heap.size = X at *
  have HL := Lib.hid hl2
  clear hl2 Hb1 HA1
  have x0 := HL.out.x.cell 0
  have x1 := HL.out.x.cell 1
  have x2 := HL.out.x.cell 2
  simp at x0 x1 x2
  go_wp2_with fail
  refine (lfund_any T AE AA ne ce ca acts _ HL.out.a HN.out).mono ?_
  rintro e w3 ⟨hb3, Ac, cc, l, rfl, hm, hc, hr⟩
  have hll : l.length ≤ 8 := by
    have h := congrArg List.length hm
    rw [List.length_map] at h
    unfold fundF at h
    split at h
    · have := fundL_len ne acts (treeF T ne acts) acts.length; omega
    · rw [List.length_nil] at h; omega
  have HL3 := Lib.hid (HL.out.grow hb3)
  have HCs := Lib.hid hr
  have HCk := Lib.hid hc
  skip
  clear hm hc hr hb3 x0 x1 x2 HL
  have HL := HL3
  clear HL3
  cases l with
  | nil =>
    go_wp2_with fail
    refine (awake_any w3).mono ?_
    rintro e w4 ⟨rfl, hb4⟩
    have HB4 := Lib.hid (HL.out.grow hb4).bel
    clear hb4
    go_wp2_with fail
    go_ret
    exact ⟨rfl, HB4.out⟩
  | cons cq lt =>
  generalize hl : cq :: lt = l at *
  have hl1 : 1 ≤ l.length := by rw [← hl]; simp
  have Hl := Lib.hid hl
  clear hl
  have hl0' : ¬ l = [] := fun h => by rw [h] at hl1; simp at hl1
  have hl0 : ((l.length : Int) == 0) = false := by rw [beq_eq_false_iff_ne]; omega
  have hpk := pick_bd k l.length (by omega) (by omega)
  obtain ⟨hp0, hp1⟩ := hpk
  generalize hpkv : pick k l.length = pk at *
  have Hpkv := Lib.hid hpkv
  clear hpkv
  obtain ⟨p, rfl⟩ := Int.eq_ofNat_of_zero_le hp0
  have hpl : p < l.length := by omega
  obtain ⟨bc, oc, rfl, hbc, d0, d1⟩ := rdCyc HCs.out.r rfl p hpl
  have HCy := Lib.hid (HCs.out.c l[p] (List.getElem_mem hpl))
  have HK := Lib.hid (HCk.out l[p] (List.getElem_mem hpl))
  generalize l[p] = cy at *
  obtain ⟨Ar, cr, As, cs, arcs, signs⟩ := cy
  simp only at d0 d1 HCy HK
  have hbc' : bc < (w3).heap.size := World.block_lt_of_cell? _ _ d0
  go_upto_region 6 with (go_at_call 15; refine (pick_any _ _ _ (by omega) (by omega)).mono ?_; rintro e w' ⟨rfl, rfl⟩; rw [Hpkv.out])
  refine world_gen (fun w4 => LwC w w4 X (w3).heap.size T AE AA ne ce ca acts Ar cr As cs arcs signs  ) (LwC.mk' HL.out HCy.out) ?_
  intro w4 hl4
  have hXY : X < (w3).heap.size := HL.out.x.lt
  generalize (w3).heap.size = Y at *
  have HC := Lib.hid hl4
  clear hl4 HL d0 d1 hbc hbc' HCs HCk Hpkv hl0 hl0' Hl HCy
  have x0 := HC.out.n.x.cell 0
  have x1 := HC.out.n.x.cell 1
  have x2 := HC.out.n.x.cell 2
  have y0 := HC.out.y.cell 0
  have y1 := HC.out.y.cell 1
  simp at x0 x1 x2 y0 y1
  have hxl := HC.out.n.x.lt
  have hyl := HC.out.y.lt
  go_region_held3 (fun w' => w'.cell? ⟨X, 0, none⟩ = some (.int .i64 T) ∧ w'.cell? ⟨X, 1, none⟩ = some (.slice AE ne ce) ∧ w'.cell? ⟨X, 2, none⟩ = some (.slice AA acts.length ca) ∧ w'.cell? ⟨Y, 0, none⟩ = some (.slice Ar arcs.length cr) ∧ w'.cell? ⟨Y, 1, none⟩ = some (.slice As signs.length cs))
    (first | go_keep | (go_split_ands; (repeat (refine And.intro (cell_bel hb7 (by assumption)) ?_)); exact cell_bel hb7 (by assumption)) | (go_split_ands; (repeat (refine And.intro (cell_bel hb6 (by assumption)) ?_)); exact cell_bel hb6 (by assumption)) | (go_split_ands; (repeat (refine And.intro (cell_bel hb5 (by assumption)) ?_)); exact cell_bel hb5 (by assumption)))
    (first | (go_at_call 18; refine (times_any T AE AA A1 ne ce acts.length ca n1 c1 z1 _ ((H1.out.grow HC.out.n.bel.drew).more HC.out.n.bel.drew.size) Hm1.out (by omega) (by omega) (by omega)).mono ?_; rintro e w5 ⟨At, ct, x, rfl, hxn, hxr, hrx, hb5⟩; have HX5 := Lib.hid (show TmOk T ne x from ⟨hxn, hxr⟩); have HR5 := Lib.hid hrx; have HC5 := Lib.hid (HC.out.drew.grow hb5); clear hxn hxr hrx) | (go_at_call 17; refine (slacks_any T AE AA At ne ce ca ct acts x _ HC5.out.n.a HN.out HR5.out HX5.out).mono ?_; rintro e w6 ⟨As6, cs6, rfl, hrs6, hb6⟩; have HR6 := Lib.hid hrs6; have HC6 := Lib.hid (HC5.out.grow hb6); clear hrs6) | (go_at_call 16; refine (left_any T AE AA Ar As As6 ne ce ca cr cs cs6 acts arcs signs (slkL T acts x) _ (HC6.out.ncyc (by omega) (by omega)) HR6.out (by simp [slkL]; omega)).mono ?_; rintro e w7 ⟨rfl, hb7⟩))
  have hE := leftE_ok (cycB_yes HK.out) (slkL_ok (acts := acts) (x := x) (show 2 ≤ T by omega) (show T ≤ 7200 by omega))
  have hr := nacht (x := x) HK.out
  rw [hE.1, hE.2]
  have HC7 := Lib.hid (HC6.out.grow hb7)
  clear x0 x1 x2 y0 y1 hxl hyl hE HC HC5 HC6 hb5 hb6 hb7
  have HC := HC7
  clear HC7
  generalize leftR T ne acts arcs signs (slkL T acts x) = lv at *
  go_wp2_with fail
  refine (awake_any w7).mono ?_
  rintro e w8 ⟨rfl, hb8⟩
  have HC8 := Lib.hid (HC.out.grow hb8)
  clear HC hb8
  have HC := HC8
  clear HC8
  have x0 := HC.out.n.x.cell 0
  have x1 := HC.out.n.x.cell 1
  have x2 := HC.out.n.x.cell 2
  have y0 := HC.out.y.cell 0
  have y1 := HC.out.y.cell 1
  simp at x0 x1 x2 y0 y1
  have hxl := HC.out.n.x.lt
  have hyl := HC.out.y.lt
  go_wp2_with fail
  refine (right_any T AE AA Ar As ne ce ca cr cs acts arcs signs w8 (HC.out.ncyc (by omega) (by omega))).mono ?_
  rintro e w9 ⟨rfl, hb9⟩
  have HC8 := Lib.hid (HC.out.grow hb9)
  clear HC hb9 x0 x1 x2 y0 y1 hxl hyl
  generalize rightV T ne acts arcs signs = rv at *
  have hr' : decide (rv ≤ lv) = true := by simpa using hr
  go_wp2_with fail
  go_ret
  exact ⟨rfl, HC8.out.n.bel⟩
end Go.Proofs.Ytcgamkldlmmdnaa
