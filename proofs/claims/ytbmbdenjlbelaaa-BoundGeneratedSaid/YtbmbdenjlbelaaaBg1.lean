import Derived.Test.YtbmbdenjlbelaaaAgr
import Derived.Test.YtbmbdenjlbelaaaAw15
import Derived.Test.YtbmbdenjlbelaaaSm
namespace Go.Proofs.Ytbmbdenjlbelaaa
open Go.RowKit
/-- the network that a law holds in its block X -/
structure LwN (w wr : World) (X : Nat) (T : Int) (AE AA : Option Addr) (ne ce ca : Nat) (acts : List Act) : Prop where
  bel : Below w.heap.size w wr
  x : Blk wr X 26 #[.int .i64 T, .slice AE ne ce, .slice AA acts.length ca]
  a : Rd wr wr.heap.size 6 AA acts.length (acts.flatMap Act.cells)
section
variable {w wr w' : World} {X : Nat} {T : Int} {AE AA : Option Addr} {ne ce ca : Nat} {acts : List Act}
theorem LwN.grow (h : LwN w wr X T AE AA ne ce ca acts) (hb : Below wr.heap.size wr w') : LwN w w' X T AE AA ne ce ca acts :=
  ⟨h.bel.trans (hb.mono h.bel.size), h.x.bel hb, (h.a.grow hb).more hb.size⟩
theorem LwN.drew (h : LwN w wr X T AE AA ne ce ca acts) : LwN w wr.drew X T AE AA ne ce ca acts := h.grow (Below.refl _ _).drew
theorem LwN.mk' (hb : Below w.heap.size w wr) (ha : Rd wr wr.heap.size 6 AA acts.length (acts.flatMap Act.cells)) : LwN w (wr.alloc (.cells #[.int .i64 T, .slice AE ne ce, .slice AA acts.length ca] 26)) wr.heap.size T AE AA ne ce ca acts :=
  have hb' : Below wr.heap.size wr (wr.alloc (.cells #[.int .i64 T, .slice AE ne ce, .slice AA acts.length ca] 26)) := (Below.refl _ _).alloc (Nat.le_refl _) _
  ⟨hb.trans (hb'.mono hb.size), Blk.new _ _ _, (ha.grow hb').more hb'.size⟩
end
theorem fund_len2 {T : Int} {ne : Nat} {acts : List Act} {l : List Cyc} (hm : l.map cyP = fundF ne acts (treeF T ne acts)) (hna : acts.length ≤ 512) : l.length ≤ 512 := by
  have h := congrArg List.length hm
  rw [List.length_map] at h
  unfold fundF at h
  split at h
  · have := fundL_len ne acts (treeF T ne acts) acts.length; omega
  · rw [List.length_nil] at h; omega
theorem Prt.set_tm (ps : List Prt) (i : Nat) (hi : i < ps.length) (t : Int) : (ps.flatMap Prt.cells).set (i * 3 + 2) (.int .i64 t) = (ps.set i ⟨ps[i].c, t⟩).flatMap Prt.cells := by
  apply List.ext_getElem?
  intro m
  have hl := flat_len Prt.cells 3 Prt.len ps
  rw [flat_getq Prt.cells 3 (by omega) Prt.len, List.getElem?_set, flat_getq Prt.cells 3 (by omega) Prt.len, List.getElem?_set, hl]
  by_cases h : m / 3 = i
  · subst h
    have h0 : m % 3 = 0 ∨ m % 3 = 1 ∨ m % 3 = 2 := by omega
    rcases h0 with h0 | h0 | h0
    · rw [if_neg (by omega)]
      simp [hi, h0, Prt.cells]
    · rw [if_neg (by omega)]
      simp [hi, h0, Prt.cells]
    · rw [if_pos (by omega), if_pos (by omega)]
      simp [hi, h0, Prt.cells]
  · rw [if_neg (by omega), if_neg (by omega)]
set_option maxRecDepth 100000 in
set_option maxHeartbeats 6400000 in
theorem boundgen_true (A0 : Option Addr) (n0 c0 : Nat) (z0 : List Int) (A1 : Option Addr) (n1 c1 : Nat) (z1 : List Int) (a2 a3 : Int) (w : World) (h0 : Rd w w.heap.size 1 A0 n0 (z0.map (Value.int .i64))) (m0 : n0 ≤ c0 ∧ c0 ≤ maxLen ∧ c0 * 8 ≤ 140737488351232) (h1 : Rd w w.heap.size 1 A1 n1 (z1.map (Value.int .i64))) (m1 : n1 ≤ c1 ∧ c1 ≤ maxLen ∧ c1 * 8 ≤ 140737488351232) (_w2 : (Lit.int .i64 a2).wf = true) (_w3 : (Lit.int .i64 a3).wf = true) :
    Calls Try.prog 10 #[.slice A0 n0 c0, .slice A1 n1 c1, .int .i64 a2, .int .i64 a3] w fun e w' => e = .returned (.bool true) ∧ Below w.heap.size w w' := by
  have H0 := Lib.hid h0
  have H1 := Lib.hid h1
  have Hm0 := Lib.hid (show n0 ≤ maxLen by omega)
  have Hm1 := Lib.hid (show n1 ≤ maxLen by omega)
  clear h0 h1 m0 m1
  go_enter Try.func10, Try.ntmps10
  go_wp2_with fail
  refine (mknet_any A0 n0 c0 z0 w H0.out Hm0.out).mono ?_
  rintro e w1 ⟨T, AE, AA, ne, ce, ca, acts, rfl, hsm, ho, hb1⟩
  have HN := Lib.hid hsm.ok
  have ht0 := hsm.t0
  have ht1 := hsm.t1
  have hne := hsm.e1
  have hna := hsm.n
  have Hb1 := Lib.hid hb1
  have HA1 := Lib.hid (Rd.of_own ho)
  clear hsm ho hb1
  go_upto_region 2 with fail
  refine world_gen (fun w2 => LwN w w2 w1.heap.size T AE AA ne ce ca acts) (LwN.mk' Hb1.out HA1.out) ?_
  intro w2 hl2
  generalize w1.heap.size = X at *
  have HL := Lib.hid hl2
  clear hl2 Hb1 HA1
  have x0 := HL.out.x.cell 0
  have x1 := HL.out.x.cell 1
  have x2 := HL.out.x.cell 2
  simp at x0 x1 x2
  go_wp2_with fail
  refine (some_own T AE AA A1 ne ce ca n1 c1 acts z1 w2 HL.out.a HN.out ((H1.out.grow HL.out.bel).more HL.out.bel.size) Hm1.out).mono ?_
  rintro e w6 ⟨Ap, cp, ps, rfl, hpr, hso, hp3, hpc, _, hb6, lo, hi, hhi, how, hcy⟩
  have HPr := Lib.hid hpr
  have HSo := Lib.hid (show ∀ p ∈ ps, p.c.arcs.length ≤ p.c.cr from fun p hp => (hso p hp).2.1)
  have HOw := Lib.hid how
  have HCy := Lib.hid hcy
  have HL6 := Lib.hid (HL.out.grow hb6)
  have HA6 := Lib.hid (HL.out.a.grow hb6)
  have hsz := HL.out.bel.size
  have hX2 := HL.out.x.lt
  clear hpr hso how hcy hb6 x0 x1 x2 HL
  have HL := HL6
  clear HL6
  by_cases hp0 : ps.length = 0
  · have hp0' : decide ((0 : Int) < (ps.length : Int)) = false := by rw [decide_eq_false_iff_not]; omega
    have hp00 : decide (0 < ps.length) = false := by rw [decide_eq_false_iff_not]; omega
    clear hp0
    go_wp2_with fail
    clear hp0' hp00
    go_upto_region 5 with fail
    have x0 := HL.out.x.cell 0
    have x1 := HL.out.x.cell 1
    have x2 := HL.out.x.cell 2
    simp at x0 x1 x2
    have hxl := HL.out.x.lt
    go_region_held3 (fun w' => w'.cell? ⟨X, 0, none⟩ = some (.int .i64 T) ∧ w'.cell? ⟨X, 1, none⟩ = some (.slice AE ne ce) ∧ w'.cell? ⟨X, 2, none⟩ = some (.slice AA acts.length ca))
      (first | go_keep | (go_split_ands; exact ⟨cell_bel hb13 (by assumption), cell_bel hb13 (by assumption), cell_bel hb13 (by assumption)⟩) | (go_split_ands; exact ⟨cell_bel hb12 (by assumption), cell_bel hb12 (by assumption), cell_bel hb12 (by assumption)⟩) | (go_split_ands; exact ⟨cell_bel hb11 (by assumption), cell_bel hb11 (by assumption), cell_bel hb11 (by assumption)⟩))
      (first | (go_at_call 18; refine (awake_any _).mono ?_; rintro e w11 ⟨rfl, hb11⟩; have HL11 := Lib.hid (HL.out.drew.grow hb11); have HP11 := Lib.hid ((HPr.out.grow (Below.refl _ _).drew).grow hb11)) | (go_at_call 22; refine (lfund_any3 T AE AA ne ce ca acts _ HL11.out.a HN.out).mono ?_; rintro e w12 ⟨hb12, Ac, cc, l, rfl, hm, hcl, hr, hcap, _, _⟩; have hll := fund_len2 hm (by omega); have HCs := Lib.hid hr; have HCap := Lib.hid hcap; have HL12 := Lib.hid (HL11.out.grow hb12); have HP12 := Lib.hid (HP11.out.grow hb12); clear hm hcl hr hcap) | (go_at_call 29; refine (agrees_any T AE AA Ac Ap ne ce ca cc cp acts l ps _ HL12.out.a (by omega) (by omega) HCs.out HCap.out HP12.out HSo.out).mono ?_; rintro e w13 ⟨rfl, hb13⟩; have HL13 := Lib.hid (HL12.out.grow hb13)))
    go_wp2_with fail
    go_ret
    exact ⟨rfl, HL13.out.bel⟩
  have hp0' : decide ((0 : Int) < (ps.length : Int)) = true := by rw [decide_eq_true_eq]; omega
  have hp00 : decide (0 < ps.length) = true := by rw [decide_eq_true_eq]; omega
  go_wp2_with fail
  refine (pick_any a3 4 w6 (by omega) (by omega)).mono ?_
  rintro e w7 ⟨rfl, rfl⟩
  by_cases hc : pick a3 4 = 3
  case neg =>
    have hc' : (pick a3 4 == 3) = false := by simpa using hc
    clear hc
    generalize pick a3 4 = p4 at *
    go_wp2_with fail
    go_upto_region 5 with fail
    have x0 := HL.out.x.cell 0
    have x1 := HL.out.x.cell 1
    have x2 := HL.out.x.cell 2
    simp at x0 x1 x2
    have hxl := HL.out.x.lt
    go_region_held3 (fun w' => w'.cell? ⟨X, 0, none⟩ = some (.int .i64 T) ∧ w'.cell? ⟨X, 1, none⟩ = some (.slice AE ne ce) ∧ w'.cell? ⟨X, 2, none⟩ = some (.slice AA acts.length ca))
      (first | go_keep | (go_split_ands; exact ⟨cell_bel hb13 (by assumption), cell_bel hb13 (by assumption), cell_bel hb13 (by assumption)⟩) | (go_split_ands; exact ⟨cell_bel hb12 (by assumption), cell_bel hb12 (by assumption), cell_bel hb12 (by assumption)⟩) | (go_split_ands; exact ⟨cell_bel hb11 (by assumption), cell_bel hb11 (by assumption), cell_bel hb11 (by assumption)⟩))
      (first | (go_at_call 18; refine (awake_any _).mono ?_; rintro e w11 ⟨rfl, hb11⟩; have HL11 := Lib.hid (HL.out.drew.grow hb11); have HP11 := Lib.hid ((HPr.out.grow (Below.refl _ _).drew).grow hb11)) | (go_at_call 22; refine (lfund_any3 T AE AA ne ce ca acts _ HL11.out.a HN.out).mono ?_; rintro e w12 ⟨hb12, Ac, cc, l, rfl, hm, hcl, hr, hcap, _, _⟩; have hll := fund_len2 hm (by omega); have HCs := Lib.hid hr; have HCap := Lib.hid hcap; have HL12 := Lib.hid (HL11.out.grow hb12); have HP12 := Lib.hid (HP11.out.grow hb12); clear hm hcl hr hcap) | (go_at_call 29; refine (agrees_any T AE AA Ac Ap ne ce ca cc cp acts l ps _ HL12.out.a (by omega) (by omega) HCs.out HCap.out HP12.out HSo.out).mono ?_; rintro e w13 ⟨rfl, hb13⟩; have HL13 := Lib.hid (HL12.out.grow hb13)))
    go_wp2_with fail
    go_ret
    exact ⟨rfl, HL13.out.bel⟩
  rw [hc]
  clear hc
  have hpk := pick_bd a2 ps.length (by omega) (by omega)
  obtain ⟨q, hq⟩ := Int.eq_ofNat_of_zero_le hpk.1
  have hql : q < ps.length := by omega
  have HPk := Lib.hid (show ∀ X : World, Calls Try.prog 30 #[.int .i64 a2, .int .i64 ps.length] X fun e w' => e = .returned (.int .i64 (q : Int)) ∧ X = w' from fun X => by
    rw [← hq]; exact pick_any _ _ X (by omega) (by omega))
  clear hpk hq
  go_wp2_with fail
  refine (HPk.out w6).mono ?_
  rintro e w7 ⟨rfl, rfl⟩
  obtain ⟨gp, ep⟩ : ∃ gp, Ap = some ⟨gp, 0, none⟩ := by
    obtain ⟨g, cap, hv, _, _⟩ := HOw.out.form (by omega)
    injection hv with hv
    exact ⟨g, hv⟩
  subst ep
  have hgp := own_block HOw.out gp rfl
  have u0 := HOw.out.cellAt (q * 3 + 2) (by omega)
  rw [flat_get Prt.cells 3 Prt.len ps q hql 2 (by omega)] at u0
  have u1 := HOw.out.frozenAt (q * 3 + 2)
  have hst := (HOw.out.stored (q * 3 + 2) (.int .i64 a3)).1
  rw [Prt.set_tm ps q hql a3] at hst
  have HPr9 := Lib.hid (show PrsRd (w6.setCell ⟨gp, q * 3 + 2, none⟩ (.int .i64 a3)) (some ⟨gp, 0, none⟩) (ps.set q ⟨ps[q].c, a3⟩) from by
    refine ⟨?_, fun p hp => ?_, by rw [List.length_set]; exact HPr.out.n⟩
    · have := Rd.of_own hst
      rw [List.length_set]
      exact this
    · have hcc : ∀ p ∈ ps, CyRd (w6.setCell ⟨gp, q * 3 + 2, none⟩ (.int .i64 a3)) p.c := fun p hp => by
        have h1 := (HCy.out p hp).mid (w' := w6.setCell ⟨gp, q * 3 + 2, none⟩ (.int .i64 a3)) (fun k _ hk => Below.heap_setCell _ _ _ _ (by have := hgp.1; simp only; omega))
        exact h1.rd (by have := hgp; simp [World.setCell]; omega)
      rcases List.mem_or_eq_of_mem_set hp with h | rfl
      · exact hcc p h
      · exact hcc ps[q] (List.getElem_mem hql))
  have HSo9 := Lib.hid (show ∀ p ∈ ps.set q ⟨ps[q].c, a3⟩, p.c.arcs.length ≤ p.c.cr from fun p hp => by
    rcases List.mem_or_eq_of_mem_set hp with h | rfl
    · exact HSo.out p h
    · exact HSo.out ps[q] (List.getElem_mem hql))
  have HL9 := Lib.hid (show LwN w (w6.setCell ⟨gp, q * 3 + 2, none⟩ (.int .i64 a3)) X T AE AA ne ce ca acts from by
    have := hgp.1
    exact ⟨HL.out.bel.setCell (by simp only; omega) _, HL.out.x.far (by omega), (HA6.out.far (by simp only; omega)).more (by have := HL.out.bel; have := hgp.2; simp [World.setCell]; omega)⟩)
  have HLen := Lib.hid (show (ps.set q ⟨ps[q].c, a3⟩).length = ps.length by simp)
  have hgl := hgp.2
  go_wp2_with fail
  rw [← HLen.out]
  clear HPr HSo HL u0 u1 hst
  have HPr := HPr9
  have HSo := HSo9
  have HL := HL9
  clear HPr9 HSo9 HL9 HA6 HOw HCy
  generalize ps.set q ⟨ps[q].c, a3⟩ = ps' at *
  generalize w6.setCell ⟨gp, q * 3 + 2, none⟩ (.int .i64 a3) = w9 at *
  go_upto_region 5 with fail
  have x0 := HL.out.x.cell 0
  have x1 := HL.out.x.cell 1
  have x2 := HL.out.x.cell 2
  simp at x0 x1 x2
  have hxl := HL.out.x.lt
  go_region_held3 (fun w' => w'.cell? ⟨X, 0, none⟩ = some (.int .i64 T) ∧ w'.cell? ⟨X, 1, none⟩ = some (.slice AE ne ce) ∧ w'.cell? ⟨X, 2, none⟩ = some (.slice AA acts.length ca))
    (first | go_keep | (go_split_ands; exact ⟨cell_bel hb13 (by assumption), cell_bel hb13 (by assumption), cell_bel hb13 (by assumption)⟩) | (go_split_ands; exact ⟨cell_bel hb12 (by assumption), cell_bel hb12 (by assumption), cell_bel hb12 (by assumption)⟩) | (go_split_ands; exact ⟨cell_bel hb11 (by assumption), cell_bel hb11 (by assumption), cell_bel hb11 (by assumption)⟩))
    (first | (go_at_call 18; refine (awake_any _).mono ?_; rintro e w11 ⟨rfl, hb11⟩; have HL11 := Lib.hid (HL.out.drew.grow hb11); have HP11 := Lib.hid ((HPr.out.grow (Below.refl _ _).drew).grow hb11)) | (go_at_call 22; refine (lfund_any3 T AE AA ne ce ca acts _ HL11.out.a HN.out).mono ?_; rintro e w12 ⟨hb12, Ac, cc, l, rfl, hm, hcl, hr, hcap, _, _⟩; have hll := fund_len2 hm (by omega); have HCs := Lib.hid hr; have HCap := Lib.hid hcap; have HL12 := Lib.hid (HL11.out.grow hb12); have HP12 := Lib.hid (HP11.out.grow hb12); clear hm hcl hr hcap) | (go_at_call 29; refine (agrees_any T AE AA Ac (some ⟨gp, 0, none⟩) ne ce ca cc cp acts l ps' _ HL12.out.a (by omega) (by omega) HCs.out HCap.out HP12.out HSo.out).mono ?_; rintro e w13 ⟨rfl, hb13⟩; have HL13 := Lib.hid (HL12.out.grow hb13)))
  go_wp2_with fail
  go_ret
  exact ⟨rfl, HL13.out.bel⟩
end Go.Proofs.Ytbmbdenjlbelaaa
