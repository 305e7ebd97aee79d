import Derived.Test.YtbmbdenjlbelaaaBp1
import Derived.Test.YtbmbdenjlbelaaaRf2
namespace Go.Proofs.Ytbmbdenjlbelaaa
open Go.RowKit
theorem rd_new (w : World) (t : TypeId) (cs : List Value) (sz : Nat) (h : cs.length = 1 * sz) : Rd (w.alloc (.cells cs.toArray t)) (w.heap.size + 1) sz (some ⟨w.heap.size, 0, none⟩) 1 cs := by
  refine ⟨h, fun _ => ⟨w.heap.size, 0, rfl, by omega, fun j u hu => ?_⟩⟩
  rw [(Blk.new w t cs.toArray).cell (0 + j)]
  simpa using hu
theorem prs_one {w w' : World} {base c : Nat} {A : Option Addr} {Ap : Option Addr} {ps : List Prt} {q : Prt} (ho : w'.ownsRow base 47 3 (.slice A (ps.length + 1) c) (ps.length + 1) (ps.flatMap Prt.cells ++ q.cells)) (hb : Below w.heap.size w w') (hp : PrsRd w Ap ps) (hq : CyRd w q.c) (hn : ps.length ≤ 512) : PrsRd w' A (ps ++ [q]) := by
  refine ⟨?_, fun p h => ?_, by simp; omega⟩
  · have := Rd.of_own ho
    have e : ps.flatMap Prt.cells ++ q.cells = (ps ++ [q]).flatMap Prt.cells := by simp
    rw [e] at this
    simpa using this
  · rcases List.mem_append.1 h with h | h
    · exact (hp.c p h).grow hb
    · simp at h; subst h; exact hq.grow hb
theorem check_lenq (T : Int) (AE AA Ap : Option Addr) (ne ce ca cp n : Nat) (acts : List Act) (ps : List Prt) (w : World) (hA : Rd w w.heap.size 6 AA acts.length (acts.flatMap Act.cells)) (he : ne ≤ 4611686018427387904) (hl : acts.length ≤ 4611686018427387904) (hP : PrsRd w Ap ps) (hn : ps.length = n) :
    Calls Try.prog 15 #[.agg #[.int .i64 T, .slice AE ne ce, .slice AA acts.length ca], .slice Ap n cp] w (ChkOut T ne acts ps w) := by
  subst hn
  exact check_any T AE AA Ap ne ce ca cp acts ps w hA he hl hP

set_option maxRecDepth 100000 in
set_option maxHeartbeats 3200000 in
theorem packIsMaximal_true (A0 : Option Addr) (n0 c0 : Nat) (z0 : List Int) (kk : Int) (w : World) (h0 : Rd w w.heap.size 1 A0 n0 (z0.map (Value.int .i64))) (m0 : n0 ≤ c0 ∧ c0 ≤ maxLen ∧ c0 * 8 ≤ 140737488351232) (_ : (Lit.int .i64 kk).wf = true) :
    Calls Try.prog 12 #[.slice A0 n0 c0, .int .i64 kk] w fun e w' => e = .returned (.bool true) ∧ Below w.heap.size w w' := by
  have H0 := Lib.hid h0
  have Hm0 := Lib.hid (show n0 ≤ maxLen by omega)
  clear h0 m0
  obtain ⟨i0, a1, a2, a3, a4⟩ := info_parts infoPrt
  have HI := Lib.hid (And.intro a1 (And.intro a2 (And.intro a3 a4)))
  clear a1 a2 a3 a4
  go_enter Try.func12, Try.ntmps12
  go_wp2_with fail
  refine (mkslack_any A0 n0 c0 z0 w H0.out Hm0.out).mono ?_
  rintro e w1 ⟨T, AE, AA, ne, ce, ca, acts, rfl, hsm, ho, hb1⟩
  have HN := Lib.hid hsm.ok
  have ht0 := hsm.t0
  have ht1 := hsm.t1
  have hne := hsm.e1
  have hna := hsm.n
  have Hb1 := Lib.hid hb1
  have HA1 := Lib.hid (Rd.of_own ho)
  clear hsm ho hb1
  go_upto_region 2 with fail
  refine world_gen (fun w2 => LwN w w2 w1.heap.size T AE AA ne ce ca acts) (LwN.mk' Hb1.out HA1.out) ?_
  intro w2 hl2
  generalize w1.heap.size = X at *
  have HL := Lib.hid hl2
  clear hl2 Hb1 HA1
  have x0 := HL.out.x.cell 0
  have x1 := HL.out.x.cell 1
  have x2 := HL.out.x.cell 2
  simp at x0 x1 x2
  go_wp2_with fail
  refine (lfund_any3 T AE AA ne ce ca acts w2 HL.out.a HN.out).mono ?_
  rintro e w3 ⟨hb3, Ac, cc, l, rfl, hm, hc, hr, hcp, _, _⟩
  have hll := fund_len hm (by omega)
  have HCk := Lib.hid hc
  have HCp := Lib.hid hcp
  have HCs := Lib.hid hr
  have HL3 := Lib.hid (HL.out.grow hb3)
  clear hm hc hr hcp hb3 x0 x1 x2 HL
  have HL := HL3
  clear HL3
  have x0 := HL.out.x.cell 0
  have x1 := HL.out.x.cell 1
  have x2 := HL.out.x.cell 2
  simp at x0 x1 x2
  go_wp2_with fail
  refine (pack_any T AE AA Ac ne ce ca cc acts l w3 HL.out.a (by omega) (by omega) HCs.out (by omega)).mono ?_
  rintro e w4 ⟨Ap, cp, ps, rfl, hps, hpo, hpc, hb4⟩
  have HPs := Lib.hid hps
  have HPr := Lib.hid (pack_rd hps hll hpo hpc)
  have HPo := Lib.hid hpo
  have hpl : ps.length ≤ 512 := by
    have h1 := congrArg List.length hps
    rw [List.length_map] at h1
    have h2 := packO_len (T := T) (ne := ne) (acts := acts) (l := l)
    omega
  have HL4 := Lib.hid (HL.out.grow hb4)
  have HC4 := Lib.hid (HCs.out.grow hb4)
  have HEr := Lib.hid (packE_cyc HN.out HCk.out)
  clear hps hpo hpc hb4 x0 x1 x2 HL HCs
  have HL := HL4
  have HCs := HC4
  clear HL4 HC4
  by_cases h14 : packE T ne acts l = 14
  · rw [h14]
    clear h14
    generalize packB T ne acts l = bv at *
    go_wp2_with fail
    refine (awake_any w4).mono ?_
    rintro e w9 ⟨rfl, hb9⟩
    have HB9 := Lib.hid (HL.out.grow hb9).bel
    clear hb9
    go_wp2_with fail
    go_ret
    exact ⟨rfl, HB9.out⟩
  have h00 := HEr.out.resolve_right h14
  have HMx := Lib.hid (show ∀ (j : Nat) (hj : j < l.length) (q : Prt), prV q = (l[j].arcs, l[j].signs, 1) → gapV T ne acts l[j].arcs l[j].signs = 0 ∨ chkE T ne acts (ps ++ [q]) = 4 from fun j hj q hq => by
    by_cases hg : gapV T ne acts l[j].arcs l[j].signs = 0
    · exact .inl hg
    · exact .inr (pack_max h00 ps HPs.out j hj hg q hq))
  rw [h00]
  clear h00 h14 HEr HPs
  generalize packB T ne acts l = bv at *
  by_cases hl0 : l.length = 0
  · have hl1 : l = [] := List.eq_nil_of_length_eq_zero hl0
    subst hl1
    go_wp2_with fail
    refine (awake_any w4).mono ?_
    rintro e w9 ⟨rfl, hb9⟩
    have HB9 := Lib.hid (HL.out.grow hb9).bel
    clear hb9
    go_wp2_with fail
    go_ret
    exact ⟨rfl, HB9.out⟩
  have hl1 : ((l.length : Int) == 0) = false := by simpa using hl0
  have hl2 : (l.length == 0) = false := by simpa using hl0
  have hpk := pick_bd kk l.length (by omega) (by omega)
  obtain ⟨q, hq⟩ := Int.eq_ofNat_of_zero_le hpk.1
  have hql : q < l.length := by omega
  obtain ⟨bc, oc, rfl, hbc, d0, d1⟩ := rdCyc HCs.out.r rfl q hql
  have HCy := Lib.hid (HCs.out.c l[q] (List.getElem_mem hql))
  have HCc := Lib.hid (HCp.out l[q] (List.getElem_mem hql))
  have HMq := Lib.hid (HMx.out q hql)
  have Hq := Lib.hid hq
  clear hq hpk HMx HCp HCk
  generalize l[q] = cq at *
  obtain ⟨Ar, cr, As, cs, arcs, signs⟩ := cq
  simp only at d0 d1 HMq HCc
  go_upto_region 7 with (go_at_call 30; refine (pick_any _ _ _ (by omega) (by omega)).mono ?_; rintro e w3 ⟨rfl, rfl⟩; rw [Hq.out])
  refine world_gen (fun w5 => LwN w w5 X T AE AA ne ce ca acts ∧ Blk w5 w4.heap.size 45 #[.slice Ar arcs.length cr, .slice As signs.length cs] ∧ Below w4.heap.size w4 w5) ⟨HL.out.grow ((Below.refl _ _).alloc (Nat.le_refl _) _), Blk.new _ _ _, (Below.refl _ _).alloc (Nat.le_refl _) _⟩ ?_
  rintro w5 ⟨hl5, hy5, hb5⟩
  have HL5 := Lib.hid hl5
  have HY5 := Lib.hid hy5
  have HP5 := Lib.hid (HPr.out.grow hb5)
  have HO5 := Lib.hid (own_grow HPo.out hb5)
  have HCy5 := Lib.hid (HCy.out.grow hb5)
  generalize w4.heap.size = Y at *
  clear hl5 hy5 hb5 HL HPr HPo HCy HCs d0 d1 hbc
  have HL := HL5
  clear HL5
  have x0 := HL.out.x.cell 0
  have x1 := HL.out.x.cell 1
  have x2 := HL.out.x.cell 2
  simp at x0 x1 x2
  have y0 := HY5.out.cell 0
  have y1 := HY5.out.cell 1
  simp at y0 y1
  go_wp2_with fail
  refine (rgap_any T AE AA Ar As ne ce ca cr cs acts arcs signs w5 (HCy5.out.ncyc HL.out.a (by omega) (by omega)) HCc.out).mono ?_
  rintro e w6 ⟨rfl, hb6⟩
  have HL6 := Lib.hid (HL.out.grow hb6)
  have HY6 := Lib.hid (HY5.out.bel hb6)
  have HP6 := Lib.hid (HP5.out.grow hb6)
  have HO6 := Lib.hid (own_grow HO5.out hb6)
  have HCy6 := Lib.hid (HCy5.out.grow hb6)
  clear hb6 HL HY5 HP5 HO5 HCy5 x0 x1 x2 y0 y1
  have HL := HL6
  clear HL6
  go_upto_region 8 with fail
  have x0 := HL.out.x.cell 0
  have x1 := HL.out.x.cell 1
  have x2 := HL.out.x.cell 2
  simp at x0 x1 x2
  have y0 := HY6.out.cell 0
  have y1 := HY6.out.cell 1
  simp at y0 y1
  have hxl := HL.out.x.lt
  have hyl := HY6.out.lt
  go_region_held3 (fun w' => w'.cell? ⟨X, 0, none⟩ = some (.int .i64 T) ∧ w'.cell? ⟨X, 1, none⟩ = some (.slice AE ne ce) ∧ w'.cell? ⟨X, 2, none⟩ = some (.slice AA acts.length ca) ∧ w'.cell? ⟨Y, 0, none⟩ = some (.slice Ar arcs.length cr) ∧ w'.cell? ⟨Y, 1, none⟩ = some (.slice As signs.length cs))
    (exact ⟨cell_bel (w := w6) (by repeat (first | exact Below.refl _ _ | (with_reducible refine Below.drew ?_) | (with_reducible refine below_drewN ?_ _) | (with_reducible refine Below.alloc ?_ (by first | omega | (simp; done) | (simp; omega)) _) | (with_reducible refine Below.setCell ?_ (by first | omega | (simp; done) | (simp; omega)) _) | (refine Below.trans ?_ (Below.mono (by with_reducible assumption) (by first | omega | (simp; done) | (simp; omega)))))) x0, cell_bel (w := w6) (by repeat (first | exact Below.refl _ _ | (with_reducible refine Below.drew ?_) | (with_reducible refine below_drewN ?_ _) | (with_reducible refine Below.alloc ?_ (by first | omega | (simp; done) | (simp; omega)) _) | (with_reducible refine Below.setCell ?_ (by first | omega | (simp; done) | (simp; omega)) _) | (refine Below.trans ?_ (Below.mono (by with_reducible assumption) (by first | omega | (simp; done) | (simp; omega)))))) x1, cell_bel (w := w6) (by repeat (first | exact Below.refl _ _ | (with_reducible refine Below.drew ?_) | (with_reducible refine below_drewN ?_ _) | (with_reducible refine Below.alloc ?_ (by first | omega | (simp; done) | (simp; omega)) _) | (with_reducible refine Below.setCell ?_ (by first | omega | (simp; done) | (simp; omega)) _) | (refine Below.trans ?_ (Below.mono (by with_reducible assumption) (by first | omega | (simp; done) | (simp; omega)))))) x2, cell_bel (w := w6) (by repeat (first | exact Below.refl _ _ | (with_reducible refine Below.drew ?_) | (with_reducible refine below_drewN ?_ _) | (with_reducible refine Below.alloc ?_ (by first | omega | (simp; done) | (simp; omega)) _) | (with_reducible refine Below.setCell ?_ (by first | omega | (simp; done) | (simp; omega)) _) | (refine Below.trans ?_ (Below.mono (by with_reducible assumption) (by first | omega | (simp; done) | (simp; omega)))))) y0, cell_bel (w := w6) (by repeat (first | exact Below.refl _ _ | (with_reducible refine Below.drew ?_) | (with_reducible refine below_drewN ?_ _) | (with_reducible refine Below.alloc ?_ (by first | omega | (simp; done) | (simp; omega)) _) | (with_reducible refine Below.setCell ?_ (by first | omega | (simp; done) | (simp; omega)) _) | (refine Below.trans ?_ (Below.mono (by with_reducible assumption) (by first | omega | (simp; done) | (simp; omega)))))) y1⟩)
    (first | (go_at_call 15; refine (check_lenq T AE AA A9 ne ce ca c9 _ acts (ps ++ [⟨⟨Ar, cr, As, cs, arcs, signs⟩, 1⟩]) _ (HL.out.grow hb9).a (by omega) (by omega) HPq.out (by simp)).mono ?_; rintro e wa ⟨rfl, hba⟩) | (refine step_append_any (by rfl) _ _ _ (by rfl) w6.heap.size 47 i0 _ 3 56 Try.underlying32 HI.out.1 HI.out.2.1 HI.out.2.2.1 HI.out.2.2.2 rfl (by omega) (.slice none 0 0) 0 [] rfl (World.ownsRow_nil _ _ _ _) Ap ps.length cp _ (ps.flatMap Prt.cells) rfl (fun e => by have ho := HO6.out; rw [e] at ho; exact own_nil ho) (Rd.of_own (own_grow HO6.out (by repeat (first | exact Below.refl _ _ | (with_reducible refine Below.drew ?_) | (with_reducible refine below_drewN ?_ _) | (with_reducible refine Below.alloc ?_ (by first | omega | (simp; done) | (simp; omega)) _) | (with_reducible refine Below.setCell ?_ (by first | omega | (simp; done) | (simp; omega)) _) | (refine Below.trans ?_ (Below.mono (by with_reducible assumption) (by first | omega | (simp; done) | (simp; omega)))))))) (fun u hu => by obtain ⟨p, _, hp⟩ := List.mem_flatMap.1 hu; exact Prt.one p u hp) (by simp only [maxLen]; omega) (by omega) (by simp) ?_; intro v8 w8 ho8 hg8 hat8; rw [Nat.zero_add, List.nil_append] at ho8; obtain ⟨A8, c8, rfl, _, _⟩ := own_slice ho8; have Ho8 := Lib.hid ho8; have HC8 := Lib.hid (show Below _ _ w8 from (Below.refl _ _).grown hg8 (Nat.le_refl _) (fun k hk => by simp [Value.ownBlock] at hk)); have hb8 : Below w6.heap.size w6 w8 := Below.grown (by repeat (first | exact Below.refl _ _ | (with_reducible refine Below.drew ?_) | (with_reducible refine below_drewN ?_ _) | (with_reducible refine Below.alloc ?_ (by first | omega | (simp; done) | (simp; omega)) _) | (with_reducible refine Below.setCell ?_ (by first | omega | (simp; done) | (simp; omega)) _) | (refine Below.trans ?_ (Below.mono (by with_reducible assumption) (by first | omega | (simp; done) | (simp; omega)))))) hg8 (by simp) (fun k hk => by simp [Value.ownBlock] at hk); have z8 := hb8.size; clear ho8 hg8 hat8) | (refine step_append_any (by rfl) _ _ _ (by rfl) w6.heap.size 47 i0 _ 3 56 Try.underlying32 HI.out.1 HI.out.2.1 HI.out.2.2.1 HI.out.2.2.2 rfl (by omega) (.slice A8 ps.length c8) ps.length (ps.flatMap Prt.cells) rfl (World.ownsRow.alloc Ho8.out _) (some ⟨w8.heap.size, 0, none⟩) 1 1 _ [.slice Ar arcs.length cr, .slice As signs.length cs, .int .i64 1] rfl (fun e => by cases e) (rd_new w8 _ _ 3 rfl) (by simp [Value.oneCell']) (by simp only [maxLen]; omega) (by omega) (by simp; omega) ?_; intro v9 w9 ho9 hg9 hat9; obtain ⟨A9, c9, rfl, _, _⟩ := own_slice ho9; have hb9 : Below w6.heap.size w6 w9 := Below.grown (by repeat (first | exact Below.refl _ _ | (with_reducible refine Below.drew ?_) | (with_reducible refine below_drewN ?_ _) | (with_reducible refine Below.alloc ?_ (by first | omega | (simp; done) | (simp; omega)) _) | (with_reducible refine Below.setCell ?_ (by first | omega | (simp; done) | (simp; omega)) _) | (refine Below.trans ?_ (Below.mono (by with_reducible assumption) (by first | omega | (simp; done) | (simp; omega)))))) hg9 (by simp; omega) (fun k hk => (own_block Ho8.out k hk).1); have z9 := hb9.size; have HPq := Lib.hid (prs_one (q := ⟨⟨Ar, cr, As, cs, arcs, signs⟩, 1⟩) ho9 hb9 HP6.out HCy6.out hpl); clear ho9 hg9 hat9) | (refine step_append_any (by rfl) _ _ _ (by rfl) w6.heap.size 47 i0 _ 3 56 Try.underlying32 HI.out.1 HI.out.2.1 HI.out.2.2.1 HI.out.2.2.2 rfl (by omega) (.slice A8 ps.length c8) ps.length (ps.flatMap Prt.cells) rfl Ho8.out (some ⟨w6.heap.size, 0, none⟩) 1 1 _ [.slice Ar arcs.length cr, .slice As signs.length cs, .int .i64 1] rfl (fun e => by cases e) ((rd_new w6.drew _ _ 3 rfl).grow (HC8.out.mono (by simp))) (by simp [Value.oneCell']) (by simp only [maxLen]; omega) (by omega) z8 ?_; intro v9 w9 ho9 hg9 hat9; obtain ⟨A9, c9, rfl, _, _⟩ := own_slice ho9; have hb9 : Below w6.heap.size w6 w9 := Below.grown (by repeat (first | exact Below.refl _ _ | (with_reducible refine Below.drew ?_) | (with_reducible refine below_drewN ?_ _) | (with_reducible refine Below.alloc ?_ (by first | omega | (simp; done) | (simp; omega)) _) | (with_reducible refine Below.setCell ?_ (by first | omega | (simp; done) | (simp; omega)) _) | (refine Below.trans ?_ (Below.mono (by with_reducible assumption) (by first | omega | (simp; done) | (simp; omega)))))) hg9 z8 (fun k hk => (own_block Ho8.out k hk).1); have z9 := hb9.size; have HPq := Lib.hid (prs_one (q := ⟨⟨Ar, cr, As, cs, arcs, signs⟩, 1⟩) ho9 hb9 HP6.out HCy6.out hpl); clear ho9 hg9 hat9))
  all_goals
    have HBa := Lib.hid (show Below w6.heap.size w6 wa from hb9.trans (hba.mono hb9.size))
    have HLa := Lib.hid (HL.out.grow HBa.out)
    have HMf := Lib.hid (HMq.out ⟨⟨Ar, cr, As, cs, arcs, signs⟩, 1⟩ rfl)
    clear x0 x1 x2 y0 y1 hxl hyl hb9 hba HBa HL HPq HC8 hb8 z8 z9 Ho8
    generalize chkE T ne acts (ps ++ [⟨⟨Ar, cr, As, cs, arcs, signs⟩, 1⟩]) = er at *
    generalize chkV T ne acts (ps ++ [⟨⟨Ar, cr, As, cs, arcs, signs⟩, 1⟩]) = ev at *
    generalize gapV T ne acts arcs signs = gv at *
    go_wp2_with fail
    refine (awake_any wa).mono ?_
    rintro e wb ⟨rfl, hbb⟩
    have HBb := Lib.hid (HLa.out.grow hbb).bel
    clear hbb
    by_cases h4 : er = 4
    · subst h4
      go_wp2_with fail
      go_ret
      exact ⟨rfl, HBb.out⟩
    · have h4' : (er == 4) = false := by simpa using h4
      obtain rfl : gv = 0 := HMf.out.resolve_right h4
      go_wp2_with fail
      go_ret
      exact ⟨rfl, HBb.out⟩
end Go.Proofs.Ytbmbdenjlbelaaa
