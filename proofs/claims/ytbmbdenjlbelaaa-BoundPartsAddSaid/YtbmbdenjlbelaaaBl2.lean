import Derived.Test.YtbmbdenjlbelaaaBl1
import Derived.Test.YtbmbdenjlbelaaaBdMath4
namespace Go.Proofs.Ytbmbdenjlbelaaa
open Go.RowKit

theorem check_len (T : Int) (AE AA Ap : Option Addr) (ne ce ca cp n : Nat) (acts : List Act) (ps : List Prt) (w : World) (hA : Rd w w.heap.size 6 AA acts.length (acts.flatMap Act.cells)) (he : ne ≤ 4611686018427387904) (hl : acts.length ≤ 4611686018427387904) (hP : PrsRd w Ap ps) (hn : ps.length = n) :
    Calls Try.prog 15 #[.agg #[.int .i64 T, .slice AE ne ce, .slice AA acts.length ca], .slice Ap n cp] w (ChkOut T ne acts ps w) := by
  subst hn
  exact check_any T AE AA Ap ne ce ca cp acts ps w hA he hl hP

theorem prs_join {w w' : World} {base c : Nat} {A Ap Aq : Option Addr} {ps qs : List Prt} (ho : w'.ownsRow base 47 3 (.slice A (ps.length + qs.length) c) (ps.length + qs.length) (ps.flatMap Prt.cells ++ qs.flatMap Prt.cells)) (hb : Below w.heap.size w w') (hp : PrsRd w Ap ps) (hq : PrsRd w Aq qs) (hn : ps.length + qs.length ≤ 6) : PrsRd w' A (ps ++ qs) := by
  refine ⟨?_, fun p h => ?_, by simp; omega⟩
  · have := Rd.of_own ho
    rw [← List.flatMap_append] at this
    simpa using this
  · rcases List.mem_append.1 h with h | h
    · exact (hp.c p h).grow hb
    · exact (hq.c p h).grow hb
set_option maxRecDepth 100000 in
set_option maxHeartbeats 3200000 in
theorem partsAdd_true (A0 : Option Addr) (n0 c0 : Nat) (z0 : List Int) (A1 : Option Addr) (n1 c1 : Nat) (z1 : List Int) (A2 : Option Addr) (n2 c2 : Nat) (z2 : List Int) (w : World) (h0 : Rd w w.heap.size 1 A0 n0 (z0.map (Value.int .i64))) (m0 : n0 ≤ c0 ∧ c0 ≤ maxLen ∧ c0 * 8 ≤ 140737488351232) (h1 : Rd w w.heap.size 1 A1 n1 (z1.map (Value.int .i64))) (m1 : n1 ≤ c1 ∧ c1 ≤ maxLen ∧ c1 * 8 ≤ 140737488351232) (h2 : Rd w w.heap.size 1 A2 n2 (z2.map (Value.int .i64))) (m2 : n2 ≤ c2 ∧ c2 ≤ maxLen ∧ c2 * 8 ≤ 140737488351232) :
    Calls Try.prog 4 #[.slice A0 n0 c0, .slice A1 n1 c1, .slice A2 n2 c2] w fun e w' => e = .returned (.bool true) ∧ Below w.heap.size w w' := by
  have H0 := Lib.hid h0
  have H1 := Lib.hid h1
  have H2 := Lib.hid h2
  have Hm0 := Lib.hid (show n0 ≤ maxLen by omega)
  have Hm1 := Lib.hid (show n1 ≤ maxLen by omega)
  have Hm2 := Lib.hid (show n2 ≤ maxLen by omega)
  clear h0 h1 h2 m0 m1 m2
  obtain ⟨i0, a1, a2, a3, a4⟩ := info_parts infoPrt
  have HI := Lib.hid (And.intro a1 (And.intro a2 (And.intro a3 a4)))
  clear a1 a2 a3 a4
  go_enter Try.func4, Try.ntmps4
  go_wp2_with fail
  refine (mkslack_any A0 n0 c0 z0 w H0.out Hm0.out).mono ?_
  rintro e w1 ⟨T, AE, AA, ne, ce, ca, acts, rfl, hsm, ho, hb1⟩
  have HN := Lib.hid hsm.ok
  have ht0 := hsm.t0
  have ht1 := hsm.t1
  have hne := hsm.e1
  have hna := hsm.n
  have Hb1 := Lib.hid hb1
  have HA1 := Lib.hid (Rd.of_own ho)
  clear hsm ho hb1
  go_upto_region 2 with fail
  refine world_gen (fun w2 => LwN w w2 w1.heap.size T AE AA ne ce ca acts) (LwN.mk' Hb1.out HA1.out) ?_
  intro w2 hl2
  generalize w1.heap.size = X at *
  have HL := Lib.hid hl2
  clear hl2 Hb1 HA1
  have x0 := HL.out.x.cell 0
  have x1 := HL.out.x.cell 1
  have x2 := HL.out.x.cell 2
  simp at x0 x1 x2
  have hxl := HL.out.x.lt
  go_region_held3 (fun w' => w'.cell? ⟨X, 0, none⟩ = some (.int .i64 T) ∧ w'.cell? ⟨X, 1, none⟩ = some (.slice AE ne ce) ∧ w'.cell? ⟨X, 2, none⟩ = some (.slice AA acts.length ca))
    (first | go_keep | (go_split_ands; exact ⟨cell_bel hb6 (by assumption), cell_bel hb6 (by assumption), cell_bel hb6 (by assumption)⟩) | (go_split_ands; exact ⟨cell_bel hb5 (by assumption), cell_bel hb5 (by assumption), cell_bel hb5 (by assumption)⟩))
    (first | (go_at_call 16; refine (some_any T AE AA A2 ne ce ca n2 c2 acts z2 _ HL5.out.a HN.out ((H2.out.grow HL5.out.bel).more HL5.out.bel.size) Hm2.out).mono ?_; rintro e w6 ⟨Aq, cq, qs, rfl, hqr, _, hq3, _, hqn, hb6⟩; have HQr := Lib.hid hqr; have HQn := Lib.hid hqn; have HL6 := Lib.hid (HL5.out.grow hb6); have HPr6 := Lib.hid (HPr.out.grow hb6); clear hqr hqn) | (go_at_call 16; refine (some_any T AE AA A1 ne ce ca n1 c1 acts z1 _ HL.out.drew.a HN.out ((H1.out.grow HL.out.drew.bel).more HL.out.drew.bel.size) Hm1.out).mono ?_; rintro e w5 ⟨Ap, cp, ps, rfl, hpr, _, hp3, _, hpn, hb5⟩; have HPr := Lib.hid hpr; have HPn := Lib.hid hpn; have HL5 := Lib.hid (HL.out.drew.grow hb5); clear hpr hpn))
  clear x0 x1 x2 hxl HL HL5 HPr hb5 hb6
  have HL := HL6
  clear HL6
  go_upto_region 3 with fail
  have x0 := HL.out.x.cell 0
  have x1 := HL.out.x.cell 1
  have x2 := HL.out.x.cell 2
  simp at x0 x1 x2
  have hxl := HL.out.x.lt
  go_region_held3 (fun w' => w'.cell? ⟨X, 0, none⟩ = some (.int .i64 T) ∧ w'.cell? ⟨X, 1, none⟩ = some (.slice AE ne ce) ∧ w'.cell? ⟨X, 2, none⟩ = some (.slice AA acts.length ca))
    (first | go_keep | exact ⟨cell_bel HBa.out x0, cell_bel HBa.out x1, cell_bel HBa.out x2⟩ | exact ⟨cell_bel HB9.out x0, cell_bel HB9.out x1, cell_bel HB9.out x2⟩ | exact ⟨cell_bel HB8.out x0, cell_bel HB8.out x1, cell_bel HB8.out x2⟩)
    (first | (go_at_call 15; refine (check_len T AE AA A9 ne ce ca c9 _ acts (ps ++ qs) _ (HL.out.grow HB9.out).a (by omega) (by omega) HPq.out (by simp)).mono ?_; rintro e wa ⟨rfl, hba⟩; have HBa := Lib.hid (HB9.out.trans (hba.mono HB9.out.size))) | (refine step_append_any (by rfl) _ _ _ (by rfl) w6.heap.size 47 i0 _ 3 56 Try.underlying32 HI.out.1 HI.out.2.1 HI.out.2.2.1 HI.out.2.2.2 rfl (by omega) (.slice A8 ps.length c8) ps.length (ps.flatMap Prt.cells) rfl Ho8.out Aq qs.length cq _ (qs.flatMap Prt.cells) rfl HQn.out (HQr.out.grow HB8.out).r (fun u hu => by obtain ⟨p, _, hp⟩ := List.mem_flatMap.1 hu; exact Prt.one p u hp) (by simp only [maxLen]; omega) (by omega) HB8.out.size ?_; intro v9 w9 ho9 hg9 hat9; obtain ⟨A9, c9, rfl, _, _⟩ := own_slice ho9; have HB9 := Lib.hid (HB8.out.grown hg9 HB8.out.size (fun k hk => (own_block Ho8.out k hk).1)); have HPq := Lib.hid (prs_join ho9 HB9.out HPr6.out HQr.out (by omega))) | (refine step_append_any (by rfl) _ _ _ (by rfl) w6.heap.size 47 i0 _ 3 56 Try.underlying32 HI.out.1 HI.out.2.1 HI.out.2.2.1 HI.out.2.2.2 rfl (by omega) (.slice none 0 0) 0 [] rfl (World.ownsRow_nil _ _ _ _) Ap ps.length cp _ (ps.flatMap Prt.cells) rfl HPn.out (HPr6.out.grow (Below.refl _ _).drew).r (fun u hu => by obtain ⟨p, _, hp⟩ := List.mem_flatMap.1 hu; exact Prt.one p u hp) (by simp only [maxLen]; omega) (by omega) (by simp) ?_; intro v8 w8 ho8 hg8 hat8; rw [Nat.zero_add, List.nil_append] at ho8; obtain ⟨A8, c8, rfl, _, _⟩ := own_slice ho8; have Ho8 := Lib.hid ho8; have HB8 := Lib.hid (show Below w6.heap.size w6 w8 from (Below.refl _ _).drew.grown hg8 (Nat.le_refl _) (fun k hk => by simp [Value.ownBlock] at hk))))
  have HLa := Lib.hid (HL.out.grow HBa.out)
  have HPa := Lib.hid (HPr6.out.grow HBa.out)
  have HQa := Lib.hid (HQr.out.grow HBa.out)
  clear x0 x1 x2 hxl HL HPr6 HQr HBa HB9 HB8 HPq ho8 hg8 hat8 ho9 hg9 hat9 hba Ho8
  have HL := HLa
  clear HLa
  by_cases h0 : chkE T ne acts (ps ++ qs) = 0
  case neg =>
    rw [chkV_err h0]
    generalize chkE T ne acts (ps ++ qs) = er at *
    have h0' : (er != 0) = true := by simpa using h0
    go_wp2_with fail
    refine (awake_any wa).mono ?_
    rintro e wb ⟨rfl, hbb⟩
    have HBb := Lib.hid (HL.out.grow hbb).bel
    clear hbb
    go_wp2_with fail
    go_ret
    exact ⟨rfl, HBb.out⟩
  have HAd := Lib.hid (add_law h0)
  have b1 := chk_bd (ps := ps) HN.out
  have b2 := chk_bd (ps := qs) HN.out
  have b3 := wmN_bd HN.out acts.length (Nat.le_refl _)
  rw [show sumN (wmT acts) acts.length = baseS acts from rfl] at b3
  rw [h0, HAd.out.2.2]
  clear h0
  have x0 := HL.out.x.cell 0
  have x1 := HL.out.x.cell 1
  have x2 := HL.out.x.cell 2
  simp at x0 x1 x2
  go_wp2_with fail
  refine (check_any T AE AA Ap ne ce ca cp acts ps wa HL.out.a (by omega) (by omega) HPa.out).mono ?_
  rintro e wb ⟨rfl, hbb⟩
  rw [HAd.out.1]
  have HLb := Lib.hid (HL.out.grow hbb)
  have HQb := Lib.hid (HQa.out.grow hbb)
  clear HL hbb HPa HQa x0 x1 x2
  have HL := HLb
  clear HLb
  have x0 := HL.out.x.cell 0
  have x1 := HL.out.x.cell 1
  have x2 := HL.out.x.cell 2
  simp at x0 x1 x2
  go_wp2_with fail
  refine (check_any T AE AA Aq ne ce ca cq acts qs wb HL.out.a (by omega) (by omega) HQb.out).mono ?_
  rintro e wc ⟨rfl, hbc⟩
  rw [HAd.out.2.1]
  have HLc := Lib.hid (HL.out.grow hbc)
  clear HL hbc HQb x0 x1 x2
  have HL := HLc
  clear HLc
  have x0 := HL.out.x.cell 0
  have x1 := HL.out.x.cell 1
  have x2 := HL.out.x.cell 2
  simp at x0 x1 x2
  go_wp2_with fail
  refine (rbase_any T AE AA ne ce ca acts wc HL.out.a (by omega) (by omega)).mono ?_
  rintro e wd ⟨rfl, hbd⟩
  rw [show baseV T ne acts = baseS acts by unfold baseV; rw [if_pos (netB_yes HN.out)]]
  have HLd := Lib.hid (HL.out.grow hbd)
  clear HL hbd x0 x1 x2 HAd
  generalize chkV T ne acts ps = v1 at *
  generalize chkV T ne acts qs = v2 at *
  generalize baseS acts = bs at *
  obtain ⟨b10, b11⟩ := b1
  obtain ⟨b20, b21⟩ := b2
  obtain ⟨b30, b31⟩ := b3
  go_wp2_with fail
  refine (awake_any wd).mono ?_
  rintro e we ⟨rfl, hbe⟩
  have HBe := Lib.hid (HLd.out.grow hbe).bel
  clear hbe
  go_wp2_with fail
  go_ret
  exact ⟨rfl, HBe.out⟩
end Go.Proofs.Ytbmbdenjlbelaaa
