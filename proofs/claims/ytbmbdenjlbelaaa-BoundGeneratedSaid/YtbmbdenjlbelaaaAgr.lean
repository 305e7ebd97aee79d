import Derived.Test.YtbmbdenjlbelaaaRfPk
import Derived.Test.YtbmbdenjlbelaaaSmc
namespace Go.Proofs.Ytbmbdenjlbelaaa
open Go.RowKit
theorem prv_at {l l' : List Prt} (h : l'.map prV = l.map prV) (i : Nat) (h1 : i < l.length) (h2 : i < l'.length) : l'[i].c.arcs = l[i].c.arcs ∧ l'[i].c.signs = l[i].c.signs ∧ l'[i].tm = l[i].tm := by
  have h3 := congrArg (fun l => l[i]?) h
  simp [h1, h2, prV] at h3
  exact h3
theorem packO_le {T : Int} {ne : Nat} {acts : List Act} {l : List Cyc} : (packO T ne acts l).length ≤ 536870912 := by
  unfold packO
  split
  · rename_i h
    have hn : netB T ne acts = true := by
      unfold packE at h
      split at h
      · assumption
      · cases h
    have he : pkErr T ne acts l = 0 := by unfold packE at h; rwa [if_pos hn] at h
    refine pk_len (netB_iff.1 hn) l.length (Nat.le_refl _) fun i hi _ => ?_
    by_cases h0 : gapE T ne acts l[i].arcs l[i].signs = 0
    · exact h0
    · exfalso
      have hz : ∀ (l : List Cyc), pkErr T ne acts l = 0 → ∀ c ∈ l, gapE T ne acts c.arcs c.signs = 0 := fun l => by
        induction l with
        | nil => intro _ c hc; simp at hc
        | cons a r ih =>
          intro h c hc
          unfold pkErr at h
          split at h
          · rename_i h1
            rcases List.mem_cons.1 hc with rfl | hc
            · exact h1
            · exact ih h c hc
          · rename_i h1; exact absurd h h1
      exact h0 (hz l he _ (List.getElem_mem hi))
  · simp
theorem pack_rd2 {T : Int} {ne : Nat} {acts : List Act} {l : List Cyc} {w : World} {A : Option Addr} {c base : Nat} {ps : List Prt} (hp : ps.map prV = packO T ne acts l) (ho : w.ownsRow base 47 3 (.slice A ps.length c) ps.length (ps.flatMap Prt.cells)) (hc : ∀ p ∈ ps, CyOwn w base p.c) : PrsRd w A ps := by
  have h1 : ps.length ≤ 536870912 := by
    have := congrArg List.length hp
    rw [List.length_map] at this
    have := packO_le (T := T) (ne := ne) (acts := acts) (l := l)
    omega
  exact ⟨Rd.of_own ho, fun p hp => (hc p hp).rd, by omega⟩
set_option maxRecDepth 100000 in
set_option maxHeartbeats 6400000 in
theorem agrees_any (T : Int) (AE AA Ac Ap : Option Addr) (ne ce ca cc cp : Nat) (acts : List Act) (l : List Cyc) (ps : List Prt) (w : World) (hA : Rd w w.heap.size 6 AA acts.length (acts.flatMap Act.cells)) (he : ne ≤ 4611686018427387904) (hl : acts.length ≤ 4611686018427387904) (hC : CysRd w Ac l) (hcap : ∀ c ∈ l, c.arcs.length ≤ c.cr) (hP : PrsRd w Ap ps) (hcp : ∀ p ∈ ps, p.c.arcs.length ≤ p.c.cr) :
    Calls Try.prog 29 #[.agg #[.int .i64 T, .slice AE ne ce, .slice AA acts.length ca], .slice Ac l.length cc, .slice Ap ps.length cp] w fun e w' => e = .returned (.bool true) ∧ Below w.heap.size w w' := by
  have HA := Lib.hid hA
  have HCs := Lib.hid hC
  have HP := Lib.hid hP
  have HCap := Lib.hid hcap
  have HCp := Lib.hid hcp
  have hln := hC.n
  clear hA hC hP hcap hcp
  go_enter Try.func29, Try.ntmps29
  go_upto_region 1 with fail
  refine world_gen (fun w1 => FeN w w1 w.heap.size #[.int .i64 T, .slice AE ne ce, .slice AA acts.length ca]) ⟨(Below.refl _ _).alloc (Nat.le_refl _) _, Blk.new _ _ _⟩ ?_
  intro w0 hf0
  obtain ⟨X, hX⟩ : ∃ X, X = w.heap.size := ⟨_, rfl⟩
  rw [← hX] at ⊢
  rw [show FeN w w0 w.heap.size = FeN w w0 X by rw [hX]] at hf0
  clear hX
  have HF := Lib.hid hf0
  clear hf0
  have x0 := HF.out.x.cell 0
  have x1 := HF.out.x.cell 1
  have x2 := HF.out.x.cell 2
  simp at x0 x1 x2
  go_wp2_with fail
  refine (base_any T AE AA ne ce ca acts w0 ((HA.out.grow HF.out.bel).more HF.out.bel.size) he hl).mono ?_
  rintro e w1 ⟨rfl, hb1⟩
  have HF1 := Lib.hid (HF.out.grow hb1)
  clear x0 x1 x2 hb1 HF
  have HF := HF1
  clear HF1
  have x0 := HF.out.x.cell 0
  have x1 := HF.out.x.cell 1
  have x2 := HF.out.x.cell 2
  simp at x0 x1 x2
  go_wp2_with fail
  refine (rbase_any T AE AA ne ce ca acts w1 ((HA.out.grow HF.out.bel).more HF.out.bel.size) he hl).mono ?_
  rintro e w2 ⟨rfl, hb2⟩
  have HF1 := Lib.hid (HF.out.grow hb2)
  clear x0 x1 x2 hb2 HF
  have HF := HF1
  clear HF1
  have x0 := HF.out.x.cell 0
  have x1 := HF.out.x.cell 1
  have x2 := HF.out.x.cell 2
  simp at x0 x1 x2
  go_wp2_with fail
  refine (pack_any T AE AA Ac ne ce ca cc acts l w2 ((HA.out.grow HF.out.bel).more HF.out.bel.size) he hl (HCs.out.grow HF.out.bel) hln).mono ?_
  rintro e w3 ⟨A3, c3, p3, rfl, hm3, ho3, hc3, hb3⟩
  have HR3 := Lib.hid (pack_rd2 hm3 ho3 hc3)
  have HM3 := Lib.hid hm3
  clear hm3 ho3 hc3
  have HF1 := Lib.hid (HF.out.grow hb3)
  clear x0 x1 x2 hb3 HF
  have HF := HF1
  clear HF1
  have x0 := HF.out.x.cell 0
  have x1 := HF.out.x.cell 1
  have x2 := HF.out.x.cell 2
  simp at x0 x1 x2
  go_wp2_with fail
  refine (rpack_any T AE AA Ac ne ce ca cc acts l w3 ((HA.out.grow HF.out.bel).more HF.out.bel.size) he hl (HCs.out.grow HF.out.bel) hln HCap.out).mono ?_
  rintro e w4 ⟨A4, c4, p4, rfl, hm4, ho4, hc4, hb4⟩
  have HR3 := Lib.hid (HR3.out.grow hb4)
  have HR4 := Lib.hid (pack_rd2 hm4 ho4 hc4)
  have HM4 := Lib.hid hm4
  clear hm4 ho4 hc4
  have HF1 := Lib.hid (HF.out.grow hb4)
  clear x0 x1 x2 hb4 HF
  have HF := HF1
  clear HF1
  have x0 := HF.out.x.cell 0
  have x1 := HF.out.x.cell 1
  have x2 := HF.out.x.cell 2
  simp at x0 x1 x2
  go_wp2_with fail
  refine (check_any T AE AA Ap ne ce ca cp acts ps w4 ((HA.out.grow HF.out.bel).more HF.out.bel.size) he hl (HP.out.grow HF.out.bel)).mono ?_
  rintro e w5 ⟨rfl, hb5⟩
  have HR3 := Lib.hid (HR3.out.grow hb5)
  have HR4 := Lib.hid (HR4.out.grow hb5)
  have HF1 := Lib.hid (HF.out.grow hb5)
  clear x0 x1 x2 hb5 HF
  have HF := HF1
  clear HF1
  have x0 := HF.out.x.cell 0
  have x1 := HF.out.x.cell 1
  have x2 := HF.out.x.cell 2
  simp at x0 x1 x2
  go_wp2_with fail
  refine (rcheck_any T AE AA Ap ne ce ca cp acts ps w5 ((HA.out.grow HF.out.bel).more HF.out.bel.size) he hl (HP.out.grow HF.out.bel) HCp.out).mono ?_
  rintro e w6 ⟨rfl, hb6⟩
  have HR3 := Lib.hid (HR3.out.grow hb6)
  have HR4 := Lib.hid (HR4.out.grow hb6)
  have HF1 := Lib.hid (HF.out.grow hb6)
  clear x0 x1 x2 hb6 HF
  have HF := HF1
  clear HF1
  have x0 := HF.out.x.cell 0
  have x1 := HF.out.x.cell 1
  have x2 := HF.out.x.cell 2
  simp at x0 x1 x2
  have HLn := Lib.hid (show p4.length = p3.length by
    have h1 := congrArg List.length (HM4.out.trans HM3.out.symm)
    simpa using h1)
  have HE := Lib.hid (fun i h1 h2 => prv_at (l := p3) (l' := p4) (HM4.out.trans HM3.out.symm) i h1 h2)
  generalize baseV T ne acts = bv at *
  generalize baseE T ne acts = be at *
  generalize packB T ne acts l = pb at *
  generalize packE T ne acts l = pe at *
  generalize chkV T ne acts ps = cv at *
  generalize chkE T ne acts ps = ce' at *
  clear x0 x1 x2
  have e1 : (bv == bv) = true := by simp
  have e2 : (be == be) = true := by simp
  have e3 : (pb == pb) = true := by simp
  have e4 : (pe == pe) = true := by simp
  have e5 : (cv == cv) = true := by simp
  have e6 : (ce' == ce') = true := by simp
  go_wp2_with fail
  refine (sameparts_yes A3 A4 p4.length c3 c4 p3 p4 _ HR3.out HR4.out rfl HE.out HLn.out).mono ?_
  rintro e w7 ⟨rfl, hb7⟩
  have HB7 := Lib.hid (HF.out.bel.trans (hb7.mono HF.out.bel.size))
  clear hb7
  go_wp2_with fail
  go_ret
  exact ⟨rfl, HB7.out⟩
end Go.Proofs.Ytbmbdenjlbelaaa
