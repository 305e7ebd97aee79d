import Derived.Test.YtbmbdenjlbelaaaPk
import Derived.Test.YtbmbdenjlbelaaaSmc
import Derived.Test.YtbmbdenjlbelaaaAw15
namespace Go.Proofs.Ytbmbdenjlbelaaa
open Go.RowKit
theorem exB_cyc : CycOk 10 2 exB [0, 1] [1, 1] := by
  refine ⟨exB_net, rfl, by decide, fun k hk => ?_, fun k hk => ?_, fun i j hij hj => ?_⟩
  · have : k = 0 ∨ k = 1 := by simp at hk; omega
    rcases this with rfl | rfl
    · exact ⟨by decide, by decide, by decide, fun i hi => absurd hi (by omega)⟩
    · exact ⟨by decide, by decide, by decide, fun i hi => by obtain rfl : i = 0 := by omega
                                                             decide⟩
  · have : k = 0 ∨ k = 1 := by simp at hk; omega
    rcases this with rfl | rfl <;> decide
  · have : i = 0 ∧ j = 1 := by simp at hj; omega
    obtain ⟨rfl, rfl⟩ := this
    decide
theorem exB_okW : okW 10 2 exB [0, 1] [1, 1] = true := by unfold okW; rw [cycB_yes exB_cyc]; decide
theorem exB_gap : gapV 10 2 exB [0, 1] [1, 1] = 4 := by unfold gapV; rw [exB_okW]; decide
theorem exB_gapE : gapE 10 2 exB [0, 1] [1, 1] = 0 := by unfold gapE; rw [cycB_yes exB_cyc, exB_okW]; rfl
theorem exB_pack (A B : Option Addr) (a b : Nat) : packE 10 2 exB [⟨A, a, B, b, [0, 1], [1, 1]⟩] = 0 ∧ packO 10 2 exB [⟨A, a, B, b, [0, 1], [1, 1]⟩] = [([0, 1], [1, 1], 2)] ∧ packB 10 2 exB [⟨A, a, B, b, [0, 1], [1, 1]⟩] = 29 := by
  have he : packE 10 2 exB [⟨A, a, B, b, [0, 1], [1, 1]⟩] = 0 := by
    unfold packE
    rw [if_pos (netB_yes exB_net)]
    unfold pkErr
    simp only
    rw [exB_gapE, if_pos rfl]
    rfl
  have hs : pkAll 10 2 exB [⟨A, a, B, b, [0, 1], [1, 1]⟩] 1 = ⟨[0, 3], [([0, 1], [1, 1], 2)], 29⟩ := by
    show pkStep 10 2 exB [0, 1] [1, 1] (pkInit exB) = _
    unfold pkStep
    rw [exB_gap]
    have hm : minA (pkInit exB).left [0, 1] ([0, 1] : List Int).length = 2 := by decide
    rw [hm, if_neg (by decide)]
    rfl
  refine ⟨he, ?_, ?_⟩
  · unfold packO
    rw [if_pos he]
    show (pkAll 10 2 exB [⟨A, a, B, b, [0, 1], [1, 1]⟩] 1).out = _
    rw [hs]
  · unfold packB
    rw [if_pos he]
    show (pkAll 10 2 exB [⟨A, a, B, b, [0, 1], [1, 1]⟩] 1).bnd = _
    rw [hs]
theorem exB_chk {ps : List Prt} (h : ps.map prV = [([0, 1], [1, 1], 2)]) : chkE 10 2 exB ps = 0 ∧ chkV 10 2 exB ps = 29 := by
  have hl : ps.length = 1 := by have := congrArg List.length h; simpa using this
  match ps, hl with
  | [⟨⟨A, a, B, b, arcs, signs⟩, tm⟩], _ =>
    simp [prV] at h
    obtain ⟨rfl, rfl, rfl⟩ := h
    have h0 : prsE 10 2 exB [⟨⟨A, a, B, b, [0, 1], [1, 1]⟩, 2⟩] = 0 := by
      unfold prsE
      have : prE 10 2 exB ⟨⟨A, a, B, b, [0, 1], [1, 1]⟩, 2⟩ = 0 := by
        unfold prE
        simp only
        rw [if_pos (by omega), exB_gapE]
      rw [if_pos this]
      rfl
    have ho : overB exB (usL exB [⟨⟨A, a, B, b, [0, 1], [1, 1]⟩, 2⟩] 1) = false := by
      show overB exB (addL 2 (List.replicate 2 0) [0, 1]) = false
      decide
    have he : chkE 10 2 exB [⟨⟨A, a, B, b, [0, 1], [1, 1]⟩, 2⟩] = 0 := by
      unfold chkE
      rw [if_pos (netB_yes exB_net), if_pos h0]
      show (if overB exB (usL exB _ 1) = true then (4 : Int) else 0) = 0
      rw [ho]; rfl
    refine ⟨he, ?_⟩
    unfold chkV
    rw [if_pos he]
    show baseS exB + (0 + 2 * gapV 10 2 exB [0, 1] [1, 1]) = 29
    rw [exB_gap]
    decide
def RoundOut (w : World) (e : Ending) (w' : World) : Prop :=
  ∃ Ar As : Option Addr, e = .returned (.agg #[.slice Ar 2 2, .slice As 2 2]) ∧ CyRd w' ⟨Ar, 2, As, 2, [0, 1], [1, 1]⟩ ∧ Below w.heap.size w w'
set_option maxRecDepth 100000 in
set_option maxHeartbeats 1600000 in
theorem round_any (w : World) : Calls Try.prog 26 #[] w (RoundOut w) := by
  go_enter Try.func26, Try.ntmps26
  go_wp2
  refine bodyPost_ret (v := .agg #[.slice (some ⟨w.heap.size + 1, 0, none⟩) 2 2, .slice (some ⟨w.heap.size + 1 + 1, 0, none⟩) 2 2]) (by simp [results, Try.results26, go_sem]) rfl ⟨_, _, rfl, ⟨?_, ?_, by simp, by simp⟩, (by repeat (first | exact Below.refl _ _ | (with_reducible refine Below.drew ?_) | (with_reducible refine below_drewN ?_ _) | (with_reducible refine Below.alloc ?_ (by first | omega | (simp; done) | (simp; omega)) _) | (with_reducible refine Below.setCell ?_ (by first | omega | (simp; done) | (simp; omega)) _) | (refine Below.trans ?_ (Below.mono (by with_reducible assumption) (by first | omega | (simp; done) | (simp; omega))))))⟩
  · exact Rd.of_blk (t := 3) (blkT1 _ _ _ _ _) rfl
  · exact Rd.of_blk (t := 3) (blkT2 _ _ _ _ _) rfl
theorem prv_one {p3 : List Prt} {c : Cyc} (h : p3.map prV = [([0, 1], [1, 1], 2)]) (h1 : c.arcs = [0, 1]) (h2 : c.signs = [1, 1]) : ∀ (i : Nat) (g1 : i < p3.length) (g2 : i < [(⟨c, 2⟩ : Prt)].length), [(⟨c, 2⟩ : Prt)][i].c.arcs = p3[i].c.arcs ∧ [(⟨c, 2⟩ : Prt)][i].c.signs = p3[i].c.signs ∧ [(⟨c, 2⟩ : Prt)][i].tm = p3[i].tm := fun i g1 g2 => by
  have hi : i = 0 := by simp at g2; omega
  subst hi
  have h3 := congrArg (fun l => l[0]?) h
  simp [g1, prV] at h3
  simp [h1, h2, h3]
set_option maxRecDepth 100000 in
set_option maxHeartbeats 6400000 in
theorem boundexamples_true (w : World) : Calls Try.prog 8 #[] w fun e w' => e = .returned (.bool true) ∧ Below w.heap.size w w' := by
  have hE : exB.length = 2 := rfl
  go_enter Try.func8, Try.ntmps8
  go_wp2_with fail
  refine (small_any w).mono ?_
  rintro e w1 ⟨AE1, AA1, rfl, hA1, hb1⟩
  have HA := Lib.hid hA1
  have HB1 := Lib.hid hb1
  clear hA1 hb1
  go_wp2_with fail
  refine (round_any w1).mono ?_
  rintro e w2 ⟨Ar2, As2, rfl, hc2, hb2⟩
  have HC2 := Lib.hid hc2
  have HA2 := Lib.hid ((HA.out.grow hb2).more hb2.size)
  have HB2 := Lib.hid (HB1.out.trans (hb2.mono HB1.out.size))
  clear hc2 hb2 HB1 HA
  go_wp2_with fail
  have hal : Below w2.heap.size w2 (w2.alloc (.cells #[.slice Ar2 2 2, .slice As2 2 2] 45)) := (Below.refl _ _).alloc (Nat.le_refl _) _
  have hcs : CysRd (w2.alloc (.cells #[.slice Ar2 2 2, .slice As2 2 2] 45)) (some ⟨w2.heap.size, 0, none⟩) [⟨Ar2, 2, As2, 2, [0, 1], [1, 1]⟩] := ⟨Rd.of_blk (Blk.new w2 45 #[.slice Ar2 2 2, .slice As2 2 2]) rfl, fun c hc => by simp at hc; subst hc; exact HC2.out.grow hal, by simp⟩
  obtain ⟨p1, p2, p3⟩ := exB_pack Ar2 As2 2 2
  have HPk := Lib.hid p2
  have hpc := pack_any 10 AE1 AA1 (some ⟨w2.heap.size, 0, none⟩) 2 2 2 1 exB [⟨Ar2, 2, As2, 2, [0, 1], [1, 1]⟩] _ ((HA2.out.grow hal).more hal.size) (by omega) (by omega) hcs (by simp)
  refine hpc.mono ?_
  rintro e w3 ⟨A3, c3, ps3, rfl, hm3, ho3, hcc3, hb3⟩
  rw [p1, p3]
  have hm3' := hm3.trans p2
  have hl3 : ps3.length = 1 := by have := congrArg List.length hm3'; simpa using this
  have HP3 := Lib.hid (show PrsRd w3 A3 ps3 from ⟨Rd.of_own ho3, fun p hp => (hcc3 p hp).rd, by omega⟩)
  have HM3 := Lib.hid hm3'
  have HB3 := Lib.hid (HB2.out.trans ((hal.trans (hb3.mono hal.size)).mono HB2.out.size))
  have HL3 := Lib.hid hl3
  clear hcs hpc hm3 ho3 hcc3 hb3 hm3' hal p1 p2 p3 HB2 hl3
  go_wp2_with fail
  refine (small_any w3).mono ?_
  rintro e w4 ⟨AE4, AA4, rfl, hA4, hb4⟩
  have HP4 := Lib.hid (HP3.out.grow hb4)
  have HB4 := Lib.hid (HB3.out.trans (hb4.mono HB3.out.size))
  have HA4 := Lib.hid hA4
  clear hA4 hb4 HP3 HB3
  go_wp2_with fail
  refine (check_any 10 AE4 AA4 A3 2 2 2 c3 exB ps3 w4 HA4.out (by omega) (by omega) HP4.out).mono ?_
  rintro e w5 ⟨rfl, hb5⟩
  have hck := exB_chk HM3.out
  rw [hck.1, hck.2]
  have HP5 := Lib.hid (HP4.out.grow hb5)
  have HB5 := Lib.hid (HB4.out.trans (hb5.mono HB4.out.size))
  clear hck hb5 HP4 HB4
  go_wp2_with fail
  refine (small_any w5).mono ?_
  rintro e w6 ⟨AE6, AA6, rfl, hA6, hb6⟩
  have HP6 := Lib.hid (HP5.out.grow hb6)
  have HB6 := Lib.hid (HB5.out.trans (hb6.mono HB5.out.size))
  have HA6 := Lib.hid hA6
  clear hA6 hb6 HP5 HB5
  go_wp2_with fail
  refine (base_any 10 AE6 AA6 2 2 2 exB w6 HA6.out (by omega) (by omega)).mono ?_
  rintro e w7 ⟨rfl, hb7⟩
  rw [exB_base.1, exB_base.2]
  have HP7 := Lib.hid (HP6.out.grow hb7)
  have HB7 := Lib.hid (HB6.out.trans (hb7.mono HB6.out.size))
  clear hb7 HP6 HB6
  go_wp2_with fail
  refine (round_any w7).mono ?_
  rintro e w8 ⟨Ar8, As8, rfl, hc8, hb8⟩
  have HC8 := Lib.hid hc8
  have HP8 := Lib.hid (HP7.out.grow hb8)
  have HB8 := Lib.hid (HB7.out.trans (hb8.mono HB7.out.size))
  clear hc8 hb8 HP7 HB7
  go_wp2_with fail
  have hal : Below w8.heap.size w8 (w8.alloc (.cells #[.slice Ar8 2 2, .slice As8 2 2, .int .i64 2] 47)) := (Below.refl _ _).alloc (Nat.le_refl _) _
  have hps : PrsRd (w8.alloc (.cells #[.slice Ar8 2 2, .slice As8 2 2, .int .i64 2] 47)) (some ⟨w8.heap.size, 0, none⟩) [⟨⟨Ar8, 2, As8, 2, [0, 1], [1, 1]⟩, 2⟩] := ⟨Rd.of_blk (Blk.new w8 47 #[.slice Ar8 2 2, .slice As8 2 2, .int .i64 2]) rfl, fun c hc => by simp at hc; subst hc; exact HC8.out.grow hal, by simp⟩
  refine (sameparts_yes A3 (some ⟨w8.heap.size, 0, none⟩) 1 c3 1 ps3 [⟨⟨Ar8, 2, As8, 2, [0, 1], [1, 1]⟩, 2⟩] _ (HP8.out.grow hal) hps rfl (prv_one HM3.out rfl rfl) HL3.out.symm).mono ?_
  rintro e w9 ⟨rfl, hb9⟩
  have HB9 := Lib.hid (HB8.out.trans ((hal.trans (hb9.mono hal.size)).mono HB8.out.size))
  clear hb9
  go_wp2_with fail
  go_ret
  exact ⟨rfl, HB9.out⟩
end Go.Proofs.Ytbmbdenjlbelaaa
