import Derived.Test.YtcgamkldlmmdnaaFd2
import Derived.Test.YtcgamkldlmmdnaaBunA
namespace Go.Proofs.Ytcgamkldlmmdnaa
open Go.RowKit

theorem in_yes (n lo hi : Int) (w : World) (h0 : lo ≤ n) (h1 : n ≤ hi) : Calls Try.prog 40 #[.int .i64 n, .int .i64 lo, .int .i64 hi] w fun e w' => e = .returned (.bool true) ∧ w = w' := by
  have := in_any n lo hi w
  rwa [show inB n lo hi = true by simp [inB]; omega] at this
theorem in_no (n lo hi : Int) (w : World) (h : ¬ (lo ≤ n ∧ n ≤ hi)) : Calls Try.prog 40 #[.int .i64 n, .int .i64 lo, .int .i64 hi] w fun e w' => e = .returned (.bool false) ∧ w = w' := by
  have := in_any n lo hi w
  rwa [show inB n lo hi = false by simp [inB]; omega] at this
/-- the memory of Forest -/
structure FrS (w wr : World) (X G1 ne : Nat) (xs : Array Value) (root : List Int) : Prop where
  x : Blk wr X 26 xs
  bel : Below w.heap.size w wr
  r : wr.ownsRow (X + 1) 3 1 (.slice (some ⟨G1, 0, none⟩) ne ne) ne (root.map (Value.int .i64))
  hX : w.heap.size ≤ X
section
variable {w wr w' : World} {X G1 ne : Nat} {xs : Array Value} {root root' : List Int}
theorem FrS.grow (h : FrS w wr X G1 ne xs root) (hb : Below wr.heap.size wr w') : FrS w w' X G1 ne xs root :=
  ⟨h.x.bel hb, h.bel.trans (hb.mono h.bel.size), own_grow h.r hb, h.hX⟩
theorem FrS.merge (h : FrS w wr X G1 ne xs root) (hg : wr.grownBy w' (some G1)) (ho : w'.ownsRow (X + 1) 3 1 (.slice (some ⟨G1, 0, none⟩) ne ne) ne (root'.map (Value.int .i64))) : FrS w w' X G1 ne xs root' := by
  have h1 := (own_block h.r G1 rfl).1
  have hX := h.hX
  exact ⟨h.x.grown hg (fun e => by injection e with e; omega), h.bel.grown hg (by have := h.bel.size; omega) (fun k hk => by injection hk with hk; omega), ho, hX⟩
end
def Fr2 (w : World) (X G1 ne : Nat) (acts : List Act) (tree : List Int) (xs : Array Value) (k : Nat) (v : Value) (wr : World) : Prop :=
  ∃ (j : Nat) (r : List Int), v = .int .i64 j ∧ j + k = tree.length ∧ frRoot ne acts tree j = some r ∧ FrS w wr X G1 ne xs r
def Fr3 (w : World) (X G1 ne : Nat) (acts : List Act) (xs : Array Value) (r : List Int) (k : Nat) (v : Value) (wr : World) : Prop :=
  ∃ j : Nat, v = .int .i64 j ∧ j + k = acts.length ∧ frAll acts r j = true ∧ FrS w wr X G1 ne xs r
theorem forest_no {ne : Nat} {acts : List Act} {tree : List Int} {j : Nat} (hj : j < tree.length) (h : frRoot ne acts tree (j + 1) = none) : forestB ne acts tree = false := by
  unfold forestB
  rw [frRoot_none h tree.length hj]
theorem frRoot_step {ne : Nat} {acts : List Act} {tree : List Int} {j : Nat} {r : List Int} (h : frRoot ne acts tree j = some r) : frRoot ne acts tree (j + 1) = if frTest acts tree r j = true then some (mergeR r (ag acts (gi tree j))) else none := by
  show (match frRoot ne acts tree j with | none => none | some r => _) = _
  rw [h]
theorem frAll_no {ne : Nat} {acts : List Act} {tree : List Int} {r : List Int} (h : frRoot ne acts tree tree.length = some r) (j : Nat) (hj : j < acts.length) (hd : gi r (ag acts j).fr ≠ gi r (ag acts j).tt) : forestB ne acts tree = false := by
  unfold forestB
  rw [h]
  simp only
  cases hh : frAll acts r acts.length with
  | false => rfl
  | true =>
    unfold frAll at hh
    have := List.all_eq_true.1 hh j (List.mem_range.2 hj)
    simp at this
    exact absurd this hd

set_option maxRecDepth 100000 in
set_option maxHeartbeats 6400000 in
theorem forest_any (T : Int) (AE AA AT : Option Addr) (ne ce ca ct : Nat) (acts : List Act) (tree : List Int) (w : World) (hA : Rd w w.heap.size 6 AA acts.length (acts.flatMap Act.cells)) (hT : Rd w w.heap.size 1 AT tree.length (tree.map (Value.int .i64))) (htl : tree.length ≤ 4611686018427387904) (hN : NetOk T ne acts) :
    Calls Try.prog 51 #[.agg #[.int .i64 T, .slice AE ne ce, .slice AA acts.length ca], .slice AT tree.length ct] w fun e w' => e = .returned (.bool (forestB ne acts tree)) ∧ Below w.heap.size w w' := by
  have HA := Lib.hid hA
  have HR := Lib.hid hT
  have HN := Lib.hid hN
  have ht0 := hN.t0
  have ht1 := hN.t1
  have hne := hN.e
  have hna := hN.n
  clear hA hN hT
  obtain ⟨i0, hi0, hz0, hz1, hz2⟩ := info_parts infoInt
  have HI := Lib.hid (And.intro hi0 (And.intro hz0 (And.intro hz1 hz2)))
  clear hi0 hz0 hz1 hz2
  go_enter Try.func51, Try.ntmps51
  go_upto_region 1 with fail
  refine world_gen (fun w1 => Below w.heap.size w w1 ∧ Blk w1 w.heap.size 26 #[.int .i64 T, .slice AE ne ce, .slice AA acts.length ca]) ⟨(Below.refl _ _).alloc (Nat.le_refl _) _, Blk.new _ _ _⟩ ?_
  rintro w0 ⟨hb0, hx0⟩
  obtain ⟨X, hX⟩ : ∃ X, X = w.heap.size := ⟨_, rfl⟩
  rw [← hX] at ⊢
  rw [show Blk w0 w.heap.size = Blk w0 X by rw [hX]] at hx0
  have hXw : w.heap.size ≤ X := by omega
  have hXw2 : X ≤ w.heap.size := by omega
  clear hX
  have HX0 := Lib.hid hx0
  have Hb0 := Lib.hid hb0
  have x0 := hx0.cell 0
  have x1 := hx0.cell 1
  have x2 := hx0.cell 2
  simp at x0 x1 x2
  clear hx0 hb0
  go_wp2_with fail
  refine (rnetchk_any T AE AA ne ce ca acts w0 ((HA.out.grow (show Below w.heap.size w w0 from by have := Hb0.out; exact this)).more Hb0.out.size) (by omega) (by omega)).mono ?_
  rintro e w1 ⟨rfl, hb1⟩
  rw [netB_yes HN.out]
  have HX1 := Lib.hid (HX0.out.bel hb1)
  have Hb1 := Lib.hid (Hb0.out.trans (hb1.mono Hb0.out.size))
  clear x0 x1 x2 hb1 HX0 Hb0
  have x1 := HX1.out.cell 1
  simp at x1
  have hxl := HX1.out.lt
  go_upto_region 4 with (at_make; refine wpList_make_full _ rfl _ _ 22 rfl (X + 1) 3 i0 _ 1 Try.underlying22 HI.out.1 HI.out.2.1 HI.out.2.2.1 .i64 .i64 _ _ ne rfl rfl rfl rfl ?m1 ?m2 ?m3 ?_; rotate_right; intro w2 hown2 hg2)
  case m1 => rw [HI.out.2.2.2]; omega
  case m2 => simp only [maxLen]; omega
  case m3 => omega
  have hb2 : Below w1.heap.size w1 w2 := (Below.refl _ _).grown hg2 (Nat.le_refl _) (by simp)
  have HT1 := Lib.hid (show Tr1 w X w1.heap.size ne #[.int .i64 T, .slice AE ne ce, .slice AA acts.length ca] ne (.int .i64 ((0 : Nat) : Int)) w2 from ⟨0, rfl, by omega, HX1.out.bel hb2, Hb1.out.trans (hb2.mono Hb1.out.size), by
    rw [← fill_zero _ _ _ (iotaL_len ne)]
    have := madeCells_one (Value.int .i64) 0 ne
    rw [← this]
    exact hown2⟩)
  clear hown2 hg2 hb2 HX1 Hb1 x1 hxl
  generalize w1.heap.size = G1 at *
  go_wp2_with fail
  go_loopg [6, 18] ne (fun k _ v wr => Tr1 w X G1 ne #[.int .i64 T, .slice AE ne ce, .slice AA acts.length ca] k v wr)
  case atStart => exact HT1.out
  case round =>
    obtain ⟨j, rfl, hj, hx, hb, ho⟩ := hrel
    clear HT1
    have Hj := Lib.hid hj
    have HX := Lib.hid hx
    have Hb := Lib.hid hb
    have HO := Lib.hid ho
    clear hj hx hb ho
    by_cases hlt : j < ne
    · have hil : j < (iotaL ne).length := by rw [iotaL_len]; exact hlt
      have hset := own1_set HO.out j (iotaL ne)[j]
      rw [fill_set _ _ _ hil, iotaL_get ne j hlt] at hset
      have HS := Lib.hid hset
      have q0 := own1 HO.out j (by rw [fill_len _ _ _ (by omega)]; exact hil)
      have q1 := HO.out.frozenAt j
      have hG := (own_block HO.out G1 rfl).1
      clear hset
      go_wp2_with fail
      go_roundg (ne - j - 1)
      case measure => have := Hj.out; omega
      case rel => exact ⟨j + 1, by first | rfl | go_num, by omega, HX.out.far (by omega), Hb.out.setCell (by simp; omega) _, HS.out⟩
    · have ho := HO.out
      rw [fill_all _ _ _ (by rw [iotaL_len]; omega)] at ho
      have HF := Lib.hid (show FrS w wr X G1 ne #[.int .i64 T, .slice AE ne ce, .slice AA acts.length ca] (iotaL ne) from ⟨HX.out, Hb.out, ho, hXw⟩)
      clear HO ho Hj HX Hb
      go_wp2_with fail
      go_loopg [7] tree.length (fun k v wr => Fr2 w X G1 ne acts tree #[.int .i64 T, .slice AE ne ce, .slice AA acts.length ca] k v wr)
      case atStart => exact ⟨0, iotaL ne, rfl, by omega, rfl, HF.out⟩
      case round =>
        clear HF
        obtain ⟨i, r, rfl, hi, hfr, hfs⟩ := hrel
        have Hi := Lib.hid hi
        have HFr := Lib.hid hfr
        have HF := Lib.hid hfs
        clear hi hfr hfs
        have hrl := frRoot_len HFr.out
        by_cases hlti : i < tree.length
        · obtain ⟨b, off, rfl, hb, q0⟩ := rd1 (HR.out.grow HF.out.bel) i hlti
          have HSt := Lib.hid (frRoot_step HFr.out)
          have HNo := Lib.hid (fun h => forest_no (ne := ne) (acts := acts) hlti h)
          have hgi : gi tree i = tree[i] := gi_nat tree i hlti
          have x2 := HF.out.x.cell 2
          simp at x2
          have hxl := HF.out.x.lt
          have hbl : b < wr.heap.size := by have := HF.out.bel.size; omega
          have HTs := Lib.hid (show frTest acts tree r i = (decide (0 ≤ gi tree i ∧ gi tree i ≤ (acts.length : Int) - 1) && (decide (i = 0) || decide (gi tree ((i : Int) - 1) < gi tree i)) && mergeB r (ag acts (gi tree i))) from rfl)
          rw [hgi] at HSt HTs
          clear hgi
          generalize tree[i] = tj at *
          by_cases hin : 0 ≤ tj ∧ tj ≤ (acts.length : Int) - 1
          · obtain ⟨a, rfl⟩ := Int.eq_ofNat_of_zero_le hin.1
            have hal : a < acts.length := by omega
            have hin0 : (0 : Int) ≤ (a : Int) := hin.1
            have hin1 : (a : Int) ≤ (acts.length : Int) - 1 := hin.2
            rw [decide_eq_true hin, Bool.true_and, ag_nat acts a hal] at HTs
            rw [ag_nat acts a hal] at HSt
            clear hin
            obtain ⟨ba, oa, rfl, hba, d0, d1, d2, d3, d4, d5⟩ := rdAct (HA.out.grow HF.out.bel) rfl a hal
            have hbal : ba < wr.heap.size := by have := HF.out.bel.size; omega
            have hok := HN.out.a acts[a] (List.getElem_mem hal)
            have hf0 := hok.f0
            have hf1 := hok.f1
            have hg0 := hok.t0
            have hg1 := hok.t1
            clear hok
            generalize acts[a] = aj at *
            obtain ⟨kd, fr, tt, mn, mx, wt⟩ := aj
            simp only at d0 d1 d2 d3 d4 d5 hf0 hf1 hg0 hg1
            rcases Nat.eq_zero_or_pos i with hz | hpos
            · rw [decide_eq_true hz, Bool.true_or, Bool.true_and] at HTs
              have hpos' : decide (0 < i) = false := by simp; omega
              clear hz
              go_upto_region 12 with fail
              refine wp_region_overT2 36 (by kernel_rfl) (by kernel_rfl) ?_
              simp only [List.take_succ_cons, List.take_zero, List.drop_succ_cons, List.drop_zero]
              repeat (go_big_quiet_step ((go_at_call 40; exact callsOverSame (in_yes _ _ _ _ hin0 hin1))))
              refine wpQuiet_nil ?_
              intro w6 hb6
              have HF6 := Lib.hid (HF.out.grow hb6)
              go_wp2_with (go_at_call 55; refine (merge_any (X + 1) G1 ne r ⟨kd, fr, tt, mn, mx, wt⟩ w6 HF6.out.r (by omega) hf0 hf1 hg0 hg1).mono ?_; rintro e w7 ⟨rfl, ho7, hg7⟩; have HF7 := Lib.hid (HF6.out.merge hg7 ho7); clear ho7 hg7; cases hmb : mergeB r ⟨kd, fr, tt, mn, mx, wt⟩)
              · have Hf := Lib.hid (show forestB ne acts tree = false from HNo.out (by rw [HSt.out, HTs.out, hmb]; simp))
                go_ret
                exact ⟨by rw [Hf.out]; rfl, HF7.out.bel⟩
              · have Hs := Lib.hid (show frRoot ne acts tree (i + 1) = some (mergeR r ⟨kd, fr, tt, mn, mx, wt⟩) by rw [HSt.out, HTs.out, hmb]; simp)
                go_roundg (tree.length - (i) - 1)
                case measure => have := Hi.out; omega
                case rel => exact ⟨i + 1, _, by first | rfl | go_num, by omega, Hs.out, HF7.out⟩
            · obtain ⟨i, rfl⟩ : ∃ i', i = i' + 1 := ⟨i - 1, by omega⟩
              obtain ⟨b2, off2, e2, hb2, q1⟩ := rd1 (HR.out.grow HF.out.bel) i (by omega)
              obtain ⟨rfl, rfl⟩ : b = b2 ∧ off = off2 := by injection e2 with e2; injection e2 with e3 e4; exact ⟨e3, e4⟩
              have hgp : gi tree (((i + 1 : Nat) : Int) - 1) = tree[i]'(by omega) := by rw [show (((i + 1 : Nat) : Int) - 1) = (i : Int) by omega]; exact gi_nat tree i (by omega)
              rw [hgp, decide_eq_false (by omega), Bool.false_or] at HTs
              clear hgp e2 hb2
              generalize tree[i]'(by omega) = tp at *
              have hpos' : decide (((i + 1 : Nat) : Int) > 0) = true := by simp
              by_cases hle : (a : Int) ≤ tp
              · have hle' : decide ((a : Int) ≤ tp) = true := by simpa using hle
                have Hf := Lib.hid (show forestB ne acts tree = false from HNo.out (by rw [HSt.out, HTs.out, decide_eq_false (by omega)]; simp))
                go_upto_region 12 with fail
                refine wp_region_overT2 36 (by kernel_rfl) (by kernel_rfl) ?_
                simp only [List.take_succ_cons, List.take_zero, List.drop_succ_cons, List.drop_zero]
                repeat (go_big_quiet_step ((go_at_call 40; exact callsOverSame (in_yes _ _ _ _ hin0 hin1))))
                refine wpQuiet_nil ?_
                intro w6 hb6
                go_wp2_with fail
                go_ret
                exact ⟨by rw [Hf.out]; rfl, (HF.out.grow hb6).bel⟩
              · have hle' : decide ((a : Int) ≤ tp) = false := by simpa using hle
                rw [decide_eq_true (by omega), Bool.true_and] at HTs
                go_upto_region 12 with fail
                refine wp_region_overT2 36 (by kernel_rfl) (by kernel_rfl) ?_
                simp only [List.take_succ_cons, List.take_zero, List.drop_succ_cons, List.drop_zero]
                repeat (go_big_quiet_step ((go_at_call 40; exact callsOverSame (in_yes _ _ _ _ hin0 hin1))))
                refine wpQuiet_nil ?_
                intro w6 hb6
                have HF6 := Lib.hid (HF.out.grow hb6)
                go_wp2_with (go_at_call 55; refine (merge_any (X + 1) G1 ne r ⟨kd, fr, tt, mn, mx, wt⟩ w6 HF6.out.r (by omega) hf0 hf1 hg0 hg1).mono ?_; rintro e w7 ⟨rfl, ho7, hg7⟩; have HF7 := Lib.hid (HF6.out.merge hg7 ho7); clear ho7 hg7; cases hmb : mergeB r ⟨kd, fr, tt, mn, mx, wt⟩)
                · have Hf := Lib.hid (show forestB ne acts tree = false from HNo.out (by rw [HSt.out, HTs.out, hmb]; simp))
                  go_ret
                  exact ⟨by rw [Hf.out]; rfl, HF7.out.bel⟩
                · have Hs := Lib.hid (show frRoot ne acts tree (i + 1 + 1) = some (mergeR r ⟨kd, fr, tt, mn, mx, wt⟩) by rw [HSt.out, HTs.out, hmb]; simp)
                  go_roundg (tree.length - (i + 1) - 1)
                  case measure => have := Hi.out; omega
                  case rel => exact ⟨i + 1 + 1, _, by first | rfl | go_num, by omega, Hs.out, HF7.out⟩
          · have Hf := Lib.hid (show forestB ne acts tree = false from HNo.out (by rw [HSt.out, HTs.out, decide_eq_false hin]; simp))
            go_upto_region 12 with fail
            refine wp_region_overT2 36 (by kernel_rfl) (by kernel_rfl) ?_
            simp only [List.take_succ_cons, List.take_zero, List.drop_succ_cons, List.drop_zero]
            repeat (go_big_quiet_step ((go_at_call 40; exact callsOverSame (in_no _ _ _ _ hin))))
            refine wpQuiet_nil ?_
            intro w6 hb6
            go_wp2_with fail
            go_ret
            exact ⟨by rw [Hf.out]; rfl, (HF.out.grow hb6).bel⟩
        · obtain rfl : i = tree.length := by have := Hi.out; omega
          clear Hi
          go_wp2_with fail
          go_loopg [8] acts.length (fun k v wr => Fr3 w X G1 ne acts #[.int .i64 T, .slice AE ne ce, .slice AA acts.length ca] r k v wr)
          case atStart => exact ⟨0, rfl, by omega, rfl, HF.out⟩
          case round =>
            clear HF
            obtain ⟨j, rfl, hj, hfa, hfs⟩ := hrel
            have Hj := Lib.hid hj
            have HFa := Lib.hid hfa
            have HF := Lib.hid hfs
            clear hj hfa hfs
            have x2 := HF.out.x.cell 2
            simp at x2
            have hxl := HF.out.x.lt
            by_cases hltj : j < acts.length
            · obtain ⟨ba, oa, rfl, hba, d0, d1, d2, d3, d4, d5⟩ := rdAct (HA.out.grow HF.out.bel) rfl j hltj
              have hbal : ba < wr.heap.size := by have := HF.out.bel.size; omega
              have hok := HN.out.a acts[j] (List.getElem_mem hltj)
              have hf0 := hok.f0
              have hf1 := hok.f1
              have hg0 := hok.t0
              have hg1 := hok.t1
              have HNo := Lib.hid (fun h => frAll_no HFr.out j hltj h)
              have HSu := Lib.hid (frAll_succ acts r j)
              rw [ag_nat acts j hltj] at HNo HSu
              clear hok d0 d3 d4 d5
              generalize acts[j] = aj at *
              obtain ⟨kd, fr, tt, mn, mx, wt⟩ := aj
              simp only at d1 d2 hf0 hf1 hg0 hg1 HNo HSu
              obtain ⟨f, rfl⟩ := Int.eq_ofNat_of_zero_le hf0
              obtain ⟨t, rfl⟩ := Int.eq_ofNat_of_zero_le hg0
              have hfl : f < r.length := by omega
              have htl' : t < r.length := by omega
              rw [gi_nat r f hfl, gi_nat r t htl'] at HNo HSu
              have q1 := own1 HF.out.r f hfl
              have q2 := own1 HF.out.r t htl'
              have hgl := (own_block HF.out.r G1 rfl).2
              generalize r[f] = rx at *
              generalize r[t] = ry at *
              go_upto_region 17 with fail
              go_quiet (fail)
              by_cases e : rx = ry
              · have e' : (rx != ry) = false := by simpa using e
                go_wp2_with fail
                go_roundg (acts.length - j - 1)
                case measure => have := Hj.out; omega
                case rel => exact ⟨j + 1, by first | rfl | go_num, by omega, by rw [HSu.out, HFa.out, e]; simp, HF.out.grow (below_drewN (Below.refl _ _) _)⟩
              · have e' : (rx != ry) = true := by simpa using e
                go_wp2_with fail
                go_ret
                exact ⟨by rw [HNo.out e]; rfl, (HF.out.grow (below_drewN (Below.refl _ _) _)).bel⟩
            · obtain rfl : j = acts.length := by have := Hj.out; omega
              have Hf := Lib.hid (show forestB ne acts tree = true by unfold forestB; rw [HFr.out]; exact HFa.out)
              go_wp2_with fail
              go_ret
              exact ⟨by rw [Hf.out]; rfl, HF.out.bel⟩
end Go.Proofs.Ytcgamkldlmmdnaa
