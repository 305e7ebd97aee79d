import Derived.Test.YtcgamkldlmmdnaaSks
namespace Go.Proofs.Ytcgamkldlmmdnaa
open Go.RowKit

theorem in_yes1 (n lo hi : Int) (w : World) (h0 : lo ≤ n) (h1 : n ≤ hi) : Calls Try.prog 40 #[.int .i64 n, .int .i64 lo, .int .i64 hi] w fun e w' => e = .returned (.bool true) ∧ w' = w := by
  have := (in_any n lo hi w).mono fun _ _ h => And.intro h.1 h.2.symm
  rwa [show inB n lo hi = true by simp [inB]; omega] at this
theorem lasts_eq (T : Int) (AE AA At : Option Addr) (ne ce na ca ct : Nat) (x : List Int) (kd fr tt mn mx wt : Int) (w : World) (hX : Rd w w.heap.size 1 At x.length (x.map (Value.int .i64))) (hx : TmOk T ne x) (ha : ActOk T ne ⟨kd, fr, tt, mn, mx, wt⟩) (ht0 : 2 ≤ T) (ht1 : T ≤ 7200) (sv : Int) (hsv : slk1 T x ⟨kd, fr, tt, mn, mx, wt⟩ = sv) :
    Calls Try.prog 37 #[.agg #[.int .i64 T, .slice AE ne ce, .slice AA na ca], .slice At x.length ct, .agg #[.int .i64 kd, .int .i64 fr, .int .i64 tt, .int .i64 mn, .int .i64 mx, .int .i64 wt]] w fun e w' => e = .returned (.int .i64 (mn + sv)) ∧ Below w.heap.size w w' := by
  subst hsv
  exact lasts_any T AE AA At ne ce na ca ct x ⟨kd, fr, tt, mn, mx, wt⟩ w hX hx ha ht0 ht1
/-- the network in its block -/
structure FeN (w wr : World) (X : Nat) (xs : Array Value) : Prop where
  bel : Below w.heap.size w wr
  x : Blk wr X 26 xs
theorem FeN.grow {w wr w' : World} {X : Nat} {xs : Array Value} (h : FeN w wr X xs) (hb : Below wr.heap.size wr w') : FeN w w' X xs := ⟨h.bel.trans (hb.mono h.bel.size), h.x.bel hb⟩
def GdL (w : World) (X : Nat) (xs : Array Value) (m : Nat) (k : Nat) (v : Value) (wr : World) : Prop :=
  ∃ j : Nat, v = .int .i64 j ∧ j + k = m ∧ FeN w wr X xs

set_option maxRecDepth 100000 in
set_option maxHeartbeats 3200000 in
theorem good_yes (T : Int) (AE AA At : Option Addr) (ne ce ca ct : Nat) (acts : List Act) (x : List Int) (w : World) (hA : Rd w w.heap.size 6 AA acts.length (acts.flatMap Act.cells)) (hN : NetOk T ne acts) (hXr : Rd w w.heap.size 1 At x.length (x.map (Value.int .i64))) (hx : TmOk T ne x) :
    Calls Try.prog 39 #[.agg #[.int .i64 T, .slice AE ne ce, .slice AA acts.length ca], .slice At x.length ct] w fun e w' => e = .returned (.bool true) ∧ Below w.heap.size w w' := by
  have HA := Lib.hid hA
  have HN := Lib.hid hN
  have HXr := Lib.hid hXr
  have HTm := Lib.hid hx
  have hna := hN.n
  have hne := hN.e
  have ht0 := hN.t0
  have ht1 := hN.t1
  have hxl : x.length ≤ 48 := by have := hx.1; omega
  have hle : ((x.length : Int) != (ne : Int)) = false := by have := hx.1; simp; omega
  clear hA hN hXr hx
  go_enter Try.func39, Try.ntmps39
  go_upto_region 1 with fail
  refine world_gen (fun w1 => FeN w w1 w.heap.size #[.int .i64 T, .slice AE ne ce, .slice AA acts.length ca]) ⟨(Below.refl _ _).alloc (Nat.le_refl _) _, Blk.new _ _ _⟩ ?_
  intro w0 hf0
  obtain ⟨X, hX⟩ : ∃ X, X = w.heap.size := ⟨_, rfl⟩
  rw [← hX] at ⊢
  rw [show FeN w w0 w.heap.size = FeN w w0 X by rw [hX]] at hf0
  clear hX
  have HF := Lib.hid hf0
  clear hf0
  have x0 := HF.out.x.cell 0
  have x1 := HF.out.x.cell 1
  have x2 := HF.out.x.cell 2
  simp at x0 x1 x2
  go_wp2_with fail
  refine (rnetchk_any T AE AA ne ce ca acts w0 ((HA.out.grow HF.out.bel).more HF.out.bel.size) (by omega) (by omega)).mono ?_
  rintro e w1 ⟨rfl, hb1⟩
  rw [netB_yes HN.out]
  have HF1 := Lib.hid (HF.out.grow hb1)
  clear x0 x1 x2 hb1 HF
  have x1 := HF1.out.x.cell 1
  simp at x1
  go_wp2_with fail
  clear x1 hle
  go_loopg [5] x.length (fun k v wr => GdL w X #[.int .i64 T, .slice AE ne ce, .slice AA acts.length ca] x.length k v wr)
  case atStart => exact ⟨0, rfl, by omega, HF1.out⟩
  case round =>
    obtain ⟨j, rfl, hj, hf⟩ := hrel
    clear HF1
    have Hj := Lib.hid hj
    have HF := Lib.hid hf
    clear hj hf
    by_cases hlt : j < x.length
    · obtain ⟨bt, ot, rfl, hbt, q0⟩ := rd1 (HXr.out.grow HF.out.bel) j hlt
      have hx0 := HTm.out.2 x[j] (List.getElem_mem hlt)
      generalize x[j] = xv at *
      have x0 := HF.out.x.cell 0
      simp at x0
      have hxl := HF.out.x.lt
      have e1 : IntKind.i64.wrap (T - 1) = T - 1 := IntWalk.i64_in _ (by omega)
      go_upto_region 6 with fail
      go_quiet ((go_at_call 40; exact Calls.quiet_of_same (in_yes1 _ _ _ _ (by omega) (by omega))))
      clear e1
      go_wp2_with fail
      go_roundg (x.length - j - 1)
      case measure => have := Hj.out; omega
      case rel => exact ⟨j + 1, by first | rfl | go_num, by omega, HF.out.grow (below_drewN (Below.refl _ _) _)⟩
    · go_wp2_with fail
      go_ret
      exact ⟨rfl, HF.out.bel⟩

open Classical in
noncomputable def feasB (T : Int) (acts : List Act) (x : List Int) : Bool := decide (feas T acts x)
theorem feasB_yes {T : Int} {acts : List Act} {x : List Int} (h : feas T acts x) : feasB T acts x = true := by simpa [feasB] using h
theorem feasB_no {T : Int} {acts : List Act} {x : List Int} (h : ¬ feas T acts x) : feasB T acts x = false := by simpa [feasB] using h
theorem feasB_iff {T : Int} {acts : List Act} {x : List Int} : feasB T acts x = true ↔ feas T acts x := by simp [feasB]
def FrL (w : World) (X : Nat) (xs : Array Value) (T : Int) (acts : List Act) (x : List Int) (k : Nat) (v : Value) (wr : World) : Prop :=
  ∃ j : Nat, v = .int .i64 j ∧ j + k = acts.length ∧ (∀ i (h : i < acts.length), i < j → acts[i].mn + slk1 T x acts[i] ≤ acts[i].mx) ∧ FeN w wr X xs
def FrOut (T : Int) (acts : List Act) (x : List Int) (w : World) (e : Ending) (w' : World) : Prop :=
  ∃ i : Int, e = .returned (.tuple #[.int .i64 i, .bool (!feasB T acts x)]) ∧ Below w.heap.size w w'

set_option maxRecDepth 100000 in
set_option maxHeartbeats 3200000 in
theorem first_any (T : Int) (AE AA At : Option Addr) (ne ce ca ct : Nat) (acts : List Act) (x : List Int) (w : World) (hA : Rd w w.heap.size 6 AA acts.length (acts.flatMap Act.cells)) (hN : NetOk T ne acts) (hXr : Rd w w.heap.size 1 At x.length (x.map (Value.int .i64))) (hx : TmOk T ne x) :
    Calls Try.prog 38 #[.agg #[.int .i64 T, .slice AE ne ce, .slice AA acts.length ca], .slice At x.length ct] w (FrOut T acts x w) := by
  have HA := Lib.hid hA
  have HN := Lib.hid hN
  have HXr := Lib.hid hXr
  have HTm := Lib.hid hx
  have hna := hN.n
  have hne := hN.e
  have ht0 := hN.t0
  have ht1 := hN.t1
  clear hA hN hXr hx
  go_enter Try.func38, Try.ntmps38
  go_upto_region 1 with fail
  refine world_gen (fun w1 => FeN w w1 w.heap.size #[.int .i64 T, .slice AE ne ce, .slice AA acts.length ca]) ⟨(Below.refl _ _).alloc (Nat.le_refl _) _, Blk.new _ _ _⟩ ?_
  intro w0 hf0
  obtain ⟨X, hX⟩ : ∃ X, X = w.heap.size := ⟨_, rfl⟩
  rw [← hX] at ⊢
  rw [show FeN w w0 w.heap.size = FeN w w0 X by rw [hX]] at hf0
  clear hX
  have HF := Lib.hid hf0
  clear hf0
  have x0 := HF.out.x.cell 0
  have x1 := HF.out.x.cell 1
  have x2 := HF.out.x.cell 2
  simp at x0 x1 x2
  go_wp2_with fail
  refine (good_yes T AE AA At ne ce ca ct acts x w0 ((HA.out.grow HF.out.bel).more HF.out.bel.size) HN.out ((HXr.out.grow HF.out.bel).more HF.out.bel.size) HTm.out).mono ?_
  rintro e w1 ⟨rfl, hb1⟩
  have HF1 := Lib.hid (HF.out.grow hb1)
  clear x0 x1 x2 hb1 HF
  go_wp2_with fail
  go_loopg [6] acts.length (fun k v wr => FrL w X #[.int .i64 T, .slice AE ne ce, .slice AA acts.length ca] T acts x k v wr)
  case atStart => exact ⟨0, rfl, by omega, fun i h hi => by omega, HF1.out⟩
  case round =>
    obtain ⟨j, rfl, hj, hok, hf⟩ := hrel
    clear HF1
    have Hj := Lib.hid hj
    have Hok := Lib.hid hok
    have HF := Lib.hid hf
    clear hj hok hf
    have x0 := HF.out.x.cell 0
    have x1 := HF.out.x.cell 1
    have x2 := HF.out.x.cell 2
    simp at x0 x1 x2
    by_cases hlt : j < acts.length
    · obtain ⟨ba, oa, rfl, hba, d0, d1, d2, d3, d4, d5⟩ := rdAct (HA.out.grow HF.out.bel) rfl j hlt
      have HAk := Lib.hid (HN.out.a acts[j] (List.getElem_mem hlt))
      have HMm := Lib.hid (List.getElem_mem hlt)
      have HOk := Lib.hid (show acts[j].mn + slk1 T x acts[j] ≤ acts[j].mx → ∀ i (h : i < acts.length), i < j + 1 → acts[i].mn + slk1 T x acts[i] ≤ acts[i].mx from fun h i hi hij => by
        rcases Nat.lt_or_ge i j with h2 | h2
        · exact Hok.out i hi h2
        · obtain rfl : i = j := by omega
          exact h)
      have hba' : ba < wr.heap.size := World.block_lt_of_cell? _ _ d0
      have hxl := HF.out.x.lt
      generalize acts[j] = aa at *
      obtain ⟨kd, fr, tt, mn, mx, wt⟩ := aa
      simp only at d0 d1 d2 d3 d4 d5 HOk
      generalize hsv : slk1 T x ⟨kd, fr, tt, mn, mx, wt⟩ = sv at *
      have Hsv := Lib.hid hsv
      clear hsv
      go_upto_region 6 with fail
      refine wp_region_overL (by kernel_rfl) (by kernel_rfl) ?_
      repeat (go_big_quiet_step ((go_at_call 37; exact callsOver (lasts_eq T AE _ At ne ce _ ca ct x kd fr tt mn mx wt _ ((HXr.out.grow (HF.out.bel.trans ((over_below wr _).mono HF.out.bel.size))).more (HF.out.bel.trans ((over_below wr _).mono HF.out.bel.size)).size) HTm.out HAk.out ht0 ht1 sv Hsv.out))))
      refine wpQuiet_nil ?_
      intro w6 hb6
      have HF6 := Lib.hid (HF.out.grow hb6)
      clear x0 x1 x2 d0 d1 d2 d3 d4 d5 hxl hba' HF hb6
      by_cases hle : mn + sv ≤ mx
      · have hle' : decide (mx < mn + sv) = false := by simpa using hle
        have HO2 := Lib.hid (HOk.out hle)
        go_wp2_with fail
        go_roundg (acts.length - j - 1)
        case measure => have := Hj.out; omega
        case rel => exact ⟨j + 1, by first | rfl | go_num, by omega, HO2.out, HF6.out⟩
      · have hle' : decide (mx < mn + sv) = true := by simp; omega
        have HB := Lib.hid (show feasB T acts x = false from feasB_no fun h => hle (by have := h _ HMm.out; rw [Hsv.out] at this; exact this))
        go_wp2_with fail
        go_ret2
        exact ⟨_, by rw [HB.out]; rfl, HF6.out.bel⟩
    · have HB := Lib.hid (show feasB T acts x = true from feasB_yes fun a ha => by
        obtain ⟨i, hi, rfl⟩ := List.getElem_of_mem ha
        exact Hok.out i hi (by omega))
      go_wp2_with fail
      go_ret2
      exact ⟨_, by rw [HB.out]; rfl, HF.out.bel⟩

set_option maxRecDepth 100000 in
set_option maxHeartbeats 3200000 in
theorem feasible_any (T : Int) (AE AA At : Option Addr) (ne ce ca ct : Nat) (acts : List Act) (x : List Int) (w : World) (hA : Rd w w.heap.size 6 AA acts.length (acts.flatMap Act.cells)) (hN : NetOk T ne acts) (hXr : Rd w w.heap.size 1 At x.length (x.map (Value.int .i64))) (hx : TmOk T ne x) :
    Calls Try.prog 21 #[.agg #[.int .i64 T, .slice AE ne ce, .slice AA acts.length ca], .slice At x.length ct] w fun e w' => e = .returned (.bool (feasB T acts x)) ∧ Below w.heap.size w w' := by
  have HA := Lib.hid hA
  have HN := Lib.hid hN
  have HXr := Lib.hid hXr
  have HTm := Lib.hid hx
  clear hA hN hXr hx
  go_enter Try.func21, Try.ntmps21
  go_upto_region 1 with fail
  refine world_gen (fun w1 => FeN w w1 w.heap.size #[.int .i64 T, .slice AE ne ce, .slice AA acts.length ca]) ⟨(Below.refl _ _).alloc (Nat.le_refl _) _, Blk.new _ _ _⟩ ?_
  intro w0 hf0
  obtain ⟨X, hX⟩ : ∃ X, X = w.heap.size := ⟨_, rfl⟩
  rw [← hX] at ⊢
  rw [show FeN w w0 w.heap.size = FeN w w0 X by rw [hX]] at hf0
  clear hX
  have HF := Lib.hid hf0
  clear hf0
  have x0 := HF.out.x.cell 0
  have x1 := HF.out.x.cell 1
  have x2 := HF.out.x.cell 2
  simp at x0 x1 x2
  go_wp2_with fail
  refine (first_any T AE AA At ne ce ca ct acts x w0 ((HA.out.grow HF.out.bel).more HF.out.bel.size) HN.out ((HXr.out.grow HF.out.bel).more HF.out.bel.size) HTm.out).mono ?_
  rintro e w1 ⟨i, rfl, hb1⟩
  have HF1 := Lib.hid (HF.out.grow hb1)
  clear x0 x1 x2 hb1 HF
  have HF := HF1
  clear HF1
  have x0 := HF.out.x.cell 0
  have x1 := HF.out.x.cell 1
  have x2 := HF.out.x.cell 2
  simp at x0 x1 x2
  go_wp2_with fail
  refine (good_yes T AE AA At ne ce ca ct acts x w1 ((HA.out.grow HF.out.bel).more HF.out.bel.size) HN.out ((HXr.out.grow HF.out.bel).more HF.out.bel.size) HTm.out).mono ?_
  rintro e w2 ⟨rfl, hb1⟩
  have HF1 := Lib.hid (HF.out.grow hb1)
  clear x0 x1 x2 hb1 HF
  cases hfb : feasB T acts x
  all_goals
    have Hfb := Lib.hid hfb
    clear hfb
    go_wp2_with fail
    go_ret
    exact ⟨by rw [Hfb.out]; rfl, HF1.out.bel⟩

set_option maxRecDepth 100000 in
set_option maxHeartbeats 3200000 in
theorem duration_any (T : Int) (AE AA At : Option Addr) (ne ce ca ct : Nat) (acts : List Act) (x : List Int) (a : Nat) (w : World) (hA : Rd w w.heap.size 6 AA acts.length (acts.flatMap Act.cells)) (hN : NetOk T ne acts) (hXr : Rd w w.heap.size 1 At x.length (x.map (Value.int .i64))) (hx : TmOk T ne x) (hlt : a < acts.length) :
    Calls Try.prog 22 #[.agg #[.int .i64 T, .slice AE ne ce, .slice AA acts.length ca], .slice At x.length ct, .int .i64 (a : Int)] w fun e w' => e = .returned (.int .i64 ((ag acts a).mn + slk1 T x (ag acts a))) ∧ Below w.heap.size w w' := by
  have HA := Lib.hid hA
  have HN := Lib.hid hN
  have HXr := Lib.hid hXr
  have HTm := Lib.hid hx
  have hna := hN.n
  have ht0 := hN.t0
  have ht1 := hN.t1
  clear hA hN hXr hx
  have HV := Lib.hid (ag_nat acts a hlt)
  go_enter Try.func22, Try.ntmps22
  go_upto_region 1 with fail
  refine world_gen (fun w1 => FeN w w1 w.heap.size #[.int .i64 T, .slice AE ne ce, .slice AA acts.length ca]) ⟨(Below.refl _ _).alloc (Nat.le_refl _) _, Blk.new _ _ _⟩ ?_
  intro w0 hf0
  obtain ⟨X, hX⟩ : ∃ X, X = w.heap.size := ⟨_, rfl⟩
  rw [← hX] at ⊢
  rw [show FeN w w0 w.heap.size = FeN w w0 X by rw [hX]] at hf0
  clear hX
  have HF := Lib.hid hf0
  clear hf0
  have x0 := HF.out.x.cell 0
  have x1 := HF.out.x.cell 1
  have x2 := HF.out.x.cell 2
  simp at x0 x1 x2
  go_wp2_with fail
  refine (good_yes T AE AA At ne ce ca ct acts x w0 ((HA.out.grow HF.out.bel).more HF.out.bel.size) HN.out ((HXr.out.grow HF.out.bel).more HF.out.bel.size) HTm.out).mono ?_
  rintro e w1 ⟨rfl, hb1⟩
  have HF1 := Lib.hid (HF.out.grow hb1)
  clear x0 x1 x2 hb1 HF
  have HF := HF1
  clear HF1
  have x0 := HF.out.x.cell 0
  have x1 := HF.out.x.cell 1
  have x2 := HF.out.x.cell 2
  simp at x0 x1 x2
  obtain ⟨ba, oa, rfl, hba, d0, d1, d2, d3, d4, d5⟩ := rdAct (HA.out.grow HF.out.bel) rfl a hlt
  have HAk := Lib.hid (HN.out.a acts[a] (List.getElem_mem hlt))
  have hba' : ba < w1.heap.size := World.block_lt_of_cell? _ _ d0
  have hxl := HF.out.x.lt
  generalize acts[a] = aa at *
  obtain ⟨kd, fr, tt, mn, mx, wt⟩ := aa
  simp only at d0 d1 d2 d3 d4 d5
  go_upto_region 3 with (go_at_call 40; refine (in_yes1 _ _ _ _ (by omega) (by omega)).mono ?_; rintro e w' ⟨rfl, rfl⟩)
  refine wp_region_overL (by kernel_rfl) (by kernel_rfl) ?_
  repeat (go_big_quiet_step ((go_at_call 37; exact callsOver (lasts_eq T AE _ At ne ce _ ca ct x kd fr tt mn mx wt _ ((HXr.out.grow (HF.out.bel.trans ((over_below _ _).mono HF.out.bel.size))).more (HF.out.bel.trans ((over_below _ _).mono HF.out.bel.size)).size) HTm.out HAk.out ht0 ht1 _ rfl))))
  refine wpQuiet_nil ?_
  intro w6 hb6
  have HF6 := Lib.hid (HF.out.grow hb6)
  clear x0 x1 x2 d0 d1 d2 d3 d4 d5 hxl hba' HF hb6
  go_wp2_with fail
  go_ret
  exact ⟨by rw [HV.out]; rfl, HF6.out.bel⟩
end Go.Proofs.Ytcgamkldlmmdnaa
