import Derived.Test.YtbmbdenjlbelaaaBdMath
import Derived.Test.YtbmbdenjlbelaaaFea
namespace Go.Proofs.Ytbmbdenjlbelaaa
open Go.RowKit

def BsL (w : World) (X : Nat) (xs : Array Value) (acts : List Act) (k : Nat) (v4 v : Value) (wr : World) : Prop :=
  ∃ j : Nat, v = .int .i64 j ∧ j + k = acts.length ∧ v4 = .int .i64 (sumN (wmT acts) j) ∧ FeN w wr X xs
def BaseOut (T : Int) (ne : Nat) (acts : List Act) (w : World) (e : Ending) (w' : World) : Prop :=
  e = .returned (.tuple #[.int .i64 (baseV T ne acts), .int .i64 (baseE T ne acts)]) ∧ Below w.heap.size w w'

set_option maxRecDepth 100000 in
set_option maxHeartbeats 3200000 in
theorem base_any (T : Int) (AE AA : Option Addr) (ne ce ca : Nat) (acts : List Act) (w : World) (hA : Rd w w.heap.size 6 AA acts.length (acts.flatMap Act.cells)) (he : ne ≤ 4611686018427387904) (hl : acts.length ≤ 4611686018427387904) :
    Calls Try.prog 27 #[.agg #[.int .i64 T, .slice AE ne ce, .slice AA acts.length ca]] w (BaseOut T ne acts w) := by
  have HA := Lib.hid hA
  clear hA
  go_enter Try.func27, Try.ntmps27
  go_upto_region 1 with fail
  refine world_gen (fun w1 => FeN w w1 w.heap.size #[.int .i64 T, .slice AE ne ce, .slice AA acts.length ca]) ⟨(Below.refl _ _).alloc (Nat.le_refl _) _, Blk.new _ _ _⟩ ?_
  intro w0 hf0
  obtain ⟨X, hX⟩ : ∃ X, X = w.heap.size := ⟨_, rfl⟩
  rw [← hX] at ⊢
  rw [show FeN w w0 w.heap.size = FeN w w0 X by rw [hX]] at hf0
  clear hX
  have HF := Lib.hid hf0
  clear hf0
  have x0 := HF.out.x.cell 0
  have x1 := HF.out.x.cell 1
  have x2 := HF.out.x.cell 2
  simp at x0 x1 x2
  go_wp2_with fail
  refine (netchk_any T AE AA ne ce ca acts w0 ((HA.out.grow HF.out.bel).more HF.out.bel.size) he hl).mono ?_
  rintro e w1 ⟨rfl, hb1⟩
  have HF1 := Lib.hid (HF.out.grow hb1)
  clear x0 x1 x2 hb1 HF
  have HF := HF1
  clear HF1
  cases hn : netB T ne acts
  case false =>
    have HO := Lib.hid (show baseV T ne acts = 0 ∧ baseE T ne acts = 1 by unfold baseV baseE; rw [hn]; exact ⟨rfl, rfl⟩)
    go_wp2_with fail
    go_ret2
    exact ⟨by rw [HO.out.1, HO.out.2]; rfl, HF.out.bel⟩
  have HO := Lib.hid (show baseV T ne acts = sumN (wmT acts) acts.length ∧ baseE T ne acts = 0 by unfold baseV baseE; rw [hn]; exact ⟨rfl, rfl⟩)
  have HN := Lib.hid (netB_iff.1 hn)
  clear hn
  have x0 := HF.out.x.cell 0
  have x1 := HF.out.x.cell 1
  have x2 := HF.out.x.cell 2
  simp at x0 x1 x2
  go_wp2_with fail
  clear x0 x1 x2
  go_loopg [4, 6, 13] acts.length (fun k v4 _ v wr => BsL w X #[.int .i64 T, .slice AE ne ce, .slice AA acts.length ca] acts k v4 v wr)
  case atStart => exact ⟨0, rfl, by omega, rfl, HF.out⟩
  case round =>
    obtain ⟨j, rfl, hj, rfl, hf⟩ := hrel
    clear HF
    have Hj := Lib.hid hj
    have HF := Lib.hid hf
    clear hj hf
    by_cases hlt : j < acts.length
    · obtain ⟨ba, oa, rfl, hba, d0, d1, d2, d3, d4, d5⟩ := rdAct (HA.out.grow HF.out.bel) rfl j hlt
      have b1 := wmN_bd HN.out j (by omega)
      have b2 := wm_bd HN.out j hlt
      have HSu : Hid (sumN (wmT acts) (j + 1) = sumN (wmT acts) j + (ag acts j).wt * (ag acts j).mn) := rfl
      rw [show wmT acts j = (ag acts j).wt * (ag acts j).mn from rfl] at b2
      generalize sumN (wmT acts) j = sv at *
      rw [ag_nat acts j hlt] at HSu b2
      have hba' : ba < wr.heap.size := World.block_lt_of_cell? _ _ d0
      generalize acts[j] = aa at *
      obtain ⟨kd, fr, tt, mn, mx, wt⟩ := aa
      simp only at d0 d1 d2 d3 d4 d5 HSu b2
      obtain ⟨b20, b21⟩ := b2
      go_upto_region 7 with fail
      refine world_gen (fun w6 => FeN w w6 X #[.int .i64 T, .slice AE ne ce, .slice (some ⟨ba, oa, none⟩) acts.length ca] ∧ Blk w6 wr.heap.size 61 #[.int .i64 kd, .int .i64 fr, .int .i64 tt, .int .i64 mn, .int .i64 mx, .int .i64 wt]) ⟨HF.out.grow ((Below.refl _ _).alloc (Nat.le_refl _) _), Blk.new _ _ _⟩ ?_
      rintro w6 ⟨hf6, ha6⟩
      have HF6 := Lib.hid hf6
      have a3 := ha6.cell 3
      have a5 := ha6.cell 5
      simp at a3 a5
      clear hf6 ha6 HF d0 d1 d2 d3 d4 d5
      go_wp2_with fail
      go_roundg (acts.length - j - 1)
      case measure => have := Hj.out; omega
      case rel => exact ⟨j + 1, by first | rfl | go_num, by omega, by rw [HSu.out], HF6.out⟩
    · obtain rfl : j = acts.length := by have := Hj.out; omega
      go_wp2_with fail
      go_ret2
      exact ⟨by rw [HO.out.1, HO.out.2]; rfl, HF.out.bel⟩

set_option maxRecDepth 100000 in
set_option maxHeartbeats 3200000 in
theorem rbase_any (T : Int) (AE AA : Option Addr) (ne ce ca : Nat) (acts : List Act) (w : World) (hA : Rd w w.heap.size 6 AA acts.length (acts.flatMap Act.cells)) (he : ne ≤ 4611686018427387904) (hl : acts.length ≤ 4611686018427387904) :
    Calls Try.prog 20 #[.agg #[.int .i64 T, .slice AE ne ce, .slice AA acts.length ca]] w (BaseOut T ne acts w) := by
  have HA := Lib.hid hA
  clear hA
  go_enter Try.func20, Try.ntmps20
  go_upto_region 1 with fail
  refine world_gen (fun w1 => FeN w w1 w.heap.size #[.int .i64 T, .slice AE ne ce, .slice AA acts.length ca]) ⟨(Below.refl _ _).alloc (Nat.le_refl _) _, Blk.new _ _ _⟩ ?_
  intro w0 hf0
  obtain ⟨X, hX⟩ : ∃ X, X = w.heap.size := ⟨_, rfl⟩
  rw [← hX] at ⊢
  rw [show FeN w w0 w.heap.size = FeN w w0 X by rw [hX]] at hf0
  clear hX
  have HF := Lib.hid hf0
  clear hf0
  have x0 := HF.out.x.cell 0
  have x1 := HF.out.x.cell 1
  have x2 := HF.out.x.cell 2
  simp at x0 x1 x2
  go_wp2_with fail
  refine (rnetchk_any T AE AA ne ce ca acts w0 ((HA.out.grow HF.out.bel).more HF.out.bel.size) he hl).mono ?_
  rintro e w1 ⟨rfl, hb1⟩
  have HF1 := Lib.hid (HF.out.grow hb1)
  clear x0 x1 x2 hb1 HF
  have HF := HF1
  clear HF1
  cases hn : netB T ne acts
  case false =>
    have HO := Lib.hid (show baseV T ne acts = 0 ∧ baseE T ne acts = 1 by unfold baseV baseE; rw [hn]; exact ⟨rfl, rfl⟩)
    go_wp2_with fail
    go_ret2
    exact ⟨by rw [HO.out.1, HO.out.2]; rfl, HF.out.bel⟩
  have HO := Lib.hid (show baseV T ne acts = sumN (wmT acts) acts.length ∧ baseE T ne acts = 0 by unfold baseV baseE; rw [hn]; exact ⟨rfl, rfl⟩)
  have HN := Lib.hid (netB_iff.1 hn)
  clear hn
  go_wp2_with fail
  go_loopg [4, 5] acts.length (fun k v4 v wr => BsL w X #[.int .i64 T, .slice AE ne ce, .slice AA acts.length ca] acts k v4 v wr)
  case atStart => exact ⟨0, rfl, by omega, rfl, HF.out⟩
  case round =>
    obtain ⟨j, rfl, hj, rfl, hf⟩ := hrel
    clear HF
    have Hj := Lib.hid hj
    have HF := Lib.hid hf
    clear hj hf
    have x2 := HF.out.x.cell 2
    simp at x2
    by_cases hlt : j < acts.length
    · obtain ⟨ba, oa, rfl, hba, d0, d1, d2, d3, d4, d5⟩ := rdAct (HA.out.grow HF.out.bel) rfl j hlt
      have b1 := wmN_bd HN.out j (by omega)
      have b2 := wm_bd HN.out j hlt
      have HSu : Hid (sumN (wmT acts) (j + 1) = sumN (wmT acts) j + (ag acts j).wt * (ag acts j).mn) := rfl
      rw [show wmT acts j = (ag acts j).wt * (ag acts j).mn from rfl] at b2
      generalize sumN (wmT acts) j = sv at *
      rw [ag_nat acts j hlt] at HSu b2
      have hba' : ba < wr.heap.size := World.block_lt_of_cell? _ _ d0
      generalize acts[j] = aa at *
      obtain ⟨kd, fr, tt, mn, mx, wt⟩ := aa
      simp only at d0 d1 d2 d3 d4 d5 HSu b2
      obtain ⟨b20, b21⟩ := b2
      have hxl := HF.out.x.lt
      have e1 : IntKind.i64.wrap (wt * mn) = wt * mn := IntWalk.i64_in _ (by omega)
      have e2 : IntKind.i64.wrap (sv + wt * mn) = sv + wt * mn := IntWalk.i64_in _ (by omega)
      go_upto_region 7 with fail
      go_quiet (fail)
      clear e1 e2
      go_wp2_with fail
      go_roundg (acts.length - j - 1)
      case measure => have := Hj.out; omega
      case rel => exact ⟨j + 1, by first | rfl | go_num, by omega, by rw [HSu.out], HF.out.grow (below_drewN (Below.refl _ _) _)⟩
    · obtain rfl : j = acts.length := by have := Hj.out; omega
      go_wp2_with fail
      go_ret2
      exact ⟨by rw [HO.out.1, HO.out.2]; rfl, HF.out.bel⟩

def GofOut (T : Int) (ne : Nat) (acts : List Act) (arcs signs : List Int) (w : World) (e : Ending) (w' : World) : Prop :=
  e = .returned (.tuple #[.int .i64 (gapV T ne acts arcs signs), .int .i64 (gapE T ne acts arcs signs)]) ∧ Below w.heap.size w w'
set_option maxRecDepth 100000 in
set_option maxHeartbeats 3200000 in
theorem gapof_any (T : Int) (AE AA Ar As : Option Addr) (ne ce ca cr cs : Nat) (acts : List Act) (arcs signs : List Int) (w : World) (hN : NCyc w AA Ar As ne acts arcs signs) :
    Calls Try.prog 34 #[.agg #[.int .i64 T, .slice AE ne ce, .slice AA acts.length ca], .agg #[.slice Ar arcs.length cr, .slice As signs.length cs]] w (GofOut T ne acts arcs signs w) := by
  have HN := Lib.hid hN
  clear hN
  have HC0 := Lib.hid (show CBx w ((w.alloc (.cells #[.int .i64 T, .slice AE ne ce, .slice AA acts.length ca] 26)).alloc (.cells #[.slice Ar arcs.length cr, .slice As signs.length cs] 45)) w.heap.size (w.heap.size + 1) #[.int .i64 T, .slice AE ne ce, .slice AA acts.length ca] #[.slice Ar arcs.length cr, .slice As signs.length cs] from
    ⟨(Blk.new _ _ _).al _, by have := Blk.new (w.alloc (.cells #[.int .i64 T, .slice AE ne ce, .slice AA acts.length ca] 26)) 45 #[.slice Ar arcs.length cr, .slice As signs.length cs]; simpa using this, (by repeat (first | exact Below.refl _ _ | (with_reducible refine Below.drew ?_) | (with_reducible refine below_drewN ?_ _) | (with_reducible refine Below.alloc ?_ (by first | omega | (simp; done) | (simp; omega)) _) | (with_reducible refine Below.setCell ?_ (by first | omega | (simp; done) | (simp; omega)) _) | (refine Below.trans ?_ (Below.mono (by with_reducible assumption) (by first | omega | (simp; done) | (simp; omega))))))⟩)
  go_enter Try.func34, Try.ntmps34
  go_upto_region 1 with fail
  refine world_gen (fun w' => CBx w w' w.heap.size (w.heap.size + 1) #[.int .i64 T, .slice AE ne ce, .slice AA acts.length ca] #[.slice Ar arcs.length cr, .slice As signs.length cs]) HC0.out ?_
  intro w0 hc0
  have HC := Lib.hid hc0
  clear hc0 HC0
  obtain ⟨X, hX⟩ : ∃ X, X = w.heap.size := ⟨_, rfl⟩
  obtain ⟨Y, hY⟩ : ∃ Y, Y = w.heap.size + 1 := ⟨_, rfl⟩
  rw [← hY, ← hX] at ⊢
  rw [← hY, ← hX] at HC
  have hXY : w.heap.size ≤ X ∧ w.heap.size ≤ Y ∧ X ≠ Y ∧ Y ≤ w.heap.size + 1 ∧ X < Y := by omega
  obtain ⟨hXw, hYw, hne, hYw1, hXltY⟩ := hXY
  clear hX hY
  have x0 := HC.out.x.cell 0
  have x1 := HC.out.x.cell 1
  have x2 := HC.out.x.cell 2
  have y0 := HC.out.y.cell 0
  have y1 := HC.out.y.cell 1
  simp at x0 x1 x2 y0 y1
  go_wp2_with fail
  refine ((HN.out.grow HC.out.bel).chk T AE ce ca cr cs).mono ?_
  rintro e w1 ⟨rfl, hb1⟩
  have HC1 := Lib.hid (HC.out.grow hb1)
  clear HC hb1 x0 x1 x2 y0 y1
  have HC := HC1
  clear HC1
  cases hk : cycB T ne acts arcs signs
  case false =>
    have HO := Lib.hid (show gapV T ne acts arcs signs = 0 ∧ gapE T ne acts arcs signs = 1 by unfold gapV gapE okW; rw [hk]; exact ⟨rfl, rfl⟩)
    go_wp2_with fail
    go_ret2
    exact ⟨by rw [HO.out.1, HO.out.2]; rfl, HC.out.bel⟩
  have HKB := Lib.hid hk
  clear hk
  have x0 := HC.out.x.cell 0
  have x1 := HC.out.x.cell 1
  have x2 := HC.out.x.cell 2
  have y0 := HC.out.y.cell 0
  have y1 := HC.out.y.cell 1
  simp at x0 x1 x2 y0 y1
  go_wp2_with fail
  refine (gap_any T AE AA Ar As ne ce ca cr cs acts arcs signs _ (HN.out.grow HC.out.bel)).mono ?_
  rintro e w2 ⟨rfl, hb2⟩
  have HC1 := Lib.hid (HC.out.grow hb2)
  clear HC hb2 x0 x1 x2 y0 y1
  have HC := HC1
  clear HC1
  cases hk : okW T ne acts arcs signs
  case false =>
    have HO := Lib.hid (show gapV T ne acts arcs signs = 0 ∧ gapE T ne acts arcs signs = 14 by unfold gapV gapE; rw [hk, HKB.out]; exact ⟨rfl, rfl⟩)
    clear hk
    go_wp2_with fail
    go_ret2
    exact ⟨by rw [HO.out.1, HO.out.2]; rfl, HC.out.bel⟩
  have HO := Lib.hid (show gapE T ne acts arcs signs = 0 by unfold gapE; rw [hk, HKB.out]; rfl)
  clear hk
  go_wp2_with fail
  go_ret2
  exact ⟨by rw [HO.out]; rfl, HC.out.bel⟩
end Go.Proofs.Ytbmbdenjlbelaaa
