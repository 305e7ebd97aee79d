import Derived.Test.YtcgamkldlmmdnaaIne5
import Derived.Test.YtcgamkldlmmdnaaBunM
namespace Go.Proofs.Ytcgamkldlmmdnaa
open Go.RowKit

theorem run_max_keep {P : Program} {w : World} (ts : Array TypeId) (t : TypeId) (k k' : IntKind) (x y : Int) : (Builtin.max_ ts t #[.int k x, .int k' y]).run P w = .ok (.int k (max x y)) w := by
  rw [run_max_int2]; congr 2; split <;> omega
theorem run_min_keep {P : Program} {w : World} (ts : Array TypeId) (t : TypeId) (k k' : IntKind) (x y : Int) : (Builtin.min_ ts t #[.int k x, .int k' y]).run P w = .ok (.int k (min x y)) w := by
  rw [run_min_int2]; congr 2; split <;> omega
attribute [local go_sem ↓] run_max_keep run_min_keep

def WinOut (T : Int) (ne : Nat) (acts : List Act) (arcs signs : List Int) (w : World) (e : Ending) (w' : World) : Prop :=
  e = .returned (.tuple #[.int .i64 (winL T ne acts arcs signs), .int .i64 (winH T ne acts arcs signs), .bool (okW T ne acts arcs signs)]) ∧ Below w.heap.size w w'

set_option maxRecDepth 100000 in
set_option maxHeartbeats 3200000 in
theorem wind_any (T : Int) (AE AA Ar As : Option Addr) (ne ce ca cr cs : Nat) (acts : List Act) (arcs signs : List Int) (w : World) (hN : NCyc w AA Ar As ne acts arcs signs) :
    Calls Try.prog 23 #[.agg #[.int .i64 T, .slice AE ne ce, .slice AA acts.length ca], .agg #[.slice Ar arcs.length cr, .slice As signs.length cs]] w (WinOut T ne acts arcs signs w) := by
  have HN := Lib.hid hN
  clear hN
  have HC0 := Lib.hid (show CBx w ((w.alloc (.cells #[.int .i64 T, .slice AE ne ce, .slice AA acts.length ca] 26)).alloc (.cells #[.slice Ar arcs.length cr, .slice As signs.length cs] 32)) w.heap.size (w.heap.size + 1) #[.int .i64 T, .slice AE ne ce, .slice AA acts.length ca] #[.slice Ar arcs.length cr, .slice As signs.length cs] from
    ⟨(Blk.new _ _ _).al _, by have := Blk.new (w.alloc (.cells #[.int .i64 T, .slice AE ne ce, .slice AA acts.length ca] 26)) 32 #[.slice Ar arcs.length cr, .slice As signs.length cs]; simpa using this, (by repeat (first | exact Below.refl _ _ | (with_reducible refine Below.drew ?_) | (with_reducible refine below_drewN ?_ _) | (with_reducible refine Below.alloc ?_ (by first | omega | (simp; done) | (simp; omega)) _) | (with_reducible refine Below.setCell ?_ (by first | omega | (simp; done) | (simp; omega)) _) | (refine Below.trans ?_ (Below.mono (by with_reducible assumption) (by first | omega | (simp; done) | (simp; omega))))))⟩)
  go_enter Try.func23, Try.ntmps23
  go_upto_region 1 with fail
  refine world_gen (fun w' => CBx w w' w.heap.size (w.heap.size + 1) #[.int .i64 T, .slice AE ne ce, .slice AA acts.length ca] #[.slice Ar arcs.length cr, .slice As signs.length cs]) HC0.out ?_
  intro w0 hc0
  have HC := Lib.hid hc0
  clear hc0 HC0
  obtain ⟨X, hX⟩ : ∃ X, X = w.heap.size := ⟨_, rfl⟩
  obtain ⟨Y, hY⟩ : ∃ Y, Y = w.heap.size + 1 := ⟨_, rfl⟩
  rw [← hY, ← hX] at ⊢
  rw [← hY, ← hX] at HC
  have hXY : w.heap.size ≤ X ∧ w.heap.size ≤ Y ∧ X ≠ Y ∧ Y ≤ w.heap.size + 1 ∧ X < Y := by omega
  obtain ⟨hXw, hYw, hne, hYw1, hXltY⟩ := hXY
  clear hX hY
  have x0 := HC.out.x.cell 0
  have x1 := HC.out.x.cell 1
  have x2 := HC.out.x.cell 2
  have y0 := HC.out.y.cell 0
  have y1 := HC.out.y.cell 1
  simp at x0 x1 x2 y0 y1
  go_wp2_with fail
  refine ((HN.out.grow HC.out.bel).chk T AE ce ca cr cs).mono ?_
  rintro e w1 ⟨rfl, hb1⟩
  have HC1 := Lib.hid (HC.out.grow hb1)
  clear HC hb1 x0 x1 x2 y0 y1
  have HC := HC1
  clear HC1
  cases hk : cycB T ne acts arcs signs
  case false =>
    have HO := Lib.hid (show okW T ne acts arcs signs = false by unfold okW; rw [hk]; rfl)
    go_wp2_with fail
    go_ret3
    exact ⟨by unfold winL winH; rw [HO.out]; rfl, HC.out.bel⟩
  have hk' := cycB_iff.1 hk
  have HK := Lib.hid hk'
  have hbd := hk'.bd
  have ht0 := hk'.net.t0
  have ht1 := hk'.net.t1
  have HKB := Lib.hid hk
  clear hk' hk
  have x0 := HC.out.x.cell 0
  have x1 := HC.out.x.cell 1
  have x2 := HC.out.x.cell 2
  have y0 := HC.out.y.cell 0
  have y1 := HC.out.y.cell 1
  simp at x0 x1 x2 y0 y1
  go_wp2_with fail
  refine (sums_any T AE AA Ar As ne ce ca cr cs acts arcs signs _ (HN.out.grow HC.out.bel) HK.out.sum).mono ?_
  rintro e w2 ⟨rfl, hb2⟩
  have HC1 := Lib.hid (HC.out.grow hb2)
  clear HC hb2 x0 x1 x2 y0 y1
  have HC := HC1
  clear HC1
  rw [show sumN (bsT acts arcs signs) arcs.length = bsS acts arcs signs from rfl, show sumN (fwT acts arcs signs) arcs.length = fwS acts arcs signs from rfl, show sumN (bwT acts arcs signs) arcs.length = bwS acts arcs signs from rfl]
  have Hlo : Hid (loW T acts arcs signs = cdiv (bsS acts arcs signs - bwS acts arcs signs) T) := rfl
  have Hhi : Hid (hiW T acts arcs signs = (bsS acts arcs signs + fwS acts arcs signs) / T) := rfl
  generalize bsS acts arcs signs = vb at *
  generalize fwS acts arcs signs = vf at *
  generalize bwS acts arcs signs = vw at *
  obtain ⟨hb0, hb1, hf0, hf1, hw0, hw1⟩ := hbd
  have x0 := HC.out.x.cell 0
  have x1 := HC.out.x.cell 1
  have x2 := HC.out.x.cell 2
  have y0 := HC.out.y.cell 0
  have y1 := HC.out.y.cell 1
  simp at x0 x1 x2 y0 y1
  by_cases hle : cdiv (vb - vw) T ≤ (vb + vf) / T
  · have HO := Lib.hid (show okW T ne acts arcs signs = true by unfold okW; rw [HKB.out, Hlo.out, Hhi.out]; simpa using hle)
    have hle' : decide ((vb + vf) / T < cdiv (vb - vw) T) = false := by simpa using hle
    go_wp2_with (first | (go_at_call 42; refine (ceil_any _ _ _ (by omega) (by omega) (by omega)).mono ?_; rintro e w' ⟨rfl, rfl⟩) | (go_at_call 43; refine (floor_any _ _ _ (by omega) (by omega) (by omega)).mono ?_; rintro e w' ⟨rfl, rfl⟩))
    go_ret3
    exact ⟨by unfold winL winH; rw [HO.out, if_pos rfl, if_pos rfl, Hlo.out, Hhi.out]; rfl, HC.out.bel⟩
  · have HO := Lib.hid (show okW T ne acts arcs signs = false by unfold okW; rw [HKB.out, Hlo.out, Hhi.out]; simpa using hle)
    have hle' : decide ((vb + vf) / T < cdiv (vb - vw) T) = true := by simpa using hle
    go_wp2_with (first | (go_at_call 42; refine (ceil_any _ _ _ (by omega) (by omega) (by omega)).mono ?_; rintro e w' ⟨rfl, rfl⟩) | (go_at_call 43; refine (floor_any _ _ _ (by omega) (by omega) (by omega)).mono ?_; rintro e w' ⟨rfl, rfl⟩))
    go_ret3
    exact ⟨by unfold winL winH; rw [HO.out]; rfl, HC.out.bel⟩

set_option maxHeartbeats 400000 in
theorem dist_any (a b : Int) (w : World) (h0 : -4000000000000000000 ≤ a) (h1 : a ≤ 4000000000000000000) (h2 : -4000000000000000000 ≤ b) (h3 : b ≤ 4000000000000000000) : Calls Try.prog 46 #[.int .i64 a, .int .i64 b] w fun e w' => e = .returned (.int .i64 (dst a b)) ∧ w = w' := by
  go_enter Try.func46, Try.ntmps46
  go_wp2
  go_ret
  exact ⟨rfl, rfl⟩

theorem clamp_bd (x lo hi C : Int) (h0 : -C ≤ lo) (h2 : -C ≤ hi) (h3 : hi ≤ C) : -C ≤ clampI x lo hi ∧ clampI x lo hi ≤ C := by unfold clampI; omega
def GapOut (T : Int) (ne : Nat) (acts : List Act) (arcs signs : List Int) (w : World) (e : Ending) (w' : World) : Prop :=
  e = .returned (.tuple #[.int .i64 (gapV T ne acts arcs signs), .bool (okW T ne acts arcs signs)]) ∧ Below w.heap.size w w'

set_option maxRecDepth 100000 in
set_option maxHeartbeats 3200000 in
theorem gap_any (T : Int) (AE AA Ar As : Option Addr) (ne ce ca cr cs : Nat) (acts : List Act) (arcs signs : List Int) (w : World) (hN : NCyc w AA Ar As ne acts arcs signs) :
    Calls Try.prog 27 #[.agg #[.int .i64 T, .slice AE ne ce, .slice AA acts.length ca], .agg #[.slice Ar arcs.length cr, .slice As signs.length cs]] w (GapOut T ne acts arcs signs w) := by
  have HN := Lib.hid hN
  clear hN
  have HC0 := Lib.hid (show CBx w ((w.alloc (.cells #[.int .i64 T, .slice AE ne ce, .slice AA acts.length ca] 26)).alloc (.cells #[.slice Ar arcs.length cr, .slice As signs.length cs] 32)) w.heap.size (w.heap.size + 1) #[.int .i64 T, .slice AE ne ce, .slice AA acts.length ca] #[.slice Ar arcs.length cr, .slice As signs.length cs] from
    ⟨(Blk.new _ _ _).al _, by have := Blk.new (w.alloc (.cells #[.int .i64 T, .slice AE ne ce, .slice AA acts.length ca] 26)) 32 #[.slice Ar arcs.length cr, .slice As signs.length cs]; simpa using this, (by repeat (first | exact Below.refl _ _ | (with_reducible refine Below.drew ?_) | (with_reducible refine below_drewN ?_ _) | (with_reducible refine Below.alloc ?_ (by first | omega | (simp; done) | (simp; omega)) _) | (with_reducible refine Below.setCell ?_ (by first | omega | (simp; done) | (simp; omega)) _) | (refine Below.trans ?_ (Below.mono (by with_reducible assumption) (by first | omega | (simp; done) | (simp; omega))))))⟩)
  go_enter Try.func27, Try.ntmps27
  go_upto_region 1 with fail
  refine world_gen (fun w' => CBx w w' w.heap.size (w.heap.size + 1) #[.int .i64 T, .slice AE ne ce, .slice AA acts.length ca] #[.slice Ar arcs.length cr, .slice As signs.length cs]) HC0.out ?_
  intro w0 hc0
  have HC := Lib.hid hc0
  clear hc0 HC0
  obtain ⟨X, hX⟩ : ∃ X, X = w.heap.size := ⟨_, rfl⟩
  obtain ⟨Y, hY⟩ : ∃ Y, Y = w.heap.size + 1 := ⟨_, rfl⟩
  rw [← hY, ← hX] at ⊢
  rw [← hY, ← hX] at HC
  have hXY : w.heap.size ≤ X ∧ w.heap.size ≤ Y ∧ X ≠ Y ∧ Y ≤ w.heap.size + 1 ∧ X < Y := by omega
  obtain ⟨hXw, hYw, hne, hYw1, hXltY⟩ := hXY
  clear hX hY
  have x0 := HC.out.x.cell 0
  have x1 := HC.out.x.cell 1
  have x2 := HC.out.x.cell 2
  have y0 := HC.out.y.cell 0
  have y1 := HC.out.y.cell 1
  simp at x0 x1 x2 y0 y1
  go_wp2_with fail
  refine (wind_any T AE AA Ar As ne ce ca cr cs acts arcs signs _ (HN.out.grow HC.out.bel)).mono ?_
  rintro e w1 ⟨rfl, hb1⟩
  have HC1 := Lib.hid (HC.out.grow hb1)
  clear HC hb1 x0 x1 x2 y0 y1
  have HC := HC1
  clear HC1
  cases hk : okW T ne acts arcs signs
  case false =>
    have HO := Lib.hid hk
    clear hk
    go_wp2_with fail
    go_ret2
    exact ⟨by unfold gapV; rw [HO.out]; rfl, HC.out.bel⟩
  have HO := Lib.hid hk
  have hk1 : cycB T ne acts arcs signs = true := by unfold okW at hk; simp at hk; exact hk.1
  have hk' := cycB_iff.1 hk1
  have HK := Lib.hid hk'
  have hbd := hk'.bd
  have hlh := hk'.lohi
  have ht0 := hk'.net.t0
  have ht1 := hk'.net.t1
  have HL := Lib.hid (show winL T ne acts arcs signs = loW T acts arcs signs ∧ winH T ne acts arcs signs = hiW T acts arcs signs by unfold winL winH; rw [hk, if_pos rfl, if_pos rfl]; exact ⟨rfl, rfl⟩)
  clear hk hk1 hk'
  rw [HL.out.1, HL.out.2]
  have x0 := HC.out.x.cell 0
  have x1 := HC.out.x.cell 1
  have x2 := HC.out.x.cell 2
  have y0 := HC.out.y.cell 0
  have y1 := HC.out.y.cell 1
  simp at x0 x1 x2 y0 y1
  go_wp2_with fail
  refine (sums_any T AE AA Ar As ne ce ca cr cs acts arcs signs _ (HN.out.grow HC.out.bel) HK.out.sum).mono ?_
  rintro e w2 ⟨rfl, hb2⟩
  have HC1 := Lib.hid (HC.out.grow hb2)
  clear HC hb2 x0 x1 x2 y0 y1
  have HC := HC1
  clear HC1
  rw [show sumN (bsT acts arcs signs) arcs.length = bsS acts arcs signs from rfl, show sumN (fwT acts arcs signs) arcs.length = fwS acts arcs signs from rfl, show sumN (bwT acts arcs signs) arcs.length = bwS acts arcs signs from rfl]
  have HG := Lib.hid (show gapV T ne acts arcs signs = gapF T (bsS acts arcs signs) (loW T acts arcs signs) (hiW T acts arcs signs) by unfold gapV; rw [HO.out, if_pos rfl])
  generalize bsS acts arcs signs = vb at *
  generalize fwS acts arcs signs = vf at *
  generalize bwS acts arcs signs = vw at *
  generalize loW T acts arcs signs = lo at *
  generalize hiW T acts arcs signs = hi at *
  obtain ⟨hb0, hb1, hf0, hf1, hw0, hw1⟩ := hbd
  obtain ⟨hl0, hl1, hh0, hh1⟩ := hlh
  have hq := ediv_bd vb T (by omega) 200000000 (by omega) (by omega)
  have hc1 := clamp_bd (vb / T) lo hi 200000000 hl0 hh0 hh1
  have hc2 := clamp_bd (vb / T + 1) lo hi 200000000 hl0 hh0 hh1
  have hm1 := mul_bd (clampI (vb / T) lo hi) T 200000000 (by omega) ht1 (by omega) hc1.1 hc1.2
  have hm2 := mul_bd (clampI (vb / T + 1) lo hi) T 200000000 (by omega) ht1 (by omega) hc2.1 hc2.2
  obtain ⟨hq0, hq1⟩ := hq
  have x0 := HC.out.x.cell 0
  have x1 := HC.out.x.cell 1
  have x2 := HC.out.x.cell 2
  have y0 := HC.out.y.cell 0
  have y1 := HC.out.y.cell 1
  simp at x0 x1 x2 y0 y1
  have hxl := HC.out.x.lt
  go_upto_region 8 with (first | (go_at_call 42; refine (ceil_any _ _ _ (by omega) (by omega) (by omega)).mono ?_; rintro e w' ⟨rfl, rfl⟩) | (go_at_call 43; refine (floor_any _ _ _ (by omega) (by omega) (by omega)).mono ?_; rintro e w' ⟨rfl, rfl⟩))
  rw [show min (max (vb / T) lo) hi = clampI (vb / T) lo hi from rfl, show min (max (vb / T + 1) lo) hi = clampI (vb / T + 1) lo hi from rfl]
  have HGF : Hid (gapF T vb lo hi = min (dst (clampI (vb / T) lo hi * T) vb) (dst (clampI (vb / T + 1) lo hi * T) vb)) := rfl
  generalize clampI (vb / T) lo hi = c1 at *
  generalize clampI (vb / T + 1) lo hi = c2 at *
  have e1 : IntKind.i64.wrap (c1 * T) = c1 * T := IntWalk.i64_in _ (by omega)
  have e2 : IntKind.i64.wrap (c2 * T) = c2 * T := IntWalk.i64_in _ (by omega)
  go_quiet ((go_at_call 46; exact Calls.quiet_of_same ((dist_any _ _ _ (by omega) (by omega) (by omega) (by omega)).mono fun _ _ h => ⟨h.1, h.2.symm⟩)))
  clear e1 e2
  go_wp2_with fail
  go_ret2
  exact ⟨by rw [HO.out, HG.out, HGF.out]; rfl, (by have hbelh := HC.out.bel; have hbels := hbelh.size; exact (by repeat (first | exact Below.refl _ _ | (with_reducible refine Below.drew ?_) | (with_reducible refine below_drewN ?_ _) | (with_reducible refine Below.alloc ?_ (by first | omega | (simp; done) | (simp; omega)) _) | (with_reducible refine Below.setCell ?_ (by first | omega | (simp; done) | (simp; omega)) _) | (refine Below.trans ?_ (Below.mono (by with_reducible assumption) (by first | omega | (simp; done) | (simp; omega)))))))⟩
end Go.Proofs.Ytcgamkldlmmdnaa
