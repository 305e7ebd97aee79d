import Derived.Test.YthmnalaeckfaaaaMp17
namespace Go.Proofs.Ythmnalaeckfaaaa
open Go.RowKit
attribute [local go_sem ↓] run_max_keep
/-- Mean -/
def meanG (s : Gr) : Int × Int × Bool := if s.den = 0 then (0, 0, false) else (s.num.tdiv (Nat.gcd s.num.natAbs s.den.toNat), s.den.tdiv (Nat.gcd s.num.natAbs s.den.toNat), true)
def meanF (a : List (List Int)) : Int × Int × Bool := if chkM a = true then meanG (grAll a.length a a.length) else (0, 0, false)
def MeanOut (r : Int × Int × Bool) (w : World) (e : Ending) (w' : World) : Prop := e = .returned (.tuple #[.int .i64 r.1, .int .i64 r.2.1, .bool r.2.2]) ∧ Below w.heap.size w w'
theorem abs_max (x : Int) : max x (-x) = ((x.natAbs : Nat) : Int) := by omega
set_option maxRecDepth 100000 in
set_option maxHeartbeats 3200000 in
theorem mean_any (A : Option Addr) (ca : Nat) (ra : List Row) (w : World) (ha : MRd w A ra) :
    Calls Try.prog 16 #[.slice A ra.length ca] w (MeanOut (meanF (matR ra)) w) := by
  have HA := Lib.hid ha
  clear ha
  cases h1 : chkM (matR ra)
  · have HF := Lib.hid (show meanF (matR ra) = (0, 0, false) by unfold meanF; rw [if_neg (by simp [h1])])
    go_enter Try.func16, Try.ntmps16
    go_wp2_with fail
    refine (check_any A ca ra w HA.out).mono ?_
    rintro e w1 ⟨rfl, rfl⟩
    rw [h1]
    clear h1
    go_wp2_with fail
    go_ret3
    exact ⟨by rw [HF.out]; rfl, Below.refl _ _⟩
  have H1 := Lib.hid h1
  have HF := Lib.hid (show meanF (matR ra) = meanG (grAll ra.length (matR ra) ra.length) by unfold meanF; rw [if_pos h1, matR_len])
  have HOk := Lib.hid (grAll_ok (Go.Proofs.Ythmnalaeckfaaaa.chk_bd h1) ra.length (chk_n h1).2)
  clear h1
  go_enter Try.func16, Try.ntmps16
  go_wp2_with fail
  refine (check_any A ca ra w HA.out).mono ?_
  rintro e w1 ⟨rfl, rfl⟩
  rw [H1.out]
  go_wp2_with fail
  refine (greatest_any A ra.length ca ra w HA.out H1.out rfl).mono ?_
  rintro e w2 ⟨G, rfl, ho, hb2⟩
  have HB2 := Lib.hid hb2
  have hz2 := hb2.size
  clear ho hb2
  generalize grAll ra.length (matR ra) ra.length = s at *
  obtain ⟨num, den, nodes⟩ := s
  obtain ⟨hn0, hn1, hd0, hd1, _⟩ := HOk.out
  simp only at hn0 hn1 hd0 hd1
  obtain ⟨d, rfl⟩ := Int.eq_ofNat_of_zero_le hd0
  go_upto_region 4 with fail
  refine world_gen (fun w3 => Below w.heap.size w w3 ∧ Blk w3 w2.heap.size 58 #[.int .i64 num, .int .i64 (d : Int), .slice (some ⟨G, 0, none⟩) ra.length ra.length]) ⟨HB2.out.alloc hz2 _, Blk.new _ _ _⟩ ?_
  rintro w3 ⟨hb3, hx3⟩
  have HB3 := Lib.hid hb3
  have x0 := hx3.cell 0
  have x1 := hx3.cell 1
  simp at x0 x1
  have HX3 := Lib.hid hx3
  clear hb3 hx3
  generalize w2.heap.size = X at *
  by_cases hd : d = 0
  · subst hd
    have HR := Lib.hid (show meanF (matR ra) = (0, 0, false) by rw [HF.out]; unfold meanG; rw [if_pos (show (⟨num, ((0 : Nat) : Int), nodes⟩ : Gr).den = 0 from rfl)])
    go_wp2_with fail
    go_ret3
    exact ⟨by rw [HR.out]; rfl, HB3.out⟩
  have hdi : ((d : Int) == 0) = false := by simp; omega
  have hdn : (d == 0) = false := by simpa using hd
  have HR := Lib.hid (show meanF (matR ra) = (num.tdiv (Nat.gcd num.natAbs d), (d : Int).tdiv (Nat.gcd num.natAbs d), true) by rw [HF.out]; unfold meanG; rw [if_neg (by simp only; omega)]; simp)
  have hgp : 0 < Nat.gcd num.natAbs d := Nat.gcd_pos_of_pos_right _ (by omega)
  have hna : num.natAbs ≤ 824633720832 := by omega
  have hgl : Nat.gcd num.natAbs d ≤ d := Nat.gcd_le_right _ (by omega)
  go_wp2_with fail
  rw [abs_max]
  refine (gcd_any num.natAbs d w3 (by omega) (by omega)).mono ?_
  rintro e w4 ⟨rfl, hb4⟩
  have HB4 := Lib.hid (HB3.out.trans (hb4.mono HB3.out.size))
  have hx4 := HX3.out.bel hb4
  have x0' := hx4.cell 0
  have x1' := hx4.cell 1
  simp at x0' x1'
  clear hb4 x0 x1 hx4
  generalize Nat.gcd num.natAbs d = g at *
  have hg0 : ¬ (g : Int) = 0 := by omega
  have Hwr := Lib.hid (show wrap64 ((d : Int) / (g : Int)) = (d : Int).tdiv g by
    have h1 : (d : Int).tdiv g = (d : Int) / g := Int.tdiv_eq_ediv_of_nonneg (by omega)
    have h2 : ((d : Int) / (g : Int)) = ((d / g : Nat) : Int) := by simp
    have h3 := Nat.div_le_self d g
    rw [h1, h2]
    clear h1 h2
    generalize d / g = q at h3 ⊢
    exact IntWalk.wrap64_in _ ⟨by omega, by omega⟩)
  have hg1 : ((g : Int) == 0) = false := by simp; omega
  go_upto_region 7 with fail
  go_quiet (fail)
  go_wp2_with fail
  go_ret3
  exact ⟨by rw [HR.out, ← Hwr.out]; rfl, by first | exact below_drewN HB4.out _ | exact HB4.out⟩
end Go.Proofs.Ythmnalaeckfaaaa
