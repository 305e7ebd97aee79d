import Derived.Test.YthmnalaeckfaaaaMp7
namespace Go.Proofs.Ythmnalaeckfaaaa
open Go.RowKit
set_option maxRecDepth 100000 in
set_option maxHeartbeats 1600000 in
theorem rpower_any (A : Option Addr) (ca : Nat) (ra : List Row) (k : Int) (w : World) (ha : MRd w A ra) :
    Calls Try.prog 32 #[.slice A ra.length ca, .int .i64 k] w (MatE (powV (matR ra) k) (powE (matR ra) k) w) := by
  have HA := Lib.hid ha
  clear ha
  cases h1 : chkM (matR ra)
  · have HE := Lib.hid (show powE (matR ra) k = 1 by unfold powE; rw [if_neg (by simp [h1])])
    have HV := Lib.hid (show powV (matR ra) k = [] by unfold powV; rw [HE.out]; rfl)
    go_enter Try.func32, Try.ntmps32
    go_wp2_with fail
    refine (rcheck_any A ca ra w HA.out).mono ?_
    rintro e w1 ⟨rfl, rfl⟩
    rw [h1]
    clear h1
    go_wp2_with fail
    go_ret2
    exact MatE.err HV.out HE.out.symm (Below.refl _ _)
  have H1 := Lib.hid h1
  clear h1
  by_cases hk : 0 ≤ k ∧ k ≤ 3600
  case neg =>
    have HE := Lib.hid (show powE (matR ra) k = 4 by unfold powE; rw [if_pos H1.out, if_neg hk])
    have HV := Lib.hid (show powV (matR ra) k = [] by unfold powV; rw [HE.out]; rfl)
    by_cases hk0 : k < 0
    · have hk0' : decide (k < 0) = true := by simpa using hk0
      clear hk
      go_enter Try.func32, Try.ntmps32
      go_wp2_with fail
      refine (rcheck_any A ca ra w HA.out).mono ?_
      rintro e w1 ⟨rfl, rfl⟩
      rw [H1.out]
      go_wp2_with fail
      go_ret2
      exact MatE.err HV.out HE.out.symm (Below.refl _ _)
    · have hk0' : decide (k < 0) = false := by simpa using hk0
      have hk1' : decide (3600 < k) = true := by simp; omega
      clear hk
      go_enter Try.func32, Try.ntmps32
      go_wp2_with fail
      refine (rcheck_any A ca ra w HA.out).mono ?_
      rintro e w1 ⟨rfl, rfl⟩
      rw [H1.out]
      go_wp2_with fail
      go_ret2
      exact MatE.err HV.out HE.out.symm (Below.refl _ _)
  obtain ⟨K, rfl⟩ := Int.eq_ofNat_of_zero_le hk.1
  have hK : K ≤ 3600 := by omega
  have hkk := hk
  clear hk
  have hk0' : decide ((K : Int) < 0) = false := by simp
  have hk1' : decide (3600 < (K : Int)) = false := by simp; omega
  have HEy := Lib.hid (show powOk ra.length (matR ra) K = true → powE (matR ra) K = 0 ∧ powV (matR ra) K = powM ra.length (matR ra) K from fun h => by
    have he : powE (matR ra) K = 0 := by unfold powE; rw [if_pos H1.out, if_pos hkk, matR_len, Int.toNat_natCast, if_pos h]
    exact ⟨he, by unfold powV; rw [if_pos he, matR_len, Int.toNat_natCast]⟩)
  have HEn := Lib.hid (show powOk ra.length (matR ra) K = false → powE (matR ra) K = 8 ∧ powV (matR ra) K = [] from fun h => by
    have he : powE (matR ra) K = 8 := by unfold powE; rw [if_pos H1.out, if_pos hkk, matR_len, Int.toNat_natCast, if_neg (by simp [h])]
    exact ⟨he, by unfold powV; rw [he]; rfl⟩)
  clear hkk
  obtain ⟨hn1, hn2⟩ := chk_n H1.out
  go_enter Try.func32, Try.ntmps32
  go_wp2_with fail
  refine (rcheck_any A ca ra w HA.out).mono ?_
  rintro e w1 ⟨rfl, rfl⟩
  rw [H1.out]
  go_wp2_with fail
  refine (unit_any ra.length w ⟨hn1, hn2⟩).mono ?_
  rintro e w1 ⟨A1, c1, rows, rfl, hm, ho, hb⟩
  have HP0 := Lib.hid (show PWr w ra.length (matR ra) K K (.slice A1 rows.length c1) (.int .i64 K) w1 from ⟨0, A1, c1, rows, rfl, by omega, rfl, by rw [← matR_len, hm, id_len], rfl, hm, ho, hb⟩)
  clear hm ho hb
  go_wp2_with fail
  go_loopg [1, 6, 7, 8] K (fun k v v6 _ _ wr => PWr w ra.length (matR ra) K k v6 v wr)
  case atStart => exact HP0.out
  case round =>
    clear HP0
    obtain ⟨j, A6, c6, rows, rfl, hj, rfl, hrl, hok, hm, ho, hbl⟩ := hrel
    have Hj := Lib.hid hj
    have Hrl := Lib.hid hrl
    have Hok := Lib.hid hok
    have Hm := Lib.hid hm
    have HO := Lib.hid ho
    have HBl := Lib.hid hbl
    have hws := hbl.size
    clear hj hrl hok hm ho hbl
    by_cases hlt : j < K
    · have HC := Lib.hid (powOk_chk ⟨hn1, hn2⟩ Hok.out)
      have HCr := Lib.hid (show chkM (matR rows) = true by rw [Hm.out]; exact HC.out)
      have hk0 : (0 : Nat) < gk := by have := Hj.out; omega
      have hk0i : (0 : Int) < (gk : Int) := by omega
      have hkK : gk ≤ 3600 := by have := Hj.out; omega
      have HEm := Lib.hid (show mulE (matR rows) (matR ra) = if chkM (powM ra.length (matR ra) (j + 1)) = true then 0 else 8 by
        unfold mulE
        rw [if_pos ⟨HCr.out, H1.out, by rw [matR_len, matR_len]; exact Hrl.out⟩, matR_len, Hrl.out, Hm.out]
        rfl)
      go_wp2_with fail
      refine (rmul_any A6 A c6 ca rows ra wr HO.out.rd (HA.out.grow HBl.out)).mono ?_
      rintro e w2 ⟨A2, c2, rows2, rfl, hm2, ho2, hb2⟩
      have HM2 := Lib.hid hm2
      have HO2 := Lib.hid (ho2.base hws)
      have HB2 := Lib.hid (HBl.out.trans (hb2.mono hws))
      clear hm2 ho2 hb2 HO
      cases h2 : chkM (powM ra.length (matR ra) (j + 1))
      · rw [h2] at HEm
        have hem : mulE (matR rows) (matR ra) = 8 := HEm.out
        have hno := HEn.out (powOk_no h2 hlt)
        have HE := Lib.hid hno.1
        have HV := Lib.hid hno.2
        rw [hem]
        clear h2 hno HEm hem HM2
        go_wp2_with fail
        go_ret2
        exact MatE.err HV.out HE.out.symm HB2.out
      · rw [h2] at HEm
        have hem : mulE (matR rows) (matR ra) = 0 := HEm.out
        have HM3 := Lib.hid (show matR rows2 = powM ra.length (matR ra) (j + 1) by
          rw [HM2.out]
          unfold mulV
          rw [if_pos hem, matR_len, Hrl.out, Hm.out]
          rfl)
        have HR2 := Lib.hid (show rows2.length = ra.length by rw [← matR_len, HM3.out]; exact (pow_sq _ _ _).1)
        have HS := Lib.hid (powOk_succ Hok.out h2)
        rw [hem]
        clear h2 HEm hem HM2
        go_wp2_with fail
        go_roundg (gk - 1)
        case measure => omega
        case rel => exact ⟨j + 1, A2, c2, rows2, by first | rfl | go_num, by have := Hj.out; omega, rfl, HR2.out, HS.out, HM3.out, HO2.out, HB2.out⟩
    · obtain rfl : j = K := by have := Hj.out; omega
      obtain rfl : gk = 0 := by have := Hj.out; omega
      have hy := HEy.out Hok.out
      have HE := Lib.hid hy.1
      have HV := Lib.hid hy.2
      clear hy
      go_wp2_with fail
      go_ret2
      exact ⟨A6, c6, rows, by rw [HE.out]; rfl, by rw [HV.out]; exact Hm.out, HO.out, HBl.out⟩

def appL (n : Nat) (a : List (List Int)) (x : List Int) : List Int := (List.range n).map fun i => mx (fun k => plusF (gm a i k) (x.getD k 0)) n
def appE (a : List (List Int)) (x : List Int) : Int := if chkM a = true ∧ vecB a.length x = true then (if vecB a.length (appL a.length a x) = true then 0 else 8) else 1
def appV (a : List (List Int)) (x : List Int) : List Int := if appE a x = 0 then appL a.length a x else []
/-- what a function gives that makes a vector, or an error -/
def VecE (p : List Int) (er : Int) (w : World) (e : Ending) (w' : World) : Prop :=
  ∃ (x : Row), e = .returned (.tuple #[x.val, .int .i64 er]) ∧ x.zs = p ∧ RowOwn w' w.heap.size x ∧ Below w.heap.size w w'
theorem VecE.err {p : List Int} {er er' : Int} {w w' : World} (hp : p = []) (he : er' = er) (hb : Below w.heap.size w w') : VecE p er w (.returned (.tuple #[.slice none 0 0, .int .i64 er'])) w' := by
  subst hp he
  exact ⟨⟨none, 0, []⟩, rfl, rfl, ⟨World.ownsRow_nil _ _ _ _, by simp⟩, hb⟩
theorem vec_bd {n : Int} {x : List Int} (h : vecB n x = true) (k : Nat) (hk : k < x.length) : x[k] = -1125899906842624 ∨ (-68719476736 ≤ x[k] ∧ x[k] ≤ 68719476736) := fitB_iff.1 ((vecB_iff.1 h).2.2 x[k] (List.getElem_mem hk))
end Go.Proofs.Ythmnalaeckfaaaa
