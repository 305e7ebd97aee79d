import Derived.Test.YthmnalaeckfaaaaMx3
import Derived.Test.YthmnalaeckfaaaaMp29
import Derived.Test.YthmnalaeckfaaaaMp24
namespace Go.Proofs.Ythmnalaeckfaaaa
open Go.RowKit
theorem chk_big {rows : List Row} (h : 12 < rows.length) : chkM (matR rows) = false := chk_no1 (by omega)
theorem mrd_nil (w : World) : MRd w none [] := ⟨⟨by simp, fun h => absurd h (by simp)⟩, fun x hx => by simp at hx, by simp⟩
theorem sq_never {n : Nat} {rows : List Row} (h : SqM n [] rows) (hl : rows.length = n) (hn : 1 ≤ n ∧ n ≤ 12) : chkM (matR rows) = true := by
  refine chkM_iff.2 ⟨by rw [matR_len, hl]; exact hn, fun r hr => ?_⟩
  obtain ⟨x, hx, rfl⟩ := List.mem_map.1 hr
  rw [matR_len, hl]
  refine vecB_iff.2 ⟨by omega, by rw [(h x hx).1], fun e he => fitB_iff.2 (.inl ?_)⟩
  rcases (h x hx).2 e he with h1 | h1
  · exact h1
  · simp at h1
set_option maxRecDepth 100000 in
set_option maxHeartbeats 6400000 in
theorem empty_true (a0 : Int) (w : World) (_w0 : (Lit.int .i64 a0).wf = true) :
    Calls Try.prog 12 #[.int .i64 a0] w fun e w' => e = .returned (.bool true) ∧ Below w.heap.size w w' := by
  go_enter Try.func12, Try.ntmps12
  go_wp2_with fail
  refine (pick_any a0 3 w (by omega) (by omega)).mono ?_
  rintro e w1 ⟨rfl, rfl⟩
  have hp := pick_bd a0 3 (by omega) (by omega)
  obtain ⟨k, hk⟩ := Int.eq_ofNat_of_zero_le (show 0 ≤ 13 + pick a0 3 by omega)
  have hkb : 13 ≤ k ∧ k ≤ 15 := by omega
  obtain ⟨hk1, hk2⟩ := hkb
  generalize pick a0 3 = p0 at *
  obtain rfl : p0 = (k : Int) - 13 := by omega
  have hn3 : (13 + ((k : Int) - 13)) = k := by omega
  have hnil : ∀ W : World, Rd W W.heap.size 1 none 0 (([] : List Int).map (Value.int .i64)) := fun W => ⟨by simp, fun h => absurd h (by omega)⟩
  have Hnil := Lib.hid hnil
  clear hp hk hnil
  go_wp2_with fail
  try rw [hn3]
  clear hn3
  refine (square_any k none 0 0 [] w ⟨by omega, hk2⟩ (Hnil.out _) (Nat.zero_le _)).mono ?_
  rintro e w2 ⟨A, ca, ra, rfl, hl, _, ho, hb2⟩
  rw [← hl]
  have HA := Lib.hid ho.rdn
  have HB := Lib.hid hb2
  have HC := Lib.hid (chk_big (rows := ra) (by omega))
  have HC0 : Hid (chkM (matR ([] : List Row)) = false) := by show _ = _; rfl
  have HP0 := Lib.hid (show powE (matR ([] : List Row)) 0 = 1 by unfold powE; rw [if_neg (by rw [HC0.out]; simp)])
  have HP := Lib.hid (show powE (matR ra) 0 = 1 by unfold powE; rw [if_neg (by rw [HC.out]; simp)])
  have HS := Lib.hid (show starE (matR ra) = 1 by unfold starE; rw [if_neg (by rw [HC.out]; simp)])
  have HM := Lib.hid (show meanF (matR ra) = (0, 0, false) by unfold meanF; rw [if_neg (by rw [HC.out]; simp)])
  have HCr := Lib.hid (show critF (matR ra) = [] by unfold critF; rw [if_neg (by rw [HC.out]; simp)])
  clear hl ho hb2
  go_wp2_with fail
  refine (power_any none 0 [] 0 _ (mrd_nil _)).mono ?_
  rintro e w3 ⟨A3, c3, r3, rfl, _, _, hb⟩
  have HB := Lib.hid (HB.out.trans (hb.mono HB.out.size))
  have HA := Lib.hid (HA.out.grow hb)
  clear hb
  rw [HP0.out]
  go_wp2_with fail
  refine (power_any A ca ra 0 _ HA.out).mono ?_
  rintro e w4 ⟨A4, c4, r4, rfl, _, _, hb⟩
  have HB := Lib.hid (HB.out.trans (hb.mono HB.out.size))
  have HA := Lib.hid (HA.out.grow hb)
  clear hb
  rw [HP.out]
  go_wp2_with fail
  refine (star_any A ca ra _ HA.out).mono ?_
  rintro e w5 ⟨A5, c5, r5, rfl, _, _, hb⟩
  have HB := Lib.hid (HB.out.trans (hb.mono HB.out.size))
  have HA := Lib.hid (HA.out.grow hb)
  clear hb
  rw [HS.out]
  go_wp2_with fail
  refine (mean_any A ca ra _ HA.out).mono ?_
  rintro e w6 ⟨rfl, hb⟩
  have HB := Lib.hid (HB.out.trans (hb.mono HB.out.size))
  have HA := Lib.hid (HA.out.grow hb)
  clear hb
  rw [HM.out]
  go_wp2_with fail
  refine (example_any _).mono ?_
  rintro e w7 ⟨A7, c7, r7, rfl, hm7, ho7, hb⟩
  have R7 := Lib.hid ho7.rd
  have M7 := Lib.hid hm7
  have HB := Lib.hid (HB.out.trans (hb.mono HB.out.size))
  have HA := Lib.hid (HA.out.grow hb)
  clear hb
  clear hm7 ho7
  go_wp2_with fail
  refine (square_any 3 none 0 0 [] _ ⟨by omega, by omega⟩ (Hnil.out _) (Nat.zero_le _)).mono ?_
  rintro e w8 ⟨A8, c8, r8, rfl, hl8, _, ho8, hb⟩
  have R7 := Lib.hid (R7.out.grow hb)
  have HB := Lib.hid (HB.out.trans (hb.mono HB.out.size))
  have HA := Lib.hid (HA.out.grow hb)
  clear hb
  have R8 := Lib.hid ho8.rdn
  have HX := Lib.hid (show mulE (matR r7) (matR r8) = 1 by
    unfold mulE
    rw [if_neg]
    rintro ⟨_, _, h⟩
    rw [M7.out, matR_len, hl8] at h
    simp at h)
  clear ho8
  rw [← hl8]
  clear hl8
  go_wp2_with fail
  refine (mul_any A7 A8 c7 c8 r7 r8 _ R7.out R8.out).mono ?_
  rintro e w9 ⟨A9, c9, r9, rfl, _, _, hb⟩
  have HB := Lib.hid (HB.out.trans (hb.mono HB.out.size))
  have HA := Lib.hid (HA.out.grow hb)
  clear hb
  rw [HX.out]
  go_wp2_with fail
  refine (awake_any _).mono ?_
  rintro e w10 ⟨rfl, hb⟩
  have HB := Lib.hid (HB.out.trans (hb.mono HB.out.size))
  have HA := Lib.hid (HA.out.grow hb)
  clear hb
  go_wp2_with fail
  refine (check_any none 0 [] _ (mrd_nil _)).mono ?_
  rintro e w11 ⟨rfl, rfl⟩
  rw [HC0.out]
  go_wp2_with fail
  refine (check_any A ca ra _ HA.out).mono ?_
  rintro e w11 ⟨rfl, rfl⟩
  rw [HC.out]
  go_wp2_with fail
  refine (square_any 12 none 0 0 [] _ ⟨by omega, by omega⟩ (Hnil.out _) (Nat.zero_le _)).mono ?_
  rintro e w12 ⟨A12, c12, r12, rfl, hl12, hs12, ho12, hb⟩
  have HB := Lib.hid (HB.out.trans (hb.mono HB.out.size))
  have HA := Lib.hid (HA.out.grow hb)
  clear hb
  have R12 := Lib.hid ho12.rdn
  have HC12 := Lib.hid (sq_never hs12 hl12 (by omega))
  rw [← hl12]
  clear hs12 ho12 hl12
  go_wp2_with fail
  refine (check_any A12 c12 r12 _ R12.out).mono ?_
  rintro e w13 ⟨rfl, rfl⟩
  rw [HC12.out]
  go_wp2_with fail
  refine (critical_any A ca ra _ HA.out).mono ?_
  rintro e w14 ⟨x14, rfl, hm14, ho14, hb⟩
  have HB := Lib.hid (HB.out.trans (hb.mono HB.out.size))
  have HA := Lib.hid (HA.out.grow hb)
  clear hb
  have hxl : x14.zs.length = 0 := by rw [hm14, HCr.out]; rfl
  unfold Row.val
  rw [hxl]
  clear hm14 ho14 hxl
  go_wp2_with fail
  go_ret
  exact ⟨rfl, HB.out⟩
end Go.Proofs.Ythmnalaeckfaaaa
