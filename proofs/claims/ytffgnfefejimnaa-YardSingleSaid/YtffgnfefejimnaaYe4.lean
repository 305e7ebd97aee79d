import Derived.Test.YtffgnfefejimnaaYe2
import Derived.Test.YtffgnfefejimnaaYdLaw2
import Derived.Test.YtffgnfefejimnaaYdLaw3
namespace Go.Proofs.Ytffgnfefejimnaa
open Go.RowKit
structure SgS (w : World) (b : Nat) (vM : Value) (M : List Mv) (l : List Int) (wr : World) : Prop where
  src : Src wr b l
  m : wr.ownsRow (b + 1) 41 3 vM M.length (M.flatMap Mv.cells)
  bel : Below w.heap.size w wr
  hb : w.heap.size ≤ b
  bl : b < wr.heap.size
section
variable {w : World} {b : Nat} {vM v' : Value} {M M' : List Mv} {l l' : List Int} {wr w' : World}
theorem SgS.turn (h : SgS w b vM M l wr) (hs : Src w' b l') (ht : Turn b wr w') : SgS w b vM M l' w' :=
  ⟨hs, own_turn h.m ht (by omega), ht.below h.bel h.hb, h.hb, by rw [ht.size]; exact h.bl⟩
theorem SgS.grow (h : SgS w b vM M l wr) (hb : Below wr.heap.size wr w') : SgS w b vM M l w' :=
  ⟨h.src.below hb h.bl, own_grow h.m hb, h.bel.trans (hb.mono h.bel.size), h.hb, Nat.lt_of_lt_of_le h.bl hb.size⟩
theorem SgS.app (h : SgS w b vM M l wr) (hg : wr.grownBy w' vM.ownBlock) (ho : w'.ownsRow (b + 1) 41 3 v' M'.length (M'.flatMap Mv.cells)) : SgS w b v' M' l w' := by
  have hr : ∀ k, vM.ownBlock = some k → b < k := fun k e => by have := (own_block h.m k e).1; omega
  exact ⟨h.src.keep fun k hk => hg.block k (Nat.lt_of_le_of_lt hk h.bl) (fun e => by have := hr k e.symm; omega), ho, h.bel.grown hg h.bel.size (fun k e => by have := hr k e; have := h.hb; omega), h.hb, Nat.lt_of_lt_of_le h.bl hg.size⟩
end
theorem kindsL_snoc (n : Nat) : kindsL (n + 1) = kindsL n ++ [(n : Int)] := by simp [kindsL, List.range_succ]
theorem outsL_len (f : Bool) (n : Nat) : (outsL f n).length = n := by cases f <;> simp [outsL, kindsL]
theorem outsL_get (f : Bool) (n i : Nat) (h : i < n) : (outsL f n)[i]? = some ⟨false, if f = true then (i : Int) else (n : Int) - 1 - i, 0⟩ := by
  cases f with
  | true => simp [outsL, kindsL, h]
  | false =>
    simp only [outsL, kindsL, Bool.false_eq_true, if_false, List.getElem?_map]
    rw [List.getElem?_reverse (by simpa using h)]
    simp [show n - 1 - i < n by omega]
    omega
theorem outsL_take (f : Bool) (n i : Nat) (h : i < n) : (outsL f n).take (i + 1) = (outsL f n).take i ++ [⟨false, if f = true then (i : Int) else (n : Int) - 1 - i, 0⟩] := by
  have hl := outsL_len f n
  have hg := outsL_get f n i h
  rw [List.take_succ_eq_append_getElem (by omega)]
  rw [List.getElem?_eq_getElem (by omega)] at hg
  rw [Option.some.inj hg]
theorem kindsL_mem {n : Nat} {x : Int} (h : x ∈ kindsL n) : 0 ≤ x ∧ x < n := by
  obtain ⟨i, hi, rfl⟩ := List.mem_map.1 h
  rw [List.mem_range] at hi
  omega
theorem chk_single (f g : Bool) {n : Nat} {ins : List (Int × Int)} (h : ins.map (·.1) = kindsL n) (hn : n ≤ 12) (hl : ins.length = n) (hb : ∀ p ∈ ins, 1 ≤ p.2 ∧ p.2 ≤ 9) : chkY [⟨1000, f⟩] (insL ins ++ outsL g n) = true := by
  refine chkY_iff.2 ⟨⟨by simp, by simp, by rw [List.length_append, outsL_len]; simp [insL]; omega⟩, fun t ht => by simp at ht; subst ht; rfl, fun m hm => ?_⟩
  rcases List.mem_append.1 hm with hm | hm
  · obtain ⟨p, hp, rfl⟩ := List.mem_map.1 hm
    have h1 := kindsL_mem (n := n) (x := p.1) (by rw [← h]; exact List.mem_map.2 ⟨p, hp, rfl⟩)
    have h2 := hb p hp
    simp [mvOk]; omega
  · obtain ⟨k, hk, rfl⟩ := List.mem_map.1 hm
    have hk' : k ∈ kindsL n := by
      split at hk
      · exact hk
      · exact List.mem_reverse.1 hk
    have h1 := kindsL_mem hk'
    simp [mvOk]; omega
theorem sum_bd (ins : List (Int × Int)) (hb : ∀ p ∈ ins, 1 ≤ p.2 ∧ p.2 ≤ 9) : (ins.map (·.2)).sum ≤ 9 * ins.length := by
  induction ins with
  | nil => simp
  | cons p ins ih =>
    have h1 := hb p (by simp)
    have h2 := ih fun q hq => hb q (by simp [hq])
    simp only [List.map_cons, List.sum_cons, List.length_cons]
    omega
def Sg1 (w : World) (b n : Nat) (k : Nat) (v7 v8 : Value) (wr : World) : Prop :=
  ∃ (ins : List (Int × Int)) (l : List Int), v8 = .int .i64 (ins.length : Nat) ∧ ins.length + k = n ∧ ins.map (·.1) = kindsL ins.length ∧ (∀ p ∈ ins, 1 ≤ p.2 ∧ p.2 ≤ 9) ∧ SgS w b v7 (insL ins) l wr
def Sg2 (w : World) (b n : Nat) (ins : List (Int × Int)) (f : Bool) (k : Nat) (v7 v10 : Value) (wr : World) : Prop :=
  ∃ (i : Nat) (l : List Int), v10 = .int .i64 i ∧ i + k = n ∧ SgS w b v7 (insL ins ++ (outsL f n).take i) l wr

set_option maxRecDepth 100000 in
set_option maxHeartbeats 3200000 in
theorem single_true (A0 : Option Addr) (n0 c0 : Nat) (z0 : List Int) (a1 : Int) (w : World) (h0 : Rd w w.heap.size 1 A0 n0 (z0.map (Value.int .i64))) (m0 : n0 ≤ c0 ∧ c0 ≤ maxLen ∧ c0 * 8 ≤ 140737488351232) (_w1 : (Lit.int .i64 a1).wf = true) :
    Calls Try.prog 8 #[.slice A0 n0 c0, .int .i64 a1] w fun e w' => e = .returned (.bool true) ∧ Below w.heap.size w w' := by
  have H0 := Lib.hid h0
  have hm0 : n0 ≤ maxLen := by omega
  have M0 := Lib.hid hm0
  clear h0 m0 hm0 _w1
  obtain ⟨iM, b1, b2, b3, b4⟩ := info_parts infoMv
  have HIM := Lib.hid (And.intro b1 (And.intro b2 (And.intro b3 b4)))
  clear b1 b2 b3 b4
  go_enter Try.func8, Try.ntmps8
  go_wp2_with fail
  refine (from_any A0 n0 c0 z0 w H0.out M0.out).mono ?_
  rintro e w1 ⟨rfl, hs1, hb1, hz1⟩
  obtain ⟨b, hb⟩ : ∃ b, b = w.heap.size := ⟨_, rfl⟩
  have HS1 := Lib.hid (show SgS w b (.slice none 0 0) [] z0 w1 from ⟨by rw [hb]; exact hs1, World.ownsRow_nil _ _ _ _, hb1, by omega, by omega⟩)
  rw [← hb] at ⊢
  clear hs1 hb1 hz1 hb
  go_wp2_with fail
  refine (next_any b z0 12 _ HS1.out.src (by omega) (by omega)).mono ?_
  rintro e w2 ⟨rfl, hs2, ht2⟩
  have HS2 := Lib.hid (HS1.out.turn hs2 ht2)
  have hq := nextV_bd z0 12 (by omega) (by omega)
  generalize nextV z0 12 = q at *
  obtain ⟨hq0, hq1⟩ := hq
  obtain ⟨k0, rfl⟩ : ∃ k0 : Nat, q = (k0 : Int) := ⟨q.toNat, by omega⟩
  generalize z0.tail = l2 at *
  clear hs2 ht2 HS1
  go_wp2_with fail
  go_loopg [7, 8] (k0 + 1) (fun k v7 v8 wr => Sg1 w b (k0 + 1) k v7 v8 wr)
  case atStart => exact ⟨[], l2, rfl, by simp, rfl, by simp, HS2.out⟩
  case round =>
    clear HS2
    obtain ⟨ins, l, rfl, hin, hki, hbi, hs⟩ := hrel
    have HS := Lib.hid hs
    have HKi := Lib.hid hki
    have HBi := Lib.hid hbi
    clear hs hki hbi
    generalize hni : ins.length = ni at *
    have Hni := Lib.hid hni
    clear hni
    by_cases hlt : gk = 0
    case neg =>
      have hl1 : (ni : Int) < 1 + (k0 : Int) := by omega
      go_wp2_with fail
      refine (next_any b l 9 wr HS.out.src (by omega) (by omega)).mono ?_
      rintro e w3 ⟨rfl, hs3, ht3⟩
      have HS3 := Lib.hid (HS.out.turn hs3 ht3)
      have hq := nextV_bd l 9 (by omega) (by omega)
      generalize nextV l 9 = q9 at *
      obtain ⟨q90, q91⟩ := hq
      generalize l.tail = l3 at *
      clear hs3 ht3 HS
      have hbb : Below w3.heap.size w3 (w3.alloc (.cells #[.bool true, .int .i64 ni, .int .i64 (1 + q9)] 41)) := (Below.alloc (Below.refl _ _) (Nat.le_refl _) _)
      have HS4 := Lib.hid (HS3.out.grow hbb)
      have hbl3 := HS3.out.bl
      have hml : (insL ins).length = ni := by simp [insL, Hni.out]
      have HMl := Lib.hid hml
      clear hml
      go_wp2_with (at_builtin; refine wpList_append_any rfl _ _ 24 rfl (b + 1) 41 iM _ 3 24 Try.underlying24 HIM.out.1 HIM.out.2.1 HIM.out.2.2.1 HIM.out.2.2.2 rfl (by omega) _ (insL ins).length _ rfl HS4.out.m (some ⟨w3.heap.size, 0, none⟩) 1 1 (w3.alloc (.cells #[.bool true, .int .i64 ni, .int .i64 (1 + q9)] 41)).heap.size [.bool true, .int .i64 ni, .int .i64 (1 + q9)] rfl (fun e => by cases e) (Rd.blk1 (Blk.new w3 41 _) rfl) (by intro u hu; simp at hu; rcases hu with rfl | rfl | rfl <;> rfl) (by rw [HMl.out]; simp only [maxLen]; omega) (by rw [HMl.out]; omega) (by simp; omega) ?_; intro v' w' ho hg _)
      have HS5 := Lib.hid (HS4.out.app (M' := insL (ins ++ [((ni : Int), 1 + q9)])) hg (by
        have e : insL (ins ++ [((ni : Int), 1 + q9)]) = insL ins ++ [⟨true, ni, 1 + q9⟩] := by simp [insL]
        rw [e, mv_snoc, List.length_append]; exact ho))
      clear ho hg hbb HS3 HS4 hbl3
      go_roundg (gk - 1)
      case measure => omega
      case rel => exact ⟨ins ++ [((ni : Int), 1 + q9)], l3, by have := Hni.out; first | (simp [this]; done) | (congr 1; simp [this]) | go_num, by have := Hni.out; simp; omega, by rw [List.map_append, HKi.out, List.length_append, Hni.out]; exact (kindsL_snoc ni).symm, fun p hp => by
        rcases List.mem_append.1 hp with hp | hp
        · exact HBi.out p hp
        · simp at hp; subst hp; simp only; omega, HS5.out⟩
    case pos =>
      have hnk : ni = k0 + 1 := by omega
      have hln : ¬ (ni : Int) < 1 + (k0 : Int) := by omega
      have Hnk := Lib.hid hnk
      clear hnk
      obtain ⟨pf, hpf, hpf2⟩ := pick_nat a1 (n := 2) (by omega) (by omega)
      have HPf := Lib.hid hpf
      clear hpf
      go_wp2_with fail
      refine (pickB (w := wr) (v := a1) (by omega) (by omega) HPf.out).mono ?_
      rintro e w3 ⟨rfl, hb3⟩
      have HS3 := Lib.hid (HS.out.grow hb3)
      clear hb3 HS hln
      rw [show 1 + (k0 : Int) = (ni : Int) by have := Hnk.out; omega]
      have hn1 : 1 ≤ ni := by have := Hnk.out; omega
      have hn12 : ni ≤ 12 := by have := Hnk.out; omega
      clear hlt hin
      go_wp2_with fail
      generalize ((pf : Int) == 0) = fb at *
      go_loopg [7, 10] ni (fun k v7 v10 wx => Sg2 w b ni ins fb k v7 v10 wx)
      case atStart => exact ⟨0, l, rfl, by omega, by simpa using HS3.out⟩
      case round =>
        clear HS3
        obtain ⟨i, l, rfl, hik, hs⟩ := hrel
        have HS := Lib.hid hs
        clear hs
        have HMl := Lib.hid (show (insL ins ++ (outsL fb ni).take i).length = ni + i by
          rw [List.length_append, List.length_take, outsL_len]; simp [insL, Hni.out]; omega)
        rcases Nat.lt_or_ge i ni with hil | hil
        · cases fb with
          | true =>
            have hbb : Below wr.heap.size wr (wr.alloc (.cells #[.bool false, .int .i64 (i : Int), .int .i64 0] 41)) := (Below.alloc (Below.refl _ _) (Nat.le_refl _) _)
            have HS4 := Lib.hid (HS.out.grow hbb)
            have hblx := HS.out.bl
            go_wp2_with (at_builtin; refine wpList_append_any rfl _ _ 24 rfl (b + 1) 41 iM _ 3 24 Try.underlying24 HIM.out.1 HIM.out.2.1 HIM.out.2.2.1 HIM.out.2.2.2 rfl (by omega) _ (insL ins ++ (outsL true ni).take i).length _ rfl HS4.out.m (some ⟨wr.heap.size, 0, none⟩) 1 1 (wr.alloc (.cells #[.bool false, .int .i64 (i : Int), .int .i64 0] 41)).heap.size [.bool false, .int .i64 (i : Int), .int .i64 0] rfl (fun e => by cases e) (Rd.blk1 (Blk.new wr 41 _) rfl) (by intro u hu; simp at hu; rcases hu with rfl | rfl | rfl <;> rfl) (by rw [HMl.out]; simp only [maxLen]; omega) (by rw [HMl.out]; omega) (by simp; omega) ?_; intro v' w' ho hg _)
            have HS5 := Lib.hid (HS4.out.app (M' := insL ins ++ (outsL true ni).take (i + 1)) hg (by
              rw [outsL_take true ni i hil, ← List.append_assoc, mv_snoc, List.length_append]; exact ho))
            clear ho hg hbb HS HS4 hblx
            go_roundg (gk - 1)
            case measure => omega
            case rel => exact ⟨i + 1, l, by first | rfl | go_num, by omega, HS5.out⟩
          | false =>
            have hbb : Below wr.heap.size wr (wr.alloc (.cells #[.bool false, .int .i64 ((ni : Int) - 1 - i), .int .i64 0] 41)) := (Below.alloc (Below.refl _ _) (Nat.le_refl _) _)
            have HS4 := Lib.hid (HS.out.grow hbb)
            have hblx := HS.out.bl
            go_wp2_with (at_builtin; refine wpList_append_any rfl _ _ 24 rfl (b + 1) 41 iM _ 3 24 Try.underlying24 HIM.out.1 HIM.out.2.1 HIM.out.2.2.1 HIM.out.2.2.2 rfl (by omega) _ (insL ins ++ (outsL false ni).take i).length _ rfl HS4.out.m (some ⟨wr.heap.size, 0, none⟩) 1 1 (wr.alloc (.cells #[.bool false, .int .i64 ((ni : Int) - 1 - i), .int .i64 0] 41)).heap.size [.bool false, .int .i64 ((ni : Int) - 1 - i), .int .i64 0] rfl (fun e => by cases e) (Rd.blk1 (Blk.new wr 41 _) rfl) (by intro u hu; simp at hu; rcases hu with rfl | rfl | rfl <;> rfl) (by rw [HMl.out]; simp only [maxLen]; omega) (by rw [HMl.out]; omega) (by simp; omega) ?_; intro v' w' ho hg _)
            have HS5 := Lib.hid (HS4.out.app (M' := insL ins ++ (outsL false ni).take (i + 1)) hg (by
              rw [outsL_take false ni i hil, ← List.append_assoc, mv_snoc, List.length_append]; exact ho))
            clear ho hg hbb HS HS4 hblx
            go_roundg (gk - 1)
            case measure => omega
            case rel => exact ⟨i + 1, l, by first | rfl | go_num, by omega, HS5.out⟩
        · obtain rfl : i = ni := by omega
          have hs := HS.out
          rw [List.take_of_length_le (by rw [outsL_len]; exact Nat.le_refl _)] at hs
          obtain ⟨AM, cM, rfl, _, _⟩ := own_slice hs.m
          have hml : (insL ins ++ outsL fb i).length = 2 * i := by rw [List.length_append, outsL_len]; simp [insL, Hni.out]; omega
          have hmo := Rd.of_own hs.m
          have HMo := Lib.hid hmo
          have HBs := Lib.hid hs.bel
          obtain ⟨L1, L2, L3⟩ := single_law ins fb i HKi.out hn1 (fun p hp => by have := HBi.out p hp; omega) (by have := sum_bd ins HBi.out; rw [Hni.out] at this; omega)
          have C1 := chk_single fb fb HKi.out hn12 Hni.out HBi.out
          have C2 := chk_single (!fb) fb HKi.out hn12 Hni.out HBi.out
          clear hs hmo HS HMl
          generalize insL ins ++ outsL fb i = M at *
          have P1 := single_plan C1 (by omega)
          have P2 := single_plan C2 (by omega)
          have R1 := plan_repl (T := [⟨1000, fb⟩]) (M := M) (b := 1048576)
          obtain ⟨⟨l1, u1, r1⟩, hp1⟩ : ∃ r, planF [⟨1000, fb⟩] M 1048576 = r := ⟨_, rfl⟩
          obtain ⟨⟨l2, u2, r2⟩, hp2⟩ : ∃ r, planF [⟨1000, !fb⟩] M 1048576 = r := ⟨_, rfl⟩
          rw [hp1] at P1 R1
          rw [hp2] at P2
          simp only at P1 P2 R1
          obtain ⟨rfl, rfl, _⟩ : r1 = 0 ∧ u1 = M.length ∧ True := by
            rcases P1 with ⟨a, b, _⟩ | ⟨_, h⟩
            · exact ⟨a, b, trivial⟩
            · exact absurd L1 h
          obtain ⟨_, _, _, _, hl1⟩ := R1 rfl
          have HP1 := Lib.hid hp1
          have HP2 := Lib.hid hp2
          have Hl1 := Lib.hid hl1
          have HL2 := Lib.hid L2
          have HL3 := Lib.hid L3
          have HPP := Lib.hid P2
          have HMl := Lib.hid hml
          clear hp1 hp2 hl1 P1 P2 R1 L1 L2 L3 C1 C2
          rw [hml]
          clear hml
          go_wp2_with fail
          have hbt : Below wr.heap.size wr (wr.alloc (.cells #[.int .i64 1000, .bool fb] 43)) := (Below.alloc (Below.refl _ _) (Nat.le_refl _) _)
          refine (plan_at HP1.out (trk1 (Blk.new wr 43 #[.int .i64 1000, .bool fb])) (mrd ((HMo.out.grow hbt).more hbt.size) (by rw [HMl.out]; omega)) rfl HMl.out).mono ?_
          rintro e w5 ⟨A5, c5, rfl, hb5, _, _⟩
          have HB5 := Lib.hid (HBs.out.trans ((hbt.trans (hb5.mono hbt.size)).mono HBs.out.size))
          have HM5 := Lib.hid ((((HMo.out.grow hbt).more hbt.size).grow hb5).more hb5.size)
          rw [Hl1.out, HMl.out]
          clear hb5 hbt HMo HBs
          go_wp2_with fail
          have hbt : Below w5.heap.size w5 (w5.alloc (.cells #[.int .i64 1000, .bool (!fb)] 43)) := (Below.alloc (Below.refl _ _) (Nat.le_refl _) _)
          refine (plan_at HP2.out (trk1 (Blk.new w5 43 #[.int .i64 1000, .bool (!fb)])) (mrd ((HM5.out.grow hbt).more hbt.size) (by rw [HMl.out]; omega)) rfl HMl.out).mono ?_
          rintro e w6 ⟨A6, c6, rfl, hb6, _, _⟩
          have HB6 := Lib.hid (HB5.out.trans ((hbt.trans (hb6.mono hbt.size)).mono HB5.out.size))
          clear hb6 hbt HM5 HB5
          have he2 : ((2 * i : Nat) : Int) == 2 * (i : Int) := by simp
          have hcase : (i = 1 ∧ r2 = 0) ∨ (1 < i ∧ r2 = 14) := by
            rcases Nat.lt_or_ge 1 i with h | h
            · right
              rcases HPP.out with ⟨_, _, hf⟩ | ⟨h', _⟩
              · exact absurd hf (HL3.out h)
              · exact ⟨h, h'⟩
            · left
              have hi1 : i = 1 := by omega
              rcases HPP.out with ⟨h', _, _⟩ | ⟨_, hf⟩
              · exact ⟨hi1, h'⟩
              · exact absurd (HL2.out hi1) hf
          have Hcase := Lib.hid hcase
          clear hcase
          go_wp2_with fail
          refine (awake_any w6).mono ?_
          rintro e w7 ⟨rfl, hb7⟩
          have HB7 := Lib.hid (HB6.out.trans (hb7.mono HB6.out.size))
          clear hb7
          rcases Hcase.out with ⟨h1, h2⟩ | ⟨h1, h2⟩
          · subst h2
            have e1 : ((i : Int) == 1) = true := by simp; omega
            go_wp2_with fail
            go_ret
            exact ⟨rfl, HB7.out⟩
          · subst h2
            have e1 : ((i : Int) == 1) = false := by simp; omega
            have e2 : (1 : Int) < (i : Int) := by omega
            go_wp2_with fail
            go_ret
            exact ⟨rfl, HB7.out⟩
end Go.Proofs.Ytffgnfefejimnaa
