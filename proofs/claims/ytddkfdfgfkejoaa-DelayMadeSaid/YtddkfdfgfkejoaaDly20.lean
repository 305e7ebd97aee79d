import Derived.Test.YtddkfdfgfkejoaaDly19
namespace Go.Proofs.Ytddkfdfgfkejoaa
open Go.RowKit

theorem ex_chain : Chain exM exW [100, 210, 230] [160, 210, 230] [true, true] 2 [1, 0] := by
  have h2 : rsn exM exW [100, 210, 230] [160, 210, 230] [true, true] 2 = some 1 := by decide
  have h1 : rsn exM exW [100, 210, 230] [160, 210, 230] [true, true] 1 = some 0 := by decide
  have h0 : rsn exM exW [100, 210, 230] [160, 210, 230] [true, true] 0 = none := by decide
  exact .step h2 (.step h1 (.stop h0))
theorem ex_late : lateL exM [160, 210, 230] = [60, 50, 30] := by decide +kernel
theorem ex_cres {L : List Int} {err : Int} (h : CRes exM exW (exP 60) 2 L err) : L = [1, 0] ∧ err = 0 :=
  h.uni (.inr (.inr ⟨ex_valid 60 (by omega) (by omega), ⟨by decide, by decide⟩, rfl, by decide, _, _, _, ex_sol60, ex_chain⟩))
theorem ex_pres {s : List Int} {k : List Bool} {err : Int} (h : PRes exM exW (exP 60) s k err) : s = [160, 210, 230] ∧ k = [true, true] ∧ err = 0 :=
  h.uni (.inl ⟨ex_valid 60 (by omega) (by omega), rfl, _, ex_sol60⟩)

set_option maxRecDepth 100000 in
set_option maxHeartbeats 3200000 in
theorem delayExample_true (w : World) : Calls Try.prog 11 #[] w fun e w' => e = .returned (.bool true) ∧ Below w.heap.size w w' := by
  go_enter Try.func11, Try.ntmps11
  go_wp2_with fail
  refine (example_any 60 w).mono ?_
  rintro e w1 ⟨A, B, C, rfl, hA, hB, hC, hb1⟩
  have HR := Lib.hid (And.intro hA (And.intro hB hC))
  have Hb1 := Lib.hid hb1
  clear hA hB hC hb1
  go_wp2_with fail
  refine (propa_any _ _ _ _ _ _ _ _ _ exM exW (exP 60) w1 HR.out.1 HR.out.2.1 HR.out.2.2 rfl rfl rfl (by decide) (by decide) (by decide)).mono ?_
  intro e w2 ho
  obtain ⟨A1, B1, a1, b1, sec, kept, err, rfl, hr, hr1, hr2, hb2⟩ := ho.o
  obtain ⟨rfl, rfl, rfl⟩ := ex_pres hr
  have HS2 := Lib.hid hr1
  have HR2 := Lib.hid (And.intro ((HR.out.1.grow hb2).more hb2.size) (And.intro ((HR.out.2.1.grow hb2).more hb2.size) ((HR.out.2.2.grow hb2).more hb2.size)))
  have Hb2 := Lib.hid (Hb1.out.trans (hb2.mono Hb1.out.size))
  clear hr hr1 hr2 hb2 HR Hb1 ho
  go_wp2_with fail
  refine (cause_any _ _ _ _ _ _ _ _ _ exM exW (exP 60) 2 w2 HR2.out.1 HR2.out.2.1 HR2.out.2.2 rfl rfl rfl (by decide) (by decide) (by decide)).mono ?_
  intro e w3 ho
  obtain ⟨A3, a3, L, err, rfl, hr, hr1, hb3⟩ := ho.o
  obtain ⟨rfl, rfl⟩ := ex_cres hr
  have HS3 := Lib.hid (And.intro ((HS2.out.grow hb3).more hb3.size) hr1)
  have HR3 := Lib.hid ((HR2.out.1.grow hb3).more hb3.size)
  have Hb3 := Lib.hid (Hb2.out.trans (hb3.mono Hb2.out.size))
  clear hr hr1 hb3 HR2 Hb2 HS2 ho
  go_wp2_with fail
  refine (late_any _ _ _ _ _ _ exM [160, 210, 230] w3 HR3.out HS3.out.1 rfl rfl (by decide) (by decide)).mono ?_
  rintro e w4 ⟨hb4, hcase⟩
  rcases hcase with ⟨_, v4, rfl, hown4⟩ | ⟨hne, _⟩
  case inr => exact absurd rfl hne
  rw [ex_late] at hown4
  obtain ⟨A4, c4, rfl, _, _⟩ := own_slice hown4
  have HS4 := Lib.hid (And.intro ((HS3.out.1.grow hb4).more hb4.size) (And.intro ((HS3.out.2.grow hb4).more hb4.size) (Rd.of_own hown4)))
  have Hb4 := Lib.hid (Hb3.out.trans (hb4.mono Hb3.out.size))
  clear hb4 hown4 HS3 Hb3 HR3
  go_wp2_with fail
  refine (awake_any _).mono ?_
  rintro e w5 ⟨rfl, hb5⟩
  have Hb5 := Lib.hid hb5
  clear hb5
  go_wp2_with fail
  have hb6 : Below w5.heap.size w5 (w5.alloc (.cells #[.int .i64 160, .int .i64 210, .int .i64 230] 3)) := (by repeat (first | exact Below.refl _ _ | (with_reducible refine Below.drew ?_) | (with_reducible refine below_drewN ?_ _) | (with_reducible refine Below.alloc ?_ (by first | omega | (simp; done) | (simp; omega)) _) | (with_reducible refine Below.setCell ?_ (by first | omega | (simp; done) | (simp; omega)) _) | (refine Below.trans ?_ (Below.mono (by with_reducible assumption) (by first | omega | (simp; done) | (simp; omega))))))
  have Hb6 := Lib.hid (Hb5.out.trans (hb6.mono Hb5.out.size))
  clear hb6 Hb5
  refine (sameInt_yes A1 _ _ _ _ _ [160, 210, 230] _ ((HS4.out.1.grow Hb6.out).more Hb6.out.size) (Rd.of_blk (t := 3) (cs := [.int .i64 160, .int .i64 210, .int .i64 230]) (Blk.new _ _ _) rfl) rfl rfl (by decide)).mono ?_
  rintro e w7 ⟨rfl, hb7⟩
  have Hb7 := Lib.hid (Hb6.out.trans (hb7.mono Hb6.out.size))
  clear hb7 Hb6
  go_wp2_with fail
  have hb8 : Below w7.heap.size w7 (w7.alloc (.cells #[.int .i64 1, .int .i64 0] 3)) := (by repeat (first | exact Below.refl _ _ | (with_reducible refine Below.drew ?_) | (with_reducible refine below_drewN ?_ _) | (with_reducible refine Below.alloc ?_ (by first | omega | (simp; done) | (simp; omega)) _) | (with_reducible refine Below.setCell ?_ (by first | omega | (simp; done) | (simp; omega)) _) | (refine Below.trans ?_ (Below.mono (by with_reducible assumption) (by first | omega | (simp; done) | (simp; omega))))))
  have Hb8 := Lib.hid (Hb7.out.trans (hb8.mono Hb7.out.size))
  clear hb8 Hb7
  refine (sameInt_yes A3 _ _ _ _ _ [1, 0] _ ((HS4.out.2.1.grow Hb8.out).more Hb8.out.size) (Rd.of_blk (t := 3) (cs := [.int .i64 1, .int .i64 0]) (Blk.new _ _ _) rfl) rfl rfl (by decide)).mono ?_
  rintro e w9 ⟨rfl, hb9⟩
  have Hb9 := Lib.hid (Hb8.out.trans (hb9.mono Hb8.out.size))
  clear hb9 Hb8
  go_wp2_with fail
  have hb10 : Below w9.heap.size w9 (w9.alloc (.cells #[.int .i64 60, .int .i64 50, .int .i64 30] 3)) := (by repeat (first | exact Below.refl _ _ | (with_reducible refine Below.drew ?_) | (with_reducible refine below_drewN ?_ _) | (with_reducible refine Below.alloc ?_ (by first | omega | (simp; done) | (simp; omega)) _) | (with_reducible refine Below.setCell ?_ (by first | omega | (simp; done) | (simp; omega)) _) | (refine Below.trans ?_ (Below.mono (by with_reducible assumption) (by first | omega | (simp; done) | (simp; omega))))))
  have Hb10 := Lib.hid (Hb9.out.trans (hb10.mono Hb9.out.size))
  clear hb10 Hb9
  refine (sameInt_yes A4 _ _ _ _ _ [60, 50, 30] _ ((HS4.out.2.2.grow Hb10.out).more Hb10.out.size) (Rd.of_blk (t := 3) (cs := [.int .i64 60, .int .i64 50, .int .i64 30]) (Blk.new _ _ _) rfl) rfl rfl (by decide)).mono ?_
  rintro e w11 ⟨rfl, hb11⟩
  go_wp2_with fail
  go_ret
  exact ⟨rfl, Hb4.out.trans ((Hb10.out.trans (hb11.mono Hb10.out.size)).mono Hb4.out.size)⟩

theorem CRes.range {ms : List Mom} {ws : List Wt} {ps : List Pri} {i : Int} {L : List Int} {err : Int} (h : CRes ms ws ps i L err) (hv : Valid ms ws ps) (hi : ¬ (0 ≤ i ∧ i < (ms.length : Int))) : err = 4 := by
  rcases h with ⟨hv', _, _⟩ | ⟨_, _, h, _⟩ | ⟨_, hi', _⟩
  · exact absurd hv hv'
  · exact h
  · exact absurd hi' hi
def LCz (w2 : World) (ws : List Wt) (n : Nat) (base sec : List Int) (kept : List Bool) (L : List Int) (k : Nat) (v8 v : Value) (wr : World) : Prop :=
  ∃ t j : Nat, v = .int .i64 t ∧ t + k = L.length ∧ v8 = .int .i64 j ∧ j < n ∧ Links ws base sec kept j (L.drop t) ∧ Below w2.heap.size w2 wr

set_option maxRecDepth 100000 in
set_option maxHeartbeats 3200000 in
theorem delayCause_true (A : Option Addr) (n c : Nat) (z : List Int) (xat : Int) (w : World) (h : Rd w w.heap.size 1 A n (z.map (Value.int .i64))) (m : n ≤ c ∧ c ≤ maxLen ∧ c * 8 ≤ 140737488351232) (_wat : (Lit.int .i64 xat).wf = true) :
    Calls Try.prog 10 #[.slice A n c, .int .i64 xat] w fun e w' => e = .returned (.bool true) ∧ Below w.heap.size w w' := by
  have H := Lib.hid h
  have HN : n ≤ maxLen := by omega
  have HN := Lib.hid HN
  clear h m _wat
  go_enter Try.func10, Try.ntmps10
  go_wp2_with fail
  refine (mkdelay_any A n c z w H.out HN.out).mono ?_
  rintro e w1 ⟨v6, v7, v8, nn, ms, ws, ps, rfl, hn1, hn6, hok, hb1, hom, how, hop⟩
  obtain ⟨A6, c6, rfl, hc6, hm6⟩ := own_slice hom
  obtain ⟨A7, c7, rfl, hc7, hm7⟩ := own_slice how
  obtain ⟨A8, c8, rfl, hc8, hm8⟩ := own_slice hop
  have hsm := hok.small hn1 hn6
  have HS := Lib.hid hsm
  have HD : Hid (DX w (.slice A6 ms.length c6) (.slice A7 ws.length c7) (.slice A8 ps.length c8) ms ws ps w1) := ⟨hb1, hom, how, hop⟩
  have hl6 := hsm.n6
  have hl1 := hsm.n1
  have hlw := hsm.nw
  have hlp := hsm.np
  clear hsm hok hom how hop hb1 hn1 hn6 H HN
  unfold maxLen at hm6 hm7 hm8
  have HP := Lib.hid (show Prb w1 A6 A7 A8 ms ws ps c8 from ⟨Rd.of_own HD.out.om, Rd.of_own HD.out.ow, Rd.of_own HD.out.op, by omega, by omega, by omega, hc8, by simp only [maxLen]; omega⟩)
  have Hb1 := Lib.hid HD.out.bel
  clear HD
  go_wp2_with fail
  refine (pick_any _ _ _ (by omega) (by omega)).mono ?_
  rintro e w1' ⟨rfl, rfl⟩
  have hpb := pick_bd xat ms.length (by omega) (by omega)
  generalize pick xat ms.length = ii at *
  obtain ⟨hi0, hi1⟩ := hpb
  obtain ⟨i, rfl⟩ := Int.eq_ofNat_of_zero_le hi0
  have hil : i < ms.length := by omega
  go_wp2_with fail
  refine (HP.out.rpropa c6 c7).mono ?_
  rintro e w2 ⟨A2, B2, a2, b2, sec, kept, err, rfl, hr, hr1, hr2, hb2⟩
  rcases hr with ⟨hv, rfl, base, hsol⟩ | ⟨hv, _⟩
  case inr => exact absurd HS.out.valid hv
  have Hsol := Lib.hid hsol
  have HSB := Lib.hid (hv.solB hsol)
  have HR2 := Lib.hid (And.intro hr1 hr2)
  have HP2 := Lib.hid (HP.out.grow hb2)
  have Hb2 := Lib.hid (Hb1.out.trans (hb2.mono Hb1.out.size))
  clear hv hsol hr1 hr2 hb2 HP Hb1
  go_wp2_with fail
  refine (HP2.out.cause c6 c7 i).mono ?_
  rintro e w3 ⟨A3, a3, L, er3, rfl, hr, hr1, hb3⟩
  rcases hr with ⟨hv', _, _⟩ | ⟨_, hi', _⟩ | ⟨hv, _, rfl, hll, base', sec', kept', hs', hc'⟩
  · exact absurd HS.out.valid hv'
  · exact absurd ⟨hi0, hi1⟩ hi'
  obtain ⟨rfl, rfl, rfl⟩ := hv.uni Hsol.out hs'
  have HLk := Lib.hid hc'.links
  have HR3 := Lib.hid (And.intro ((HR2.out.1.grow hb3).more hb3.size) (And.intro ((HR2.out.2.grow hb3).more hb3.size) hr1))
  have HP3 := Lib.hid (HP2.out.grow hb3)
  have Hb3 := Lib.hid (Hb2.out.trans (hb3.mono Hb2.out.size))
  clear hv hs' hc' hr1 hb3 HP2 Hb2 HR2
  have hdl : decide (ms.length ≤ L.length) = false := by simp; omega
  go_wp2_with fail
  clear hdl
  go_loopg [8, 15, 57] L.length (fun k v8 _ v wr => LCz w3 ws ms.length base sec kept L k v8 v wr)
  case atStart => exact ⟨0, i, rfl, by omega, rfl, hil, by simpa using HLk.out, Below.refl _ _⟩
  case round =>
    clear HLk
    obtain ⟨t, j, rfl, ht, rfl, hj, hlk, hbel⟩ := hrel
    have Ht := Lib.hid ht
    have HLk := Lib.hid hlk
    have HL := Lib.hid hbel
    clear ht hlk hbel
    by_cases hlt : t < L.length
    · have hd := HLk.out
      rw [List.drop_eq_getElem_cons hlt] at hd
      obtain ⟨q, hq, e1, e2, e3, e4, e5⟩ := hd
      obtain ⟨bl, ol, rfl, hbl, l0⟩ := rd1 (HR3.out.2.2.grow HL.out) t hlt
      rw [e1] at l0
      have HN5 := Lib.hid e5
      have hqk : q < kept.length := by rw [HSB.out.lk]; exact hq
      obtain ⟨bk, ok, rfl, hbk, k0⟩ := rd1 (HR3.out.2.1.grow HL.out) q hqk
      rw [show kept[q] = true by have := e3; simpa [hqk] using this] at k0
      obtain ⟨bw, ow, rfl, hbw, d0, d1, d2, d3⟩ := rdWt (HP3.out.b.grow HL.out) rfl q hq
      rw [e2] at d1
      have hok := HSB.out.wk ws[q] (List.getElem_mem hq)
      have f0 : 0 ≤ ws[q].fr := hok.f0
      have f1 : ws[q].fr < ms.length := hok.f1
      have hmn0 : 0 ≤ ws[q].mn := hok.m0
      have hmn1 : ws[q].mn ≤ 4194304 := hok.m1
      have hsj : gi sec j = gi base j + prim ps j := Hsol.out.s j (by omega) (by omega)
      have hpj := HS.out.prim j
      have hbf := HSB.out.bd ws[q].fr f0 f1
      clear e1 e2 e3 e5 hok HLk
      generalize ws[q].fr = f at *
      generalize ws[q].mn = mn at *
      obtain ⟨f, rfl⟩ := Int.eq_ofNat_of_zero_le f0
      have hfs : f < sec.length := by rw [HSB.out.ls]; omega
      have hjs : j < sec.length := by rw [HSB.out.ls]; omega
      obtain ⟨bs, os, rfl, hbs, s0⟩ := rd1 (HR3.out.1.grow HL.out) f hfs
      obtain ⟨bs', os', e1, _, s1⟩ := rd1 (HR3.out.1.grow HL.out) j hjs
      injection e1 with e1
      injection e1 with e1 e2
      subst e1 e2
      rw [gi_nat sec f hfs] at e4 hbf
      rw [gi_nat sec j hjs] at hsj
      have hge : sec[f] + mn ≤ sec[j] := by omega
      obtain ⟨_, _, hbf0, hbf1⟩ := hbf
      generalize sec[f] = sf at *
      generalize sec[j] = sj at *
      clear e4 hsj hpj
      have hd0 : decide ((q : Int) < 0) = false := by simp
      have hd1 : decide (ws.length ≤ q) = false := by simp; omega
      have hd1' : decide ((ws.length : Int) ≤ (q : Int)) = false := by simp; omega
      have hd2 : ((j : Int) != (j : Int)) = false := by simp
      have hd3 : decide (sj < sf + mn) = false := by simpa using hge
      have hwr : IntKind.i64.wrap (sf + mn) = sf + mn := IntWalk.i64_in _ (by omega)
      go_upto_region 10 with fail
      go_quiet (fail)
      clear hd0 hd1 hd1' hd2 hd3 hwr
      go_wp2_with fail
      go_roundg (L.length - t - 1)
      case measure => have := Ht.out; omega
      case rel => exact ⟨t + 1, f, by first | rfl | go_num, by omega, rfl, by omega, HN5.out, below_drewN HL.out _⟩
    · clear Ht HLk
      go_wp2_with fail
      refine ((HP3.out.grow HL.out).cause c6 c7 ms.length).mono ?_
      rintro e w5 ⟨A5, a5, L5, er5, rfl, hr, hr1, hb5⟩
      obtain rfl := hr.range HS.out.valid (by omega)
      have Hb5 := Lib.hid (HL.out.trans (hb5.mono HL.out.size))
      clear hr hr1 hb5
      go_wp2_with fail
      refine ((HP3.out.grow Hb5.out).cause c6 c7 (-1)).mono ?_
      rintro e w6 ⟨A6', a6, L6, er6, rfl, hr, hr1, hb6⟩
      obtain rfl := hr.range HS.out.valid (by omega)
      have Hb6 := Lib.hid (Hb5.out.trans (hb6.mono Hb5.out.size))
      clear hr hr1 hb6 Hb5
      go_wp2_with fail
      refine (awake_any _).mono ?_
      rintro e w7 ⟨rfl, hb7⟩
      go_wp2_with fail
      go_ret
      exact ⟨rfl, Hb3.out.trans ((Hb6.out.trans (hb7.mono Hb6.out.size)).mono Hb3.out.size)⟩
end Go.Proofs.Ytddkfdfgfkejoaa
