import Derived.Test.YtddkfdfgfkejoaaDly20
namespace Go.Proofs.Ytddkfdfgfkejoaa
open Go.RowKit

section
variable {w wr w' : World} {v6 v7 v8 v' : Value} {ms : List Mom} {ws : List Wt} {ps : List Pri} {o : Obj}
theorem DX.appW (h : DX w v6 v7 v8 ms ws ps wr) {x : Wt} (hown' : w'.ownsRow (w.heap.size + 1) 35 4 v' (ws.length + 1) (ws.flatMap Wt.cells ++ x.cells)) (hg' : (wr.alloc o).grownBy w' v7.ownBlock) : DX w v6 v' v8 ms (ws ++ [x]) ps w' :=
  ⟨below_app (h.bel.alloc h.bel.size _) (World.ownsRow.alloc h.ow _) (by omega) (by have := h.bel.size; simp; omega) hg', own_app (World.ownsRow.alloc h.om _) (World.ownsRow.alloc h.ow _) (by decide) hg', by rw [List.length_append, List.flatMap_append]; simpa using hown', own_app (World.ownsRow.alloc h.op _) (World.ownsRow.alloc h.ow _) (by decide) hg'⟩
theorem DX.appP (h : DX w v6 v7 v8 ms ws ps wr) {x : Pri} (hown' : w'.ownsRow (w.heap.size + 1) 39 2 v' (ps.length + 1) (ps.flatMap Pri.cells ++ x.cells)) (hg' : (wr.alloc o).grownBy w' v8.ownBlock) : DX w v6 v7 v' ms ws (ps ++ [x]) w' :=
  ⟨below_app (h.bel.alloc h.bel.size _) (World.ownsRow.alloc h.op _) (by omega) (by have := h.bel.size; simp; omega) hg', own_app (World.ownsRow.alloc h.om _) (World.ownsRow.alloc h.op _) (by decide) hg', own_app (World.ownsRow.alloc h.ow _) (World.ownsRow.alloc h.op _) (by decide) hg', by rw [List.length_append, List.flatMap_append]; simpa using hown'⟩
end
def MdR (w : World) (v6 : Value) (n : Nat) (v10 v11 : Value) (wr : World) : Prop :=
  ∃ (A7 A8 : Option Addr) (c7 c8 : Nat) (ms : List Mom) (ws : List Wt) (ps : List Pri), v10 = .slice A7 ws.length c7 ∧ v11 = .slice A8 ps.length c8 ∧ ms.length = n ∧ ws.length ≤ 13 ∧ ps.length ≤ 7 ∧ DX w v6 v10 v11 ms ws ps wr
theorem DX.mdr {w wr : World} {v6 v7 v8 : Value} {ms : List Mom} {ws : List Wt} {ps : List Pri} {n : Nat} (h : DX w v6 v7 v8 ms ws ps wr) (h1 : ms.length = n) (h2 : ws.length ≤ 13) (h3 : ps.length ≤ 7) : MdR w v6 n v7 v8 wr := by
  obtain ⟨A7, c7, rfl, _, _⟩ := own_slice h.ow
  obtain ⟨A8, c8, rfl, _, _⟩ := own_slice h.op
  exact ⟨A7, A8, c7, c8, ms, ws, ps, rfl, rfl, h1, h2, h3, h⟩

set_option maxRecDepth 100000 in
set_option maxHeartbeats 6400000 in
theorem delayMade_true (A : Option Addr) (n c : Nat) (z : List Int) (how xat xv : Int) (w : World) (h : Rd w w.heap.size 1 A n (z.map (Value.int .i64))) (m : n ≤ c ∧ c ≤ maxLen ∧ c * 8 ≤ 140737488351232) (_w1 : (Lit.int .i64 how).wf = true) (_w2 : (Lit.int .i64 xat).wf = true) (_w3 : (Lit.int .i64 xv).wf = true) :
    Calls Try.prog 9 #[.slice A n c, .int .i64 how, .int .i64 xat, .int .i64 xv] w fun e w' => e = .returned (.bool true) ∧ Below w.heap.size w w' := by
  have H := Lib.hid h
  have HN : n ≤ maxLen := by omega
  have HN := Lib.hid HN
  clear h m _w1 _w2 _w3
  obtain ⟨HPi, c1, c2, c3, c4⟩ := info_parts infoPri
  have HIP := Lib.hid (And.intro c1 (And.intro c2 (And.intro c3 c4)))
  clear c1 c2 c3 c4
  obtain ⟨HWi, c1, c2, c3, c4⟩ := info_parts infoWt
  have HIW := Lib.hid (And.intro c1 (And.intro c2 (And.intro c3 c4)))
  clear c1 c2 c3 c4
  go_enter Try.func9, Try.ntmps9
  go_wp2_with fail
  refine (mkdelay_any A n c z w H.out HN.out).mono ?_
  rintro e w1 ⟨v6, v7, v8, nn, ms, ws, ps, rfl, hn1, hn6, hok, hb1, hom, how, hop⟩
  obtain ⟨A6, c6, rfl, hc6, hm6⟩ := own_slice hom
  obtain ⟨A7, c7, rfl, hc7, hm7⟩ := own_slice how
  obtain ⟨A8, c8, rfl, hc8, hm8⟩ := own_slice hop
  have hsm := hok.small hn1 hn6
  have HS := Lib.hid hsm
  have HD : Hid (DX w (.slice A6 ms.length c6) (.slice A7 ws.length c7) (.slice A8 ps.length c8) ms ws ps w1) := ⟨hb1, hom, how, hop⟩
  have hl6 := hsm.n6
  have hl1 := hsm.n1
  have hlw := hsm.nw
  have hlp := hsm.np
  clear hsm hok hom how hop hb1 hn1 hn6 H HN
  unfold maxLen at hm6 hm7 hm8
  go_wp2_with fail
  refine (check_any _ _ _ _ _ _ _ _ _ ms ws ps w1 (Rd.of_own HD.out.om) (Rd.of_own HD.out.ow) (Rd.of_own HD.out.op) rfl rfl rfl (by omega) (by omega) (by omega)).mono ?_
  rintro e w2 ⟨hb2, hcase⟩
  rcases hcase with ⟨_, rfl⟩ | ⟨hv, _⟩
  case inr => exact absurd HS.out.valid hv
  have HD2 := Lib.hid (HD.out.grow hb2)
  clear hb2 HD HS
  go_wp2_with fail
  refine (pick_any _ _ _ (by omega) (by omega)).mono ?_
  rintro e w3 ⟨rfl, rfl⟩
  generalize pick how 7 = q at *
  go_upto_block 0 with fail
  go_cut [10, 11] (fun v10 v11 wx => MdR w (.slice A6 ms.length c6) ms.length v10 v11 wx)
  case first =>
    by_cases q0 : q = 0
    · have q0' : (q == 0) = true := by simpa using q0
      clear q0
      by_cases hw0 : 0 < ws.length
      · have how := HD2.out.ow
        obtain ⟨g7, c7', e7, hg7, hg7l⟩ := how.form hw0
        injection e7 with e7 _ e8
        subst e7 e8
        have hpb := pick_bd xat ws.length (by omega) (by omega)
        go_wp2_with (go_at_call 15; refine (pick_any _ _ _ (by omega) (by omega)).mono ?_; rintro e w3 ⟨rfl, rfl⟩; generalize pick xat ws.length = ii at *; obtain ⟨hi0, hi1⟩ := hpb; obtain ⟨i, rfl⟩ := Int.eq_ofNat_of_zero_le hi0; have hil : i < ws.length := by omega)
        obtain ⟨d0, d1, d2, d3⟩ := ownWt how rfl i hil
        have f0 := how.frozenAt (i * 4)
        have f1 := how.frozenAt (i * 4 + 1)
        have HS1 := Lib.hid (HD2.out.setW i hil 0 (by omega) ⟨ws[i].tt, ws[i].tt, ws[i].mn, ws[i].mx⟩ (.int .i64 ws[i].tt) rfl)
        have HS2 := Lib.hid ((show DX w (.slice A6 ms.length c6) (.slice (some ⟨g7, 0, none⟩) (ws.set i ⟨ws[i].tt, ws[i].tt, ws[i].mn, ws[i].mx⟩).length c7) (.slice A8 ps.length c8) ms (ws.set i ⟨ws[i].tt, ws[i].tt, ws[i].mn, ws[i].mx⟩) ps (w2.setCell ⟨g7, i * 4 + 0, none⟩ (.int .i64 ws[i].tt)) by rw [List.length_set]; exact HS1.out).setW i (by rw [List.length_set]; exact hil) 1 (by omega) ⟨ws[i].tt, ws[i].fr, ws[i].mn, ws[i].mx⟩ (.int .i64 ws[i].fr) (by rw [List.getElem_set_self]; rfl))
        clear how HS1
        generalize ws[i].fr = kf at *
        generalize ws[i].tt = kt at *
        go_region
        go_wp2_with fail
        go_meet
        case rel =>
          have h := HS2.out.grow (Below.refl _ _).drew
          simp only [List.length_set] at h
          have := h.mdr (n := ms.length) rfl (by simp only [List.length_set]; omega) (by omega)
          exact this
      · have hw0' : decide (0 < ws.length) = false := decide_eq_false hw0
        go_wp2_with fail
        go_meet
        case rel => exact HD2.out.mdr rfl (by omega) (by omega)
    have q0' : (q == 0) = false := by simpa using q0
    clear q0
    by_cases q1 : q = 1
    · have q1' : (q == 1) = true := by simpa using q1
      clear q1
      have hp1 := pick_bd xat ((ms.length : Int) + 1) (by omega) (by omega)
      have hp2 := pick_bd xv ((ms.length : Int) + 1) (by omega) (by omega)
      have hsz2 := HD2.out.bel.size
      go_wp2_with (first | (go_at_call 15; refine (pick_any _ _ _ (by omega) (by omega)).mono ?_; rintro e w3 ⟨rfl, rfl⟩) | (at_builtin; refine wpList_append_own_at _ rfl _ _ 24 rfl (w.heap.size + 1) 35 HWi _ 4 32 Try.underlying24 HIW.out.1 HIW.out.2.1 HIW.out.2.2.1 HIW.out.2.2.2 rfl (by omega) _ ws.length _ rfl (World.ownsRow.alloc HD2.out.ow _) ⟨w2.heap.size, 0, none⟩ 1 1 (Wt.cells ⟨pick xat ((ms.length : Int) + 1), pick xv ((ms.length : Int) + 1), 0, -1⟩) rfl rfl ?c0 ?c1 ?c2 ?c3 ?c4 ?_; rotate_right; intro v' w' hown' hg' _ hat'))
      case c0 => exact news_new _ _ _
      case c1 => exact Wt.one _
      case c2 => simp only [maxLen]; omega
      case c3 => omega
      case c4 => simp; omega
      have HD3 := Lib.hid (HD2.out.appW hown' hg')
      clear hown' hg' hat' HD2
      go_wp2_with fail
      go_meet
      case rel => exact HD3.out.mdr rfl (by simp; omega) (by omega)
    have q1' : (q == 1) = false := by simpa using q1
    clear q1
    by_cases q2 : q = 2
    · have q2' : (q == 2) = true := by simpa using q2
      clear q2
      have hp1 := pick_bd xat ((ms.length : Int) + 2) (by omega) (by omega)
      have hp2 := pick_bd xv 9 (by omega) (by omega)
      have hsz2 := HD2.out.bel.size
      go_wp2_with (first | (go_at_call 15; refine (pick_any _ _ _ (by omega) (by omega)).mono ?_; rintro e w3 ⟨rfl, rfl⟩) | (at_builtin; refine wpList_append_own_at _ rfl _ _ 25 rfl (w.heap.size + 1) 39 HPi _ 2 16 Try.underlying25 HIP.out.1 HIP.out.2.1 HIP.out.2.2.1 HIP.out.2.2.2 rfl (by omega) _ ps.length _ rfl (World.ownsRow.alloc HD2.out.op _) ⟨w2.heap.size, 0, none⟩ 1 1 (Pri.cells ⟨pick xat ((ms.length : Int) + 2) - 1, pick xv 9⟩) rfl rfl ?c0 ?c1 ?c2 ?c3 ?c4 ?_; rotate_right; intro v' w' hown' hg' _ hat'))
      case c0 => exact news_new _ _ _
      case c1 => exact Pri.one _
      case c2 => simp only [maxLen]; omega
      case c3 => omega
      case c4 => simp; omega
      have HD3 := Lib.hid (HD2.out.appP hown' hg')
      clear hown' hg' hat' HD2
      go_wp2_with fail
      go_meet
      case rel => exact HD3.out.mdr rfl (by omega) (by simp; omega)
    have q2' : (q == 2) = false := by simpa using q2
    clear q2
    by_cases q3 : q = 3
    · have q3' : (q == 3) = true := by simpa using q3
      clear q3
      have hp2 := pick_bd xv 300 (by omega) (by omega)
      have hpb := pick_bd xat ms.length (by omega) (by omega)
      go_wp2_with fail
      refine (pick_any _ _ _ (by omega) (by omega)).mono ?_
      rintro e w3 ⟨rfl, rfl⟩
      generalize pick xat ms.length = ii at *
      obtain ⟨hi0, hi1⟩ := hpb
      obtain ⟨i, rfl⟩ := Int.eq_ofNat_of_zero_le hi0
      have hil : i < ms.length := by omega
      have hom := HD2.out.om
      obtain ⟨g6, c6', e7, hg6, hg6l⟩ := hom.form (by omega)
      injection e7 with e7 _ e8
      subst e7 e8
      have m0 := (ownMom hom rfl i hil).1
      have f0 := hom.frozenAt (i * 2)
      have HS1 := Lib.hid (fun v => HD2.out.setM i hil 0 (by omega) ⟨v, ms[i].hold⟩ (.int .i64 v) rfl)
      clear hom HD2
      go_wp2_with (go_at_call 15; refine (pick_any _ _ _ (by omega) (by omega)).mono ?_; rintro e w3 ⟨rfl, rfl⟩)
      go_meet
      case rel =>
        have h := HS1.out (pick xv 300 - 1)
        exact h.mdr (n := ms.length) (by simp) (by omega) (by omega)
    have q3' : (q == 3) = false := by simpa using q3
    clear q3
    go_wp2_with fail
    go_meet
    case rel => exact HD2.out.mdr rfl (by omega) (by omega)
  case rest =>
    obtain ⟨B7, B8, k7, k8, ms2, ws2, ps2, rfl, rfl, hlm, hlw2, hlp2, hdx⟩ := hcut
    clear HD2
    have hc8' : ps2.length ≤ k8 ∧ k8 ≤ maxLen := own_cap hdx.op
    generalize ms.length = n2 at *
    subst hlm
    have HP := Lib.hid (show Prb wc A6 B7 B8 ms2 ws2 ps2 k8 from ⟨Rd.of_own hdx.om, Rd.of_own hdx.ow, Rd.of_own hdx.op, by omega, by omega, by omega, hc8'.1, hc8'.2⟩)
    have Hb0 := Lib.hid hdx.bel
    clear hdx hc8'
    go_wp2_with fail
    refine (HP.out.propa c6 k7).mono ?_
    rintro e w1' ⟨A1, B1, a1, b1, sec, kept, err, rfl, hr, hr1, hr2, hb1⟩
    have HP1 := Lib.hid (HP.out.grow hb1)
    have HR1 := Lib.hid (And.intro hr1 hr2)
    have Hr := Lib.hid hr
    have Hb1 := Lib.hid (Hb0.out.trans (hb1.mono Hb0.out.size))
    have hls := hr.len.1
    have hlk := hr.len.2
    clear hr hr1 hr2 hb1 HP Hb0
    go_wp2_with fail
    refine (HP1.out.rpropa c6 k7).mono ?_
    rintro e w2' ⟨A2, B2, a2, b2, sec2, kept2, err2, rfl, hr, hr1, hr2, hb2⟩
    obtain ⟨rfl, rfl, rfl⟩ := Hr.out.uni hr
    have HP2 := Lib.hid (HP1.out.grow hb2)
    have HR2 := Lib.hid (And.intro ((HR1.out.1.grow hb2).more hb2.size) (And.intro ((HR1.out.2.grow hb2).more hb2.size) (And.intro hr1 hr2)))
    have Hb2 := Lib.hid (Hb1.out.trans (hb2.mono Hb1.out.size))
    clear hr hr1 hr2 hb2 HP1 HR1 Hb1 Hr
    go_wp2_with fail
    go_loopg [19, 20, 21, 22, 23, 122] ms2.length (fun k _ _ _ _ _ v wr => LoopB w2' ms2.length k v wr)
    case atStart => exact ⟨0, rfl, by omega, Below.refl _ _⟩
    case round =>
      obtain ⟨i, rfl, hi, hbr⟩ := hrel
      have Hi := Lib.hid hi
      have Hbr := Lib.hid hbr
      clear hi hbr
      by_cases hlt : i < ms2.length
      · go_wp2_with fail
        refine ((HP2.out.grow Hbr.out).cause c6 k7 i).mono ?_
        rintro e w3' ⟨A3, a3, L, er3, rfl, hr, hr1, hb3⟩
        have Hr := Lib.hid hr
        have HR3 := Lib.hid hr1
        have hll := hr.len
        have Hb3 := Lib.hid (Hbr.out.trans (hb3.mono Hbr.out.size))
        clear hr hr1 hb3
        go_wp2_with fail
        refine ((HP2.out.grow Hb3.out).rcause c6 k7 i).mono ?_
        rintro e w4 ⟨A4, a4, L4, er4, rfl, hr, hr1, hb4⟩
        obtain ⟨rfl, rfl⟩ := Hr.out.uni hr
        have HR4 := Lib.hid (And.intro ((HR3.out.grow hb4).more hb4.size) hr1)
        have Hb4 := Lib.hid (Hb3.out.trans (hb4.mono Hb3.out.size))
        clear hr hr1 hb4 HR3 Hr Hb3
        have he2 : (er3 != er3) = false := by simp
        go_wp2_with fail
        refine (sameI A3 A4 a3 a4 L w4 HR4.out.1 HR4.out.2 (by omega)).mono ?_
        rintro e w5 ⟨rfl, hb5⟩
        have Hb5 := Lib.hid (Hb4.out.trans (hb5.mono Hb4.out.size))
        clear hb5 HR4 Hb4
        go_wp2_with fail
        go_roundg (ms2.length - i - 1)
        case measure => have := Hi.out; omega
        case rel => exact ⟨i + 1, by first | rfl | go_num, by omega, Hb5.out⟩
      · clear Hi
        go_wp2_with fail
        refine (awake_any _).mono ?_
        rintro e w5 ⟨rfl, hb5⟩
        have Hb5 := Lib.hid (Hbr.out.trans (hb5.mono Hbr.out.size))
        clear hb5 Hbr
        go_wp2_with fail
        refine ((HP2.out.grow Hb5.out).check c6 k7).mono ?_
        rintro e w6 ⟨rfl, hb6⟩
        have Hb6 := Lib.hid (Hb5.out.trans (hb6.mono Hb5.out.size))
        clear hb6 Hb5
        go_wp2_with fail
        refine ((HP2.out.grow Hb6.out).rcheck c6 k7).mono ?_
        rintro e w7 ⟨rfl, hb7⟩
        have Hb7 := Lib.hid (Hb6.out.trans (hb7.mono Hb6.out.size))
        clear hb7 Hb6
        have hvb : (validB ms2 ws2 ps2 == validB ms2 ws2 ps2) = true := by simp
        generalize validB ms2 ws2 ps2 = vb at *
        go_wp2_with fail
        refine (sameI A1 A2 a1 a2 sec w7 ((HR2.out.1.grow Hb7.out).more Hb7.out.size) ((HR2.out.2.2.1.grow Hb7.out).more Hb7.out.size) (by omega)).mono ?_
        rintro e w8 ⟨rfl, hb8⟩
        have Hb8 := Lib.hid (Hb7.out.trans (hb8.mono Hb7.out.size))
        clear hb8 Hb7
        have he1 : (err == err) = true := by simp
        go_wp2_with fail
        refine (sameB B1 B2 b1 b2 kept w8 ((HR2.out.2.1.grow Hb8.out).more Hb8.out.size) ((HR2.out.2.2.2.grow Hb8.out).more Hb8.out.size) (by omega)).mono ?_
        rintro e w9 ⟨rfl, hb9⟩
        have Hb9 := Lib.hid (Hb8.out.trans (hb9.mono Hb8.out.size))
        clear hb9 Hb8
        go_wp2_with fail
        go_ret
        exact ⟨rfl, Hb2.out.trans (Hb9.out.mono Hb2.out.size)⟩
end Go.Proofs.Ytddkfdfgfkejoaa
