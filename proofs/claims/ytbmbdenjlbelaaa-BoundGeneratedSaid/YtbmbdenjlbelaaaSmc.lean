import Derived.Test.YtbmbdenjlbelaaaBd2
namespace Go.Proofs.Ytbmbdenjlbelaaa
open Go.RowKit
def sameIntRel (w : World) (cs : List Int) (k : Nat) (v : Value) (wr : World) : Prop :=
  ∃ s d : Nat, v = .int .i64 s ∧ s + k = cs.length ∧ wr = w.drewN d
set_option maxHeartbeats 1600000 in
theorem sameInt_yes (A B : Option Addr) (m m' c c' : Nat) (cs : List Int) (w : World) (h : Rd w w.heap.size 1 A m (cs.map (Value.int .i64))) (h' : Rd w w.heap.size 1 B m' (cs.map (Value.int .i64))) (hm : m = cs.length) (hm' : m' = cs.length) (hx : cs.length ≤ 4611686018427387904) :
    Calls Try.prog 57 #[.slice A m c, .slice B m' c'] w fun e w' => e = .returned (.bool true) ∧ Below w.heap.size w w' := by
  subst hm hm'
  have H := Lib.hid h
  have H' := Lib.hid h'
  clear h h'
  have hne : ((cs.length : Int) != (cs.length : Int)) = false := by simp
  go_enter Try.func57, Try.ntmps57
  go_wp2_with fail
  go_loopg [5, 13] cs.length (fun k _ v wr => sameIntRel w cs k v wr)
  case atStart => exact ⟨0, 0, rfl, by omega, rfl⟩
  case round =>
    obtain ⟨s, d, rfl, hs, rfl⟩ := hrel
    have Hs := Lib.hid hs
    clear hs
    by_cases hlt : s < cs.length
    · obtain ⟨b, off, rfl, _, q0⟩ := rd1 H.out s hlt
      obtain ⟨b', off', rfl, _, r0⟩ := rd1 H'.out s hlt
      generalize cs[s] = q at *
      go_upto_region 6 with fail
      go_quiet (fail)
      go_wp2_with fail
      go_roundg (cs.length - s - 1)
      case measure => have := Hs.out; omega
      case rel => exact ⟨s + 1, _, by first | rfl | go_num, by omega, rfl⟩
    · go_wp2_with fail
      go_ret
      exact ⟨rfl, below_drewN (Below.refl _ _) _⟩

set_option maxRecDepth 100000 in
set_option maxHeartbeats 1600000 in
theorem samecyc_yes (A B C D : Option Addr) (a b c d : Nat) (arcs signs : List Int) (w : World) (h1 : Rd w w.heap.size 1 A arcs.length (arcs.map (Value.int .i64))) (h2 : Rd w w.heap.size 1 B signs.length (signs.map (Value.int .i64))) (h3 : Rd w w.heap.size 1 C arcs.length (arcs.map (Value.int .i64))) (h4 : Rd w w.heap.size 1 D signs.length (signs.map (Value.int .i64))) (hr : arcs.length ≤ 4611686018427387904) (hs : signs.length ≤ 4611686018427387904) :
    Calls Try.prog 42 #[.agg #[.slice A arcs.length a, .slice B signs.length b], .agg #[.slice C arcs.length c, .slice D signs.length d]] w fun e w' => e = .returned (.bool true) ∧ Below w.heap.size w w' := by
  have H1 := Lib.hid h1
  have H2 := Lib.hid h2
  have H3 := Lib.hid h3
  have H4 := Lib.hid h4
  clear h1 h2 h3 h4
  go_enter Try.func42, Try.ntmps42
  go_wp2_with fail
  have hb0 : Below w.heap.size w ((w.alloc (.cells #[.slice A arcs.length a, .slice B signs.length b] 45)).alloc (.cells #[.slice C arcs.length c, .slice D signs.length d] 45)) := (by repeat (first | exact Below.refl _ _ | (with_reducible refine Below.drew ?_) | (with_reducible refine below_drewN ?_ _) | (with_reducible refine Below.alloc ?_ (by first | omega | (simp; done) | (simp; omega)) _) | (with_reducible refine Below.setCell ?_ (by first | omega | (simp; done) | (simp; omega)) _) | (refine Below.trans ?_ (Below.mono (by with_reducible assumption) (by first | omega | (simp; done) | (simp; omega))))))
  refine (sameInt_yes A C _ _ a c arcs _ ((H1.out.grow hb0).more hb0.size) ((H3.out.grow hb0).more hb0.size) rfl rfl hr).mono ?_
  rintro e w1 ⟨rfl, hb1⟩
  have hb1' := hb0.trans (hb1.mono hb0.size)
  obtain ⟨hc1, hf1⟩ := bcell hb1
  have HB1 := Lib.hid hb1'
  clear hb1 hb0 hb1'
  go_wp2_with fail
  refine (sameInt_yes B D _ _ b d signs _ ((H2.out.grow HB1.out).more HB1.out.size) ((H4.out.grow HB1.out).more HB1.out.size) rfl rfl hs).mono ?_
  rintro e w2 ⟨rfl, hb2⟩
  have HB2 := Lib.hid (HB1.out.trans (hb2.mono HB1.out.size))
  clear hb2 hc1 hf1
  go_wp2_with fail
  go_ret
  exact ⟨rfl, HB2.out⟩
theorem samecyc_eq {c d : Cyc} {w : World} (hc : CyRd w c) (hd : CyRd w d) (e1 : d.arcs = c.arcs) (e2 : d.signs = c.signs) :
    Calls Try.prog 42 #[.agg #[.slice c.Ar c.arcs.length c.cr, .slice c.As c.signs.length c.cs], .agg #[.slice d.Ar d.arcs.length d.cr, .slice d.As d.signs.length d.cs]] w fun e w' => e = .returned (.bool true) ∧ Below w.heap.size w w' := by
  obtain ⟨r1, s1, n1, n2⟩ := hc
  obtain ⟨r2, s2, _, _⟩ := hd
  obtain ⟨Ar, cr, As, cs, arcs, signs⟩ := c
  obtain ⟨Br, dr, Bs, ds, arcs', signs'⟩ := d
  simp only at *
  subst e1 e2
  exact samecyc_yes _ _ _ _ _ _ _ _ _ _ w r1 s1 r2 s2 n1 n2
def SCL (w : World) (n : Nat) (k : Nat) (v : Value) (wr : World) : Prop :=
  ∃ j : Nat, v = .int .i64 j ∧ j + k = n ∧ Below w.heap.size w wr
set_option maxRecDepth 100000 in
set_option maxHeartbeats 1600000 in
theorem samecycs_yes (A B : Option Addr) (m' ca cb : Nat) (l l' : List Cyc) (w : World) (h : CysRd w A l) (h' : CysRd w B l') (hm : l'.length = m') (he : ∀ (i : Nat) (h1 : i < l.length) (h2 : i < l'.length), l'[i].arcs = l[i].arcs ∧ l'[i].signs = l[i].signs) (hl : m' = l.length) :
    Calls Try.prog 24 #[.slice A l.length ca, .slice B m' cb] w fun e w' => e = .returned (.bool true) ∧ Below w.heap.size w w' := by
  subst hl
  have H := Lib.hid h
  have H' := Lib.hid h'
  have HE := Lib.hid he
  have HM := Lib.hid hm
  have hln := h.n
  clear h h' he hm
  have hne : ((l.length : Int) != (l.length : Int)) = false := by simp
  go_enter Try.func24, Try.ntmps24
  go_wp2_with fail
  go_loopg [5, 13] l.length (fun k _ v wr => SCL w l.length k v wr)
  case atStart => exact ⟨0, rfl, by omega, Below.refl _ _⟩
  case round =>
    obtain ⟨s, rfl, hs, hb⟩ := hrel
    have Hs := Lib.hid hs
    have HB := Lib.hid hb
    clear hs hb
    by_cases hlt : s < l.length
    · have hlt' : s < l'.length := by rw [HM.out]; exact hlt
      obtain ⟨b, off, rfl, hbb, q0, q1⟩ := rdCyc (H.out.r.grow HB.out) rfl s hlt
      obtain ⟨b', off', rfl, hbb', r0, r1⟩ := rdCyc (H'.out.r.grow HB.out) rfl s hlt'
      have HC := Lib.hid ((H.out.c l[s] (List.getElem_mem hlt)).grow HB.out)
      have HC' := Lib.hid ((H'.out.c l'[s] (List.getElem_mem hlt')).grow HB.out)
      have HEs := Lib.hid (HE.out s hlt hlt')
      have hz := HB.out.size
      have hbw : b < wr.heap.size := by omega
      have hbw' : b' < wr.heap.size := by omega
      generalize l[s] = c at *
      generalize l'[s] = d at *
      go_upto_region 6 with fail
      refine wp_region_overL (by kernel_rfl) (by kernel_rfl) ?_
      repeat (go_big_quiet_step ((go_at_call 42; exact callsOver (samecyc_eq (HC.out.grow (over_below _ _)) (HC'.out.grow (over_below _ _)) HEs.out.1 HEs.out.2))))
      refine wpQuiet_nil ?_
      intro w5 hb5
      have HB5 := Lib.hid (HB.out.trans (hb5.mono HB.out.size))
      clear hb5
      go_wp2_with fail
      go_roundg (l.length - s - 1)
      case measure => have := Hs.out; omega
      case rel => exact ⟨s + 1, by first | rfl | go_num, by omega, HB5.out⟩
    · go_wp2_with fail
      go_ret
      exact ⟨rfl, HB.out⟩
def SPL (w : World) (n : Nat) (k : Nat) (v : Value) (wr : World) : Prop :=
  ∃ j : Nat, v = .int .i64 j ∧ j + k = n ∧ Below w.heap.size w wr
set_option maxRecDepth 100000 in
set_option maxHeartbeats 1600000 in
theorem sameparts_yes (A B : Option Addr) (m' ca cb : Nat) (l l' : List Prt) (w : World) (h : PrsRd w A l) (h' : PrsRd w B l') (hm : l'.length = m') (he : ∀ (i : Nat) (h1 : i < l.length) (h2 : i < l'.length), l'[i].c.arcs = l[i].c.arcs ∧ l'[i].c.signs = l[i].c.signs ∧ l'[i].tm = l[i].tm) (hl : m' = l.length) :
    Calls Try.prog 28 #[.slice A l.length ca, .slice B m' cb] w fun e w' => e = .returned (.bool true) ∧ Below w.heap.size w w' := by
  subst hl
  have H := Lib.hid h
  have H' := Lib.hid h'
  have HE := Lib.hid he
  have HM := Lib.hid hm
  have hln := h.n
  clear h h' he hm
  have hne : ((l.length : Int) != (l.length : Int)) = false := by simp
  go_enter Try.func28, Try.ntmps28
  go_wp2_with fail
  go_loopg [5, 13] l.length (fun k _ v wr => SPL w l.length k v wr)
  case atStart => exact ⟨0, rfl, by omega, Below.refl _ _⟩
  case round =>
    obtain ⟨s, rfl, hs, hb⟩ := hrel
    have Hs := Lib.hid hs
    have HB := Lib.hid hb
    clear hs hb
    by_cases hlt : s < l.length
    · have hlt' : s < l'.length := by rw [HM.out]; exact hlt
      obtain ⟨b, off, rfl, hbb, q0, q1, q2⟩ := rdPrt (H.out.r.grow HB.out) rfl s hlt
      obtain ⟨b', off', rfl, hbb', r0, r1, r2⟩ := rdPrt (H'.out.r.grow HB.out) rfl s hlt'
      have HC := Lib.hid ((H.out.c l[s] (List.getElem_mem hlt)).grow HB.out)
      have HC' := Lib.hid ((H'.out.c l'[s] (List.getElem_mem hlt')).grow HB.out)
      have HEs := Lib.hid (HE.out s hlt hlt')
      have hz := HB.out.size
      have hbw : b < wr.heap.size := by omega
      have hbw' : b' < wr.heap.size := by omega
      rw [HEs.out.2.2] at r2
      generalize l[s] = c at *
      generalize l'[s] = d at *
      have hne2 : (c.tm != c.tm) = false := by simp
      go_upto_region 6 with fail
      refine wp_region_overL (by kernel_rfl) (by kernel_rfl) ?_
      repeat (go_big_quiet_step ((go_at_call 42; exact callsOver (samecyc_eq (HC.out.grow (over_below _ _)) (HC'.out.grow (over_below _ _)) HEs.out.1 HEs.out.2.1))))
      refine wpQuiet_nil ?_
      intro w5 hb5
      have HB5 := Lib.hid (HB.out.trans (hb5.mono HB.out.size))
      clear hb5
      go_wp2_with fail
      go_roundg (l.length - s - 1)
      case measure => have := Hs.out; omega
      case rel => exact ⟨s + 1, by first | rfl | go_num, by omega, HB5.out⟩
    · go_wp2_with fail
      go_ret
      exact ⟨rfl, HB.out⟩
end Go.Proofs.Ytbmbdenjlbelaaa
