import Derived.Test.YthmnalaeckfaaaaMp18
namespace Go.Proofs.Ythmnalaeckfaaaa
open Go.RowKit
def sameIntRel (w : World) (cs : List Int) (k : Nat) (v : Value) (wr : World) : Prop :=
  ∃ s d : Nat, v = .int .i64 s ∧ s + k = cs.length ∧ wr = w.drewN d
set_option maxHeartbeats 1600000 in
theorem sameInt_yes (A B : Option Addr) (m m' c c' : Nat) (cs : List Int) (w : World) (h : Rd w w.heap.size 1 A m (cs.map (Value.int .i64))) (h' : Rd w w.heap.size 1 B m' (cs.map (Value.int .i64))) (hm : m = cs.length) (hm' : m' = cs.length) (hx : cs.length ≤ 4611686018427387904) :
    Calls Try.prog 25 #[.slice A m c, .slice B m' c'] w fun e w' => e = .returned (.bool true) ∧ Below w.heap.size w w' := by
  subst hm hm'
  have H := Lib.hid h
  have H' := Lib.hid h'
  clear h h'
  have hne : ((cs.length : Int) != (cs.length : Int)) = false := by simp
  go_enter Try.func25, Try.ntmps25
  go_wp2_with fail
  go_loopg [5, 13] cs.length (fun k _ v wr => sameIntRel w cs k v wr)
  case atStart => exact ⟨0, 0, rfl, by omega, rfl⟩
  case round =>
    obtain ⟨s, d, rfl, hs, rfl⟩ := hrel
    have Hs := Lib.hid hs
    clear hs
    by_cases hlt : s < cs.length
    · obtain ⟨b, off, rfl, _, q0⟩ := rd1 H.out s hlt
      obtain ⟨b', off', rfl, _, r0⟩ := rd1 H'.out s hlt
      generalize cs[s] = q at *
      go_upto_region 6 with fail
      go_quiet (fail)
      go_wp2_with fail
      go_roundg (cs.length - s - 1)
      case measure => have := Hs.out; omega
      case rel => exact ⟨s + 1, _, by first | rfl | go_num, by omega, rfl⟩
    · go_wp2_with fail
      go_ret
      exact ⟨rfl, below_drewN (Below.refl _ _) _⟩
theorem samerow_eq {x y : Row} {w : World} (hx : RowRd w x) (hy : RowRd w y) (e : y.zs = x.zs) :
    Calls Try.prog 25 #[x.val, y.val] w fun e w' => e = .returned (.bool true) ∧ Below w.heap.size w w' := by
  obtain ⟨r1, n1⟩ := hx
  obtain ⟨r2, _⟩ := hy
  obtain ⟨Ax, cx, zx⟩ := x
  obtain ⟨Ay, cy, zy⟩ := y
  simp only at *
  subst e
  exact sameInt_yes _ _ _ _ _ _ zy w r1 r2 rfl rfl n1
def SLL (w : World) (n : Nat) (k : Nat) (v : Value) (wr : World) : Prop :=
  ∃ j : Nat, v = .int .i64 j ∧ j + k = n ∧ Below w.heap.size w wr
set_option maxRecDepth 100000 in
set_option maxHeartbeats 1600000 in
theorem samelists_yes (A B : Option Addr) (m' ca cb : Nat) (l l' : List Row) (w : World) (h : MRd w A l) (h' : MRd w B l') (hm : l'.length = m') (he : matR l' = matR l) :
    Calls Try.prog 24 #[.slice A l.length ca, .slice B m' cb] w fun e w' => e = .returned (.bool true) ∧ Below w.heap.size w w' := by
  have hll : l'.length = l.length := by have := congrArg List.length he; simpa [matR] using this
  subst hm
  rw [hll]
  have HE := Lib.hid (show ∀ (i : Nat) (h1 : i < l.length) (h2 : i < l'.length), l'[i].zs = l[i].zs from fun i h1 h2 => by
    have h3 := congrArg (fun l => l[i]?) he
    simp [matR, h1, h2] at h3
    exact h3)
  have H := Lib.hid h
  have H' := Lib.hid h'
  have HM := Lib.hid hll
  have hln := h.n
  clear h h' he hll
  have hne : ((l.length : Int) != (l.length : Int)) = false := by simp
  go_enter Try.func24, Try.ntmps24
  go_wp2_with fail
  go_loopg [5, 13] l.length (fun k _ v wr => SLL w l.length k v wr)
  case atStart => exact ⟨0, rfl, by omega, Below.refl _ _⟩
  case round =>
    obtain ⟨s, rfl, hs, hb⟩ := hrel
    have Hs := Lib.hid hs
    have HB := Lib.hid hb
    clear hs hb
    by_cases hlt : s < l.length
    · have hlt' : s < l'.length := by rw [HM.out]; exact hlt
      obtain ⟨b, off, rfl, hbb, q0⟩ := rd1 (H.out.r.grow HB.out) s hlt
      obtain ⟨b', off', rfl, hbb', r0⟩ := rd1 (H'.out.r.grow HB.out) s hlt'
      have HC := Lib.hid ((H.out.c l[s] (List.getElem_mem hlt)).grow HB.out)
      have HC' := Lib.hid ((H'.out.c l'[s] (List.getElem_mem hlt')).grow HB.out)
      have HEs := Lib.hid (HE.out s hlt hlt')
      have hz := HB.out.size
      have hbw : b < wr.heap.size := by omega
      have hbw' : b' < wr.heap.size := by omega
      generalize l[s] = c at *
      generalize l'[s] = d at *
      go_upto_region 6 with fail
      refine wp_region_overL (by kernel_rfl) (by kernel_rfl) ?_
      repeat (go_big_quiet_step ((go_at_call 25; exact callsOver (samerow_eq (HC.out.grow (over_below _ _)) (HC'.out.grow (over_below _ _)) HEs.out))))
      refine wpQuiet_nil ?_
      intro w5 hb5
      have HB5 := Lib.hid (HB.out.trans (hb5.mono HB.out.size))
      clear hb5
      go_wp2_with fail
      go_roundg (l.length - s - 1)
      case measure => have := Hs.out; omega
      case rel => exact ⟨s + 1, by first | rfl | go_num, by omega, HB5.out⟩
    · go_wp2_with fail
      go_ret
      exact ⟨rfl, HB.out⟩
end Go.Proofs.Ythmnalaeckfaaaa
