import Derived.Test.YthfifejjfnmpoaaTp10
import Derived.Test.YthfifejjfnmpoaaTp7
namespace Go.Proofs.Ythfifejjfnmpoaa
open Go.RowKit
def SmL (w : World) (n : Nat) (k : Nat) (v : Value) (wr : World) : Prop :=
  ∃ j : Nat, v = .int .i64 j ∧ j + k = n ∧ Below w.heap.size w wr
theorem pe_len {es es' : List CE} (h : es'.map CE.pe = es.map CE.pe) : es'.length = es.length := by have := congrArg List.length h; simpa using this
theorem pt_len {es es' : List CT} (h : es'.map CT.pt = es.map CT.pt) : es'.length = es.length := by have := congrArg List.length h; simpa using this
theorem pe_at {es es' : List CE} (h : es'.map CE.pe = es.map CE.pe) (j : Nat) (h1 : j < es.length) (h2 : j < es'.length) : es'[j].pe = es[j].pe := by
  have := congrArg (fun l => l[j]?) h
  simpa [h1, h2] using this
theorem pt_at {es es' : List CT} (h : es'.map CT.pt = es.map CT.pt) (j : Nat) (h1 : j < es.length) (h2 : j < es'.length) : es'[j].pt = es[j].pt := by
  have := congrArg (fun l => l[j]?) h
  simpa [h1, h2] using this
set_option maxRecDepth 100000 in
set_option maxHeartbeats 3200000 in
theorem sameE_yes (A B : Option Addr) (c c' m : Nat) (es es' : List CE) (w : World) (ha : EL w A c es) (hb : EL w B c' es') (hm : es'.length = m) (he : es'.map CE.pe = es.map CE.pe) :
    Calls Try.prog 20 #[.slice A es.length c, .slice B m c'] w fun e w' => e = .returned (.bool true) ∧ Below w.heap.size w w' := by
  have hml : m = es.length := by rw [← hm]; exact pe_len he
  subst hml
  have H := Lib.hid ha
  have H' := Lib.hid hb
  have HL := Lib.hid hm
  have HQ := Lib.hid (fun j h1 h2 => pe_at he j h1 h2)
  have hsz := ha.sz
  clear ha hb hm he
  have hne : ((es.length : Int) != (es.length : Int)) = false := by simp
  go_enter Try.func20, Try.ntmps20
  go_wp2_with fail
  go_loopg [5, 13] es.length (fun k _ v wr => SmL w es.length k v wr)
  case atStart => exact ⟨0, rfl, by omega, Below.refl _ _⟩
  case round =>
    obtain ⟨j, rfl, hj, hb⟩ := hrel
    have Hj := Lib.hid hj
    have HB := Lib.hid hb
    clear hj hb
    by_cases hlt : j < es.length
    · have hlt' : j < es'.length := by rw [HL.out]; exact hlt
      obtain ⟨b, off, rfl, hbb, q0, q1, q2, q3, q4, q5, q6, q7, q8⟩ := rdE (H.out.r.grow HB.out) rfl j hlt
      obtain ⟨b', off', rfl, hbb', r0, r1, r2, r3, r4, r5, r6, r7, r8⟩ := rdE (H'.out.r.grow HB.out) rfl j hlt'
      have HX := Lib.hid ((H.out.m _ (List.getElem_mem hlt)).go HB.out)
      have HY := Lib.hid ((H'.out.m _ (List.getElem_mem hlt')).go HB.out)
      have hbw : b < wr.heap.size := World.block_lt_of_cell? _ _ q0
      have hbw' : b' < wr.heap.size := World.block_lt_of_cell? _ _ r0
      have HE := Lib.hid (HQ.out j hlt hlt')
      generalize es[j] = x at *
      generalize es'[j] = y at *
      have HCM : Hid (∀ W, Below wr.heap.size wr W → Calls Try.prog 40 #[.agg #[.int .i64 (x).k, .int .i64 (x).o.ln, .int .i64 (x).o.dy, .slice (x).o.Ad (x).o.dep.length (x).o.cd, .slice (x).o.Aa (x).o.arr.length (x).o.ca, .int .i64 (x).n.ln, .int .i64 (x).n.dy, .slice (x).n.Ad (x).n.dep.length (x).n.cd, .slice (x).n.Aa (x).n.arr.length (x).n.ca], .agg #[.int .i64 (y).k, .int .i64 (y).o.ln, .int .i64 (y).o.dy, .slice (y).o.Ad (y).o.dep.length (y).o.cd, .slice (y).o.Aa (y).o.arr.length (y).o.ca, .int .i64 (y).n.ln, .int .i64 (y).n.dy, .slice (y).n.Ad (y).n.dep.length (y).n.cd, .slice (y).n.Aa (y).n.arr.length (y).n.ca]] W fun e w' => e = .returned (.bool true) ∧ Below W.heap.size W w') := fun W hW => by
        have h := rsm_any x y W (HX.out.go hW) (HY.out.go hW)
        rwa [eqE_iff.2 HE.out.symm] at h
      go_upto_region 6 with fail
      refine wp_region_overL (by kernel_rfl) (by kernel_rfl) ?_
      repeat (go_big_quiet_step ((go_at_call 40; exact callsOver (HCM.out _ (over_below _ _)))))
      refine wpQuiet_nil ?_
      intro w5 hb5
      have HB5 := Lib.hid (HB.out.trans (hb5.mono HB.out.size))
      clear hb5 q0 q1 q2 q3 q4 q5 q6 q7 q8 r0 r1 r2 r3 r4 r5 r6 r7 r8
      go_wp2_with fail
      go_roundg (es.length - j - 1)
      case measure => have := Hj.out; omega
      case rel => exact ⟨j + 1, by first | rfl | go_num, by omega, HB5.out⟩
    · go_wp2_with fail
      go_ret
      exact ⟨rfl, HB.out⟩
set_option maxRecDepth 100000 in
set_option maxHeartbeats 3200000 in
theorem sameT_yes (A B : Option Addr) (c c' m : Nat) (es es' : List CT) (w : World) (ha : TL w A c es) (hb : TL w B c' es') (hm : es'.length = m) (he : es'.map CT.pt = es.map CT.pt) :
    Calls Try.prog 23 #[.slice A es.length c, .slice B m c'] w fun e w' => e = .returned (.bool true) ∧ Below w.heap.size w w' := by
  have hml : m = es.length := by rw [← hm]; exact pt_len he
  subst hml
  have H := Lib.hid ha
  have H' := Lib.hid hb
  have HL := Lib.hid hm
  have HQ := Lib.hid (fun j h1 h2 => pt_at he j h1 h2)
  have hsz := ha.sz
  clear ha hb hm he
  have hne : ((es.length : Int) != (es.length : Int)) = false := by simp
  go_enter Try.func23, Try.ntmps23
  go_wp2_with fail
  go_loopg [5, 13] es.length (fun k _ v wr => SmL w es.length k v wr)
  case atStart => exact ⟨0, rfl, by omega, Below.refl _ _⟩
  case round =>
    obtain ⟨j, rfl, hj, hb⟩ := hrel
    have Hj := Lib.hid hj
    have HB := Lib.hid hb
    clear hj hb
    by_cases hlt : j < es.length
    · have hlt' : j < es'.length := by rw [HL.out]; exact hlt
      obtain ⟨b, off, rfl, hbb, q0, q1, q2, q3⟩ := rdT (H.out.r.grow HB.out) rfl j hlt
      obtain ⟨b', off', rfl, hbb', r0, r1, r2, r3⟩ := rdT (H'.out.r.grow HB.out) rfl j hlt'
      have HX := Lib.hid ((H.out.m _ (List.getElem_mem hlt)).go HB.out)
      have HY := Lib.hid ((H'.out.m _ (List.getElem_mem hlt')).go HB.out)
      have hbw : b < wr.heap.size := World.block_lt_of_cell? _ _ q0
      have hbw' : b' < wr.heap.size := World.block_lt_of_cell? _ _ r0
      have he := HQ.out j hlt hlt'
      generalize es[j] = x at *
      generalize es'[j] = y at *
      obtain ⟨ln, dy, Ad, cd, Aa, ca, dep, arr⟩ := x
      obtain ⟨ln', dy', Ad', cd', Aa', ca', dep', arr'⟩ := y
      unfold CT.pt at he
      injection he with e1 e2 e3 e4
      simp only at e1 e2 e3 e4 q0 q1 q2 q3 r0 r1 r2 r3
      subst e1 e2 e3 e4
      have hz1 : (ln' != ln') = false := by simp
      have hz2 : (dy' != dy') = false := by simp
      have hsd := HX.out.d.sz
      have hsa := HX.out.a.sz
      simp only at hsd hsa
      have HD : Hid (∀ W, Below wr.heap.size wr W → Calls Try.prog 44 #[.slice Ad dep'.length cd, .slice Ad' dep'.length cd'] W fun e w' => e = .returned (.bool true) ∧ Below W.heap.size W w') := fun W hW => by
        have h := eqk_any Ad Ad' cd cd' dep' dep' W (HX.out.go hW).d.r (HY.out.go hW).d.r (by omega) (by omega)
        rwa [decide_eq_true rfl] at h
      have HA : Hid (∀ W, Below wr.heap.size wr W → Calls Try.prog 44 #[.slice Aa arr'.length ca, .slice Aa' arr'.length ca'] W fun e w' => e = .returned (.bool true) ∧ Below W.heap.size W w') := fun W hW => by
        have h := eqk_any Aa Aa' ca ca' arr' arr' W (HX.out.go hW).a.r (HY.out.go hW).a.r (by omega) (by omega)
        rwa [decide_eq_true rfl] at h
      go_upto_region 6 with fail
      refine wp_region_overL (by kernel_rfl) (by kernel_rfl) ?_
      repeat (go_big_quiet_step (first | (go_at_call 44; with_reducible exact callsOver (HD.out _ (over_below _ _))) | (go_at_call 44; with_reducible exact callsOver (HA.out _ (over_below _ _)))))
      refine wpQuiet_nil ?_
      intro w5 hb5
      have HB5 := Lib.hid (HB.out.trans (hb5.mono HB.out.size))
      clear hb5 q0 q1 q2 q3 r0 r1 r2 r3
      go_wp2_with fail
      go_roundg (es.length - j - 1)
      case measure => have := Hj.out; omega
      case rel => exact ⟨j + 1, by first | rfl | go_num, by omega, HB5.out⟩
    · go_wp2_with fail
      go_ret
      exact ⟨rfl, HB.out⟩
end Go.Proofs.Ythfifejjfnmpoaa
