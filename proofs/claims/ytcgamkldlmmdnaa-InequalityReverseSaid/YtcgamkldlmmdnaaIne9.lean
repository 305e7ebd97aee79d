import Derived.Test.YtcgamkldlmmdnaaIne8
namespace Go.Proofs.Ytcgamkldlmmdnaa
open Go.RowKit

def exA : List Act := [⟨0, 0, 1, 3, 6, 0⟩, ⟨0, 1, 0, 3, 6, 0⟩]
def SmallOut (w : World) (e : Ending) (w' : World) : Prop :=
  ∃ AE AA : Option Addr, e = .returned (.agg #[.int .i64 10, .slice AE 2 2, .slice AA exA.length 2]) ∧ Rd w' w'.heap.size 6 AA exA.length (exA.flatMap Act.cells) ∧ Below w.heap.size w w'
theorem Rd.of_blk {w : World} {g : Nat} {t : TypeId} {cs : List Value} {sz n : Nat} (h : Blk w g t cs.toArray) (hl : cs.length = n * sz) : Rd w w.heap.size sz (some ⟨g, 0, none⟩) n cs :=
  ⟨hl, fun _ => ⟨g, 0, rfl, h.lt, fun j u hu => by rw [Nat.zero_add, h.cell j]; simpa using hu⟩⟩

theorem blkT1 (w : World) (cs : Array Value) (t : TypeId) (o0 o2 : Obj) : Blk (((w.alloc o0).alloc (.cells cs t)).alloc o2) (w.heap.size + 1) t cs := by
  show (((w.heap.push o0).push (.cells cs t)).push o2)[w.heap.size + 1]? = _
  simp only [Array.getElem?_push, Array.size_push]
  rw [if_neg (by omega), if_pos trivial]
theorem blkT2 (w : World) (cs : Array Value) (t : TypeId) (o0 o1 : Obj) : Blk (((w.alloc o0).alloc o1).alloc (.cells cs t)) (w.heap.size + 1 + 1) t cs := by
  show (((w.heap.push o0).push o1).push (.cells cs t))[w.heap.size + 1 + 1]? = _
  simp only [Array.getElem?_push, Array.size_push]
  rw [if_pos trivial]
set_option maxRecDepth 100000 in
set_option maxHeartbeats 1600000 in
theorem small_any (w : World) : Calls Try.prog 29 #[] w (SmallOut w) := by
  have hmk : ∀ w : World, (Instr.makeSlice 23 (.int .i64 2) (.int .i64 2)).run Try.prog w = .ok (.slice (some ⟨w.heap.size, 0, none⟩) 2 2) (w.alloc (.cells #[.int .i64 0, .int .i64 0, .int .i64 0, .int .i64 0, .int .i64 0, .int .i64 0] 60)) := fun _ => by kernel_rfl
  go_enter Try.func29, Try.ntmps29
  go_wp2
  refine bodyPost_ret (v := .agg #[.int .i64 10, .slice (some ⟨w.heap.size + 1, 0, none⟩) 2 2, .slice (some ⟨w.heap.size + 1 + 1, 0, none⟩) 2 2]) (by simp [results, Try.results29, go_sem]) rfl ⟨_, _, rfl, ?_, (by repeat (first | exact Below.refl _ _ | (with_reducible refine Below.drew ?_) | (with_reducible refine below_drewN ?_ _) | (with_reducible refine Below.alloc ?_ (by first | omega | (simp; done) | (simp; omega)) _) | (with_reducible refine Below.setCell ?_ (by first | omega | (simp; done) | (simp; omega)) _) | (refine Below.trans ?_ (Below.mono (by with_reducible assumption) (by first | omega | (simp; done) | (simp; omega))))))⟩
  exact Rd.of_blk (t := 62) (blkT2 _ _ _ _ _) rfl
def RoundOut (w : World) (e : Ending) (w' : World) : Prop :=
  ∃ Ar As : Option Addr, e = .returned (.agg #[.slice Ar ([0, 1] : List Int).length 2, .slice As ([1, 1] : List Int).length 2]) ∧ Rd w' w'.heap.size 1 Ar ([0, 1] : List Int).length (([0, 1] : List Int).map (Value.int .i64)) ∧ Rd w' w'.heap.size 1 As ([1, 1] : List Int).length (([1, 1] : List Int).map (Value.int .i64)) ∧ Below w.heap.size w w'
set_option maxRecDepth 100000 in
set_option maxHeartbeats 1600000 in
theorem round_any (w : World) : Calls Try.prog 30 #[] w (RoundOut w) := by
  go_enter Try.func30, Try.ntmps30
  go_wp2
  refine bodyPost_ret (v := .agg #[.slice (some ⟨w.heap.size + 1, 0, none⟩) 2 2, .slice (some ⟨w.heap.size + 1 + 1, 0, none⟩) 2 2]) (by simp [results, Try.results30, go_sem]) rfl ⟨_, _, rfl, ?_, ?_, (by repeat (first | exact Below.refl _ _ | (with_reducible refine Below.drew ?_) | (with_reducible refine below_drewN ?_ _) | (with_reducible refine Below.alloc ?_ (by first | omega | (simp; done) | (simp; omega)) _) | (with_reducible refine Below.setCell ?_ (by first | omega | (simp; done) | (simp; omega)) _) | (refine Below.trans ?_ (Below.mono (by with_reducible assumption) (by first | omega | (simp; done) | (simp; omega))))))⟩
  · exact Rd.of_blk (t := 3) (blkT1 _ _ _ _ _) rfl
  · exact Rd.of_blk (t := 3) (blkT2 _ _ _ _ _) rfl
theorem lt2 (k : Nat) (h : k < ([0, 1] : List Int).length) : k = 0 ∨ k = 1 := by simp at h; omega
theorem ex_net : NetOk 10 2 exA := by
  refine ⟨by omega, by omega, by omega, by decide, fun x hx => ?_⟩
  simp only [exA, List.mem_cons, List.not_mem_nil, or_false] at hx
  rcases hx with rfl | rfl <;> exact ⟨by decide, by decide, by decide, by decide, by decide, by decide, by decide, by decide, by decide, by decide, by decide⟩
theorem ex_cyc : CycOk 10 2 exA [0, 1] [1, 1] := by
  refine ⟨ex_net, rfl, by decide, fun k hk => ?_, fun k hk => ?_, fun i j hij hj => ?_⟩
  · rcases lt2 k hk with rfl | rfl
    · exact ⟨by decide, by decide, .inl rfl, fun i hi => by omega⟩
    · refine ⟨by decide, by decide, .inl rfl, fun i hi => ?_⟩
      obtain rfl : i = 0 := by omega
      decide
  · rcases lt2 k hk with rfl | rfl <;> rfl
  · rcases lt2 j hj with rfl | rfl
    · omega
    · obtain rfl : i = 0 := by omega
      decide
theorem ex_ok : cycB 10 2 exA [0, 1] [1, 1] = true := cycB_yes ex_cyc
theorem ex_res : resV 10 2 exA [0, 1] [1, 1] = 4 := by unfold resV; rw [if_pos ex_ok]; decide
theorem ex_right : rightV 10 2 exA [0, 1] [1, 1] = 24 := by unfold rightV; rw [ex_res]; decide
theorem ex_okW : okW 10 2 exA [0, 1] [1, 1] = true := by unfold okW; rw [ex_ok]; decide
theorem ex_win : winL 10 2 exA [0, 1] [1, 1] = 1 ∧ winH 10 2 exA [0, 1] [1, 1] = 1 := by unfold winL winH; rw [ex_okW]; decide
theorem ex_gap : gapV 10 2 exA [0, 1] [1, 1] = 4 := by unfold gapV; rw [ex_okW]; decide
theorem ex_left : leftE 10 2 exA [0, 1] [1, 1] [3, 1] = 0 ∧ leftV 10 2 exA [0, 1] [1, 1] [3, 1] = 24 := by
  have hs : slOk exA [3, 1] := ⟨rfl, by decide⟩
  refine ⟨(leftE_ok ex_ok hs).1, ?_⟩
  rw [(leftE_ok ex_ok hs).2]
  unfold leftR
  rw [ex_res]
  decide
/-- the network and the cycle of the example in a world -/
theorem ex_ncyc {w : World} {AA Ar As : Option Addr} (ha : Rd w w.heap.size 6 AA exA.length (exA.flatMap Act.cells)) (hr : Rd w w.heap.size 1 Ar ([0, 1] : List Int).length (([0, 1] : List Int).map (Value.int .i64))) (hs : Rd w w.heap.size 1 As ([1, 1] : List Int).length (([1, 1] : List Int).map (Value.int .i64))) : NCyc w AA Ar As 2 exA [0, 1] [1, 1] :=
  ⟨ha, hr, hs, by omega, by decide, by decide, by decide⟩

set_option maxRecDepth 100000 in
set_option maxHeartbeats 1600000 in
theorem awake_any (w : World) : Calls Try.prog 14 #[] w fun e w' => e = .returned (.bool true) ∧ Below w.heap.size w w' := by
  go_enter Try.func14, Try.ntmps14
  go_wp2_with fail
  refine (small_any w).mono ?_
  rintro e w1 ⟨AE, AA, rfl, ha, hb1⟩
  have HA := Lib.hid ha
  have Hb1 := Lib.hid hb1
  clear ha hb1
  go_wp2_with fail
  refine (round_any w1).mono ?_
  rintro e w2 ⟨Ar, As, rfl, hr, hs, hb2⟩
  have HN := Lib.hid (ex_ncyc ((HA.out.grow hb2).more hb2.size) hr hs)
  have Hb2 := Lib.hid (Hb1.out.trans (hb2.mono Hb1.out.size))
  clear hr hs hb2 HA Hb1
  go_wp2_with fail
  refine (right_any 10 AE AA Ar As 2 2 2 2 2 exA [0, 1] [1, 1] w2 HN.out).mono ?_
  rintro e w3 ⟨rfl, hb3⟩
  rw [ex_right]
  go_wp2_with fail
  go_ret
  exact ⟨rfl, Hb2.out.trans (hb3.mono Hb2.out.size)⟩

set_option maxRecDepth 100000 in
set_option maxHeartbeats 3200000 in
theorem inequalityExamples_true (w : World) : Calls Try.prog 9 #[] w fun e w' => e = .returned (.bool true) ∧ Below w.heap.size w w' := by
  have H0 := Lib.hid (Below.refl w.heap.size w)
  go_enter Try.func9, Try.ntmps9
  go_wp2_with fail
  refine (small_any w).mono ?_
  rintro e w1 ⟨AE, AA, rfl, ha, hb1⟩
  have HA := Lib.hid ha
  have Hb1 := Lib.hid hb1
  clear ha hb1
  go_wp2_with fail
  refine (round_any w1).mono ?_
  rintro e w2 ⟨Ar, As, rfl, hr, hs, hb2⟩
  have HN := Lib.hid (ex_ncyc ((HA.out.grow hb2).more hb2.size) hr hs)
  have Hb2 := Lib.hid (Hb1.out.trans (hb2.mono Hb1.out.size))
  have H2 := Lib.hid (H0.out.trans (Hb2.out.mono H0.out.size))
  clear hr hs hb2 HA Hb1 Hb2
  go_wp2_with fail
  refine (wind_any 10 AE AA Ar As 2 2 2 2 2 exA [0, 1] [1, 1] w2 HN.out).mono ?_
  rintro e w3 ⟨rfl, hb3⟩
  rw [ex_win.1, ex_win.2, ex_okW]
  have H3 := Lib.hid (H2.out.trans (hb3.mono H2.out.size))
  clear hb3 H2 HN
  go_wp2_with fail
  refine (small_any w3).mono ?_
  rintro e w1 ⟨AE, AA, rfl, ha, hb1⟩
  have HA := Lib.hid ha
  have Hb1 := Lib.hid hb1
  clear ha hb1
  go_wp2_with fail
  refine (round_any w1).mono ?_
  rintro e w2 ⟨Ar, As, rfl, hr, hs, hb2⟩
  have HN := Lib.hid (ex_ncyc ((HA.out.grow hb2).more hb2.size) hr hs)
  have Hb2 := Lib.hid (Hb1.out.trans (hb2.mono Hb1.out.size))
  have H2 := Lib.hid (H3.out.trans (Hb2.out.mono H3.out.size))
  clear hr hs hb2 HA Hb1 Hb2
  go_wp2_with fail
  refine (gap_any 10 AE AA Ar As 2 2 2 2 2 exA [0, 1] [1, 1] w2 HN.out).mono ?_
  rintro e w4 ⟨rfl, hb3⟩
  rw [ex_gap, ex_okW]
  have H4 := Lib.hid (H2.out.trans (hb3.mono H2.out.size))
  clear hb3 H2 HN
  go_wp2_with fail
  refine (small_any w4).mono ?_
  rintro e w1 ⟨AE, AA, rfl, ha, hb1⟩
  have HA := Lib.hid ha
  have Hb1 := Lib.hid hb1
  clear ha hb1
  go_wp2_with fail
  refine (round_any w1).mono ?_
  rintro e w2 ⟨Ar, As, rfl, hr, hs, hb2⟩
  have HN := Lib.hid (ex_ncyc ((HA.out.grow hb2).more hb2.size) hr hs)
  have Hb2 := Lib.hid (Hb1.out.trans (hb2.mono Hb1.out.size))
  have H2 := Lib.hid (H4.out.trans (Hb2.out.mono H4.out.size))
  clear hr hs hb2 HA Hb1 Hb2
  go_wp2_with fail
  have hb5 : Below w2.heap.size w2 (w2.alloc (.cells #[.int .i64 3, .int .i64 1] 3)) := (by repeat (first | exact Below.refl _ _ | (with_reducible refine Below.drew ?_) | (with_reducible refine below_drewN ?_ _) | (with_reducible refine Below.alloc ?_ (by first | omega | (simp; done) | (simp; omega)) _) | (with_reducible refine Below.setCell ?_ (by first | omega | (simp; done) | (simp; omega)) _) | (refine Below.trans ?_ (Below.mono (by with_reducible assumption) (by first | omega | (simp; done) | (simp; omega))))))
  refine (left_any 10 AE AA Ar As _ 2 2 2 2 2 _ exA [0, 1] [1, 1] [3, 1] _ (HN.out.grow hb5) (Rd.of_blk (t := 3) (cs := [.int .i64 3, .int .i64 1]) (Blk.new _ _ _) rfl) (by decide)).mono ?_
  rintro e w5 ⟨rfl, hb3⟩
  rw [ex_left.1, ex_left.2]
  have hb6 := hb5.trans (hb3.mono hb5.size)
  have H5 := Lib.hid (H2.out.trans (hb6.mono H2.out.size))
  clear hb3 hb5 hb6 H2 HN
  go_wp2_with fail
  refine (small_any w5).mono ?_
  rintro e w1 ⟨AE, AA, rfl, ha, hb1⟩
  have HA := Lib.hid ha
  have Hb1 := Lib.hid hb1
  clear ha hb1
  go_wp2_with fail
  refine (round_any w1).mono ?_
  rintro e w2 ⟨Ar, As, rfl, hr, hs, hb2⟩
  have HN := Lib.hid (ex_ncyc ((HA.out.grow hb2).more hb2.size) hr hs)
  have Hb2 := Lib.hid (Hb1.out.trans (hb2.mono Hb1.out.size))
  have H2 := Lib.hid (H5.out.trans (Hb2.out.mono H5.out.size))
  clear hr hs hb2 HA Hb1 Hb2
  go_wp2_with fail
  refine (resid_any 10 AE AA Ar As 2 2 2 2 2 exA [0, 1] [1, 1] w2 HN.out).mono ?_
  rintro e w6 ⟨rfl, hb3⟩
  rw [ex_res]
  have H6 := Lib.hid (H2.out.trans (hb3.mono H2.out.size))
  clear hb3 H2 HN
  go_wp2_with fail
  refine (small_any w6).mono ?_
  rintro e w1 ⟨AE, AA, rfl, ha, hb1⟩
  have HA := Lib.hid ha
  have Hb1 := Lib.hid hb1
  clear ha hb1
  go_wp2_with fail
  refine (round_any w1).mono ?_
  rintro e w2 ⟨Ar, As, rfl, hr, hs, hb2⟩
  have HN := Lib.hid (ex_ncyc ((HA.out.grow hb2).more hb2.size) hr hs)
  have Hb2 := Lib.hid (Hb1.out.trans (hb2.mono Hb1.out.size))
  have H2 := Lib.hid (H6.out.trans (Hb2.out.mono H6.out.size))
  clear hr hs hb2 HA Hb1 Hb2
  go_wp2_with fail
  refine (right_any 10 AE AA Ar As 2 2 2 2 2 exA [0, 1] [1, 1] w2 HN.out).mono ?_
  rintro e w7 ⟨rfl, hb3⟩
  rw [ex_right]
  have H7 := Lib.hid (H2.out.trans (hb3.mono H2.out.size))
  clear hb3 H2 HN
  go_wp2_with fail
  go_ret
  exact ⟨rfl, H7.out⟩
end Go.Proofs.Ytcgamkldlmmdnaa
