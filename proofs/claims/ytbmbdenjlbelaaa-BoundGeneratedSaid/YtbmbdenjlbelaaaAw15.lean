import Derived.Test.YtbmbdenjlbelaaaBd
import Derived.Test.YtbmbdenjlbelaaaFea
namespace Go.Proofs.Ytbmbdenjlbelaaa
open Go.RowKit

def exB : List Act := [⟨0, 0, 1, 3, 6, 2⟩, ⟨0, 1, 0, 3, 6, 5⟩]
def SmallOut (w : World) (e : Ending) (w' : World) : Prop :=
  ∃ AE AA : Option Addr, e = .returned (.agg #[.int .i64 10, .slice AE 2 2, .slice AA exB.length 2]) ∧ Rd w' w'.heap.size 6 AA exB.length (exB.flatMap Act.cells) ∧ Below w.heap.size w w'
theorem Rd.of_blk {w : World} {g : Nat} {t : TypeId} {cs : List Value} {sz n : Nat} (h : Blk w g t cs.toArray) (hl : cs.length = n * sz) : Rd w w.heap.size sz (some ⟨g, 0, none⟩) n cs :=
  ⟨hl, fun _ => ⟨g, 0, rfl, h.lt, fun j u hu => by rw [Nat.zero_add, h.cell j]; simpa using hu⟩⟩
theorem blkT1 (w : World) (cs : Array Value) (t : TypeId) (o0 o2 : Obj) : Blk (((w.alloc o0).alloc (.cells cs t)).alloc o2) (w.heap.size + 1) t cs := by
  show (((w.heap.push o0).push (.cells cs t)).push o2)[w.heap.size + 1]? = _
  simp only [Array.getElem?_push, Array.size_push]
  rw [if_neg (by omega), if_pos trivial]
theorem blkT2 (w : World) (cs : Array Value) (t : TypeId) (o0 o1 : Obj) : Blk (((w.alloc o0).alloc o1).alloc (.cells cs t)) (w.heap.size + 1 + 1) t cs := by
  show (((w.heap.push o0).push o1).push (.cells cs t))[w.heap.size + 1 + 1]? = _
  simp only [Array.getElem?_push, Array.size_push]
  rw [if_pos trivial]
set_option maxRecDepth 100000 in
set_option maxHeartbeats 1600000 in
theorem small_any (w : World) : Calls Try.prog 25 #[] w (SmallOut w) := by
  have hmk : ∀ w : World, (Instr.makeSlice 23 (.int .i64 2) (.int .i64 2)).run Try.prog w = .ok (.slice (some ⟨w.heap.size, 0, none⟩) 2 2) (w.alloc (.cells #[.int .i64 0, .int .i64 0, .int .i64 0, .int .i64 0, .int .i64 0, .int .i64 0] 74)) := fun _ => by kernel_rfl
  go_enter Try.func25, Try.ntmps25
  go_wp2
  refine bodyPost_ret (v := .agg #[.int .i64 10, .slice (some ⟨w.heap.size + 1, 0, none⟩) 2 2, .slice (some ⟨w.heap.size + 1 + 1, 0, none⟩) 2 2]) (by simp [results, Try.results25, go_sem]) rfl ⟨_, _, rfl, ?_, (by repeat (first | exact Below.refl _ _ | (with_reducible refine Below.drew ?_) | (with_reducible refine below_drewN ?_ _) | (with_reducible refine Below.alloc ?_ (by first | omega | (simp; done) | (simp; omega)) _) | (with_reducible refine Below.setCell ?_ (by first | omega | (simp; done) | (simp; omega)) _) | (refine Below.trans ?_ (Below.mono (by with_reducible assumption) (by first | omega | (simp; done) | (simp; omega))))))⟩
  exact Rd.of_blk (t := 61) (blkT2 _ _ _ _ _) rfl
theorem exB_net : NetOk 10 2 exB := by
  refine ⟨by omega, by omega, by omega, by decide, fun x hx => ?_⟩
  simp only [exB, List.mem_cons, List.not_mem_nil, or_false] at hx
  rcases hx with rfl | rfl <;> exact ⟨by decide, by decide, by decide, by decide, by decide, by decide, by decide, by decide, by decide, by decide, by decide⟩
theorem exB_base : baseV 10 2 exB = 21 ∧ baseE 10 2 exB = 0 := by
  unfold baseV baseE
  rw [if_pos (netB_yes exB_net), if_pos (netB_yes exB_net)]
  exact ⟨by decide, rfl⟩
set_option maxRecDepth 100000 in
set_option maxHeartbeats 1600000 in
theorem awake_any (w : World) : Calls Try.prog 18 #[] w fun e w' => e = .returned (.bool true) ∧ Below w.heap.size w w' := by
  go_enter Try.func18, Try.ntmps18
  go_wp2_with fail
  refine (small_any w).mono ?_
  rintro e w1 ⟨AE, AA, rfl, ha, hb1⟩
  have HA := Lib.hid ha
  have Hb1 := Lib.hid hb1
  clear ha hb1
  go_wp2_with fail
  refine (base_any 10 AE AA 2 2 2 exB w1 HA.out (by omega) (by decide)).mono ?_
  rintro e w3 ⟨rfl, hb3⟩
  rw [exB_base.1, exB_base.2]
  go_wp2_with fail
  go_ret
  exact ⟨rfl, Hb1.out.trans (hb3.mono Hb1.out.size)⟩

/-- the cost of times -/
def coT (T : Int) (acts : List Act) (x : List Int) (i : Nat) : Int := (ag acts i).wt * ((ag acts i).mn + slk1 T x (ag acts i))
theorem co_bd {T : Int} {ne : Nat} {acts : List Act} {x : List Int} (hn : NetOk T ne acts) (i : Nat) (hi : i < acts.length) : -137438953472 ≤ coT T acts x i ∧ coT T acts x i ≤ 137438953472 := by
  have h := hn.a _ (ag_mem acts i (by omega) (by omega))
  have h1 := h.m0
  have h2 := h.mm
  have h3 := h.m1
  have h4 := slk1_bd (x := x) hn.t0 (ag acts i)
  have h5 := hn.t1
  have := mul_bd3 (ag acts i).wt ((ag acts i).mn + slk1 T x (ag acts i)) 1048576 131072 h.w0 h.w1 (by omega) (by omega) (by omega) (by omega)
  unfold coT
  omega
theorem coN_bd {T : Int} {ne : Nat} {acts : List Act} {x : List Int} (hn : NetOk T ne acts) (k : Nat) (hk : k ≤ acts.length) : -70368744177664 ≤ sumN (coT T acts x) k ∧ sumN (coT T acts x) k ≤ 70368744177664 := by
  have := sumN_bd (coT T acts x) (-137438953472) 137438953472 k (fun i hi => co_bd hn i (by omega))
  have := hn.n
  omega
def CoL (w : World) (X : Nat) (xs : Array Value) (T : Int) (acts : List Act) (x : List Int) (k : Nat) (v4 v : Value) (wr : World) : Prop :=
  ∃ j : Nat, v = .int .i64 j ∧ j + k = acts.length ∧ v4 = .int .i64 (sumN (coT T acts x) j) ∧ FeN w wr X xs

set_option maxRecDepth 100000 in
set_option maxHeartbeats 3200000 in
theorem cost_any (T : Int) (AE AA At : Option Addr) (ne ce ca ct : Nat) (acts : List Act) (x : List Int) (w : World) (hA : Rd w w.heap.size 6 AA acts.length (acts.flatMap Act.cells)) (hN : NetOk T ne acts) (hXr : Rd w w.heap.size 1 At x.length (x.map (Value.int .i64))) (hx : TmOk T ne x) :
    Calls Try.prog 19 #[.agg #[.int .i64 T, .slice AE ne ce, .slice AA acts.length ca], .slice At x.length ct] w fun e w' => e = .returned (.tuple #[.int .i64 (sumN (coT T acts x) acts.length), .int .i64 0]) ∧ Below w.heap.size w w' := by
  have HA := Lib.hid hA
  have HN := Lib.hid hN
  have HXr := Lib.hid hXr
  have HTm := Lib.hid hx
  have hna := hN.n
  have hne := hN.e
  have ht0 := hN.t0
  have ht1 := hN.t1
  clear hA hN hXr hx
  go_enter Try.func19, Try.ntmps19
  go_upto_region 1 with fail
  refine world_gen (fun w1 => FeN w w1 w.heap.size #[.int .i64 T, .slice AE ne ce, .slice AA acts.length ca]) ⟨(Below.refl _ _).alloc (Nat.le_refl _) _, Blk.new _ _ _⟩ ?_
  intro w0 hf0
  obtain ⟨X, hX⟩ : ∃ X, X = w.heap.size := ⟨_, rfl⟩
  rw [← hX] at ⊢
  rw [show FeN w w0 w.heap.size = FeN w w0 X by rw [hX]] at hf0
  clear hX
  have HF := Lib.hid hf0
  clear hf0
  have x0 := HF.out.x.cell 0
  have x1 := HF.out.x.cell 1
  have x2 := HF.out.x.cell 2
  simp at x0 x1 x2
  go_wp2_with fail
  refine (good_yes T AE AA At ne ce ca ct acts x w0 ((HA.out.grow HF.out.bel).more HF.out.bel.size) HN.out ((HXr.out.grow HF.out.bel).more HF.out.bel.size) HTm.out).mono ?_
  rintro e w1 ⟨rfl, hb1⟩
  have HF1 := Lib.hid (HF.out.grow hb1)
  clear x0 x1 x2 hb1 HF
  go_wp2_with fail
  go_loopg [6, 7] acts.length (fun k v6 v wr => CoL w X #[.int .i64 T, .slice AE ne ce, .slice AA acts.length ca] T acts x k v6 v wr)
  case atStart => exact ⟨0, rfl, by omega, rfl, HF1.out⟩
  case round =>
    obtain ⟨j, rfl, hj, rfl, hf⟩ := hrel
    clear HF1
    have Hj := Lib.hid hj
    have HF := Lib.hid hf
    clear hj hf
    have x0 := HF.out.x.cell 0
    have x1 := HF.out.x.cell 1
    have x2 := HF.out.x.cell 2
    simp at x0 x1 x2
    by_cases hlt : j < acts.length
    · obtain ⟨ba, oa, rfl, hba, d0, d1, d2, d3, d4, d5⟩ := rdAct (HA.out.grow HF.out.bel) rfl j hlt
      have HAk := Lib.hid (HN.out.a acts[j] (List.getElem_mem hlt))
      have b1 := coN_bd (x := x) HN.out j (by omega)
      have b2 := co_bd (x := x) HN.out j hlt
      have HSu : Hid (sumN (coT T acts x) (j + 1) = sumN (coT T acts x) j + (ag acts j).wt * ((ag acts j).mn + slk1 T x (ag acts j))) := rfl
      rw [show coT T acts x j = (ag acts j).wt * ((ag acts j).mn + slk1 T x (ag acts j)) from rfl] at b2
      generalize sumN (coT T acts x) j = sv at *
      rw [ag_nat acts j hlt] at HSu b2
      have hba' : ba < wr.heap.size := World.block_lt_of_cell? _ _ d0
      have hxl := HF.out.x.lt
      generalize acts[j] = aa at *
      obtain ⟨kd, fr, tt, mn, mx, wt⟩ := aa
      simp only at d0 d1 d2 d3 d4 d5 HSu b2
      generalize hsl : slk1 T x ⟨kd, fr, tt, mn, mx, wt⟩ = sl at *
      have Hsl := Lib.hid hsl
      clear hsl
      obtain ⟨b20, b21⟩ := b2
      have e1 : IntKind.i64.wrap (wt * (mn + sl)) = wt * (mn + sl) := IntWalk.i64_in _ (by omega)
      have e2 : IntKind.i64.wrap (sv + wt * (mn + sl)) = sv + wt * (mn + sl) := IntWalk.i64_in _ (by omega)
      go_upto_region 7 with fail
      refine wp_region_overL (by kernel_rfl) (by kernel_rfl) ?_
      repeat (go_big_quiet_step ((go_at_call 37; exact callsOver (lasts_eq T AE _ At ne ce _ ca ct x kd fr tt mn mx wt _ ((HXr.out.grow (HF.out.bel.trans ((over_below wr _).mono HF.out.bel.size))).more (HF.out.bel.trans ((over_below wr _).mono HF.out.bel.size)).size) HTm.out HAk.out ht0 ht1 sl Hsl.out))))
      refine wpQuiet_nil ?_
      intro w6 hb6
      have HF6 := Lib.hid (HF.out.grow hb6)
      clear x0 x1 x2 d0 d1 d2 d3 d4 d5 hxl hba' HF hb6 e1 e2
      go_wp2_with fail
      go_roundg (acts.length - j - 1)
      case measure => have := Hj.out; omega
      case rel => exact ⟨j + 1, by first | rfl | go_num, by omega, by rw [HSu.out], HF6.out⟩
    · obtain rfl : j = acts.length := by have := Hj.out; omega
      go_wp2_with fail
      go_ret2
      exact ⟨rfl, HF.out.bel⟩
end Go.Proofs.Ytbmbdenjlbelaaa
