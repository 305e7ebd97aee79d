import Derived.Test.YtddkfdfgfkejoaaDly10
import Derived.Test.YtddkfdfgfkejoaaLs
import Derived.Test.YtddkfdfgfkejoaaData4
namespace Go.Proofs.Ytddkfdfgfkejoaa
open Go.RowKit

def lateL (ms : List Mom) (ts : List Int) : List Int := List.zipWith (fun m t => wrap64 (t - m.time)) ms ts
theorem lateL_len {ms : List Mom} {ts : List Int} (h : ts.length = ms.length) : (lateL ms ts).length = ms.length := by simp [lateL, h]
theorem lateL_get {ms : List Mom} {ts : List Int} (i : Nat) (h1 : i < ms.length) (h2 : i < ts.length) : (lateL ms ts)[i]'(by simp [lateL]; omega) = wrap64 (ts[i] - ms[i].time) := by simp [lateL]
def LateOut (ms : List Mom) (ts : List Int) (w : World) (e : Ending) (w' : World) : Prop :=
  Below w.heap.size w w' ∧ ((ts.length = ms.length ∧ ∃ v, e = .returned (.tuple #[v, .int .i64 0]) ∧ w'.ownsRow w.heap.size 3 1 v ms.length ((lateL ms ts).map (Value.int .i64))) ∨
    (ts.length ≠ ms.length ∧ e = .returned (.tuple #[.slice none 0 0, .int .i64 1])))
def LLate (w : World) (ms : List Mom) (ts : List Int) (k : Nat) (v6 v : Value) (wr : World) : Prop :=
  ∃ i : Nat, v = .int .i64 i ∧ i + k = ms.length ∧ wr.ownsRow w.heap.size 3 1 v6 ms.length (((lateL ms ts).take i ++ List.replicate ((lateL ms ts).length - i) 0).map (Value.int .i64)) ∧ Below w.heap.size w wr

set_option maxRecDepth 100000 in
set_option maxHeartbeats 1600000 in
theorem late_any (A B : Option Addr) (a b a' b' : Nat) (ms : List Mom) (ts : List Int) (w : World) (hA : Rd w w.heap.size 2 A a (ms.flatMap Mom.cells)) (hB : Rd w w.heap.size 1 B b (ts.map (Value.int .i64)))
    (ha : a = ms.length) (hb : b = ts.length) (hal : ms.length * 16 ≤ 140737488351232) (_hbl : ts.length * 8 ≤ 140737488351232) :
    Calls Try.prog 17 #[.slice A a a', .slice B b b'] w (LateOut ms ts w) := by
  subst ha hb
  have HA := Lib.hid hA
  have HB := Lib.hid hB
  obtain ⟨i0, hi0, hz0, hz1, hz2⟩ := info_parts infoInt
  have HI := Lib.hid (And.intro hi0 (And.intro hz0 (And.intro hz1 hz2)))
  clear hi0 hz0 hz1 hz2 hA hB
  by_cases hl : ts.length = ms.length
  · have Hl := Lib.hid hl
    have hl' : ((ts.length : Int) != (ms.length : Int)) = false := by simp [hl]
    have HLL := Lib.hid (lateL_len hl)
    clear hl
    go_enter Try.func17, Try.ntmps17
    go_wp2_with (at_make; refine wpList_make_full _ rfl _ _ 22 rfl (w.heap.size) 3 i0 _ 1 Try.underlying22 HI.out.1 HI.out.2.1 HI.out.2.2.1 .i64 .i64 _ _ ms.length rfl rfl rfl rfl ?m1 ?m2 ?m3 ?_; rotate_right; intro w2 hown2 hg2)
    case m1 => rw [HI.out.2.2.2]; omega
    case m2 => simp only [maxLen]; omega
    case m3 => omega
    have HO2 : Hid (w2.ownsRow w.heap.size 3 1 (.slice (some ⟨w.heap.size, 0, none⟩) ms.length ms.length) ms.length ((List.replicate ms.length (0 : Int)).map (Value.int .i64))) := by
      have := madeCells_one (Value.int .i64) 0 ms.length
      rw [← this]
      exact hown2
    have Hb2 := Lib.hid (show Below w.heap.size w w2 from (Below.refl _ _).grown hg2 (Nat.le_refl _) (by simp))
    clear hown2 hg2
    obtain ⟨G, hG⟩ : ∃ G, G = w.heap.size := ⟨_, rfl⟩
    rw [← hG] at ⊢
    rw [show (Value.slice (some ⟨w.heap.size, 0, none⟩) ms.length ms.length) = Value.slice (some ⟨G, 0, none⟩) ms.length ms.length by rw [hG]] at HO2
    have hGl : w.heap.size ≤ G := by omega
    clear hG
    go_wp2_with fail
    go_loopg [7, 8, 19] ms.length (fun k _ _ v wr => LLate w ms ts k (.slice (some ⟨G, 0, none⟩) ms.length ms.length) v wr)
    case atStart => exact ⟨0, rfl, by omega, by rw [← fill_zero _ _ _ HLL.out]; exact HO2.out, Hb2.out⟩
    case round =>
      obtain ⟨i, rfl, hi, hown, hbel⟩ := hrel
      have Hi := Lib.hid hi
      have HO := Lib.hid hown
      have HBel := Lib.hid hbel
      clear hi hown hbel HO2 Hb2
      by_cases hlt : i < ms.length
      · have hlt2 : i < ts.length := by have := Hl.out; omega
        obtain ⟨bm, om, rfl, hbm, m0, m1⟩ := rdMom (HA.out.grow HBel.out) rfl i hlt
        obtain ⟨bt, ot, rfl, hbt, t0⟩ := rd1 (HB.out.grow HBel.out) i hlt2
        have hget := lateL_get i hlt hlt2
        have hll : i < (lateL ms ts).length := by rw [HLL.out]; exact hlt
        have HSet := Lib.hid (fill_set (lateL ms ts) 0 i hll)
        rw [hget] at HSet
        clear hget hll
        generalize ms[i].time = mt at *
        generalize ms[i].hold = mh at *
        generalize ts[i] = tv at *
        go_upto_region 7 with fail
        have hba : Below wr.heap.size wr (wr.alloc (.cells #[.int .i64 mt, .bool mh] 33)) := (Below.refl _ _).alloc (Nat.le_refl _) _
        have HO5 := Lib.hid (own_grow HO.out hba)
        have HB5 := Lib.hid (HBel.out.trans (hba.mono HBel.out.size))
        have ht5 := (World.cell?_alloc_lt wr (.cells #[.int .i64 mt, .bool mh] 33) _ (World.block_lt_of_cell? _ _ t0)).trans t0
        have HX5 := Lib.hid (Blk.new wr 33 #[.int .i64 mt, .bool mh])
        clear hba m0 m1 t0 HO HBel
        generalize wr.alloc (.cells #[.int .i64 mt, .bool mh] 33) = w5 at *
        have hxl := HX5.out.lt
        have x0 := HX5.out.cell 0
        simp at x0
        have hbt5 := World.block_lt_of_cell? _ _ ht5
        simp only at hbt5
        refine wp_region_overT 9 (by kernel_rfl) (by kernel_rfl) ?_
        simp only [List.take_succ_cons, List.take_zero, List.drop_succ_cons, List.drop_zero]
        repeat (go_big_quiet_step ((fail)))
        refine wpQuiet_nil ?_
        intro w6 hb6
        have HO6 := Lib.hid (own_grow HO5.out hb6)
        have HB6 := Lib.hid (HB5.out.trans (hb6.mono HB5.out.size))
        have q0 := own1 HO6.out i (by simp [HLL.out]; omega)
        have q1 := HO6.out.frozenAt i
        clear HO5 HB5 ht5 x0 hxl hbt5
        go_wp2_with fail
        go_roundg (ms.length - i - 1)
        case measure => have := Hi.out; omega
        case rel =>
          refine ⟨i + 1, by first | rfl | go_num, by omega, ?_, HB6.out.setCell (by simp; omega) _⟩
          rw [← HSet.out]
          have := own1_set HO6.out i (wrap64 (tv - mt))
          exact this
      · have hle : (lateL ms ts).length ≤ i := by rw [HLL.out]; omega
        rw [fill_all _ _ _ hle] at HO
        clear hle Hi
        go_wp2_with fail
        go_ret2
        exact ⟨HBel.out, .inl ⟨Hl.out, _, rfl, HO.out⟩⟩
  · have hl' : ((ts.length : Int) != (ms.length : Int)) = true := by simp; omega
    have Hl := Lib.hid hl
    clear hl
    go_enter Try.func17, Try.ntmps17
    go_wp2_with fail
    go_ret2
    exact ⟨Below.refl _ _, .inr ⟨Hl.out, rfl⟩⟩

def LLateR (w : World) (ms : List Mom) (ts : List Int) (k : Nat) (v6 v : Value) (wr : World) : Prop :=
  ∃ i : Nat, v = .int .i64 i ∧ i + k = ms.length ∧ wr.ownsRow w.heap.size 3 1 v6 i (((lateL ms ts).take i).map (Value.int .i64)) ∧ Below w.heap.size w wr

set_option maxRecDepth 100000 in
set_option maxHeartbeats 1600000 in
theorem rlate_any (A B : Option Addr) (a b a' b' : Nat) (ms : List Mom) (ts : List Int) (w : World) (hA : Rd w w.heap.size 2 A a (ms.flatMap Mom.cells)) (hB : Rd w w.heap.size 1 B b (ts.map (Value.int .i64)))
    (ha : a = ms.length) (hb : b = ts.length) (hal : ms.length * 16 ≤ 140737488351232) (_hbl : ts.length * 8 ≤ 140737488351232) :
    Calls Try.prog 18 #[.slice A a a', .slice B b b'] w (LateOut ms ts w) := by
  subst ha hb
  have HA := Lib.hid hA
  have HB := Lib.hid hB
  obtain ⟨i0, hi0, hz0, hz1, hz2⟩ := info_parts infoInt
  have HI := Lib.hid (And.intro hi0 (And.intro hz0 (And.intro hz1 hz2)))
  clear hi0 hz0 hz1 hz2 hA hB
  by_cases hl : ts.length = ms.length
  · have Hl := Lib.hid hl
    have hl' : ((ts.length : Int) != (ms.length : Int)) = false := by simp [hl]
    have HLL := Lib.hid (lateL_len hl)
    clear hl
    go_enter Try.func18, Try.ntmps18
    go_wp2_with fail
    go_loopg [6, 7, 15] ms.length (fun k v6 _ v wr => LLateR w ms ts k v6 v wr)
    case atStart => exact ⟨0, rfl, by omega, World.ownsRow_nil _ _ _ _, Below.refl _ _⟩
    case round =>
      obtain ⟨i, rfl, hi, hown, hbel⟩ := hrel
      have Hi := Lib.hid hi
      have HO := Lib.hid hown
      have HBel := Lib.hid hbel
      clear hi hown hbel
      by_cases hlt : i < ms.length
      · have hlt2 : i < ts.length := by have := Hl.out; omega
        obtain ⟨bm, om, rfl, hbm, m0, m1⟩ := rdMom (HA.out.grow HBel.out) rfl i hlt
        obtain ⟨bt, ot, rfl, hbt, t0⟩ := rd1 (HB.out.grow HBel.out) i hlt2
        have hget := lateL_get i hlt hlt2
        have hll : i < (lateL ms ts).length := by rw [HLL.out]; exact hlt
        have HT := Lib.hid (List.take_succ_eq_append_getElem hll)
        rw [hget] at HT
        have HOb := Lib.hid (own_block HO.out)
        have hsz := HBel.out.size
        clear hget hll m1
        generalize ms[i].time = mt at *
        generalize ts[i] = tv at *
        go_upto_region 7 with fail
        go_region_held3 (fun w' => w'.cell? ⟨bm, om + i * 2, none⟩ = some (.int .i64 mt) ∧ w'.cell? ⟨bt, ot + i, none⟩ = some (.int .i64 tv)) (first | go_keep | (go_split_ands; (repeat (refine And.intro (cell_app hgrow (by assumption) (fun e => by have := (HOb.out _ e).1; omega)) ?_)); exact cell_app hgrow (by assumption) (fun e => by have := (HOb.out _ e).1; omega)))
          ((refine step_append_lies _ (by rfl) _ _ _ (by rfl) (w.heap.size) 3 i0 _ 1 8 Try.underlying22 HI.out.1 HI.out.2.1 HI.out.2.2.1 HI.out.2.2.2 rfl (by omega) _ (i) _ (by rfl) ((World.ownsRow.alloc HO.out _).drew)
              ⟨(wr).heap.size, 0, none⟩ 1 1 [.int .i64 (IntKind.i64.wrap (tv - mt))] (by rfl) (by rfl) (World.news_of_block (cs := #[.int .i64 (IntKind.i64.wrap (tv - mt))]) (t := 3) (fr := (0, 0)) (heap_alloc_new _ _)) (by simp [Value.oneCell'])
              (by omega) (by simp only [maxLen]; omega) (by omega) (by simp; omega) ((wr).heap.size + 1) (by simp) ?_; intro gg gcap w1 hown1 hgrow hat hgl))
        have HB6 := Lib.hid (below_held HBel.out HO.out (Nat.le_refl _) hsz hgrow)
        have HO6 := Lib.hid hown1
        clear hown1 hgrow hat hgl m0 t0
        go_wp2_with fail
        go_roundg (ms.length - i - 1)
        case measure => have := Hi.out; omega
        case rel =>
          refine ⟨i + 1, by first | rfl | go_num, by omega, ?_, HB6.out⟩
          rw [HT.out, List.map_append]
          have := HO6.out
          rw [IntWalk.i64_left] at this
          exact this
      · have hle : (lateL ms ts).length ≤ i := by rw [HLL.out]; omega
        obtain rfl : i = ms.length := by have := Hi.out; omega
        rw [List.take_of_length_le hle] at HO
        clear hle Hi
        go_wp2_with fail
        go_ret2
        exact ⟨HBel.out, .inl ⟨Hl.out, _, rfl, HO.out⟩⟩
  · have hl' : ((ts.length : Int) != (ms.length : Int)) = true := by simp; omega
    have Hl := Lib.hid hl
    clear hl
    go_enter Try.func18, Try.ntmps18
    go_wp2_with fail
    go_ret2
    exact ⟨Below.refl _ _, .inr ⟨Hl.out, rfl⟩⟩
end Go.Proofs.Ytddkfdfgfkejoaa
