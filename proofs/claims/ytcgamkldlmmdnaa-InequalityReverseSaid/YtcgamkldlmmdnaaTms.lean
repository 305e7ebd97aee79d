import Derived.Test.YtcgamkldlmmdnaaIne2
import Derived.Test.YtcgamkldlmmdnaaBunM
namespace Go.Proofs.Ytcgamkldlmmdnaa
open Go.RowKit

set_option maxHeartbeats 800000 in
theorem rmod_any (a b : Int) (w : World) (hb : 1 ≤ b) (hb1 : b ≤ 1000000000000) : Calls Try.prog 58 #[.int .i64 a, .int .i64 b] w fun e w' => e = .returned (.int .i64 (a % b)) ∧ w = w' := by
  have hex := tm_ex a b hb
  by_cases h : 0 ≤ a
  · have h1 : 0 ≤ a % b := Int.emod_nonneg a (by omega)
    have h2 : decide (a % b < 0) = false := by simpa using h1
    clear hex
    go_enter Try.func58, Try.ntmps58
    go_wp2_with fail
    go_ret
    exact ⟨rfl, rfl⟩
  · obtain ⟨_, _, hb2, hb3⟩ := hex
    by_cases hr : a.tmod b < 0
    · have E := Lib.hid ((tm_ex a b hb).2.1 hr).1
      have h2 : decide (a.tmod b < 0) = true := by simpa using hr
      go_enter Try.func58, Try.ntmps58
      go_wp2_with fail
      go_ret
      exact ⟨ret_int (by first | exact E.out | rfl), rfl⟩
    · have E := Lib.hid ((tm_ex a b hb).1 (by omega)).1
      have h2 : decide (a.tmod b < 0) = false := by simpa using hr
      go_enter Try.func58, Try.ntmps58
      go_wp2_with fail
      go_ret
      exact ⟨ret_int (by first | exact E.out | rfl), rfl⟩
/-- a list of m numbers below hi that comes back -/
def IntsOut (w : World) (m : Nat) (hi : Int) (e : Ending) (w' : World) : Prop :=
  ∃ (A : Option Addr) (c : Nat) (zs : List Int), e = .returned (.slice A zs.length c) ∧ zs.length = m ∧ (∀ z ∈ zs, 0 ≤ z ∧ z < hi) ∧ Rd w' w'.heap.size 1 A zs.length (zs.map (Value.int .i64)) ∧ Below w.heap.size w w'
structure LsS (w wr : World) (b G m : Nat) (hi : Int) (l zs : List Int) : Prop where
  bel : Below w.heap.size w wr
  src : Src wr b l
  own : wr.ownsRow (b + 1) 3 1 (.slice (some ⟨G, 0, none⟩) m m) m (zs.map (Value.int .i64))
  hb : w.heap.size ≤ b
  rg : ∀ z ∈ zs, 0 ≤ z ∧ z < hi
section
variable {w wr w' : World} {b G m : Nat} {hi : Int} {l l' zs : List Int}
theorem LsS.turn (h : LsS w wr b G m hi l zs) (hs : Src w' b l') (ht : Turn b wr w') : LsS w w' b G m hi l' zs :=
  ⟨ht.below h.bel h.hb, hs, own_turn h.own ht (by omega), h.hb, h.rg⟩
theorem LsS.set (h : LsS w wr b G m hi l zs) (j : Nat) (v : Int) (h0 : 0 ≤ v) (h1 : v < hi) : LsS w (wr.setCell ⟨G, j, none⟩ (.int .i64 v)) b G m hi l (zs.set j v) := by
  have hG := (own_block h.own G rfl).1
  have hb := h.hb
  refine ⟨h.bel.setCell (by simp; omega) _, h.src.keep (fun k hk => Below.heap_setCell _ _ _ _ (by simp; omega)), own1_set h.own j v, hb, fun z hz => ?_⟩
  rcases List.mem_or_eq_of_mem_set hz with hz | rfl
  · exact h.rg z hz
  · exact ⟨h0, h1⟩
theorem LsS.made (hb : Below w.heap.size w wr) (hs : Src wr b l) (hbb : w.heap.size ≤ b) (hbw : wr.heap.size = b + 1) (hi0 : 1 ≤ hi)
    (ho : w'.ownsRow (b + 1) 3 1 (.slice (some ⟨wr.heap.size, 0, none⟩) m m) m (madeCells #[Value.int .i64 0] (m * 1)).toList) (hg : wr.grownBy w' none) : LsS w w' b (b + 1) m hi l (List.replicate m 0) := by
  have hb2 : Below wr.heap.size wr w' := (Below.refl _ _).grown hg (Nat.le_refl _) (by simp)
  refine ⟨hb.trans (hb2.mono hb.size), hs.keep (fun k hk => hb2.block k (by omega)), ?_, hbb, fun z hz => ?_⟩
  · rw [← madeCells_one, ← hbw, ← hbw] at *
    exact ho
  · obtain ⟨_, rfl⟩ := List.mem_replicate.1 hz
    omega
end
def LsL (w : World) (b G m : Nat) (hi : Int) (k : Nat) (v : Value) (wr : World) : Prop :=
  ∃ (j : Nat) (l zs : List Int), v = .int .i64 j ∧ j + k = m ∧ LsS w wr b G m hi l zs
def TmL (w : World) (X b G m : Nat) (xs : Array Value) (hi : Int) (k : Nat) (v : Value) (wr : World) : Prop :=
  ∃ (j : Nat) (l zs : List Int), v = .int .i64 j ∧ j + k = m ∧ LsS w wr b G m hi l zs ∧ Blk wr X 26 xs ∧ X < b

set_option maxRecDepth 100000 in
set_option maxHeartbeats 3200000 in
theorem times_any (T : Int) (AE AA A : Option Addr) (ne ce na ca n c : Nat) (z : List Int) (w : World) (h : Rd w w.heap.size 1 A n (z.map (Value.int .i64))) (hn : n ≤ maxLen) (ht0 : 2 ≤ T) (ht1 : T ≤ 7200) (hne : ne ≤ 48) :
    Calls Try.prog 18 #[.agg #[.int .i64 T, .slice AE ne ce, .slice AA na ca], .slice A n c] w (IntsOut w ne T) := by
  have H := Lib.hid h
  have Hn := Lib.hid hn
  clear h hn
  obtain ⟨i0, a1, a2, a3, a4⟩ := info_parts infoInt
  have HI := Lib.hid (And.intro a1 (And.intro a2 (And.intro a3 a4)))
  clear a1 a2 a3 a4
  go_enter Try.func18, Try.ntmps18
  go_upto_region 1 with fail
  refine world_gen (fun w1 => Below w.heap.size w w1 ∧ Blk w1 w.heap.size 26 #[.int .i64 T, .slice AE ne ce, .slice AA na ca] ∧ w1.heap.size = w.heap.size + 1) ⟨(Below.refl _ _).alloc (Nat.le_refl _) _, Blk.new _ _ _, by simp⟩ ?_
  rintro w0 ⟨hb0, hx0, hz0⟩
  obtain ⟨X, hX⟩ : ∃ X, X = w.heap.size := ⟨_, rfl⟩
  rw [← hX] at ⊢
  rw [show Blk w0 w.heap.size = Blk w0 X by rw [hX]] at hx0
  have hXw : w.heap.size ≤ X := by omega
  have hXb : X < w0.heap.size := by omega
  clear hX
  have HX0 := Lib.hid hx0
  have Hb0 := Lib.hid hb0
  clear hx0 hb0
  go_wp2_with fail
  refine (from_any A n c z w0 ((H.out.grow Hb0.out).more Hb0.out.size) Hn.out).mono ?_
  rintro e w1 ⟨rfl, hs1, hb1, hz1⟩
  have Hb1 := Lib.hid (Hb0.out.trans (hb1.mono (by omega)))
  have HX1 := Lib.hid (HX0.out.bel hb1)
  have Hs1 := Lib.hid hs1
  have hbw : w.heap.size ≤ w0.heap.size := by omega
  generalize w0.heap.size = b at *
  clear hs1 hb1 hz0 Hb0 HX0
  have x1 := HX1.out.cell 1
  simp at x1
  go_upto_region 3 with (at_make; refine wpList_make_full _ rfl _ _ 22 rfl (b + 1) 3 i0 _ 1 Try.underlying22 HI.out.1 HI.out.2.1 HI.out.2.2.1 .i64 .i64 _ _ ne rfl rfl rfl rfl ?m1 ?m2 ?m3 ?_; rotate_right; intro w2 hown2 hg2)
  case m1 => rw [HI.out.2.2.2]; omega
  case m2 => simp only [maxLen]; omega
  case m3 => omega
  have HL0 := Lib.hid (LsS.made (hi := T) Hb1.out Hs1.out hbw hz1 (by omega) hown2 hg2)
  have HX2 := Lib.hid (HX1.out.bel ((Below.refl _ _).grown hg2 (Nat.le_refl _) (by simp)))
  try rw [hz1]
  clear hown2 hg2 x1 HX1 Hs1 Hb1 H Hn hz1
  go_wp2_with fail
  go_loopg [7, 16] ne (fun k _ v wr => TmL w X b (b + 1) ne #[.int .i64 T, .slice AE ne ce, .slice AA na ca] T k v wr)
  case atStart => exact ⟨0, _, _, rfl, by omega, HL0.out, HX2.out, hXb⟩
  case round =>
    obtain ⟨j, l, zs, rfl, hj, hls, hx, _⟩ := hrel
    clear HL0 HX2
    have Hj := Lib.hid hj
    have HL := Lib.hid hls
    have HX := Lib.hid hx
    clear hj hls hx
    by_cases hlt : j < ne
    · have x0 := HX.out.cell 0
      simp at x0
      go_upto_region 6 with fail
      go_wp2_with fail
      refine (next_any b l T wr HL.out.src (by omega) (by omega)).mono ?_
      rintro e w5 ⟨rfl, hs2, ht2⟩
      have HL5 := Lib.hid (HL.out.turn hs2 ht2)
      have HX5 := Lib.hid (HX.out.same (ht2.block X (by omega)))
      have hk := nextV_bd l T (by omega) (by omega)
      generalize nextV l T = q at *
      obtain ⟨hq0, hq1⟩ := hk
      clear hs2 ht2 HL HX x0
      have hzl : zs.length = ne := (own1_len HL5.out.own).symm
      have q0 := own1 HL5.out.own j (by omega)
      have q1 := HL5.out.own.frozenAt j
      have HL6 := Lib.hid (HL5.out.set j q hq0 hq1)
      have HX6 := Lib.hid (HX5.out.far (b := b + 1) (o := j) (u := .int .i64 q) (by omega))
      go_wp2_with fail
      go_roundg (ne - j - 1)
      case measure => have := Hj.out; omega
      case rel => exact ⟨j + 1, _, _, by first | rfl | go_num, by omega, HL6.out, HX6.out, by omega⟩
    · have Hzl := Lib.hid (own1_len HL.out.own).symm
      go_wp2_with fail
      go_ret
      exact ⟨_, ne, zs, by rw [Hzl.out]; rfl, Hzl.out, HL.out.rg, by rw [Hzl.out]; exact Rd.of_own HL.out.own, HL.out.bel⟩
end Go.Proofs.Ytcgamkldlmmdnaa
