import Derived.Test.YtddkfdfgfkejoaaDly4
namespace Go.Proofs.Ytddkfdfgfkejoaa
open Go.RowKit

def exM : List Mom := [⟨100, true⟩, ⟨160, false⟩, ⟨200, true⟩]
def exW : List Wt := [⟨0, 1, 50, -1⟩, ⟨1, 2, 20, 30⟩]
def exP (l : Int) : List Pri := [⟨0, l⟩]
theorem ex_valid (l : Int) (h0 : 0 ≤ l) (h1 : l ≤ 100) : Valid exM exW (exP l) := by
  refine ⟨⟨by decide, by decide, by simp [exP], by decide, by decide, fun i hi => ?_⟩, fun x => x.toNat, by decide⟩
  have : i = 0 := by simp [exP] at hi; omega
  subst this
  refine ⟨by simp [exP, momB, exM], ?_, by simp⟩
  have : (exP l)[0].sec = l := rfl
  rw [this]
  simp [clkB]; omega
theorem int_lt3 (i : Int) (h0 : 0 ≤ i) (h1 : i < ((exM.length : Nat) : Int)) : i = 0 ∨ i = 1 ∨ i = 2 := by
  have : exM.length = 3 := rfl
  omega
theorem ex_sol90 : Sol exM exW (exP 90) [100, 240, 200] [190, 240, 200] [true, false] := by
  refine ⟨rfl, rfl, rfl, fun i h0 h1 => ?_, fun i h0 h1 => ?_, fun a ha => ?_⟩
  · rcases int_lt3 i h0 h1 with rfl | rfl | rfl <;> decide
  · rcases int_lt3 i h0 h1 with rfl | rfl | rfl <;> decide
  · have : a = 0 ∨ a = 1 := by simp [exW] at ha; omega
    rcases this with rfl | rfl <;> rfl
theorem ex_sol60 : Sol exM exW (exP 60) [100, 210, 230] [160, 210, 230] [true, true] := by
  refine ⟨rfl, rfl, rfl, fun i h0 h1 => ?_, fun i h0 h1 => ?_, fun a ha => ?_⟩
  · rcases int_lt3 i h0 h1 with rfl | rfl | rfl <;> decide
  · rcases int_lt3 i h0 h1 with rfl | rfl | rfl <;> decide
  · have : a = 0 ∨ a = 1 := by simp [exW] at ha; omega
    rcases this with rfl | rfl <;> rfl

def ExOut (l : Int) (w : World) (e : Ending) (w' : World) : Prop :=
  ∃ A B C : Addr, e = .returned (.tuple #[.slice (some A) 3 3, .slice (some B) 2 2, .slice (some C) 1 1]) ∧ Rd w' w'.heap.size 2 (some A) 3 (exM.flatMap Mom.cells) ∧ Rd w' w'.heap.size 4 (some B) 2 (exW.flatMap Wt.cells) ∧ Rd w' w'.heap.size 2 (some C) 1 ((exP l).flatMap Pri.cells) ∧ Below w.heap.size w w'

theorem Rd.of_blk {w : World} {g : Nat} {t : TypeId} {cs : List Value} {sz n : Nat} (h : Blk w g t cs.toArray) (hl : cs.length = n * sz) : Rd w w.heap.size sz (some ⟨g, 0, none⟩) n cs :=
  ⟨hl, fun _ => ⟨g, 0, rfl, h.lt, fun j u hu => by rw [Nat.zero_add, h.cell j]; simpa using hu⟩⟩

theorem blkT0 (w : World) (cs : Array Value) (t : TypeId) (o1 o2 : Obj) : Blk (((w.alloc (.cells cs t)).alloc o1).alloc o2) w.heap.size t cs := by
  show (((w.heap.push (.cells cs t)).push o1).push o2)[w.heap.size]? = _
  simp only [Array.getElem?_push, Array.size_push]
  rw [if_neg (by omega), if_neg (by omega), if_pos trivial]
theorem blkT1 (w : World) (cs : Array Value) (t : TypeId) (o0 o2 : Obj) : Blk (((w.alloc o0).alloc (.cells cs t)).alloc o2) (w.heap.size + 1) t cs := by
  show (((w.heap.push o0).push (.cells cs t)).push o2)[w.heap.size + 1]? = _
  simp only [Array.getElem?_push, Array.size_push]
  rw [if_neg (by omega), if_pos trivial]
theorem blkT2 (w : World) (cs : Array Value) (t : TypeId) (o0 o1 : Obj) : Blk (((w.alloc o0).alloc o1).alloc (.cells cs t)) (w.heap.size + 1 + 1) t cs := by
  show (((w.heap.push o0).push o1).push (.cells cs t))[w.heap.size + 1 + 1]? = _
  simp only [Array.getElem?_push, Array.size_push]
  rw [if_pos trivial]

set_option maxHeartbeats 1600000 in
theorem example_any (l : Int) (w : World) : Calls Try.prog 25 #[.int .i64 l] w (ExOut l w) := by
  go_enter Try.func25, Try.ntmps25
  go_wp2
  go_ret3
  refine ⟨⟨w.heap.size, 0, none⟩, ⟨w.heap.size + 1, 0, none⟩, ⟨w.heap.size + 1 + 1, 0, none⟩, rfl, ?_, ?_, ?_, (by repeat (first | exact Below.refl _ _ | (with_reducible refine Below.drew ?_) | (with_reducible refine below_drewN ?_ _) | (with_reducible refine Below.alloc ?_ (by first | omega | (simp; done) | (simp; omega)) _) | (with_reducible refine Below.setCell ?_ (by first | omega | (simp; done) | (simp; omega)) _) | (refine Below.trans ?_ (Below.mono (by with_reducible assumption) (by first | omega | (simp; done) | (simp; omega))))))⟩
  · exact Rd.of_blk (t := 33) (blkT0 _ _ _ _ _) rfl
  · exact Rd.of_blk (t := 35) (blkT1 _ _ _ _ _) rfl
  · exact Rd.of_blk (t := 39) (blkT2 _ _ _ _ _) rfl

set_option maxRecDepth 100000 in
set_option maxHeartbeats 1600000 in
theorem awake_any (w : World) : Calls Try.prog 14 #[] w fun e w' => e = .returned (.bool true) ∧ Below w.heap.size w w' := by
  go_enter Try.func14, Try.ntmps14
  go_wp2_with fail
  refine (example_any 90 w).mono ?_
  rintro e w1 ⟨A, B, C, rfl, hA, hB, hC, hb1⟩
  have HR := Lib.hid (And.intro hA (And.intro hB hC))
  have Hb1 := Lib.hid hb1
  clear hA hB hC hb1
  go_wp2_with fail
  refine (propa_any _ _ _ _ _ _ _ _ _ exM exW (exP 90) w1 HR.out.1 HR.out.2.1 HR.out.2.2 rfl rfl rfl (by decide) (by decide) (by decide)).mono ?_
  rintro e w2 ⟨hb2, hcase⟩
  have Hb2 := Lib.hid hb2
  clear hb2
  rcases hcase with ⟨hv, vs, vk, base, sec, kept, rfl, hsol, hos, hok⟩ | ⟨hv, rfl⟩
  case inr => exact absurd (ex_valid 90 (by omega) (by omega)) hv
  obtain ⟨_, hs, hk⟩ := hsol.unique ex_sol90 (fun k hk => (wtB_ok _ _).1 (hv.1.wAll k hk)) hv.2
  subst hs hk
  obtain ⟨As, cs, rfl, _, _⟩ := own_slice hos
  obtain ⟨Ak, ck, rfl, _, _⟩ := own_slice hok
  have HO := Lib.hid (And.intro hos hok)
  clear hv hsol hos hok
  go_wp2_with fail
  have hb3 : Below w2.heap.size w2 (w2.alloc (.cells #[.int .i64 190, .int .i64 240, .int .i64 200] 3)) := (by repeat (first | exact Below.refl _ _ | (with_reducible refine Below.drew ?_) | (with_reducible refine below_drewN ?_ _) | (with_reducible refine Below.alloc ?_ (by first | omega | (simp; done) | (simp; omega)) _) | (with_reducible refine Below.setCell ?_ (by first | omega | (simp; done) | (simp; omega)) _) | (refine Below.trans ?_ (Below.mono (by with_reducible assumption) (by first | omega | (simp; done) | (simp; omega))))))
  refine (sameInt_yes As _ _ _ _ _ [190, 240, 200] _ ((Rd.of_own (own_grow HO.out.1 hb3))) (Rd.of_blk (t := 3) (cs := [.int .i64 190, .int .i64 240, .int .i64 200]) (Blk.new _ _ _) rfl) rfl rfl (by decide)).mono ?_
  rintro e w3 ⟨rfl, hb4⟩
  have Hb3 := Lib.hid hb3
  have Hb4 := Lib.hid hb4
  clear hb3 hb4
  go_wp2_with fail
  have hb5 : Below w3.heap.size w3 (w3.alloc (.cells #[.bool true, .bool false] 4)) := (by repeat (first | exact Below.refl _ _ | (with_reducible refine Below.drew ?_) | (with_reducible refine below_drewN ?_ _) | (with_reducible refine Below.alloc ?_ (by first | omega | (simp; done) | (simp; omega)) _) | (with_reducible refine Below.setCell ?_ (by first | omega | (simp; done) | (simp; omega)) _) | (refine Below.trans ?_ (Below.mono (by with_reducible assumption) (by first | omega | (simp; done) | (simp; omega))))))
  refine (sameBool_yes Ak _ _ _ _ _ [true, false] _ ((Rd.of_own (own_grow (own_grow (own_grow HO.out.2 Hb3.out) Hb4.out) hb5))) (Rd.of_blk (t := 4) (cs := [.bool true, .bool false]) (Blk.new _ _ _) rfl) rfl rfl (by decide)).mono ?_
  rintro e w4 ⟨rfl, hb6⟩
  have hbA := (Hb2.out.trans ((Hb3.out.trans (Hb4.out.mono Hb3.out.size)).mono Hb2.out.size))
  have hbB := hbA.trans ((hb5.trans (hb6.mono hb5.size)).mono hbA.size)
  have HbB := Lib.hid hbB
  clear hb5 hb6 hbA hbB
  go_wp2_with fail
  refine (check_any _ _ _ _ _ _ _ _ _ exM exW (exP 90) w4 ((HR.out.1.grow HbB.out).more HbB.out.size) ((HR.out.2.1.grow HbB.out).more HbB.out.size) ((HR.out.2.2.grow HbB.out).more HbB.out.size) rfl rfl rfl (by decide) (by decide) (by decide)).mono ?_
  rintro e w5 ⟨hb7, hcase⟩
  rcases hcase with ⟨_, rfl⟩ | ⟨hv, _⟩
  case inr => exact absurd (ex_valid 90 (by omega) (by omega)) hv
  have Hb7 := Lib.hid hb7
  clear hb7
  go_wp2_with fail
  go_ret
  exact ⟨rfl, Hb1.out.trans ((HbB.out.trans (Hb7.out.mono HbB.out.size)).mono Hb1.out.size)⟩
end Go.Proofs.Ytddkfdfgfkejoaa
