import Derived.Test.YtinjdcefagaaeaaGreatDoorQTt
import Derived.Test.YtinjdcefagaaeaaGreatDoorQSp
set_option linter.unusedVariables false
set_option linter.unusedSimpArgs false
namespace Go.Proofs.YtinjdcefagaaeaaGreatDoor
open Go.RowKit
/-! journeys: remaining -/
def Re1 (w : World) (g : Nat) (k : Nat) (v : Value) (wr : World) : Prop := Below w.heap.size w wr ∧ w.heap.size ≤ g ∧ ((k = 2 ∧ v = .int .i64 0 ∧ Blk wr g 3 (i2 0 0)) ∨ (k = 1 ∧ v = .int .i64 1 ∧ Blk wr g 3 (i2 (-1) 0)) ∨ (k = 0 ∧ v = .int .i64 2 ∧ Blk wr g 3 (i2 (-1) 0)))
def Re2 (w : World) (g : Nat) (k : Nat) (v7 : Value) (wr : World) : Prop := Below w.heap.size w wr ∧ w.heap.size ≤ g ∧ ((k = 2 ∧ v7 = .bool true ∧ Blk wr g 3 (i2 (-1) 0)) ∨ (k = 1 ∧ v7 = .bool true ∧ Blk wr g 3 (i2 41 0)) ∨ (k = 0 ∧ v7 = .bool false ∧ Blk wr g 3 (i2 41 0)))
def Re3 (w : World) (g : Nat) (a : Int) (p : Bool) (k : Nat) (v7 v : Value) (wr : World) : Prop := Below w.heap.size w wr ∧ w.heap.size ≤ g ∧ ((k = 2 ∧ v = .int .i64 0 ∧ v7 = .bool false ∧ Blk wr g 3 (i2 a 0)) ∨ (k = 1 ∧ v = .int .i64 1 ∧ v7 = .bool p ∧ Blk wr g 3 (i2 41 0)) ∨ (k = 0 ∧ v = .int .i64 2 ∧ v7 = .bool p ∧ Blk wr g 3 (i2 41 0)))
def Re4 (w : World) (g : Nat) (a : Int) (p : Bool) (k : Nat) (v7 v : Value) (wr : World) : Prop := Below w.heap.size w wr ∧ ((k = 1 ∧ v = .int .i64 0 ∧ v7 = .bool false ∧ Blk wr g 3 (i2 a 0)) ∨ (k = 0 ∧ v = .int .i64 1 ∧ v7 = .bool p ∧ Blk wr g 3 (i2 41 0)))
set_option maxRecDepth 100000 in
set_option maxHeartbeats 12800000 in
theorem remain_ok (B : Nat) (A : JnA) (w : World) (h : JnM w B A) : Calls Tryz.prog 20 #[.pointer (some ⟨B, 0, none⟩), .int .i64 1] w fun e w' => ∃ g, e = .returned (.slice (some ⟨g, 0, none⟩) 2 2) ∧ Cs w' g [.int .i64 41, .int .i64 0] ∧ Below w.heap.size w w' := by
  have H := Lib.hid h
  obtain ⟨i0, b1, b2, b3, b4⟩ := info_parts infoI
  have HI := Lib.hid (And.intro b1 (And.intro b2 (And.intro b3 b4)))
  clear b1 b2 b3 b4
  have x1 := h.x.cell 1
  have xl := h.x.lt
  simp at x1
  clear h
  go_enter Tryz.func20, Tryz.ntmps20
  go_upto_region 2 with (at_make; refine wpList_make_full _ rfl _ _ 47 rfl (w.heap.size) 3 i0 _ 1 Tryz.underlying47 HI.out.1 HI.out.2.1 HI.out.2.2.1 .i64 .i64 _ _ 2 rfl rfl rfl rfl ?m1 ?m2 ?m3 ?_; rotate_right; intro w3 ho3 hg3)
  case m1 => rw [HI.out.2.2.2]; omega
  case m2 => simp only [maxLen]; omega
  case m3 => exact Nat.le_refl _
  clear x1 xl
  have hmc : (madeCells (Value.int .i64 0).cells (2 * 1)).toList = [.int .i64 0, .int .i64 0] := by first | rfl | decide | kernel_rfl
  rw [hmc] at ho3
  have HX0 := Lib.hid (show Blk w3 w.heap.size 3 (i2 0 0) from own_full ho3)
  have HB0 := Lib.hid (bel_grow hg3)
  have hg0 : w.heap.size ≤ w.heap.size := Nat.le_refl _
  clear hmc ho3 hg3
  generalize hG : w.heap.size = g at hg0 HX0 ⊢
  go_wp2_with fail
  go_loopg [22] 2 (fun k v wr => Re1 w g k v wr)
  case atStart => exact ⟨HB0.out, by omega, .inl ⟨rfl, rfl, HX0.out⟩⟩
  case round =>
    obtain ⟨hb, hgg, hor⟩ := hrel
    have HB := Lib.hid hb
    clear hb HB0 HX0
    rcases hor with ⟨rfl, rfl, hx⟩ | ⟨rfl, rfl, hx⟩ | ⟨rfl, rfl, hx⟩
    · have HX := Lib.hid hx
      have g0 := hx.cell 0
      have fg0 := hx.frozen 0
      have gl := hx.lt
      simp at g0
      clear hx
      have HJ := Lib.hid (H.out.go HB.out)
      go_wp2_with fail
      refine (ends0_ok B A _ HJ.out).mono ?_
      rintro e w4 ⟨rfl, hw⟩
      subst hw
      go_wp2_with fail
      go_roundg 1
      case measure => omega
      case rel => exact ⟨HB.out.setCell hgg _, hgg, .inr (.inl ⟨rfl, rfl, HX.out.set_ 0 (.int .i64 (-1))⟩)⟩
    · have HX := Lib.hid hx
      clear hx
      have HJ := Lib.hid (H.out.go HB.out)
      go_wp2_with fail
      refine (ends1_ok B A _ HJ.out).mono ?_
      rintro e w4 ⟨rfl, hw⟩
      subst hw
      go_wp2_with fail
      go_roundg 0
      case measure => omega
      case rel => exact ⟨HB.out, hgg, .inr (.inr ⟨rfl, rfl, HX.out⟩)⟩
    · have HX := Lib.hid hx
      clear hx
      go_wp2_with fail
      go_loopg [7] 2 (fun k v wr => Re2 w g k v wr)
      case atStart => exact ⟨HB.out, hgg, .inl ⟨rfl, rfl, HX.out⟩⟩
      case round =>
        obtain ⟨hb, hgg, hor⟩ := hrel
        have HB2 := Lib.hid hb
        clear hb HB HX
        rcases hor with ⟨rfl, rfl, hx⟩ | ⟨rfl, rfl, hx⟩ | ⟨rfl, rfl, hx⟩
        · have HR := Lib.hid (And.intro HB2.out (And.intro hgg hx))
          clear hx HB2
          go_wp2_with fail
          go_loopg [7, 37] 2 (fun k v7 v wr => Re3 w g (-1) (true) k v7 v wr)
          case atStart => exact ⟨HR.out.1, HR.out.2.1, .inl ⟨rfl, rfl, rfl, HR.out.2.2⟩⟩
          case round =>
            obtain ⟨hb, hgg, hor⟩ := hrel
            have HB3 := Lib.hid hb
            clear hb HR
            rcases hor with ⟨rfl, rfl, rfl, hx⟩ | ⟨rfl, rfl, rfl, hx⟩ | ⟨rfl, rfl, rfl, hx⟩
            · have HX3 := Lib.hid hx
              clear hx
              have hj := H.out.go HB3.out
              have x1 := hj.x.cell 1
              have x2 := hj.x.cell 2
              have x3 := hj.x.cell 3
              have x4 := hj.x.cell 4
              have xl := hj.x.lt
              have l0 : _ = some (Value.slice (some ⟨A.gq, 0, none⟩) 1 A.cq) := hj.l.c 0 _ rfl
              have l1 : _ = some (Value.slice none 0 0) := hj.l.c 1 _ rfl
              have ll := hj.l.lt
              have q0 : _ = some (Value.int .i64 0) := hj.q.c 0 _ rfl
              have ql := hj.q.lt
              have d0 : _ = some (Value.int .i64 41) := hj.d.c 0 _ rfl
              have dl := hj.d.lt
              have t2 : _ = some (Value.int .i64 1) := hj.n.ac.c 2 _ rfl
              have tl := hj.n.ac.lt
              simp at x1 x2 x3 x4
              clear hj
              go_wp2_with fail
              clear x1 x2 x3 x4 xl l0 l1 ll q0 ql d0 dl t2 tl
              go_loopg [7, 48] 1 (fun k v7 v wr => Re4 w g (-1) (true) k v7 v wr)
              case atStart => exact ⟨HB3.out, .inl ⟨rfl, rfl, rfl, HX3.out⟩⟩
              case round =>
                obtain ⟨hb, hor⟩ := hrel
                have HB4 := Lib.hid hb
                clear hb HB3 HX3
                rcases hor with ⟨rfl, rfl, rfl, hx⟩ | ⟨rfl, rfl, rfl, hx⟩
                · have HX4 := Lib.hid hx
                  have g0 := hx.cell 0
                  have g1 := hx.cell 1
                  have fg0 := hx.frozen 0
                  have gl := hx.lt
                  simp at g0 g1
                  clear hx
                  have hj := H.out.go HB4.out
                  have x1 := hj.x.cell 1
                  have x2 := hj.x.cell 2
                  have x3 := hj.x.cell 3
                  have x4 := hj.x.cell 4
                  have xl := hj.x.lt
                  have l0 : _ = some (Value.slice (some ⟨A.gq, 0, none⟩) 1 A.cq) := hj.l.c 0 _ rfl
                  have l1 : _ = some (Value.slice none 0 0) := hj.l.c 1 _ rfl
                  have ll := hj.l.lt
                  have q0 : _ = some (Value.int .i64 0) := hj.q.c 0 _ rfl
                  have ql := hj.q.lt
                  have d0 : _ = some (Value.int .i64 41) := hj.d.c 0 _ rfl
                  have dl := hj.d.lt
                  have t2 : _ = some (Value.int .i64 1) := hj.n.ac.c 2 _ rfl
                  have tl := hj.n.ac.lt
                  simp at x1 x2 x3 x4
                  clear hj
                  go_wp2_with fail
                  go_roundg 0
                  case measure => omega
                  case rel => first | exact ⟨HB4.out.setCell hgg _, .inr ⟨rfl, rfl, rfl, HX4.out.set_ 0 (.int .i64 41)⟩⟩ | exact ⟨HB4.out, .inr ⟨rfl, rfl, rfl, HX4.out⟩⟩
                · have HX4 := Lib.hid hx
                  clear hx
                  go_wp2_with fail
                  go_roundg 1
                  case measure => omega
                  case rel => exact ⟨HB4.out, hgg, .inr (.inl ⟨rfl, rfl, rfl, HX4.out⟩)⟩
            · have HX3 := Lib.hid hx
              clear hx
              have hj := H.out.go HB3.out
              have x1 := hj.x.cell 1
              have x2 := hj.x.cell 2
              have x3 := hj.x.cell 3
              have x4 := hj.x.cell 4
              have xl := hj.x.lt
              have l0 : _ = some (Value.slice (some ⟨A.gq, 0, none⟩) 1 A.cq) := hj.l.c 0 _ rfl
              have l1 : _ = some (Value.slice none 0 0) := hj.l.c 1 _ rfl
              have ll := hj.l.lt
              have q0 : _ = some (Value.int .i64 0) := hj.q.c 0 _ rfl
              have ql := hj.q.lt
              have d0 : _ = some (Value.int .i64 41) := hj.d.c 0 _ rfl
              have dl := hj.d.lt
              have t2 : _ = some (Value.int .i64 1) := hj.n.ac.c 2 _ rfl
              have tl := hj.n.ac.lt
              simp at x1 x2 x3 x4
              clear hj
              go_wp2_with fail
              clear x1 x2 x3 x4 xl l0 l1 ll q0 ql d0 dl t2 tl
              go_loopg [7, 48] 0 (fun k v7 v wr => Below w.heap.size w wr ∧ v7 = .bool (true) ∧ v = .int .i64 0 ∧ Blk wr g 3 (i2 41 0))
              case atStart => exact ⟨HB3.out, rfl, rfl, HX3.out⟩
              case round =>
                obtain ⟨hb, rfl, rfl, hx⟩ := hrel
                have HB4 := Lib.hid hb
                have HX4 := Lib.hid hx
                clear hb hx HB3 HX3
                go_wp2_with fail
                go_roundg 0
                case measure => omega
                case rel => exact ⟨HB4.out, hgg, .inr (.inr ⟨rfl, rfl, rfl, HX4.out⟩)⟩
            · have HX3 := Lib.hid hx
              clear hx
              go_wp2_with fail
              go_roundg 1
              case measure => omega
              case rel => exact ⟨HB3.out, hgg, .inr (.inl ⟨rfl, rfl, HX3.out⟩)⟩
        · have HR := Lib.hid (And.intro HB2.out (And.intro hgg hx))
          clear hx HB2
          go_wp2_with fail
          go_loopg [7, 37] 2 (fun k v7 v wr => Re3 w g (41) (false) k v7 v wr)
          case atStart => exact ⟨HR.out.1, HR.out.2.1, .inl ⟨rfl, rfl, rfl, HR.out.2.2⟩⟩
          case round =>
            obtain ⟨hb, hgg, hor⟩ := hrel
            have HB3 := Lib.hid hb
            clear hb HR
            rcases hor with ⟨rfl, rfl, rfl, hx⟩ | ⟨rfl, rfl, rfl, hx⟩ | ⟨rfl, rfl, rfl, hx⟩
            · have HX3 := Lib.hid hx
              clear hx
              have hj := H.out.go HB3.out
              have x1 := hj.x.cell 1
              have x2 := hj.x.cell 2
              have x3 := hj.x.cell 3
              have x4 := hj.x.cell 4
              have xl := hj.x.lt
              have l0 : _ = some (Value.slice (some ⟨A.gq, 0, none⟩) 1 A.cq) := hj.l.c 0 _ rfl
              have l1 : _ = some (Value.slice none 0 0) := hj.l.c 1 _ rfl
              have ll := hj.l.lt
              have q0 : _ = some (Value.int .i64 0) := hj.q.c 0 _ rfl
              have ql := hj.q.lt
              have d0 : _ = some (Value.int .i64 41) := hj.d.c 0 _ rfl
              have dl := hj.d.lt
              have t2 : _ = some (Value.int .i64 1) := hj.n.ac.c 2 _ rfl
              have tl := hj.n.ac.lt
              simp at x1 x2 x3 x4
              clear hj
              go_wp2_with fail
              clear x1 x2 x3 x4 xl l0 l1 ll q0 ql d0 dl t2 tl
              go_loopg [7, 48] 1 (fun k v7 v wr => Re4 w g (41) (false) k v7 v wr)
              case atStart => exact ⟨HB3.out, .inl ⟨rfl, rfl, rfl, HX3.out⟩⟩
              case round =>
                obtain ⟨hb, hor⟩ := hrel
                have HB4 := Lib.hid hb
                clear hb HB3 HX3
                rcases hor with ⟨rfl, rfl, rfl, hx⟩ | ⟨rfl, rfl, rfl, hx⟩
                · have HX4 := Lib.hid hx
                  have g0 := hx.cell 0
                  have g1 := hx.cell 1
                  have fg0 := hx.frozen 0
                  have gl := hx.lt
                  simp at g0 g1
                  clear hx
                  have hj := H.out.go HB4.out
                  have x1 := hj.x.cell 1
                  have x2 := hj.x.cell 2
                  have x3 := hj.x.cell 3
                  have x4 := hj.x.cell 4
                  have xl := hj.x.lt
                  have l0 : _ = some (Value.slice (some ⟨A.gq, 0, none⟩) 1 A.cq) := hj.l.c 0 _ rfl
                  have l1 : _ = some (Value.slice none 0 0) := hj.l.c 1 _ rfl
                  have ll := hj.l.lt
                  have q0 : _ = some (Value.int .i64 0) := hj.q.c 0 _ rfl
                  have ql := hj.q.lt
                  have d0 : _ = some (Value.int .i64 41) := hj.d.c 0 _ rfl
                  have dl := hj.d.lt
                  have t2 : _ = some (Value.int .i64 1) := hj.n.ac.c 2 _ rfl
                  have tl := hj.n.ac.lt
                  simp at x1 x2 x3 x4
                  clear hj
                  go_wp2_with fail
                  go_roundg 0
                  case measure => omega
                  case rel => first | exact ⟨HB4.out.setCell hgg _, .inr ⟨rfl, rfl, rfl, HX4.out.set_ 0 (.int .i64 41)⟩⟩ | exact ⟨HB4.out, .inr ⟨rfl, rfl, rfl, HX4.out⟩⟩
                · have HX4 := Lib.hid hx
                  clear hx
                  go_wp2_with fail
                  go_roundg 1
                  case measure => omega
                  case rel => exact ⟨HB4.out, hgg, .inr (.inl ⟨rfl, rfl, rfl, HX4.out⟩)⟩
            · have HX3 := Lib.hid hx
              clear hx
              have hj := H.out.go HB3.out
              have x1 := hj.x.cell 1
              have x2 := hj.x.cell 2
              have x3 := hj.x.cell 3
              have x4 := hj.x.cell 4
              have xl := hj.x.lt
              have l0 : _ = some (Value.slice (some ⟨A.gq, 0, none⟩) 1 A.cq) := hj.l.c 0 _ rfl
              have l1 : _ = some (Value.slice none 0 0) := hj.l.c 1 _ rfl
              have ll := hj.l.lt
              have q0 : _ = some (Value.int .i64 0) := hj.q.c 0 _ rfl
              have ql := hj.q.lt
              have d0 : _ = some (Value.int .i64 41) := hj.d.c 0 _ rfl
              have dl := hj.d.lt
              have t2 : _ = some (Value.int .i64 1) := hj.n.ac.c 2 _ rfl
              have tl := hj.n.ac.lt
              simp at x1 x2 x3 x4
              clear hj
              go_wp2_with fail
              clear x1 x2 x3 x4 xl l0 l1 ll q0 ql d0 dl t2 tl
              go_loopg [7, 48] 0 (fun k v7 v wr => Below w.heap.size w wr ∧ v7 = .bool (false) ∧ v = .int .i64 0 ∧ Blk wr g 3 (i2 41 0))
              case atStart => exact ⟨HB3.out, rfl, rfl, HX3.out⟩
              case round =>
                obtain ⟨hb, rfl, rfl, hx⟩ := hrel
                have HB4 := Lib.hid hb
                have HX4 := Lib.hid hx
                clear hb hx HB3 HX3
                go_wp2_with fail
                go_roundg 0
                case measure => omega
                case rel => exact ⟨HB4.out, hgg, .inr (.inr ⟨rfl, rfl, rfl, HX4.out⟩)⟩
            · have HX3 := Lib.hid hx
              clear hx
              go_wp2_with fail
              go_roundg 0
              case measure => omega
              case rel => exact ⟨HB3.out, hgg, .inr (.inr ⟨rfl, rfl, HX3.out⟩)⟩
        · have HX2 := Lib.hid hx
          clear hx
          go_wp2_with fail
          go_ret
          exact ⟨g, rfl, ⟨HX2.out.lt, fun i v hi => (HX2.out.cell i).trans (by simpa using hi)⟩, HB2.out⟩
end Go.Proofs.YtinjdcefagaaeaaGreatDoor
namespace Go.Proofs.YtinjdcefagaaeaaGreatDoor
open Go.RowKit
/-! journeys.newService -/
theorem PcS.tw {w wr w' : World} {L : LyA} {P : PlA} {g : Nat} (h : PcS w wr L P) (ht : Tw g wr w') (hg : w.heap.size + 1 < g) : PcS w w' L P :=
  ⟨ht.below h.b (by omega) h.b.size, h.x.same (ht.block _ h.x.lt (by omega)), h.y.same (ht.block _ h.y.lt (by omega))⟩
structure NvS (w wr : World) (L : LyA) (P : PlA) (N : NtA) (Z : Nat) : Prop where
  p : PcS w wr L P
  z : Blk wr Z 68 N.cells
  n : NtM wr N
  g : w.heap.size + 1 < Z
  h1 : N.ev < Z
  h2 : N.ac < Z
theorem NvS.go {w wr w' : World} {L : LyA} {P : PlA} {N : NtA} {Z : Nat} (h : NvS w wr L P N Z) (hb : Below wr.heap.size wr w') : NvS w w' L P N Z := ⟨h.p.go hb, h.z.same (hb.block _ h.z.lt), h.n.go hb, h.g, h.h1, h.h2⟩
theorem NvS.tw {w wr w' : World} {L : LyA} {P : PlA} {N : NtA} {Z g : Nat} (h : NvS w wr L P N Z) (ht : Tw g wr w') (hg : Z < g) : NvS w w' L P N Z :=
  ⟨h.p.tw ht (by have := h.g; omega), h.z.same (ht.block _ h.z.lt (by omega)), ⟨h.n.ev.tw ht (by have := h.h1; omega), h.n.ac.tw ht (by have := h.h2; omega)⟩, h.g, h.h1, h.h2⟩
structure JoS (w wr : World) (L : LyA) (P : PlA) (N : NtA) (Z gl B : Nat) (vq vd vs vp : Value) : Prop where
  v : NvS w wr L P N Z
  l : Blk wr gl 47 #[vq, .slice none 0 0]
  x : Blk wr B 160 (jvC N (.slice (some ⟨gl, 0, none⟩) 2 2) vd vs vp)
  g1 : Z < gl
  g2 : gl < B
theorem JoS.go {w wr w' : World} {L : LyA} {P : PlA} {N : NtA} {Z gl B : Nat} {vq vd vs vp : Value} (h : JoS w wr L P N Z gl B vq vd vs vp) (hb : Below wr.heap.size wr w') : JoS w w' L P N Z gl B vq vd vs vp :=
  ⟨h.v.go hb, h.l.same (hb.block _ h.l.lt), h.x.same (hb.block _ h.x.lt), h.g1, h.g2⟩
theorem JoS.stq {w wr : World} {L : LyA} {P : PlA} {N : NtA} {Z gl B : Nat} {vq vd vs vp : Value} (h : JoS w wr L P N Z gl B vq vd vs vp) (u : Value) : JoS w (wr.setCell ⟨gl, 0, none⟩ u) L P N Z gl B u vd vs vp :=
  ⟨h.v.tw (Tw.set _ _ _ _) h.g1, h.l.set_ 0 u, h.x.far (by have := h.g2; omega), h.g1, h.g2⟩
theorem JoS.st {w wr : World} {L : LyA} {P : PlA} {N : NtA} {Z gl B : Nat} {vq vd vs vp vd' vs' vp' : Value} (h : JoS w wr L P N Z gl B vq vd vs vp) (i : Nat) (u : Value)
    (he : (jvC N (.slice (some ⟨gl, 0, none⟩) 2 2) vd vs vp).setIfInBounds i u = jvC N (.slice (some ⟨gl, 0, none⟩) 2 2) vd' vs' vp') : JoS w (wr.setCell ⟨B, i, none⟩ u) L P N Z gl B vq vd' vs' vp' :=
  ⟨h.v.tw (Tw.set _ _ _ _) (by have := h.g1; have := h.g2; omega), h.l.far (by have := h.g2; omega), by have := h.x.set_ i u; rw [he] at this; exact this, h.g1, h.g2⟩
def Jo1 (w : World) (L : LyA) (P : PlA) (N : NtA) (Z gl B : Nat) (k : Nat) (v : Value) (wr : World) : Prop :=
  (k = 1 ∧ v = .int .i64 0 ∧ JoS w wr L P N Z gl B (.slice none 0 0) (.slice none 0 0) (.slice none 0 0) (.slice none 0 0)) ∨
  (k = 0 ∧ v = .int .i64 1 ∧ ∃ gq cq gd cd, JoS w wr L P N Z gl B (.slice (some ⟨gq, 0, none⟩) 1 cq) (.slice (some ⟨gd, 0, none⟩) 1 cd) (.slice none 0 0) (.slice none 0 0) ∧ Cs wr gq [.int .i64 0] ∧ Cs wr gd [.int .i64 41] ∧ B < gq ∧ B < gd)
theorem JoS.sm {w wr w' : World} {L : LyA} {P : PlA} {N : NtA} {Z gl B M : Nat} {vq vd vs vp : Value} (h : JoS w wr L P N Z gl B vq vd vs vp) (ht : ∀ k, k < M → w'.heap[k]? = wr.heap[k]?) (hb : Below w.heap.size w w') (hz : wr.heap.size ≤ w'.heap.size) (hM : B < M) : JoS w w' L P N Z gl B vq vd vs vp := by
  have g0 := h.v.g
  have g1 := h.g1
  have g2 := h.g2
  have n1 := h.v.h1
  have n2 := h.v.h2
  exact ⟨⟨⟨hb, h.v.p.x.same (ht _ (by omega)), h.v.p.y.same (ht _ (by omega))⟩, h.v.z.same (ht _ (by omega)), ⟨h.v.n.ev.same (ht _ (by omega)) hz, h.v.n.ac.same (ht _ (by omega)) hz⟩, g0, n1, n2⟩, h.l.same (ht _ (by omega)), h.x.same (ht _ (by omega)), g1, g2⟩
theorem NtM.evt {w : World} {N : NtA} (h : NtM w N) (j : Nat) (hj : j < 2) : w.cell? ⟨N.ev, j * 3, none⟩ = some (.int .i64 ((j : Int) + 1)) ∧ w.cell? ⟨N.ev, j * 3 + 1, none⟩ = some (.int .i64 0) ∧ w.cell? ⟨N.ev, j * 3 + 2, none⟩ = some (.int .i64 0) := by
  match j, hj with
  | 0, _ => exact ⟨h.ev.c 0 _ rfl, h.ev.c 1 _ rfl, h.ev.c 2 _ rfl⟩
  | 1, _ => exact ⟨h.ev.c 3 _ rfl, h.ev.c 4 _ rfl, h.ev.c 5 _ rfl⟩
structure JpS (w wr : World) (L : LyA) (P : PlA) (N : NtA) (Z gl B gq cq gd cd M : Nat) (j : Nat) (vs vp : Value) (ns np : Nat) : Prop where
  s : JoS w wr L P N Z gl B (.slice (some ⟨gq, 0, none⟩) 1 cq) (.slice (some ⟨gd, 0, none⟩) 1 cd) vs vp
  q : Cs wr gq [.int .i64 0]
  d : Cs wr gd [.int .i64 41]
  z : M ≤ wr.heap.size
  os : wr.ownsRow M 3 1 vs ns (List.replicate ns (.int .i64 0))
  op : wr.ownsRow M 3 1 vp np (List.replicate np (.int .i64 1))
  ne : ∀ k, vs.ownBlock = some k → vp.ownBlock ≠ some k
  g1 : B < gq
  g2 : gq < M
  g3 : B < gd
  g4 : gd < M
  g5 : B < M
theorem JpS.go {w wr w' : World} {L : LyA} {P : PlA} {N : NtA} {Z gl B gq cq gd cd M j ns np : Nat} {vs vp : Value} (h : JpS w wr L P N Z gl B gq cq gd cd M j vs vp ns np) (hb : Below wr.heap.size wr w') : JpS w w' L P N Z gl B gq cq gd cd M j vs vp ns np :=
  ⟨h.s.go hb, h.q.go hb, h.d.go hb, Nat.le_trans h.z hb.size, own_grow h.os hb, own_grow h.op hb, h.ne, h.g1, h.g2, h.g3, h.g4, h.g5⟩
theorem JpS.re {w wr : World} {L : LyA} {P : PlA} {N : NtA} {Z gl B gq cq gd cd M j j' ns np : Nat} {vs vp : Value} (h : JpS w wr L P N Z gl B gq cq gd cd M j vs vp ns np) : JpS w wr L P N Z gl B gq cq gd cd M j' vs vp ns np :=
  ⟨h.s, h.q, h.d, h.z, h.os, h.op, h.ne, h.g1, h.g2, h.g3, h.g4, h.g5⟩
/-- a row of its own is appended to, and stored into the service -/
theorem JpS.appS {w wr w' : World} {L : LyA} {P : PlA} {N : NtA} {Z gl B gq cq gd cd M j ns np : Nat} {vs vp v' : Value} {o : Obj} (h : JpS w wr L P N Z gl B gq cq gd cd M j vs vp ns np) (hg : (wr.drew.alloc o).grownBy w' vs.ownBlock)
    (ho : w'.ownsRow M 3 1 v' (ns + 1) (List.replicate ns (.int .i64 0) ++ [.int .i64 0])) (hta : v'.ownBlock = vs.ownBlock ∨ v'.ownBlock = some (wr.drew.alloc o).heap.size) :
    (∀ k, (k < M ∨ (k < wr.heap.size ∧ vs.ownBlock ≠ some k)) → w'.heap[k]? = wr.heap[k]?) ∧ JpS w (w'.setCell ⟨B, 5, none⟩ v') L P N Z gl B gq cq gd cd M j v' vp (ns + 1) np := by
  have hz := h.z
  have hgs := hg.size
  simp at hgs
  have hbl := own_block h.os
  have key : ∀ k, (k < M ∨ (k < wr.heap.size ∧ vs.ownBlock ≠ some k)) → w'.heap[k]? = wr.heap[k]? := fun k hk => by
    have hlt : k < wr.heap.size := by omega
    have hne : vs.ownBlock ≠ some k := by
      rcases hk with hk | hk
      · exact fun e => by have := (hbl _ e).1; omega
      · exact hk.2
    rw [hg.block k (by simp; omega) (fun e => hne e.symm)]
    exact Below.heap_alloc _ _ _ hlt
  have hbw : Below w.heap.size w w' := ⟨hg.os.trans h.s.v.p.b.os, hg.tape.trans h.s.v.p.b.tape, hg.output.trans h.s.v.p.b.output, by have := h.s.v.p.b.size; omega, fun k hk => (key k (.inl (by have := h.s.v.g; have := h.s.g1; have := h.s.g2; have := h.g5; omega))).trans (h.s.v.p.b.block k hk)⟩
  have hs1 := h.s.sm (M := M) (fun k hk => key k (.inl hk)) hbw (by omega) h.g5
  have hop : w'.ownsRow M 3 1 vp np (List.replicate np (.int .i64 1)) := (show (wr.drew.alloc o).ownsRow M 3 1 vp np (List.replicate np (.int .i64 1)) from World.ownsRow.alloc h.op o).kept hg (by
    cases hv : vp.ownBlock with
    | none => exact .inl rfl
    | some k => exact .inr (fun e => h.ne k e.symm hv))
  have hgg := h.s.g1
  have hgg2 := h.s.g2
  refine ⟨key, hs1.st 5 v' rfl, ?_, ?_, by show M ≤ (w'.heap.modify _ _).size; rw [Array.size_modify]; omega, ?_, own_far hop (fun e => by have h1 : M ≤ B := (own_block h.op _ e).1; have := h.g5; omega), ?_, h.g1, h.g2, h.g3, h.g4, h.g5⟩
  · exact (h.q.same (key _ (.inl h.g2)) (by omega)).tw (Tw.set _ _ _ _) (by have := h.g1; omega)
  · exact (h.d.same (key _ (.inl h.g4)) (by omega)).tw (Tw.set _ _ _ _) (by have := h.g3; omega)
  · rw [List.replicate_succ']
    exact own_far ho (fun e => by have h1 : M ≤ B := (own_block ho _ e).1; have := h.g5; omega)
  · intro k hk
    rcases hta with e | e
    · exact h.ne k (by rw [← e]; exact hk)
    · intro e2
      have := (own_block h.op _ e2).2
      rw [e] at hk
      simp at hk
      omega
theorem JpS.appP {w wr w' : World} {L : LyA} {P : PlA} {N : NtA} {Z gl B gq cq gd cd M j ns np : Nat} {vs vp v' : Value} {o : Obj} (h : JpS w wr L P N Z gl B gq cq gd cd M j vs vp ns np) (hg : (wr.drew.alloc o).grownBy w' vp.ownBlock)
    (ho : w'.ownsRow M 3 1 v' (np + 1) (List.replicate np (.int .i64 1) ++ [.int .i64 1])) (hta : v'.ownBlock = vp.ownBlock ∨ v'.ownBlock = some (wr.drew.alloc o).heap.size) :
    (∀ k, (k < M ∨ (k < wr.heap.size ∧ vp.ownBlock ≠ some k)) → w'.heap[k]? = wr.heap[k]?) ∧ JpS w (w'.setCell ⟨B, 6, none⟩ v') L P N Z gl B gq cq gd cd M j vs v' ns (np + 1) := by
  have hz := h.z
  have hgs := hg.size
  simp at hgs
  have hbl := own_block h.op
  have key : ∀ k, (k < M ∨ (k < wr.heap.size ∧ vp.ownBlock ≠ some k)) → w'.heap[k]? = wr.heap[k]? := fun k hk => by
    have hlt : k < wr.heap.size := by omega
    have hne : vp.ownBlock ≠ some k := by
      rcases hk with hk | hk
      · exact fun e => by have := (hbl _ e).1; omega
      · exact hk.2
    rw [hg.block k (by simp; omega) (fun e => hne e.symm)]
    exact Below.heap_alloc _ _ _ hlt
  have hbw : Below w.heap.size w w' := ⟨hg.os.trans h.s.v.p.b.os, hg.tape.trans h.s.v.p.b.tape, hg.output.trans h.s.v.p.b.output, by have := h.s.v.p.b.size; omega, fun k hk => (key k (.inl (by have := h.s.v.g; have := h.s.g1; have := h.s.g2; have := h.g5; omega))).trans (h.s.v.p.b.block k hk)⟩
  have hs1 := h.s.sm (M := M) (fun k hk => key k (.inl hk)) hbw (by omega) h.g5
  have hos : w'.ownsRow M 3 1 vs ns (List.replicate ns (.int .i64 0)) := (show (wr.drew.alloc o).ownsRow M 3 1 vs ns (List.replicate ns (.int .i64 0)) from World.ownsRow.alloc h.os o).kept hg (by
    cases hv : vs.ownBlock with
    | none => exact .inl rfl
    | some k => exact .inr (fun e => h.ne k hv e.symm))
  have hgg := h.s.g1
  have hgg2 := h.s.g2
  refine ⟨key, hs1.st 6 v' rfl, ?_, ?_, by show M ≤ (w'.heap.modify _ _).size; rw [Array.size_modify]; omega, own_far hos (fun e => by have h1 : M ≤ B := (own_block h.os _ e).1; have := h.g5; omega), ?_, ?_, h.g1, h.g2, h.g3, h.g4, h.g5⟩
  · exact (h.q.same (key _ (.inl h.g2)) (by omega)).tw (Tw.set _ _ _ _) (by have := h.g1; omega)
  · exact (h.d.same (key _ (.inl h.g4)) (by omega)).tw (Tw.set _ _ _ _) (by have := h.g3; omega)
  · rw [List.replicate_succ']
    exact own_far ho (fun e => by have h1 : M ≤ B := (own_block ho _ e).1; have := h.g5; omega)
  · intro k hk e2
    rcases hta with e | e
    · exact h.ne k hk (by rw [← e]; exact e2)
    · have := (own_block h.os _ hk).2
      rw [e] at e2
      simp at e2
      omega
def Jp1 (w : World) (L : LyA) (P : PlA) (N : NtA) (Z gl B gq cq gd cd M : Nat) (k : Nat) (v : Value) (wr : World) : Prop :=
  ∃ (j : Nat) (vs vp : Value), v = .int .i64 j ∧ j + k = 2 ∧ JpS w wr L P N Z gl B gq cq gd cd M j vs vp j j
end Go.Proofs.YtinjdcefagaaeaaGreatDoor
