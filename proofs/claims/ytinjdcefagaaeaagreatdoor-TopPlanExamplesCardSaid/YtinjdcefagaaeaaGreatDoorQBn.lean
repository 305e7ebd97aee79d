import Derived.Test.YtinjdcefagaaeaaGreatDoorQCz
import Derived.Lib.BufferMore
set_option linter.unusedVariables false
set_option linter.unusedSimpArgs false
namespace Go.Proofs.YtinjdcefagaaeaaGreatDoor
open Go.RowKit
/-! bound at the example's network, without parts -/
set_option maxRecDepth 100000 in
set_option maxHeartbeats 3200000 in
theorem nbase_ok (N : NtA) (w : World) (h : NtM w N) : Calls Tryz.prog 59 #[N.v] w fun e w' => e = .returned (.tuple #[.int .i64 82, .int .i64 0]) ∧ Below w.heap.size w w' := by
  have H := Lib.hid h
  clear h
  go_enter Tryz.func59, Tryz.ntmps59
  go_upto_region 1 with fail
  refine world_gen (fun w0 => NcS w w0 N) ⟨(by repeat (first | exact Below.refl _ _ | (with_reducible refine Below.drew ?_) | (with_reducible refine below_drewN ?_ _) | (with_reducible refine Below.alloc ?_ (by first | omega | (simp; done) | (simp; omega)) _) | (with_reducible refine Below.setCell ?_ (by first | omega | (simp; done) | (simp; omega)) _) | (refine Below.trans ?_ (Below.mono (by with_reducible assumption) (by first | omega | (simp; done) | (simp; omega)))))), (by repeat (first | (refine Blk.new' _ _ _ _ ?_; first | rfl | (simp <;> omega)) | refine Blk.al ?_ _ | refine Blk.dr ?_ | refine Blk.drN ?_ _ | refine Blk.far ?_ (by first | omega | (simp; omega))))⟩ ?_
  rintro w0 hs0
  have HS0 := Lib.hid hs0
  have x0 := (hs0).x.cell 0
  have x1 := (hs0).x.cell 1
  have x2 := (hs0).x.cell 2
  have xl := (hs0).x.lt
  simp at x0 x1 x2
  clear hs0
  go_wp2_with fail
  refine (ncheck_ok N _ (H.out.go HS0.out.b)).mono ?_
  rintro e w1 ⟨rfl, hb1⟩
  have HS1 := Lib.hid (HS0.out.go hb1)
  clear hb1 HS0
  clear x0 x1 x2 xl
  have x0 := (HS1.out).x.cell 0
  have x1 := (HS1.out).x.cell 1
  have x2 := (HS1.out).x.cell 2
  have xl := (HS1.out).x.lt
  simp at x0 x1 x2
  go_wp2_with fail
  clear x0 x1 x2 xl
  go_loopg [4, 13] 1 (fun k v6 v wr => NkL w N k v6 v wr)
  case atStart => exact ⟨HS1.out, .inl ⟨rfl, rfl, rfl⟩⟩
  case round =>
    obtain ⟨hs, hor⟩ := hrel
    have HS := Lib.hid hs
    clear hs HS1
    rcases hor with ⟨rfl, rfl, rfl⟩ | ⟨rfl, rfl, rfl⟩
    · have hnm := H.out.go HS.out.b
      obtain ⟨a0, a1, a2, a3, a4, a5⟩ := (hnm).act
      have al := (hnm).ac.lt
      clear hnm
      have x0 := (HS.out).x.cell 0
      have x1 := (HS.out).x.cell 1
      have x2 := (HS.out).x.cell 2
      have xl := (HS.out).x.lt
      simp at x0 x1 x2
      go_upto_region 7 with fail
      refine world_gen (fun w2 => NcS w w2 N ∧ Blk w2 wr.heap.size 138 acL.toArray) ⟨HS.out.go ((Below.refl _ _).alloc (Nat.le_refl _) _), (by repeat (first | (refine Blk.new' _ _ _ _ ?_; first | rfl | (simp <;> omega)) | refine Blk.al ?_ _ | refine Blk.dr ?_ | refine Blk.drN ?_ _ | refine Blk.far ?_ (by first | omega | (simp; omega))))⟩ ?_
      rintro w2 ⟨hs2, hz2⟩
      have HS2 := Lib.hid hs2
      have HZ2 := Lib.hid hz2
      clear hs2 hz2 HS
      clear a0 a1 a2 a3 a4 a5 al
      clear x0 x1 x2 xl
      have x0 := (HS2.out).x.cell 0
      have x1 := (HS2.out).x.cell 1
      have x2 := (HS2.out).x.cell 2
      have xl := (HS2.out).x.lt
      simp at x0 x1 x2
      have z0 := HZ2.out.cell 0
      have z1 := HZ2.out.cell 1
      have z2 := HZ2.out.cell 2
      have z3 := HZ2.out.cell 3
      have z4 := HZ2.out.cell 4
      have z5 := HZ2.out.cell 5
      have zl := HZ2.out.lt
      simp at z0 z1 z2 z3 z4 z5
      generalize wr.heap.size = Z at *
      go_wp2_with fail
      go_roundg 0
      case measure => omega
      case rel => exact ⟨HS2.out, .inr ⟨rfl, rfl, rfl⟩⟩
    · go_wp2_with fail
      go_ret2
      exact ⟨rfl, HS.out.b⟩
structure PaS1 (w wr : World) (N : NtA) (gl : Nat) (v : Int) : Prop where
  s : NcS w wr N
  l : Blk wr gl 3 #[.int .i64 v]
  g : w.heap.size < gl
theorem PaS1.go {w wr w' : World} {N : NtA} {gl : Nat} {v : Int} (h : PaS1 w wr N gl v) (hb : Below wr.heap.size wr w') : PaS1 w w' N gl v := ⟨h.s.go hb, h.l.same (hb.block _ h.l.lt), h.g⟩
def Pa1 (w : World) (N : NtA) (gl : Nat) (k : Nat) (v : Value) (wr : World) : Prop := (k = 1 ∧ v = .int .i64 0 ∧ PaS1 w wr N gl 0) ∨ (k = 0 ∧ v = .int .i64 1 ∧ PaS1 w wr N gl 2)
def Pa0 (w : World) (N : NtA) (gl : Nat) (k : Nat) (v : Value) (wr : World) : Prop := PaS1 w wr N gl 0 ∧ ((k = 1 ∧ v = .int .i64 0) ∨ (k = 0 ∧ v = .int .i64 1))
set_option maxRecDepth 100000 in
set_option maxHeartbeats 3200000 in
theorem npack_ok (N : NtA) (w : World) (h : NtM w N) : Calls Tryz.prog 17 #[N.v, .slice none 0 0] w fun e w' => e = .returned (.tuple #[.slice none 0 0, .int .i64 82, .int .i64 0]) ∧ Below w.heap.size w w' := by
  have H := Lib.hid h
  clear h
  obtain ⟨i0, b1, b2, b3, b4⟩ := info_parts infoI
  have HI := Lib.hid (And.intro b1 (And.intro b2 (And.intro b3 b4)))
  clear b1 b2 b3 b4
  go_enter Tryz.func17, Tryz.ntmps17
  go_upto_region 1 with fail
  refine world_gen (fun w0 => NcS w w0 N) ⟨(by repeat (first | exact Below.refl _ _ | (with_reducible refine Below.drew ?_) | (with_reducible refine below_drewN ?_ _) | (with_reducible refine Below.alloc ?_ (by first | omega | (simp; done) | (simp; omega)) _) | (with_reducible refine Below.setCell ?_ (by first | omega | (simp; done) | (simp; omega)) _) | (refine Below.trans ?_ (Below.mono (by with_reducible assumption) (by first | omega | (simp; done) | (simp; omega)))))), (by repeat (first | (refine Blk.new' _ _ _ _ ?_; first | rfl | (simp <;> omega)) | refine Blk.al ?_ _ | refine Blk.dr ?_ | refine Blk.drN ?_ _ | refine Blk.far ?_ (by first | omega | (simp; omega))))⟩ ?_
  rintro w0 hs0
  have HS0 := Lib.hid hs0
  have x0 := (hs0).x.cell 0
  have x1 := (hs0).x.cell 1
  have x2 := (hs0).x.cell 2
  have xl := (hs0).x.lt
  simp at x0 x1 x2
  clear hs0
  go_wp2_with fail
  refine (nbase_ok N _ (H.out.go HS0.out.b)).mono ?_
  rintro e w1 ⟨rfl, hb1⟩
  have HS1 := Lib.hid (HS0.out.go hb1)
  clear hb1 HS0
  clear x0 x1 x2 xl
  have x0 := (HS1.out).x.cell 0
  have x1 := (HS1.out).x.cell 1
  have x2 := (HS1.out).x.cell 2
  have xl := (HS1.out).x.lt
  simp at x0 x1 x2
  go_upto_region 5 with (at_make; refine wpList_make_full _ rfl _ _ 47 rfl (w1.heap.size) 3 i0 _ 1 Tryz.underlying47 HI.out.1 HI.out.2.1 HI.out.2.2.1 .i64 .i64 _ _ 1 rfl rfl rfl rfl ?m1 ?m2 ?m3 ?_; rotate_right; intro w3 ho3 hg3)
  case m1 => rw [HI.out.2.2.2]; omega
  case m2 => simp only [maxLen]; omega
  case m3 => exact Nat.le_refl _
  have hmc : (madeCells (Value.int .i64 0).cells (1 * 1)).toList = [.int .i64 0] := by first | rfl | decide | kernel_rfl
  rw [hmc] at ho3
  have HP3 := Lib.hid (show PaS1 w w3 N w1.heap.size 0 from ⟨HS1.out.go (bel_grow hg3), own_full ho3, HS1.out.x.lt⟩)
  clear hmc ho3 hg3 HS1
  clear x0 x1 x2 xl
  have x0 := (HP3.out.s).x.cell 0
  have x1 := (HP3.out.s).x.cell 1
  have x2 := (HP3.out.s).x.cell 2
  have xl := (HP3.out.s).x.lt
  simp at x0 x1 x2
  generalize w1.heap.size = gl at *
  go_wp2_with fail
  clear x0 x1 x2 xl
  go_loopg [38] 1 (fun k v wr => Pa1 w N gl k v wr)
  case atStart => exact .inl ⟨rfl, rfl, HP3.out⟩
  case round =>
    rcases hrel with ⟨rfl, rfl, hs⟩ | ⟨rfl, rfl, hs⟩
    · have HP := Lib.hid hs
      clear hs HP3
      have hnm := H.out.go HP.out.s.b
      obtain ⟨a0, a1, a2, a3, a4, a5⟩ := (hnm).act
      have al := (hnm).ac.lt
      clear hnm
      go_upto_region 8 with fail
      refine world_gen (fun w2 => PaS1 w w2 N gl 0 ∧ Blk w2 wr.heap.size 138 acL.toArray) ⟨HP.out.go ((Below.refl _ _).alloc (Nat.le_refl _) _), (by repeat (first | (refine Blk.new' _ _ _ _ ?_; first | rfl | (simp <;> omega)) | refine Blk.al ?_ _ | refine Blk.dr ?_ | refine Blk.drN ?_ _ | refine Blk.far ?_ (by first | omega | (simp; omega))))⟩ ?_
      rintro w2 ⟨hs2, hz2⟩
      have HP2 := Lib.hid hs2
      have z5 := hz2.cell 5
      have zl := hz2.lt
      have l0 := hs2.l.cell 0
      have f0 := hs2.l.frozen 0
      have ll := hs2.l.lt
      simp at z5 l0
      clear hs2 hz2 HP
      clear a0 a1 a2 a3 a4 a5 al
      generalize wr.heap.size = Z at *
      go_wp2_with fail
      go_roundg 0
      case measure => omega
      case rel => exact .inr ⟨rfl, rfl, ⟨HP2.out.s.b.setCell (Nat.le_of_lt HP2.out.g) _, HP2.out.s.x.far (by have := HP2.out.g; omega)⟩, HP2.out.l.set_ 0 (.int .i64 2), HP2.out.g⟩
    · have HP := Lib.hid hs
      clear hs HP3
      go_wp2_with fail
      go_loopg [7, 12, 51] 0 (fun k v7 v12 v wr => v7 = .int .i64 82 ∧ v12 = .slice none 0 0 ∧ v = .int .i64 0 ∧ PaS1 w wr N gl 2)
      case atStart => exact ⟨rfl, rfl, rfl, HP.out⟩
      case round =>
        obtain ⟨rfl, rfl, rfl, hs⟩ := hrel
        have HP2 := Lib.hid hs
        clear hs HP
        go_wp2_with fail
        go_ret3
        exact ⟨rfl, HP2.out.s.b⟩
set_option maxRecDepth 100000 in
set_option maxHeartbeats 3200000 in
theorem nbchk_ok (N : NtA) (w : World) (h : NtM w N) : Calls Tryz.prog 24 #[N.v, .slice none 0 0] w fun e w' => e = .returned (.tuple #[.int .i64 82, .int .i64 0]) ∧ Below w.heap.size w w' := by
  have H := Lib.hid h
  clear h
  obtain ⟨i0, b1, b2, b3, b4⟩ := info_parts infoI
  have HI := Lib.hid (And.intro b1 (And.intro b2 (And.intro b3 b4)))
  clear b1 b2 b3 b4
  go_enter Tryz.func24, Tryz.ntmps24
  go_upto_region 1 with fail
  refine world_gen (fun w0 => NcS w w0 N) ⟨(by repeat (first | exact Below.refl _ _ | (with_reducible refine Below.drew ?_) | (with_reducible refine below_drewN ?_ _) | (with_reducible refine Below.alloc ?_ (by first | omega | (simp; done) | (simp; omega)) _) | (with_reducible refine Below.setCell ?_ (by first | omega | (simp; done) | (simp; omega)) _) | (refine Below.trans ?_ (Below.mono (by with_reducible assumption) (by first | omega | (simp; done) | (simp; omega)))))), (by repeat (first | (refine Blk.new' _ _ _ _ ?_; first | rfl | (simp <;> omega)) | refine Blk.al ?_ _ | refine Blk.dr ?_ | refine Blk.drN ?_ _ | refine Blk.far ?_ (by first | omega | (simp; omega))))⟩ ?_
  rintro w0 hs0
  have HS0 := Lib.hid hs0
  have x0 := (hs0).x.cell 0
  have x1 := (hs0).x.cell 1
  have x2 := (hs0).x.cell 2
  have xl := (hs0).x.lt
  simp at x0 x1 x2
  clear hs0
  go_wp2_with fail
  refine (nbase_ok N _ (H.out.go HS0.out.b)).mono ?_
  rintro e w1 ⟨rfl, hb1⟩
  have HS1 := Lib.hid (HS0.out.go hb1)
  clear hb1 HS0
  clear x0 x1 x2 xl
  have x0 := (HS1.out).x.cell 0
  have x1 := (HS1.out).x.cell 1
  have x2 := (HS1.out).x.cell 2
  have xl := (HS1.out).x.lt
  simp at x0 x1 x2
  go_upto_region 5 with (at_make; refine wpList_make_full _ rfl _ _ 47 rfl (w1.heap.size) 3 i0 _ 1 Tryz.underlying47 HI.out.1 HI.out.2.1 HI.out.2.2.1 .i64 .i64 _ _ 1 rfl rfl rfl rfl ?m1 ?m2 ?m3 ?_; rotate_right; intro w3 ho3 hg3)
  case m1 => rw [HI.out.2.2.2]; omega
  case m2 => simp only [maxLen]; omega
  case m3 => exact Nat.le_refl _
  have hmc : (madeCells (Value.int .i64 0).cells (1 * 1)).toList = [.int .i64 0] := by first | rfl | decide | kernel_rfl
  rw [hmc] at ho3
  have HP3 := Lib.hid (show PaS1 w w3 N w1.heap.size 0 from ⟨HS1.out.go (bel_grow hg3), own_full ho3, HS1.out.x.lt⟩)
  clear hmc ho3 hg3 HS1
  clear x0 x1 x2 xl
  generalize w1.heap.size = gl at *
  go_wp2_with fail
  go_loopg [6, 31] 0 (fun k v6 v wr => v6 = .int .i64 82 ∧ v = .int .i64 0 ∧ PaS1 w wr N gl 0)
  case atStart => exact ⟨rfl, rfl, HP3.out⟩
  case round =>
    obtain ⟨rfl, rfl, hs⟩ := hrel
    have HP := Lib.hid hs
    clear hs HP3
    have x0 := (HP.out.s).x.cell 0
    have x1 := (HP.out.s).x.cell 1
    have x2 := (HP.out.s).x.cell 2
    have xl := (HP.out.s).x.lt
    simp at x0 x1 x2
    go_wp2_with fail
    clear x0 x1 x2 xl
    go_loopg [80] 1 (fun k v wr => Pa0 w N gl k v wr)
    case atStart => exact ⟨HP.out, .inl ⟨rfl, rfl⟩⟩
    case round =>
      obtain ⟨hs, hor⟩ := hrel
      have HP2 := Lib.hid hs
      clear hs HP
      rcases hor with ⟨rfl, rfl⟩ | ⟨rfl, rfl⟩
      · have hnm := H.out.go HP2.out.s.b
        obtain ⟨a0, a1, a2, a3, a4, a5⟩ := (hnm).act
        have al := (hnm).ac.lt
        clear hnm
        go_upto_region 23 with fail
        refine world_gen (fun w2 => PaS1 w w2 N gl 0 ∧ Blk w2 wr.heap.size 138 acL.toArray) ⟨HP2.out.go ((Below.refl _ _).alloc (Nat.le_refl _) _), (by repeat (first | (refine Blk.new' _ _ _ _ ?_; first | rfl | (simp <;> omega)) | refine Blk.al ?_ _ | refine Blk.dr ?_ | refine Blk.drN ?_ _ | refine Blk.far ?_ (by first | omega | (simp; omega))))⟩ ?_
        rintro w2 ⟨hs2, hz2⟩
        have HP3 := Lib.hid hs2
        have z5 := hz2.cell 5
        have zl := hz2.lt
        have l0 := hs2.l.cell 0
        have ll := hs2.l.lt
        simp at z5 l0
        clear hs2 hz2 HP2
        clear a0 a1 a2 a3 a4 a5 al
        generalize wr.heap.size = Z at *
        refine wp_region_overL (by kernel_rfl) (by kernel_rfl) ?_
        repeat (go_big_quiet_step (fail))
        refine wpQuiet_nil ?_
        intro w4 hb4
        have HP4 := Lib.hid (HP3.out.go hb4)
        clear hb4 HP3 z5 zl l0 ll
        go_wp2_with fail
        go_roundg 0
        case measure => omega
        case rel => exact ⟨HP4.out, .inr ⟨rfl, rfl⟩⟩
      · go_wp2_with fail
        go_ret2
        exact ⟨rfl, HP2.out.s.b⟩
end Go.Proofs.YtinjdcefagaaeaaGreatDoor
namespace Go.Proofs.YtinjdcefagaaeaaGreatDoor
open Go.RowKit

/-! slices.Clone of numbers -/
theorem own_new0 {base : Nat} {e : TypeId} (w : World) (hb : base ≤ w.heap.size) : (w.alloc (.cells #[] e)).ownsRow base e 1 (.slice (some ⟨w.heap.size, 0, none⟩) 0 0) 0 [] :=
  ⟨rfl, .inr ⟨w.heap.size, 0, #[], rfl, hb, heap_alloc_new w _, Nat.le_refl _, by simp [maxLen], rfl, rfl⟩⟩
/-- what slices.Clone gives for a list that is not empty -/
def ClnOut (zs : List Int) (w : World) (e : Ending) (w' : World) : Prop :=
  ∃ (A : Option Addr) (c : Nat), e = .returned (.slice A zs.length c) ∧ w'.ownsRow w.heap.size 3 1 (.slice A zs.length c) zs.length (zs.map (Value.int .i64)) ∧ Below w.heap.size w w'

set_option maxRecDepth 100000 in
set_option maxHeartbeats 1600000 in
theorem clone_any (A : Option Addr) (c : Nat) (zs : List Int) (w : World) (h : Rd w w.heap.size 1 A zs.length (zs.map (Value.int .i64))) (hn : 1 ≤ zs.length) (hn1 : zs.length ≤ 512) :
    Calls Tryz.prog 61 #[.slice A zs.length c] w (ClnOut zs w) := by
  obtain ⟨b, off, rfl, hb, _⟩ := h.2 (by omega)
  have H := Lib.hid h
  clear h
  obtain ⟨i0, a1, a2, a3, a4⟩ := info_parts infoI
  have HI := Lib.hid (And.intro a1 (And.intro a2 (And.intro a3 a4)))
  clear a1 a2 a3 a4
  have hnil : ∀ W, (binOp .eql 47 (.slice (some ⟨b, off, none⟩) zs.length c) (.slice none 0 0)).run Tryz.prog W = .ok (.bool false) W := fun W => Lib.run_eql_slice_some_nil W _ _ _ Tryz.underlying47
  go_enter Tryz.func61, Tryz.ntmps61
  go_wp2_with (at_builtin; refine wpList_append_any rfl _ _ 47 rfl w.heap.size 3 i0 _ 1 8 Tryz.underlying47 HI.out.1 HI.out.2.1 HI.out.2.2.1 HI.out.2.2.2 rfl (by omega) (.slice (some ⟨w.heap.size, 0, none⟩) 0 0) 0 [] rfl (own_new0 w (Nat.le_refl _)) (some ⟨b, off, none⟩) zs.length c _ (zs.map (Value.int .i64)) rfl (fun e => by cases e) (H.out.grow ((Below.refl _ _).alloc (Nat.le_refl _) _)) (fun u hu => by obtain ⟨_, _, rfl⟩ := List.mem_map.1 hu; rfl) ?r1 ?r2 ?r3 ?_; rotate_right; intro v8 w8 ho8 hg8 hat8)
  case r1 => simp only [maxLen]; omega
  case r2 => omega
  case r3 => simp
  rw [Nat.zero_add, List.nil_append] at ho8
  obtain ⟨A8, c8, rfl, _, _⟩ := own_slice ho8
  have Ho := Lib.hid ho8
  have HB := Lib.hid (show Below w.heap.size w w8 from ((Below.refl _ _).alloc (Nat.le_refl _) _).grown hg8 (by simp) (fun k hk => by simp [Value.ownBlock] at hk; omega))
  clear ho8 hg8 hat8
  go_ret
  exact ⟨A8, c8, rfl, Ho.out, HB.out⟩
end Go.Proofs.YtinjdcefagaaeaaGreatDoor
