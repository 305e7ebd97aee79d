import Derived.Test.YtinjdcefagaaeaaGreatDoorQRt
import Derived.BigRegion
import Derived.Deep.CutRange
import Derived.Deep.RegionLaw
set_option linter.unusedVariables false
set_option linter.unusedSimpArgs false
namespace Go.Proofs.YtinjdcefagaaeaaGreatDoor
open Go.RowKit
/-! route.transition between the example's steps -/
structure TrS (w wr : World) (L : LyA) (p q : Nat) (i : Int) : Prop where
  b : Below w.heap.size w wr
  x : Blk wr w.heap.size 26 L.cs
  f : Blk wr p 353 #[.int .i64 i, .int .i64 1]
  t : Blk wr q 353 #[.int .i64 (i + 1), .int .i64 0]
theorem TrS.go {w wr w' : World} {L : LyA} {p q : Nat} {i : Int} (h : TrS w wr L p q i) (hb : Below wr.heap.size wr w') : TrS w w' L p q i :=
  ⟨h.b.trans (hb.mono h.b.size), h.x.same (hb.block _ h.x.lt), h.f.same (hb.block _ h.f.lt), h.t.same (hb.block _ h.t.lt)⟩
def TrL (w : World) (L : LyA) (p q : Nat) (i : Nat) (k : Nat) (v : Value) (wr : World) : Prop := ∃ j : Nat, v = .int .i64 j ∧ j + k = 2 ∧ j ≤ i ∧ TrS w wr L p q i
set_option maxRecDepth 100000 in
set_option maxHeartbeats 6400000 in
theorem tran_ok (L : LyA) (i : Nat) (w : World) (h : LayM w L) (hi : i < 2) :
    Calls Tryz.prog 222 #[L.v, .agg #[.int .i64 i, .int .i64 0], .agg #[.int .i64 ((i : Int) + 1), .int .i64 0]] w fun e w' => e = .returned (.tuple #[.int .i64 (-1), .bool true]) ∧ Below w.heap.size w w' := by
  have H := Lib.hid h
  clear h
  go_enter Tryz.func222, Tryz.ntmps222
  go_upto_region 1 with fail
  refine world_gen (fun w0 => Below w.heap.size w w0 ∧ Blk w0 w.heap.size 26 L.cs ∧ Blk w0 (w.heap.size + 1) 113 #[.int .i64 i, .int .i64 0] ∧ Blk w0 (w.heap.size + 1 + 1) 113 #[.int .i64 ((i : Int) + 1), .int .i64 0]) ⟨(by repeat (first | exact Below.refl _ _ | (with_reducible refine Below.drew ?_) | (with_reducible refine below_drewN ?_ _) | (with_reducible refine Below.alloc ?_ (by first | omega | (simp; done) | (simp; omega)) _) | (with_reducible refine Below.setCell ?_ (by first | omega | (simp; done) | (simp; omega)) _) | (refine Below.trans ?_ (Below.mono (by with_reducible assumption) (by first | omega | (simp; done) | (simp; omega)))))), (by repeat (first | (refine Blk.new' _ _ _ _ ?_; first | rfl | (simp <;> omega)) | refine Blk.al ?_ _ | refine Blk.dr ?_ | refine Blk.drN ?_ _ | refine Blk.far ?_ (by first | omega | (simp; omega)))), (by repeat (first | (refine Blk.new' _ _ _ _ ?_; first | rfl | (simp <;> omega)) | refine Blk.al ?_ _ | refine Blk.dr ?_ | refine Blk.drN ?_ _ | refine Blk.far ?_ (by first | omega | (simp; omega)))), (by repeat (first | (refine Blk.new' _ _ _ _ ?_; first | rfl | (simp <;> omega)) | refine Blk.al ?_ _ | refine Blk.dr ?_ | refine Blk.drN ?_ _ | refine Blk.far ?_ (by first | omega | (simp; omega))))⟩ ?_
  rintro w0 ⟨hb0, hx0, hs0, ht0⟩
  have HB0 := Lib.hid hb0
  have HX0 := Lib.hid hx0
  have s0 := hs0.cell 0
  have s1 := hs0.cell 1
  have t0 := ht0.cell 0
  have t1 := ht0.cell 1
  have ls := hs0.lt
  have lt := ht0.lt
  have lz := hb0.size
  clear hb0 hx0 hs0 ht0
  generalize w.heap.size + 1 + 1 = P5 at *
  generalize w.heap.size + 1 = P4 at *
  simp at s0 s1 t0 t1
  have laa : P4 < w0.heap.size + 1 := by omega
  have lab : P4 < w0.heap.size + 1 + 1 := by omega
  have lac : P4 < w0.heap.size + 1 + 1 + 1 := by omega
  have lad : P4 < w0.heap.size + 1 + 1 + 1 + 1 := by omega
  have lae : P4 < w0.heap.size + 1 + 1 + 1 + 1 + 1 := by omega
  have laf : P4 < w0.heap.size + 1 + 1 + 1 + 1 + 1 + 1 := by omega
  have lag : P4 < w0.heap.size + 1 + 1 + 1 + 1 + 1 + 1 + 1 := by omega
  have lba : P5 < w0.heap.size + 1 := by omega
  have lbb : P5 < w0.heap.size + 1 + 1 := by omega
  have lbc : P5 < w0.heap.size + 1 + 1 + 1 := by omega
  have lbd : P5 < w0.heap.size + 1 + 1 + 1 + 1 := by omega
  have lbe : P5 < w0.heap.size + 1 + 1 + 1 + 1 + 1 := by omega
  have lbf : P5 < w0.heap.size + 1 + 1 + 1 + 1 + 1 + 1 := by omega
  have lbg : P5 < w0.heap.size + 1 + 1 + 1 + 1 + 1 + 1 + 1 := by omega
  go_cut [8, 9] from 14 to 18 (fun v8 v9 wx => ∃ p q, v8 = .pointer (some ⟨p, 0, none⟩) ∧ v9 = .pointer (some ⟨q, 0, none⟩) ∧ TrS w wx L p q i)
  case first =>
    go_region_law (first | (go_simp; go_at_call 240; first | (with_reducible refine (leavU_ok _ _).mono ?_; rintro e w1 ⟨rfl, rfl⟩) | (with_reducible refine (leavD_ok _ _).mono ?_; rintro e w1 ⟨rfl, rfl⟩)) | (go_simp; go_at_call 241; with_reducible refine (rvs_ok _ _).mono ?_; rintro e w1 ⟨rfl, rfl⟩))
    all_goals
      go_wp2_with fail
      go_meet
      exact ⟨_, _, rfl, rfl, ⟨(by have hbelh := HB0.out; have hbels := hbelh.size; exact (by repeat (first | exact Below.refl _ _ | (with_reducible refine Below.drew ?_) | (with_reducible refine below_drewN ?_ _) | (with_reducible refine Below.alloc ?_ (by first | omega | (simp; done) | (simp; omega)) _) | (with_reducible refine Below.setCell ?_ (by first | omega | (simp; done) | (simp; omega)) _) | (refine Below.trans ?_ (Below.mono (by with_reducible assumption) (by first | omega | (simp; done) | (simp; omega))))))), (by have hblk := HX0.out; repeat (first | exact hblk | refine Blk.al ?_ _ | refine Blk.dr ?_ | refine Blk.drN ?_ _)), (by repeat (first | (refine Blk.new' _ _ _ _ ?_; first | rfl | (simp <;> omega)) | refine Blk.al ?_ _ | refine Blk.dr ?_ | refine Blk.drN ?_ _ | refine Blk.far ?_ (by first | omega | (simp; omega)))), (by repeat (first | (refine Blk.new' _ _ _ _ ?_; first | rfl | (simp <;> omega)) | refine Blk.al ?_ _ | refine Blk.dr ?_ | refine Blk.drN ?_ _ | refine Blk.far ?_ (by first | omega | (simp; omega))))⟩⟩
  case rest =>
    obtain ⟨p, q, rfl, rfl, hs⟩ := hcut
    have HS := Lib.hid hs
    clear hs s0 s1 t0 t1
    have x0 := HS.out.x.cell 0
    have x1 := HS.out.x.cell 1
    have x2 := HS.out.x.cell 2
    have x3 := HS.out.x.cell 3
    simp at x0 x1 x2 x3
    go_wp2_with fail
    clear x0 x1 x2 x3
    go_loopg [22] 2 (fun k v wr => TrL w L p q i k v wr)
    case atStart => exact ⟨0, rfl, rfl, Nat.zero_le _, HS.out⟩
    case round =>
      obtain ⟨j, rfl, hj, hji, hs⟩ := hrel
      have HS1 := Lib.hid hs
      have Hj := Lib.hid hj
      clear hs hj HS
      have hj2 : j < 2 := by omega
      have HLM := Lib.hid (H.out.go HS1.out.b)
      obtain ⟨d0, d1, d2, d3, d4, d5⟩ := HLM.out.lnk j hj2
      have dl := HLM.out.li.lt
      go_upto_region 5 with fail
      refine world_gen (fun w1 => TrS w w1 L p q i ∧ Blk w1 wr.heap.size 249 #[.int .i64 j, .int .i64 1, .int .i64 ((j : Int) + 1), .int .i64 0, .int .i64 (-1), .int .i64 0]) ⟨HS1.out.go ((Below.refl _ _).alloc (Nat.le_refl _) _), Blk.new _ _ _⟩ ?_
      rintro w1 ⟨hs1, hk1⟩
      have HS := Lib.hid hs1
      have HK := Lib.hid hk1
      have k0 := hk1.cell 0
      have k1 := hk1.cell 1
      have k2 := hk1.cell 2
      have k3 := hk1.cell 3
      have k4 := hk1.cell 4
      have lk := hk1.lt
      simp at k0 k1 k2 k3 k4
      clear hs1 hk1 HS1 d0 d1 d2 d3 d4 d5
      generalize wr.heap.size = Z at *
      go_cut [12, 13] from 26 to 35 (fun v12 v13 wx => ∃ u v, v12 = .pointer (some ⟨u, 0, none⟩) ∧ v13 = .pointer (some ⟨v, 0, none⟩) ∧ TrS w wx L p q i ∧ Blk wx Z 249 #[.int .i64 j, .int .i64 1, .int .i64 ((j : Int) + 1), .int .i64 0, .int .i64 (-1), .int .i64 0] ∧ Blk wx u 353 #[.int .i64 j, .int .i64 1] ∧ Blk wx v 353 #[.int .i64 ((j : Int) + 1), .int .i64 0])
      case first =>
        have laa : Z < w1.heap.size + 1 := by omega
        have lab : Z < w1.heap.size + 1 + 1 := by omega
        have lac : Z < w1.heap.size + 1 + 1 + 1 := by omega
        have lad : Z < w1.heap.size + 1 + 1 + 1 + 1 := by omega
        have lae : Z < w1.heap.size + 1 + 1 + 1 + 1 + 1 := by omega
        have laf : Z < w1.heap.size + 1 + 1 + 1 + 1 + 1 + 1 := by omega
        have lag : Z < w1.heap.size + 1 + 1 + 1 + 1 + 1 + 1 + 1 := by omega
        go_region
        all_goals
          go_wp2_with fail
          go_meet
          exact ⟨_, _, rfl, rfl, HS.out.go (by repeat (first | exact Below.refl _ _ | (with_reducible refine Below.drew ?_) | (with_reducible refine below_drewN ?_ _) | (with_reducible refine Below.alloc ?_ (by first | omega | (simp; done) | (simp; omega)) _) | (with_reducible refine Below.setCell ?_ (by first | omega | (simp; done) | (simp; omega)) _) | (refine Below.trans ?_ (Below.mono (by with_reducible assumption) (by first | omega | (simp; done) | (simp; omega)))))), (by have hblk := HK.out; repeat (first | exact hblk | refine Blk.al ?_ _ | refine Blk.dr ?_ | refine Blk.drN ?_ _)), (by repeat (first | (refine Blk.new' _ _ _ _ ?_; first | rfl | (simp <;> omega)) | refine Blk.al ?_ _ | refine Blk.dr ?_ | refine Blk.drN ?_ _ | refine Blk.far ?_ (by first | omega | (simp; omega)))), (by repeat (first | (refine Blk.new' _ _ _ _ ?_; first | rfl | (simp <;> omega)) | refine Blk.al ?_ _ | refine Blk.dr ?_ | refine Blk.drN ?_ _ | refine Blk.far ?_ (by first | omega | (simp; omega))))⟩
      case rest =>
        obtain ⟨u, v, rfl, rfl, hs2, hk2, hu2, hv2⟩ := hcut
        have HS2 := Lib.hid hs2
        have k4 := hk2.cell 4
        have u0 := hu2.cell 0
        have u1 := hu2.cell 1
        have v0 := hv2.cell 0
        have v1 := hv2.cell 1
        have f0 := hs2.f.cell 0
        have f1 := hs2.f.cell 1
        have t0 := hs2.t.cell 0
        have t1 := hs2.t.cell 1
        simp at k4 u0 u1 v0 v1 f0 f1 t0 t1
        clear hs2 hk2 hu2 hv2 HS HK k0 k1 k2 k3 lk
        by_cases hjq : j = i
        · subst hjq
          go_wp2_with fail
          go_ret2
          exact ⟨rfl, HS2.out.b⟩
        · have hne : ¬ ((j : Int) = (i : Int)) := by omega
          have hnb : ((j : Int) == (i : Int)) = false := by simpa using hne
          go_wp2_with fail
          go_roundg (2 - j - 1)
          case measure => have := Hj.out; omega
          case rel => exact ⟨j + 1, by first | rfl | go_num, by have := Hj.out; omega, by omega, HS2.out⟩
end Go.Proofs.YtinjdcefagaaeaaGreatDoor
