import Derived.Test.YtinjdcefagaaeaaGreatDoorQRt
import Derived.Test.YtinjdcefagaaeaaGreatDoorQDn
import Derived.Laws.CopyOwn
import Derived.Deep.RegionLaw
import Derived.Test.YtinjdcefagaaeaaGreatDoorQRu
set_option linter.unusedVariables false
set_option linter.unusedSimpArgs false
namespace Go.Proofs.YtinjdcefagaaeaaGreatDoor
open Go.RowKit
/-! slices.Repeat of the example's one cell, ten times -/
theorem own_full {w : World} {base g n sz : Nat} {e : TypeId} {xs : List Value} (h : w.ownsRow base e sz (.slice (some ⟨g, 0, none⟩) n n) n xs) : Blk w g e xs.toArray := by
  rcases h.2 with ⟨h', _⟩ | ⟨g', cap', cur, h', hb, hg, hnc, hcm, hcs, htake⟩
  · simp at h'
  · simp only [Value.slice.injEq, Option.some.injEq, Addr.mk.injEq, and_true, true_and] at h'
    obtain ⟨rfl, rfl⟩ := h'
    have he : cur = xs.toArray := by
      apply Array.toList_inj.1
      rw [← htake, List.take_of_length_le (by rw [Array.length_toList]; omega)]
    unfold Blk
    rw [← he]
    exact hg
theorem run_copy_rowN {P : Program} (w : World) (dT sT ty elem : TypeId) (g o dLen dCap : Nat) (a : Addr) (sLen sCap sz n : Nat) (cur : Array Value) (t : TypeId) (cs : List Value)
    (hu : P.underlying dT = some (.slice elem)) (hs : (P.info? elem).map (·.size) = some sz)
    (hg : w.heap[g]? = some (.cells cur t (0, 0))) (hm : Nat.min sLen dLen = n) (hn : cs.length = n * sz)
    (hsrc : ∀ j v, cs[j]? = some v → w.cell? (a.add j) = some v) (hfit : o + cs.length ≤ cur.size) (h1 : ∀ v ∈ cs, v.oneCell' = true) :
    (Builtin.copy_ #[dT, sT] ty #[.slice (some ⟨g, o, none⟩) dLen dCap, .slice (some a) sLen sCap]).run P w =
      .ok (goInt n) (w.setRow g (cur.toList.take o ++ cs ++ cur.toList.drop (o + cs.length)).toArray) := by
  have hl := run_loadCells_list (P := P) w a cs hsrc
  have hst := run_storeCells_at P g o t cs 0 cur w hg (by simpa using hfit) h1
  rw [hn] at hl
  cases hq : P.info? elem with
  | none => simp [hq] at hs
  | some i =>
    have hi : i.size = sz := by simpa [hq] using hs
    simp [Builtin.copy_, run_underlying hu, Builtin.lenOf, Builtin.firstCells, sizeOf, typeInfo, hq, hi, hm, hl, hst]
set_option maxRecDepth 100000 in
set_option maxHeartbeats 1600000 in
theorem mul64_ex (w : World) : Calls Tryz.prog 243 #[.int .u64 1, .int .u64 10] w fun e w' => e = .returned (.tuple #[.int .u64 0, .int .u64 10]) ∧ w = w' := by
  go_enter Tryz.func243, Tryz.ntmps243
  go_wp2_with fail
  go_ret2
  exact ⟨rfl, rfl⟩
set_option maxRecDepth 100000 in
set_option maxHeartbeats 1600000 in
theorem mul_ex (w : World) : Calls Tryz.prog 223 #[.int .u64 1, .int .u64 10] w fun e w' => e = .returned (.tuple #[.int .u64 0, .int .u64 10]) ∧ w = w' := by
  go_enter Tryz.func223, Tryz.ntmps223
  go_wp2_with fail
  refine (mul64_ex _).mono ?_
  rintro e w2 ⟨rfl, rfl⟩
  go_wp2_with fail
  go_ret2
  exact ⟨rfl, rfl⟩
def rpC (n : Nat) : List Value := (List.replicate n celL).flatten ++ List.replicate (2 * (10 - n)) (.int .i64 0)
theorem rp_copy (W : World) (ty : TypeId) (g n o q m n' : Nat) (hB : Blk W g 318 (rpC n).toArray) (_ho : o = n * 2) (_hq : q = 10 - n) (hm : Nat.min n q = m) (hl : ((rpC n).take (m * 2)).length = m * 2) (hfit : o + m * 2 ≤ (rpC n).length)
    (h1 : ∀ v ∈ (rpC n).take (m * 2), v.oneCell' = true) (he : (rpC n).take o ++ (rpC n).take (m * 2) ++ (rpC n).drop (o + m * 2) = rpC n') :
    (Builtin.copy_ #[193, 193] ty #[.slice (some ⟨g, o, none⟩) q q, .slice (some ⟨g, 0, none⟩) n 10]).run Tryz.prog W = .ok (goInt m) (W.setRow g (rpC n').toArray) := by
  have h := run_copy_rowN (P := Tryz.prog) W 193 193 ty 318 g o q q ⟨g, 0, none⟩ n 10 2 m _ _ ((rpC n).take (m * 2)) Tryz.underlying193 (by kernel_rfl) hB hm hl
    (fun j v hj => by
      rw [Addr.add_mid, Nat.zero_add, hB.cell j]
      rw [List.getElem?_take] at hj
      split at hj
      · simpa using hj
      · cases hj) (by simpa [hl] using hfit) h1
  rw [h, hl]
  simp only
  rw [he]
def RpL (w : World) (g k : Nat) (v : Value) (wr : World) : Prop := Below w.heap.size w wr ∧ ((k = 4 ∧ v = .int .i64 1 ∧ Blk wr g 318 (rpC 1).toArray) ∨ (k = 3 ∧ v = .int .i64 2 ∧ Blk wr g 318 (rpC 2).toArray) ∨ (k = 2 ∧ v = .int .i64 4 ∧ Blk wr g 318 (rpC 4).toArray) ∨ (k = 1 ∧ v = .int .i64 8 ∧ Blk wr g 318 (rpC 8).toArray) ∨ (k = 0 ∧ v = .int .i64 10 ∧ Blk wr g 318 (rpC 10).toArray))
theorem infoC : (Tryz.prog.info? 318).map (fun i => (i.zero, i.size, i.bytes)) = some (some (.agg #[.int .i64 0, .int .i64 0]), 2, 16) := by kernel_rfl
set_option maxRecDepth 100000 in
set_option maxHeartbeats 6400000 in
theorem repeat_ok (b : Nat) (w : World) (h : Cs w b celL) :
    Calls Tryz.prog 201 #[.slice (some ⟨b, 0, none⟩) 1 1, .int .i64 10] w fun e w' => ∃ g, e = .returned (.slice (some ⟨g, 0, none⟩) 10 10) ∧ Blk w' g 318 (rpC 10).toArray ∧ w.heap.size ≤ g ∧ Below w.heap.size w w' := by
  have H := Lib.hid h
  clear h
  obtain ⟨i0, b1, b2, b3, b4⟩ := info_parts infoC
  have HI := Lib.hid (And.intro b1 (And.intro b2 (And.intro b3 b4)))
  clear b1 b2 b3 b4
  go_enter Tryz.func201, Tryz.ntmps201
  go_wp2_with fail
  refine (mul_ex _).mono ?_
  rintro e w2 ⟨rfl, rfl⟩
  go_upto_region 7 with (at_make; refine wpList_make_full _ rfl _ _ 193 rfl (w.heap.size) 318 i0 _ 2 Tryz.underlying193 HI.out.1 HI.out.2.1 HI.out.2.2.1 .i64 .i64 _ _ 10 rfl rfl rfl rfl ?m1 ?m2 ?m3 ?_; rotate_right; intro w3 ho3 hg3)
  case m1 => rw [HI.out.2.2.2]; omega
  case m2 => simp only [maxLen]; omega
  case m3 => exact Nat.le_refl _
  have hb3 := bel_grow hg3
  have hmc : (madeCells (Value.agg #[.int .i64 0, .int .i64 0]).cells (10 * 2)).toList = rpC 0 := by first | rfl | decide | kernel_rfl
  rw [hmc] at ho3
  have HX3 := Lib.hid (show Blk w3 w.heap.size 318 (rpC 0).toArray from own_full ho3)
  clear hmc
  have HB3 := Lib.hid hb3
  have hc3 := H.out.go hb3
  have hr1 : ∀ ty, (Builtin.copy_ #[193, 193] ty #[.slice (some ⟨w.heap.size, 0, none⟩) 10 10, .slice (some ⟨b, 0, none⟩) 1 1]).run Tryz.prog w3 = .ok (goInt 1) (w3.setRow w.heap.size (rpC 1).toArray) := fun ty => run_copy_rowN w3 _ _ ty 318 w.heap.size 0 10 10 ⟨b, 0, none⟩ 1 1 2 1 _ _ celL Tryz.underlying193 (by kernel_rfl) HX3.out rfl rfl (fun j v hj => by rw [Addr.add_mid]; simpa using hc3.c j v hj) (by decide) (by decide)
  clear ho3 hg3 hb3 hc3
  go_wp2_with fail
  have HX4 := Lib.hid (show Blk (w3.setRow w.heap.size (rpC 1).toArray) w.heap.size 318 (rpC 1).toArray from setRow_heap _ _ _ _ _ _ HX3.out)
  have HB4 := Lib.hid (below_setRow HB3.out (Nat.le_refl _) (rpC 1).toArray)
  clear HX3 HB3 hr1
  generalize w3.setRow w.heap.size (rpC 1).toArray = w4 at *
  have hgg : w.heap.size ≤ w.heap.size := Nat.le_refl _
  generalize hg : w.heap.size = g at HX4 ⊢
  go_loopg [8] 4 (fun k v wr => RpL w g k v wr)
  case atStart => exact ⟨HB4.out, .inl ⟨rfl, rfl, HX4.out⟩⟩
  case round =>
    obtain ⟨hb, hor⟩ := hrel
    have HB := Lib.hid hb
    clear hb HB4 HX4
    rcases hor with ⟨rfl, rfl, hx⟩ | ⟨rfl, rfl, hx⟩ | ⟨rfl, rfl, hx⟩ | ⟨rfl, rfl, hx⟩ | ⟨rfl, rfl, hx⟩
    · skip
      have hr := fun ty => rp_copy wr.drew ty g 1 2 9 1 2 hx rfl rfl rfl rfl (by decide) (by decide) rfl
      have HX := Lib.hid (show Blk (wr.drew.setRow g (rpC 2).toArray) g 318 (rpC 2).toArray from setRow_heap _ _ _ _ _ _ (show Blk wr.drew g 318 (rpC 1).toArray from hx))
      have HB5 := Lib.hid (below_setRow (g := g) HB.out.drew (by omega) (rpC 2).toArray)
      clear hx
      go_wp2_with fail
      go_region
      go_wp2_with fail
      go_roundg 3
      case measure => omega
      case rel => exact ⟨HB5.out, .inr (.inl ⟨rfl, rfl, HX.out⟩)⟩
    · skip
      have hr := fun ty => rp_copy wr.drew ty g 2 4 8 2 4 hx rfl rfl rfl rfl (by decide) (by decide) rfl
      have HX := Lib.hid (show Blk (wr.drew.setRow g (rpC 4).toArray) g 318 (rpC 4).toArray from setRow_heap _ _ _ _ _ _ (show Blk wr.drew g 318 (rpC 2).toArray from hx))
      have HB5 := Lib.hid (below_setRow (g := g) HB.out.drew (by omega) (rpC 4).toArray)
      clear hx
      go_wp2_with fail
      go_region
      go_wp2_with fail
      go_roundg 2
      case measure => omega
      case rel => exact ⟨HB5.out, .inr (.inr (.inl ⟨rfl, rfl, HX.out⟩))⟩
    · skip
      have hr := fun ty => rp_copy wr.drew ty g 4 8 6 4 8 hx rfl rfl rfl rfl (by decide) (by decide) rfl
      have HX := Lib.hid (show Blk (wr.drew.setRow g (rpC 8).toArray) g 318 (rpC 8).toArray from setRow_heap _ _ _ _ _ _ (show Blk wr.drew g 318 (rpC 4).toArray from hx))
      have HB5 := Lib.hid (below_setRow (g := g) HB.out.drew (by omega) (rpC 8).toArray)
      clear hx
      go_wp2_with fail
      go_region
      go_wp2_with fail
      go_roundg 1
      case measure => omega
      case rel => exact ⟨HB5.out, .inr (.inr (.inr (.inl ⟨rfl, rfl, HX.out⟩)))⟩
    · skip
      have hr := fun ty => rp_copy wr.drew ty g 8 16 2 2 10 hx rfl rfl rfl rfl (by decide) (by decide) rfl
      have HX := Lib.hid (show Blk (wr.drew.setRow g (rpC 10).toArray) g 318 (rpC 10).toArray from setRow_heap _ _ _ _ _ _ (show Blk wr.drew g 318 (rpC 8).toArray from hx))
      have HB5 := Lib.hid (below_setRow (g := g) HB.out.drew (by omega) (rpC 10).toArray)
      clear hx
      go_wp2_with fail
      go_region
      go_wp2_with fail
      go_roundg 0
      case measure => omega
      case rel => exact ⟨HB5.out, .inr (.inr (.inr (.inr ⟨rfl, rfl, HX.out⟩)))⟩
    · have HX := Lib.hid hx
      clear hx
      go_wp2_with fail
      go_ret
      exact ⟨g, rfl, HX.out, by omega, HB.out⟩
end Go.Proofs.YtinjdcefagaaeaaGreatDoor
namespace Go.Proofs.YtinjdcefagaaeaaGreatDoor
open Go.RowKit
/-! route.Check, route.Cells -/
set_option maxRecDepth 100000 in
set_option maxHeartbeats 1600000 in
theorem rcheck_of (L : LyA) (sp c : Nat) (w : World) (hp : ∀ W, Below w.heap.size w W → Calls Tryz.prog 199 #[L.v, rtV sp c] W fun e w' => ∃ v, e = .returned (.tuple #[v, .int .i64 0]) ∧ Below W.heap.size W w') :
    Calls Tryz.prog 150 #[L.v, rtV sp c] w fun e w' => e = .returned (.int .i64 0) ∧ Below w.heap.size w w' := by
  have HP := Lib.hid hp
  clear hp
  go_enter Tryz.func150, Tryz.ntmps150
  go_wp2_with fail
  refine (HP.out _ (by repeat (first | exact Below.refl _ _ | (with_reducible refine Below.drew ?_) | (with_reducible refine below_drewN ?_ _) | (with_reducible refine Below.alloc ?_ (by first | omega | (simp; done) | (simp; omega)) _) | (with_reducible refine Below.setCell ?_ (by first | omega | (simp; done) | (simp; omega)) _) | (refine Below.trans ?_ (Below.mono (by with_reducible assumption) (by first | omega | (simp; done) | (simp; omega))))))).mono ?_
  rintro e w2 ⟨v, rfl, hb2⟩
  have HB2 := Lib.hid (show Below w.heap.size w w2 from Below.trans (by repeat (first | exact Below.refl _ _ | (with_reducible refine Below.drew ?_) | (with_reducible refine below_drewN ?_ _) | (with_reducible refine Below.alloc ?_ (by first | omega | (simp; done) | (simp; omega)) _) | (with_reducible refine Below.setCell ?_ (by first | omega | (simp; done) | (simp; omega)) _) | (refine Below.trans ?_ (Below.mono (by with_reducible assumption) (by first | omega | (simp; done) | (simp; omega)))))) (hb2.mono (by simp <;> omega)))
  clear hb2
  go_wp2_with fail
  go_ret
  exact ⟨rfl, HB2.out⟩
def cll (n : Nat) : List Value := (List.replicate n ()).flatMap fun _ => celL
theorem cll_add (a b : Nat) : cll (a + b) = cll a ++ cll b := by unfold cll; rw [← List.replicate_append_replicate, List.flatMap_append]
theorem cll_10 : cll 10 = rpC 10 := rfl
theorem cll_len (n : Nat) : (cll n).length = n * 2 := by
  induction n with
  | zero => rfl
  | succ n ih => rw [cll_add, List.length_append, ih]; show _ + 2 = _; omega
theorem cll_one : ∀ u ∈ rpC 10, u.oneCell' = true := by decide
def CeL (w : World) (L : LyA) (sp c : Nat) (k : Nat) (v8 v : Value) (wr : World) : Prop := ∃ j : Nat, v = .int .i64 j ∧ j + k = 3 ∧ PtS w wr L sp c ∧ wr.ownsRow (w.heap.size + 2) 318 2 v8 (10 * j) (cll (10 * j))
set_option maxRecDepth 100000 in
set_option maxHeartbeats 6400000 in
theorem cells_of (L : LyA) (sp c : Nat) (w : World) (h : LayM w L) (hr : Cs w sp stpL) (hc : 3 ≤ c)
    (hk : ∀ W, Below w.heap.size w W → Calls Tryz.prog 150 #[L.v, rtV sp c] W fun e w' => e = .returned (.int .i64 0) ∧ Below W.heap.size W w') :
    Calls Tryz.prog 162 #[L.v, rtV sp c] w fun e w' => ∃ A cc, e = .returned (.tuple #[.slice A 30 cc, .int .i64 10, .int .i64 0]) ∧ CelR w' A 30 ∧ (∀ p, A = some p → w.heap.size ≤ p.block) ∧ 30 ≤ cc ∧ Below w.heap.size w w' := by
  have H := Lib.hid h
  have HR := Lib.hid hr
  have HK := Lib.hid hk
  clear h hr hk
  have hc3 : (3 : Int) ≤ (c : Int) := by omega
  obtain ⟨i0, b1, b2, b3, b4⟩ := info_parts infoC
  have HI := Lib.hid (And.intro b1 (And.intro b2 (And.intro b3 b4)))
  clear b1 b2 b3 b4
  go_enter Tryz.func162, Tryz.ntmps162
  go_upto_region 1 with fail
  refine world_gen (fun w0 => PtS w w0 L sp c) ⟨(by repeat (first | exact Below.refl _ _ | (with_reducible refine Below.drew ?_) | (with_reducible refine below_drewN ?_ _) | (with_reducible refine Below.alloc ?_ (by first | omega | (simp; done) | (simp; omega)) _) | (with_reducible refine Below.setCell ?_ (by first | omega | (simp; done) | (simp; omega)) _) | (refine Below.trans ?_ (Below.mono (by with_reducible assumption) (by first | omega | (simp; done) | (simp; omega)))))), (by repeat (first | (refine Blk.new' _ _ _ _ ?_; first | rfl | (simp <;> omega)) | refine Blk.al ?_ _ | refine Blk.dr ?_ | refine Blk.drN ?_ _ | refine Blk.far ?_ (by first | omega | (simp; omega)))), (by repeat (first | (refine Blk.new' _ _ _ _ ?_; first | rfl | (simp <;> omega)) | refine Blk.al ?_ _ | refine Blk.dr ?_ | refine Blk.drN ?_ _ | refine Blk.far ?_ (by first | omega | (simp; omega))))⟩ ?_
  rintro w0 hs0
  have HS0 := Lib.hid hs0
  have x0 := hs0.x.cell 0
  have x1 := hs0.x.cell 1
  have x2 := hs0.x.cell 2
  have x3 := hs0.x.cell 3
  have r0 := hs0.r.cell 0
  have r1 := hs0.r.cell 1
  simp at x0 x1 x2 x3 r0 r1
  clear hs0
  go_wp2_with fail
  refine (HK.out _ HS0.out.b).mono ?_
  rintro e w1 ⟨rfl, hb1⟩
  have HS1 := Lib.hid (HS0.out.go hb1)
  clear hb1 HS0 x0 x1 x2 x3 r0 r1
  have r0 := HS1.out.r.cell 0
  have r1 := HS1.out.r.cell 1
  simp at r0 r1
  go_wp2_with fail
  clear r0 r1
  go_loopg [8, 29] 3 (fun k v8 v wr => CeL w L sp c k v8 v wr)
  case atStart => exact ⟨0, rfl, rfl, HS1.out, World.ownsRow_nil _ _ _ _⟩
  case round =>
    obtain ⟨j, rfl, hj, hs, ho⟩ := hrel
    have HS := Lib.hid hs
    have HO := Lib.hid ho
    have Hj := Lib.hid hj
    clear hs hj HS1 ho
    by_cases hlt : j < 3
    · have hrc := HR.out.go HS.out.b
      obtain ⟨d0, d1⟩ := stp_at hrc j hlt
      have dl := hrc.lt
      have hlm := H.out.go HS.out.b
      obtain ⟨s0, s1, s2, s3, s4⟩ := hlm.sec j hlt
      have sl := hlm.se.lt
      have x2 := HS.out.x.cell 2
      have xl := HS.out.x.lt
      simp at x2
      clear hrc hlm
      have hj3 : (j : Int) < 3 := by omega
      go_upto_region 9 with fail
      refine world_gen (fun w1 => PtS w w1 L sp c ∧ w1.ownsRow (w.heap.size + 2) 318 2 u8 (10 * j) (cll (10 * j)) ∧ Blk w1 wr.heap.size 113 #[.int .i64 j, .int .i64 0] ∧ Blk w1 (wr.heap.size + 1) 169 #[.string ⟨#[nmF j]⟩, .int .i64 10, .int .i64 20000, .int .i64 0, .int .i64 (stF j)]) ⟨HS.out.go (by repeat (first | exact Below.refl _ _ | (with_reducible refine Below.drew ?_) | (with_reducible refine below_drewN ?_ _) | (with_reducible refine Below.alloc ?_ (by first | omega | (simp; done) | (simp; omega)) _) | (with_reducible refine Below.setCell ?_ (by first | omega | (simp; done) | (simp; omega)) _) | (refine Below.trans ?_ (Below.mono (by with_reducible assumption) (by first | omega | (simp; done) | (simp; omega)))))), (HO.out.alloc _).alloc _, (by repeat (first | (refine Blk.new' _ _ _ _ ?_; first | rfl | (simp <;> omega)) | refine Blk.al ?_ _ | refine Blk.dr ?_ | refine Blk.drN ?_ _ | refine Blk.far ?_ (by first | omega | (simp; omega)))), (by repeat (first | (refine Blk.new' _ _ _ _ ?_; first | rfl | (simp <;> omega)) | refine Blk.al ?_ _ | refine Blk.dr ?_ | refine Blk.drN ?_ _ | refine Blk.far ?_ (by first | omega | (simp; omega))))⟩ ?_
      rintro w1 ⟨hs1, ho1, ha1, hb1⟩
      have HS1 := Lib.hid hs1
      have HO1 := Lib.hid ho1
      have HA1 := Lib.hid ha1
      have HB1 := Lib.hid hb1
      have a1 := ha1.cell 1
      have b2 := hb1.cell 2
      have b3 := hb1.cell 3
      have la1 := ha1.lt
      have lb1 := hb1.lt
      simp at a1 b2 b3
      clear hs1 ho1 ha1 hb1 HS HO s0 s1 s2 s3 s4 d0 d1 x2
      generalize wr.heap.size = Z at *
      go_upto_region 12 with fail
      refine world_gen (fun w2 => PtS w w2 L sp c ∧ w2.ownsRow (w.heap.size + 2) 318 2 u8 (10 * j) (cll (10 * j)) ∧ Blk w2 (Z + 1) 169 #[.string ⟨#[nmF j]⟩, .int .i64 10, .int .i64 20000, .int .i64 0, .int .i64 (stF j)] ∧ Blk w2 w1.heap.size 318 #[.int .i64 20000, .int .i64 0]) ⟨HS1.out.go (by repeat (first | exact Below.refl _ _ | (with_reducible refine Below.drew ?_) | (with_reducible refine below_drewN ?_ _) | (with_reducible refine Below.alloc ?_ (by first | omega | (simp; done) | (simp; omega)) _) | (with_reducible refine Below.setCell ?_ (by first | omega | (simp; done) | (simp; omega)) _) | (refine Below.trans ?_ (Below.mono (by with_reducible assumption) (by first | omega | (simp; done) | (simp; omega)))))), HO1.out.alloc _, (by have hblk := HB1.out; repeat (first | exact hblk | refine Blk.al ?_ _ | refine Blk.dr ?_ | refine Blk.drN ?_ _)), (by repeat (first | (refine Blk.new' _ _ _ _ ?_; first | rfl | (simp <;> omega)) | refine Blk.al ?_ _ | refine Blk.dr ?_ | refine Blk.drN ?_ _ | refine Blk.far ?_ (by first | omega | (simp; omega))))⟩ ?_
      rintro w2 ⟨hs2, ho2, hb2, hc2⟩
      have HS2 := Lib.hid hs2
      have HO2 := Lib.hid ho2
      have HB2 := Lib.hid hb2
      have b1 := hb2.cell 1
      have c0 := hc2.cell 0
      have c1 := hc2.cell 1
      have lz := hb2.lt
      simp at b1 c0 c1
      clear hs2 ho2 hb2 hc2 HS1 HO1 HA1 HB1 a1 b2 b3
      go_wp2_with fail
      refine (repeat_ok w2.heap.size _ ⟨by simp, fun i v hi => by
        match i with
        | 0 => exact ((Blk.new w2 318 #[.int .i64 20000, .int .i64 0]).cell 0).trans hi
        | 1 => exact ((Blk.new w2 318 #[.int .i64 20000, .int .i64 0]).cell 1).trans hi
        | _ + 2 => simp [celL] at hi⟩).mono ?_
      rintro e w3 ⟨g3, rfl, hx3, hg3, hb3⟩
      have hb23 : Below w2.heap.size w2 w3 := Below.trans ((Below.refl _ _).alloc (Nat.le_refl _) _) (hb3.mono (by simp))
      have HS3 := Lib.hid (HS2.out.go hb23)
      have HO3 := Lib.hid (own_grow HO2.out hb23)
      have hsz := HS3.out.r.lt
      have hnw : ∀ i v, (rpC 10)[i]? = some v → w3.cell? (Addr.add ⟨g3, 0, none⟩ i) = some v := fun i v hi => by
        rw [Addr.add_mid, Nat.zero_add, hx3.cell i]
        simpa using hi
      have HNW := Lib.hid hnw
      clear hb23 hb3 hx3 hg3 hnw HS2 HO2 HB2 b1 c0 c1 lz
      obtain ⟨A8, c8, rfl, _, _⟩ := own_slice HO3.out
      go_wp2_with (at_builtin; refine wpList_append_own_at _ rfl _ _ 193 rfl (w.heap.size + 2) 318 i0 _ 2 16 Tryz.underlying193 HI.out.1 HI.out.2.1 HI.out.2.2.1 HI.out.2.2.2 rfl (by omega) _ (10 * j) _ rfl HO3.out ⟨g3, 0, none⟩ 10 10 (rpC 10) rfl rfl ?c0 ?c1 ?c2 ?c3 ?c4 ?_; rotate_right; intro v' w' hown' hg' _ hat')
      case c0 => exact HNW.out
      case c1 => exact cll_one
      case c2 => simp only [maxLen]; omega
      case c3 => omega
      case c4 => omega
      have HO4 := Lib.hid (show w'.ownsRow (w.heap.size + 2) 318 2 v' (10 * (j + 1)) (cll (10 * (j + 1))) by
        rw [show 10 * (j + 1) = 10 * j + 10 by omega, cll_add, cll_10]
        exact hown')
      have HS4 := Lib.hid (HS3.out.grow hg' (fun k hk => (own_block HO3.out k hk).1))
      clear hg' hat' hown'
      go_wp2_with fail
      go_roundg (3 - j - 1)
      case measure => have := Hj.out; omega
      case rel => exact ⟨j + 1, by first | rfl | go_num, by have := Hj.out; omega, HS4.out, HO4.out⟩
    · obtain rfl : j = 3 := by have := Hj.out; omega
      obtain ⟨A, cc, rfl, hcc, _⟩ := own_slice HO.out
      have hrc := HR.out.go HS.out.b
      obtain ⟨d0, d1⟩ := stp_at hrc 0 (by omega)
      have dl := hrc.lt
      have hlm := H.out.go HS.out.b
      obtain ⟨s0, s1, s2, s3, s4⟩ := hlm.sec 0 (by omega)
      have sl := hlm.se.lt
      have x2 := HS.out.x.cell 2
      have xl := HS.out.x.lt
      have r0 := HS.out.r.cell 0
      have rl := HS.out.r.lt
      simp at x2 r0 d0 d1 s0 s1 s2 s3 s4
      clear hrc hlm
      go_upto_region 16 with fail
      refine wp_region_overL (by kernel_rfl) (by kernel_rfl) ?_
      repeat (go_big_quiet_step (fail))
      refine wpQuiet_nil ?_
      intro w5 hb5
      have hcr : CelR wr A 30 := Rd.of_own HO.out
      have HAB := Lib.hid (show ∀ p, A = some p → w.heap.size ≤ p.block from fun p hp => by subst hp; have := (own_block HO.out p.block rfl).1; omega)
      have HCR := Lib.hid (hcr.go hb5)
      have HB5 := Lib.hid (HS.out.go hb5).b
      clear hcr hb5
      go_wp2_with fail
      go_ret3
      exact ⟨A, cc, rfl, HCR.out, HAB.out, by omega, HB5.out⟩
end Go.Proofs.YtinjdcefagaaeaaGreatDoor
namespace Go.Proofs.YtinjdcefagaaeaaGreatDoor
open Go.RowKit
theorem points_ok (L : LyA) (sp c : Nat) (w : World) (h : LayM w L) (hr : Cs w sp stpL) (hc : 3 ≤ c) :
    Calls Tryz.prog 199 #[L.v, rtV sp c] w fun e w' => ∃ v, e = .returned (.tuple #[v, .int .i64 0]) ∧ Below w.heap.size w w' :=
  points_of L sp c w h hr hc fun i W hi hW => tran_ok L i W hW hi
theorem rcheck_ok (L : LyA) (sp c : Nat) (w : World) (h : LayM w L) (hr : Cs w sp stpL) (hc : 3 ≤ c) :
    Calls Tryz.prog 150 #[L.v, rtV sp c] w fun e w' => e = .returned (.int .i64 0) ∧ Below w.heap.size w w' :=
  rcheck_of L sp c w fun W hb => points_ok L sp c W (h.go hb) (hr.go hb) hc
theorem cells_ok (L : LyA) (sp c : Nat) (w : World) (h : LayM w L) (hr : Cs w sp stpL) (hc : 3 ≤ c) :
    Calls Tryz.prog 162 #[L.v, rtV sp c] w fun e w' => ∃ A cc, e = .returned (.tuple #[.slice A 30 cc, .int .i64 10, .int .i64 0]) ∧ CelR w' A 30 ∧ (∀ p, A = some p → w.heap.size ≤ p.block) ∧ 30 ≤ cc ∧ Below w.heap.size w w' :=
  cells_of L sp c w h hr hc fun W hb => rcheck_ok L sp c W (h.go hb) (hr.go hb) hc
end Go.Proofs.YtinjdcefagaaeaaGreatDoor
