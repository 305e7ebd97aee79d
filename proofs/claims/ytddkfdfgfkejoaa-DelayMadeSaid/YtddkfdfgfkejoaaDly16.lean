import Derived.Test.YtddkfdfgfkejoaaDly15
import Derived.Test.YtddkfdfgfkejoaaDlyMath7
namespace Go.Proofs.Ytddkfdfgfkejoaa
open Go.RowKit

/-- the bounds that Cause leans on -/
structure SolB (ms : List Mom) (ws : List Wt) (base sec : List Int) (kept : List Bool) : Prop where
  m : ms.length ≤ 64
  w : ws.length ≤ 200
  lb : base.length = ms.length
  ls : sec.length = ms.length
  lk : kept.length = ws.length
  wk : ∀ k ∈ ws, WOk ms.length k
  bd : ∀ i : Int, 0 ≤ i → i < (ms.length : Int) → 0 ≤ gi base i ∧ gi base i ≤ 600000000 ∧ 0 ≤ gi sec i ∧ gi sec i ≤ 600000000
theorem Valid.solB {ms : List Mom} {ws : List Wt} {ps : List Pri} {b s : List Int} {k : List Bool} (hv : Valid ms ws ps) (h : Sol ms ws ps b s k) : SolB ms ws b s k := by
  have hw : ∀ k ∈ ws, WOk ms.length k := fun k hk => (wtB_ok _ _).1 (hv.1.wAll k hk)
  obtain ⟨rank, hr, hrn⟩ := acyc_rank hv.2 hw
  have hm := hv.1.m
  refine ⟨hm, hv.1.w, h.lb, h.ls, h.lk, hw, fun i h0 h1 => ?_⟩
  have := sol_bdV h rank hr (fun i h0 h1 => by
    obtain ⟨i, rfl⟩ := Int.eq_ofNat_of_zero_le h0
    rw [tm_nat ms i (by omega)]
    have := hv.1.mAll ms[i] (List.getElem_mem (by omega))
    simpa [clkB] using this) hw (fun i => prim_bd ps i (okP_prim hv.1.pAll).1 (okP_prim hv.1.pAll).2) (rank i) i (Nat.le_refl _) h0 h1
  have := hrn i h0 h1
  omega
def RsL (w : World) (ws : List Wt) (base sec : List Int) (kept : List Bool) (i : Int) (X : Nat) (v0 v1 v2 : Value) (k : Nat) (v : Value) (wr : World) : Prop :=
  ∃ j : Nat, v = .int .i64 j ∧ j + k = ws.length ∧ (∀ b, b < j → rsB ws base sec kept i b = false) ∧ Blk wr X 58 #[v0, v1, v2] ∧ Below w.heap.size w wr

set_option maxRecDepth 100000 in
set_option maxHeartbeats 3200000 in
theorem reason_any (A B Ab As Ak : Option Addr) (a b cb cs ck a' b' : Nat) (ms : List Mom) (ws : List Wt) (base sec : List Int) (kept : List Bool) (i : Nat) (w : World) (hA : Rd w w.heap.size 2 A a (ms.flatMap Mom.cells)) (hB : Rd w w.heap.size 4 B b (ws.flatMap Wt.cells))
    (hb : Rd w w.heap.size 1 Ab ms.length (base.map (Value.int .i64))) (hs : Rd w w.heap.size 1 As ms.length (sec.map (Value.int .i64))) (hk : Rd w w.heap.size 1 Ak ws.length (kept.map Value.bool)) (ha : a = ms.length) (hbb : b = ws.length) (hS : SolB ms ws base sec kept) (hi : i < ms.length) :
    Calls Try.prog 31 #[.agg #[.slice Ab ms.length cb, .slice As ms.length cs, .slice Ak ws.length ck], .slice A a a', .slice B b b', .int .i64 i] w fun e w' => e = .returned (.int .i64 (rsnV ms ws base sec kept i)) ∧ Below w.heap.size w w' := by
  subst ha hbb
  have HA := Lib.hid hA
  have HB := Lib.hid hB
  have HRb := Lib.hid hb
  have HRs := Lib.hid hs
  have HRk := Lib.hid hk
  have HS := Lib.hid hS
  have hl6 := hS.m
  have hl2 := hS.w
  clear hA hB hb hs hk hS
  have hx0 : Below w.heap.size w (w.alloc (.cells #[.slice Ab ms.length cb, .slice As ms.length cs, .slice Ak ws.length ck] 58)) := (Below.refl _ _).alloc (Nat.le_refl _) _
  have HX0 := Lib.hid (Blk.new w 58 #[.slice Ab ms.length cb, .slice As ms.length cs, .slice Ak ws.length ck])
  have HL0 := Lib.hid hx0
  clear hx0
  go_enter Try.func31, Try.ntmps31
  go_upto_region 1 with fail
  generalize w.alloc (.cells #[.slice Ab ms.length cb, .slice As ms.length cs, .slice Ak ws.length ck] 58) = w0 at *
  obtain ⟨X, hX⟩ : ∃ X, X = w.heap.size := ⟨_, rfl⟩
  rw [← hX] at ⊢
  rw [show Blk w0 w.heap.size 58 #[.slice Ab ms.length cb, .slice As ms.length cs, .slice Ak ws.length ck] = Blk w0 X 58 #[.slice Ab ms.length cb, .slice As ms.length cs, .slice Ak ws.length ck] by rw [hX]] at HX0
  clear hX
  obtain ⟨bm, om, rfl, hbm, m0, m1⟩ := rdMom (HA.out.grow HL0.out) rfl i hi
  have hib : i < base.length := by rw [HS.out.lb]; exact hi
  obtain ⟨bb, ob, rfl, hbb, b0⟩ := rd1 (HRb.out.grow HL0.out) i hib
  have x0 := HX0.out.cell 0
  simp at x0
  have hxl := HX0.out.lt
  have hbl : blkB ms base i = (ms[i].hold && decide (base[i] ≤ ms[i].time)) := by unfold blkB; rw [hd_nat ms i hi, tm_nat ms i hi, gi_nat base i hib]
  have Hgb := Lib.hid (gi_nat base i hib)
  have hbd := HS.out.bd i (by omega) (by omega)
  rw [Hgb.out] at hbd
  obtain ⟨hbd0, hbd1, _, _⟩ := hbd
  generalize base[i] = bv at *
  generalize ms[i].hold = hv at *
  generalize ms[i].time = tv at *
  cases hblk : blkB ms base i
  case true =>
    have HR := Lib.hid (show rsnV ms ws base sec kept i = -1 by unfold rsnV; rw [rsn_blk hblk])
    rw [hbl, Bool.and_eq_true] at hblk
    obtain ⟨rfl, hd1⟩ := hblk
    clear hbl
    go_quiet (fail)
    go_wp2_with fail
    go_ret
    exact ⟨by rw [HR.out]; rfl, below_drewN HL0.out _⟩
  case false =>
    have Hblk := Lib.hid hblk
    rw [hbl] at hblk
    clear hbl
    have hcs : hv = false ∨ (hv = true ∧ decide (bv ≤ tv) = false) := by cases hv <;> simp at hblk ⊢; exact hblk
    clear hblk
    rcases hcs with rfl | ⟨rfl, hd1⟩
    all_goals
      go_quiet (fail)
      go_wp2_with fail
      go_loopg [9, 10, 31] ws.length (fun k _ _ v wr => RsL w ws base sec kept i X (.slice (some ⟨bb, ob, none⟩) ms.length cb) (.slice As ms.length cs) (.slice Ak ws.length ck) k v wr)
      case atStart => exact ⟨0, rfl, by omega, fun b hb => by omega, HX0.out.same rfl, below_drewN HL0.out _⟩
      case round =>
        obtain ⟨j, rfl, hj, hf, hx, hbr⟩ := hrel
        have Hj := Lib.hid hj
        have Hf := Lib.hid hf
        have HX := Lib.hid hx
        have HL := Lib.hid hbr
        clear hj hf hx hbr HX0 HL0 x0 hxl m0 m1 b0
        by_cases hlt : j < ws.length
        · obtain ⟨bw, ow, rfl, hbw, d0, d1, d2, d3⟩ := rdWt (HB.out.grow HL.out) rfl j hlt
          have hjk : j < kept.length := by rw [HS.out.lk]; exact hlt
          obtain ⟨bk, ok, rfl, hbk, k0⟩ := rd1 (HRk.out.grow HL.out) j hjk
          have hrs := rsB_get (base := base) (sec := sec) (kept := kept) (i := i) hlt
          rw [Hgb.out, show kept.getD j false = kept[j] by simp [hjk]] at hrs
          have hok := HS.out.wk ws[j] (List.getElem_mem hlt)
          generalize kept[j] = kb at *
          generalize ws[j] = kk at *
          obtain ⟨f, t, mn, mx⟩ := kk
          simp only at d0 d1 d2 d3 hrs
          obtain ⟨f, rfl⟩ := Int.eq_ofNat_of_zero_le (show 0 ≤ f from hok.f0)
          have hfl : f < ms.length := by have := hok.f1; simp only at this; omega
          have hmn0 : 0 ≤ mn := hok.m0
          have hmn1 : mn ≤ 4194304 := hok.m1
          clear hok
          have hfs : f < sec.length := by rw [HS.out.ls]; exact hfl
          obtain ⟨bs, os, rfl, hbs, s0⟩ := rd1 (HRs.out.grow HL.out) f hfs
          have hsb := HS.out.bd f (by omega) (by omega)
          rw [gi_nat sec f hfs] at hsb hrs
          obtain ⟨_, _, hsb0, hsb1⟩ := hsb
          generalize sec[f] = sf at *
          obtain ⟨bb', ob', e1, _, b0⟩ := rd1 (HRb.out.grow HL.out) i hib
          injection e1 with e1
          injection e1 with e1 e2
          subst e1 e2
          rw [← gi_nat base i hib, Hgb.out] at b0
          have Hrs := Lib.hid hrs
          clear hrs
          have x0 := HX.out.cell 0
          have x1 := HX.out.cell 1
          have x2 := HX.out.cell 2
          simp at x0 x1 x2
          have hxl := HX.out.lt
          have HX5 := Lib.hid (HX.out.same (Below.heap_alloc wr (.cells #[.int .i64 (f : Int), .int .i64 t, .int .i64 mn, .int .i64 mx] 35) _ hxl))
          have hbw' : bw < wr.heap.size := World.block_lt_of_cell? _ _ d0
          have hbk' : bk < wr.heap.size := World.block_lt_of_cell? _ _ k0
          have hbs' : bs < wr.heap.size := World.block_lt_of_cell? _ _ s0
          have hbb' : bb < wr.heap.size := World.block_lt_of_cell? _ _ b0
          have hwr : IntKind.i64.wrap (sf + mn) = sf + mn := IntWalk.i64_in _ (by omega)
          clear HX
          cases e1 : (t == (i : Int))
          · go_upto_region 6 with fail
            go_quiet (fail)
            go_wp2_with fail
            go_roundg (ws.length - j - 1)
            case measure => have := Hj.out; omega
            case rel =>
              refine ⟨j + 1, by first | rfl | go_num, by omega, fun b hb => ?_, HX5.out, (by have hbelh := HL.out; have hbels := hbelh.size; exact (by repeat (first | exact Below.refl _ _ | (with_reducible refine Below.drew ?_) | (with_reducible refine below_drewN ?_ _) | (with_reducible refine Below.alloc ?_ (by first | omega | (simp; done) | (simp; omega)) _) | (with_reducible refine Below.setCell ?_ (by first | omega | (simp; done) | (simp; omega)) _) | (refine Below.trans ?_ (Below.mono (by with_reducible assumption) (by first | omega | (simp; done) | (simp; omega)))))))⟩
              rcases Nat.lt_or_ge b j with h | h
              · exact Hf.out b h
              · obtain rfl : b = j := by omega
                rw [Hrs.out]; rw [e1]; rfl
          cases kb
          · go_upto_region 6 with fail
            go_quiet (fail)
            go_wp2_with fail
            go_roundg (ws.length - j - 1)
            case measure => have := Hj.out; omega
            case rel =>
              refine ⟨j + 1, by first | rfl | go_num, by omega, fun b hb => ?_, HX5.out, (by have hbelh := HL.out; have hbels := hbelh.size; exact (by repeat (first | exact Below.refl _ _ | (with_reducible refine Below.drew ?_) | (with_reducible refine below_drewN ?_ _) | (with_reducible refine Below.alloc ?_ (by first | omega | (simp; done) | (simp; omega)) _) | (with_reducible refine Below.setCell ?_ (by first | omega | (simp; done) | (simp; omega)) _) | (refine Below.trans ?_ (Below.mono (by with_reducible assumption) (by first | omega | (simp; done) | (simp; omega)))))))⟩
              rcases Nat.lt_or_ge b j with h | h
              · exact Hf.out b h
              · obtain rfl : b = j := by omega
                rw [Hrs.out]; simp
          cases e3 : (sf + mn == bv)
          · go_upto_region 6 with fail
            go_quiet (fail)
            go_wp2_with fail
            go_roundg (ws.length - j - 1)
            case measure => have := Hj.out; omega
            case rel =>
              refine ⟨j + 1, by first | rfl | go_num, by omega, fun b hb => ?_, HX5.out, (by have hbelh := HL.out; have hbels := hbelh.size; exact (by repeat (first | exact Below.refl _ _ | (with_reducible refine Below.drew ?_) | (with_reducible refine below_drewN ?_ _) | (with_reducible refine Below.alloc ?_ (by first | omega | (simp; done) | (simp; omega)) _) | (with_reducible refine Below.setCell ?_ (by first | omega | (simp; done) | (simp; omega)) _) | (refine Below.trans ?_ (Below.mono (by with_reducible assumption) (by first | omega | (simp; done) | (simp; omega)))))))⟩
              rcases Nat.lt_or_ge b j with h | h
              · exact Hf.out b h
              · obtain rfl : b = j := by omega
                rw [Hrs.out]; rw [e3]; simp
          have HR := Lib.hid (show rsnV ms ws base sec kept i = j by unfold rsnV; rw [rsn_some Hblk.out j hlt (by rw [Hrs.out, e1, e3]; rfl) Hf.out])
          go_upto_region 6 with fail
          go_quiet (fail)
          go_wp2_with fail
          go_ret
          exact ⟨by rw [HR.out]; rfl, (by have hbelh := HL.out; have hbels := hbelh.size; exact (by repeat (first | exact Below.refl _ _ | (with_reducible refine Below.drew ?_) | (with_reducible refine below_drewN ?_ _) | (with_reducible refine Below.alloc ?_ (by first | omega | (simp; done) | (simp; omega)) _) | (with_reducible refine Below.setCell ?_ (by first | omega | (simp; done) | (simp; omega)) _) | (refine Below.trans ?_ (Below.mono (by with_reducible assumption) (by first | omega | (simp; done) | (simp; omega)))))))⟩
        · have HR := Lib.hid (show rsnV ms ws base sec kept i = -1 by unfold rsnV; rw [rsn_none (fun a ha => Hf.out a (by omega))])
          go_wp2_with fail
          go_ret
          exact ⟨by rw [HR.out]; rfl, HL.out⟩
end Go.Proofs.Ytddkfdfgfkejoaa
