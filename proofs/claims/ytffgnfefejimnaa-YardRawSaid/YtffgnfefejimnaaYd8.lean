import Derived.Test.YtffgnfefejimnaaYd7
import Derived.Laws.EntriesVeiled
namespace Go.Proofs.Ytffgnfefejimnaa
open Go.RowKit
theorem YMem.base_ {base base' Y bO bF cF cT n nx : Nat} {AT : Option Addr} {rows : List (List Un)} {fs : List Int} {vs : List Value} {w : World} (h : YMem base Y bO bF cF AT cT n rows fs nx vs w) (hb : base' ≤ base) : YMem base' Y bO bF cF AT cT n rows fs nx vs w :=
  ⟨h.y, Nat.le_trans hb h.hy, own_base h.o hb, own_base h.f hb, h.rn, fun t v r hv hr => own_base (h.r t v r hv hr) hb, h.ap⟩
def PlOut (T : List Tk) (M : List Mv) (b : Int) (w : World) (e : Ending) (w' : World) : Prop :=
  ∃ (A : Option Addr) (c : Nat), e = .returned (.tuple #[.slice A (planF T M b).1.length c, .int .i64 (planF T M b).2.1, .int .i64 (planF T M b).2.2]) ∧ Below w.heap.size w w' ∧ w'.ownsRow w.heap.size 3 1 (.slice A (planF T M b).1.length c) (planF T M b).1.length ((planF T M b).1.map natV) ∧ ((planF T M b).2.2 ≠ 0 → A = none ∧ c = 0)

set_option maxRecDepth 100000 in
set_option maxHeartbeats 6400000 in
theorem plan_any (AT AM : Option Addr) (cT cM : Nat) (T : List Tk) (M : List Mv) (b : Int) (w : World) (hT : TRd w AT T) (hM : MRd w AM M) :
    Calls Try.prog 14 #[.slice AT T.length cT, .slice AM M.length cM, .int .i64 b] w (PlOut T M b w) := by
  have HT := Lib.hid hT
  have HM := Lib.hid hM
  clear hT hM
  obtain ⟨i0, a1, a2, a3, a4⟩ := info_parts infoInt
  have HI := Lib.hid (And.intro a1 (And.intro a2 (And.intro a3 a4)))
  clear a1 a2 a3 a4
  go_enter Try.func14, Try.ntmps14
  go_wp2_with fail
  refine (check_any AT AM cT cM T M _ (HT.out.grow (by repeat (first | exact Below.refl _ _ | (with_reducible refine Below.drew ?_) | (with_reducible refine below_drewN ?_ _) | (with_reducible refine Below.alloc ?_ (by first | omega | (simp; done) | (simp; omega)) _) | (with_reducible refine Below.setCell ?_ (by first | omega | (simp; done) | (simp; omega)) _) | (refine Below.trans ?_ (Below.mono (by with_reducible assumption) (by first | omega | (simp; done) | (simp; omega))))))) (HM.out.grow (by repeat (first | exact Below.refl _ _ | (with_reducible refine Below.drew ?_) | (with_reducible refine below_drewN ?_ _) | (with_reducible refine Below.alloc ?_ (by first | omega | (simp; done) | (simp; omega)) _) | (with_reducible refine Below.setCell ?_ (by first | omega | (simp; done) | (simp; omega)) _) | (refine Below.trans ?_ (Below.mono (by with_reducible assumption) (by first | omega | (simp; done) | (simp; omega)))))))).mono ?_
  rintro e w1 ⟨rfl, hb1⟩
  have HB1 := Lib.hid (show Below w.heap.size w w1 from (show Below w.heap.size w (((w.alloc (.cells #[.slice AT T.length cT] 23)).alloc (.cells #[.slice AM M.length cM] 24)).alloc (.cells #[.int .i64 b] 3)) from (by repeat (first | exact Below.refl _ _ | (with_reducible refine Below.drew ?_) | (with_reducible refine below_drewN ?_ _) | (with_reducible refine Below.alloc ?_ (by first | omega | (simp; done) | (simp; omega)) _) | (with_reducible refine Below.setCell ?_ (by first | omega | (simp; done) | (simp; omega)) _) | (refine Below.trans ?_ (Below.mono (by with_reducible assumption) (by first | omega | (simp; done) | (simp; omega))))))).trans (hb1.mono (by simp; omega)))
  have k0 := (((Blk.new w 23 #[.slice AT T.length cT]).al (.cells #[.slice AM M.length cM] 24)).al (.cells #[.int .i64 b] 3)).bel hb1
  have k1 := ((Blk.new (w.alloc (.cells #[.slice AT T.length cT] 23)) 24 #[.slice AM M.length cM]).al (.cells #[.int .i64 b] 3)).bel hb1
  have k2 := (Blk.new ((w.alloc (.cells #[.slice AT T.length cT] 23)).alloc (.cells #[.slice AM M.length cM] 24)) 3 #[.int .i64 b]).bel hb1
  have hs1 := hb1.size
  simp at k0 k1 k2 hs1
  have K0 := Lib.hid k0
  have K1 := Lib.hid k1
  have K2 := Lib.hid k2
  have x0 := k0.cell 0
  have x1 := k1.cell 0
  have x2 := k2.cell 0
  simp at x0 x1 x2
  clear hb1 k0 k1 k2
  by_cases hck : chkY T M = true
  case neg =>
    have hp : planF T M b = ([], 0, 1) := by unfold planF; rw [if_neg hck]
    have hck' : chkY T M = false := by simpa using hck
    rw [hck']
    go_wp2_with fail
    go_ret3
    unfold PlOut
    rw [hp]
    exact ⟨none, 0, rfl, HB1.out, World.ownsRow_nil _ _ _ _, fun _ => ⟨rfl, rfl⟩⟩
  obtain ⟨⟨h1, h8, h24⟩, hTk, hMv⟩ := chkY_iff.1 hck
  by_cases hbud : 1 ≤ b ∧ b ≤ 1048576
  case neg =>
    have hp : planF T M b = ([], 0, 4) := by unfold planF; rw [if_pos hck, if_neg hbud]
    rw [hck]
    by_cases hlo : b < 1
    all_goals
      go_wp2_with fail
      go_ret3
      unfold PlOut
      rw [hp]
      exact ⟨none, 0, rfl, by have hbb := HB1.out; exact hbb, World.ownsRow_nil _ _ _ _, fun _ => ⟨rfl, rfl⟩⟩
  obtain ⟨hb0, hbm⟩ := hbud
  have hp : planF T M b = planR (srchY T b.toNat M (begY T) 0) := by unfold planF; rw [if_pos hck, if_pos ⟨hb0, hbm⟩]
  have HP := Lib.hid hp
  have HTk := Lib.hid hTk
  have HMv := Lib.hid hMv
  rw [hck]
  clear hp hTk hMv hck
  go_wp2_with fail
  refine (newyard_any AT cT T w1 (HT.out.grow HB1.out) h1 h8).mono ?_
  rintro e w2 ⟨Y, bO, bR, cF, vs, rfl, hm, hb2⟩
  have HY := Lib.hid hm
  have HB2 := Lib.hid (HB1.out.trans (hb2.mono HB1.out.size))
  have K0 := Lib.hid (K0.out.bel hb2)
  have K1 := Lib.hid (K1.out.bel hb2)
  have K2 := Lib.hid (K2.out.bel hb2)
  have hs2 := hb2.size
  have hs20 := HB2.out.size
  have x1 := K1.out.cell 0
  simp at x1
  clear x0 x2 hm hb2
  have hx1l : w.heap.size + 1 < w2.heap.size := K1.out.lt
  go_upto_region 6 with fail
  go_upto_region 9 with (at_make; refine wpList_make_full _ rfl _ _ 22 rfl w.heap.size 3 i0 _ 1 Try.underlying22 HI.out.1 HI.out.2.1 HI.out.2.2.1 .i64 .i64 _ _ M.length rfl rfl rfl rfl ?m1 ?m2 ?m3 ?_; rotate_right; intro w3 hown hg)
  case m1 => rw [HI.out.2.2.2]; omega
  case m2 => simp only [maxLen]; omega
  case m3 => simp; omega
  have hg3 : Below (w2.alloc (.cells #[.pointer (some ⟨Y, 0, none⟩)] 53)).heap.size (w2.alloc (.cells #[.pointer (some ⟨Y, 0, none⟩)] 53)) w3 := (Below.refl _ _).grown hg (Nat.le_refl _) (fun k hk => by cases hk)
  have hb3 : Below w2.heap.size w2 w3 := (show Below w2.heap.size w2 (w2.alloc (.cells #[.pointer (some ⟨Y, 0, none⟩)] 53)) from (by repeat (first | exact Below.refl _ _ | (with_reducible refine Below.drew ?_) | (with_reducible refine below_drewN ?_ _) | (with_reducible refine Below.alloc ?_ (by first | omega | (simp; done) | (simp; omega)) _) | (with_reducible refine Below.setCell ?_ (by first | omega | (simp; done) | (simp; omega)) _) | (refine Below.trans ?_ (Below.mono (by with_reducible assumption) (by first | omega | (simp; done) | (simp; omega))))))).trans (hg3.mono (by simp))
  have hs3 := hg3.size
  simp at hs3
  have hb4 : Below w3.heap.size w3 (((w3.alloc (.cells #[.slice (some ⟨w2.heap.size + 1, 0, none⟩) M.length M.length] 22)).alloc (.cells #[.int .i64 0] 3)).alloc (.cells #[.nilFunc] 55)) := (by repeat (first | exact Below.refl _ _ | (with_reducible refine Below.drew ?_) | (with_reducible refine below_drewN ?_ _) | (with_reducible refine Below.alloc ?_ (by first | omega | (simp; done) | (simp; omega)) _) | (with_reducible refine Below.setCell ?_ (by first | omega | (simp; done) | (simp; omega)) _) | (refine Below.trans ?_ (Below.mono (by with_reducible assumption) (by first | omega | (simp; done) | (simp; omega))))))
  have hb5 := hb3.trans (hb4.mono hb3.size)
  have HPl := Lib.hid (show w3.ownsRow w.heap.size 3 1 (.slice (some ⟨w2.heap.size + 1, 0, none⟩) M.length M.length) M.length ((List.replicate M.length 0).map natV) by
    have h := hown
    rw [show (Value.int .i64 0).cells = #[(fun v : Value => v) (.int .i64 0)] from rfl, madeCells_one (fun v : Value => v) (.int .i64 0)] at h
    simpa [natV] using h)
  have HL := Lib.hid (show PLoc.ord ⟨w.heap.size, w.heap.size, w.heap.size + 1, w.heap.size + 1 + 1, w2.heap.size, w2.heap.size + 1, w3.heap.size, w3.heap.size + 1, w3.heap.size + 1 + 1, Y, bO, bR, cF, AT, AM, cT, cM⟩ from by
    simp only [PLoc.ord]; have := K2.out.lt; have := (own_block HPl.out (w2.heap.size + 1) rfl).2; omega)
  refine world_gen (fun w5 => CM ⟨w.heap.size, w.heap.size, w.heap.size + 1, w.heap.size + 1 + 1, w2.heap.size, w2.heap.size + 1, w3.heap.size, w3.heap.size + 1, w3.heap.size + 1 + 1, Y, bO, bR, cF, AT, AM, cT, cM⟩ T M b.toNat .nilFunc (begY T) 0 (List.replicate M.length 0) vs w5 ∧ Below w.heap.size w w5) ⟨?g1, ?g2⟩ ?_
  case g2 => exact HB2.out.trans (hb5.mono HB2.out.size)
  case g1 =>
    have hD := fun k hk => HY.out.D_base (k := k) hk
    have hkl := K2.out.lt
    refine ⟨K0.out.bel hb5, K1.out.bel hb5, by rw [Int.toNat_of_nonneg (by omega)]; exact K2.out.bel hb5, ?_, ?_, ?_, ?_, own_grow HPl.out hb4, (HY.out.base_ (by simp only; omega)).grow hb5, fun k hk hd => ?_, ?_, ?_, ?_⟩
    · exact ((Blk.new w2 53 #[.pointer (some ⟨Y, 0, none⟩)]).bel hg3).bel hb4
    · simpa using ((Blk.new w3 22 #[.slice (some ⟨w2.heap.size + 1, 0, none⟩) M.length M.length]).al (.cells #[.int .i64 0] 3)).al (.cells #[.nilFunc] 55)
    · simpa using (Blk.new (w3.alloc (.cells #[.slice (some ⟨w2.heap.size + 1, 0, none⟩) M.length M.length] 22)) 3 #[.int .i64 0]).al (.cells #[.nilFunc] 55)
    · simpa using Blk.new ((w3.alloc (.cells #[.slice (some ⟨w2.heap.size + 1, 0, none⟩) M.length M.length] 22)).alloc (.cells #[.int .i64 0] 3)) 55 #[.nilFunc]
    · obtain ⟨d1, d2⟩ := hD k hd
      simp only [PLoc.box] at hk
      omega
    · exact (HT.out.r.grow HB2.out).grow (hb5.mono HB2.out.size)
    · exact (HM.out.r.grow HB2.out).grow (hb5.mono HB2.out.size)
    · have := hb4.size; simp only; omega
  clear x1 hown hg hg3 hb3 hb4 hb5
  rintro w5 ⟨hc5, hbl5⟩
  have HC5 := Lib.hid hc5
  have HB5 := Lib.hid hbl5
  have f0 := hc5.f.cell 0
  have ff := hc5.f.frozen 0
  have fl := hc5.f.lt
  simp at f0
  simp only at ff fl
  clear hc5 hbl5 HY K0 K1 K2 HPl
  go_upto_region 10 with fail
  have HC6 := Lib.hid (HC5.out.setF HL.out (PLoc.fn ⟨w.heap.size, w.heap.size, w.heap.size + 1, w.heap.size + 1 + 1, w2.heap.size, w2.heap.size + 1, w3.heap.size, w3.heap.size + 1, w3.heap.size + 1 + 1, Y, bO, bR, cF, AT, AM, cT, cM⟩))
  have HB6 := Lib.hid (HB5.out.setCell (show w.heap.size ≤ (⟨w3.heap.size + 1 + 1, 0, none⟩ : Addr).block by simp only; omega) (PLoc.fn ⟨w.heap.size, w.heap.size, w.heap.size + 1, w.heap.size + 1 + 1, w2.heap.size, w2.heap.size + 1, w3.heap.size, w3.heap.size + 1, w3.heap.size + 1 + 1, Y, bO, bR, cF, AT, AM, cT, cM⟩))
  simp only [PLoc.fn] at HC6 HB6
  clear f0 ff fl HC5 HB5
  generalize w5.setCell ⟨w3.heap.size + 1 + 1, 0, none⟩ _ = w6 at *
  have f0 := HC6.out.f.cell 0
  simp at f0
  go_wp2_with fail
  have hcall := perform_any ⟨w.heap.size, w.heap.size, w.heap.size + 1, w.heap.size + 1 + 1, w2.heap.size, w2.heap.size + 1, w3.heap.size, w3.heap.size + 1, w3.heap.size + 1 + 1, Y, bO, bR, cF, AT, AM, cT, cM⟩ T M b.toNat HL.out h8 h24 HTk.out HMv.out (by omega) M.length 0 (begY T) 0 (List.replicate M.length 0) vs w6 (by omega) (by omega) (begY_ok T 0) HC6.out
  refine hcall.mono ?_
  clear hcall
  rintro e w7 ⟨rfl, s7, plan7, vs7, hc7, hf7, _, hd7, _⟩
  have hbd := srch_bd T b.toNat M (begY T) 0 (by omega)
  rw [List.drop_zero] at hc7 hd7 ⊢
  have hp := HP.out
  generalize srchY T b.toNat M (begY T) 0 = r at *
  obtain ⟨rc, ru, rp⟩ := r
  obtain ⟨_, hru, hrc, hrp⟩ := hbd
  simp only at hru hrc hrp hp hd7
  have HC7 := Lib.hid hc7
  have HB7 := Lib.hid (HB6.out.trans hf7.bel)
  have HD7 := Lib.hid hd7
  have Hrp := Lib.hid hrp
  have HP7 := Lib.hid hp
  have p0 := hc7.p.cell 0
  have u0 := hc7.u.cell 0
  have hpl := hc7.p.lt
  have hul := hc7.u.lt
  simp at p0 u0
  simp only at hpl hul
  clear hc7 hf7 hd7 hrp hp HP HC6 HB6 f0
  rcases hrc with rfl | rfl | rfl
  · go_upto_region 14 with fail
    go_quiet (fail)
    go_wp2_with fail
    go_ret3
    unfold PlOut
    rw [HP7.out]
    obtain rfl : plan7 = rp := by have := HD7.out trivial; simpa using this
    refine ⟨some ⟨w2.heap.size + 1, 0, none⟩, M.length, ?_, by have hbb := HB7.out; exact below_drewN hbb _, ?_, fun h => absurd rfl h⟩
    · simp only [planR, if_true]; rw [Hrp.out trivial]; rfl
    · simp only [planR, if_true]; rw [Hrp.out trivial]; exact HC7.out.pl
  · go_upto_region 16 with fail
    go_quiet (fail)
    go_wp2_with fail
    go_ret3
    unfold PlOut
    rw [HP7.out]
    exact ⟨none, 0, rfl, by have hbb := HB7.out; exact below_drewN hbb _, World.ownsRow_nil _ _ _ _, fun _ => ⟨rfl, rfl⟩⟩
  · go_wp2_with fail
    go_ret3
    unfold PlOut
    rw [HP7.out]
    exact ⟨none, 0, rfl, HB7.out, World.ownsRow_nil _ _ _ _, fun _ => ⟨rfl, rfl⟩⟩
end Go.Proofs.Ytffgnfefejimnaa
