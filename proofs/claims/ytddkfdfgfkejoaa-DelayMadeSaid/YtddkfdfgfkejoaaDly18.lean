import Derived.Test.YtddkfdfgfkejoaaDly17
namespace Go.Proofs.Ytddkfdfgfkejoaa
open Go.RowKit

def RcL (w3 : World) (P : Nat → Bool) (n k : Nat) (v15 v16 : Value) (wr : World) : Prop :=
  ∃ (m : Nat) (by_ : Int), m ≤ n ∧ v16 = .int .i64 ((m : Int) - 1) ∧ m = k ∧ v15 = .int .i64 by_ ∧ RBy P n m by_ ∧ Below w3.heap.size w3 wr

set_option maxRecDepth 100000 in
set_option maxHeartbeats 6400000 in
theorem rcause_any (A B C : Option Addr) (a b c a' b' c' : Nat) (ms : List Mom) (ws : List Wt) (ps : List Pri) (i : Int) (w : World) (hA : Rd w w.heap.size 2 A a (ms.flatMap Mom.cells)) (hB : Rd w w.heap.size 4 B b (ws.flatMap Wt.cells)) (hC : Rd w w.heap.size 2 C c (ps.flatMap Pri.cells))
    (ha : a = ms.length) (hb : b = ws.length) (hc : c = ps.length) (hal : ms.length ≤ 4611686018427387904) (hbl : ws.length ≤ 4611686018427387904) (hcl : ps.length ≤ 4611686018427387904) (hcc : ps.length ≤ c') (hcm : c' ≤ maxLen) :
    Calls Try.prog 21 #[.slice A a a', .slice B b b', .slice C c c', .int .i64 i] w (CauseOut ms ws ps i w) := by
  subst ha hb hc
  have HA := Lib.hid hA
  have HB := Lib.hid hB
  have HC := Lib.hid hC
  obtain ⟨i0, hi0, hz0, hz1, hz2⟩ := info_parts infoInt
  have HI := Lib.hid (And.intro hi0 (And.intro hz0 (And.intro hz1 hz2)))
  clear hA hB hC hi0 hz0 hz1 hz2
  go_enter Try.func21, Try.ntmps21
  go_wp2_with fail
  refine (rpropa_any A B C _ _ _ a' b' c' ms ws ps w HA.out HB.out HC.out rfl rfl rfl hal hbl hcl hcc hcm).mono ?_
  rintro e w1 ⟨hb1, hcase⟩
  have Hb1 := Lib.hid hb1
  have hs1 := hb1.size
  clear hb1
  rcases hcase with ⟨hv, vs, vk, base, sec, kept, rfl, hsol, hos, hok⟩ | ⟨hv, rfl⟩
  case inr =>
    have HV := Lib.hid hv
    clear hv
    go_wp2_with fail
    go_ret2
    exact ⟨(by have hbelh := Hb1.out; have hbels := hbelh.size; exact (by repeat (first | exact Below.refl _ _ | (with_reducible refine Below.drew ?_) | (with_reducible refine below_drewN ?_ _) | (with_reducible refine Below.alloc ?_ (by first | omega | (simp; done) | (simp; omega)) _) | (with_reducible refine Below.setCell ?_ (by first | omega | (simp; done) | (simp; omega)) _) | (refine Below.trans ?_ (Below.mono (by with_reducible assumption) (by first | omega | (simp; done) | (simp; omega))))))), .inl ⟨HV.out, rfl⟩⟩
  obtain ⟨As, cs, rfl, _, _⟩ := own_slice hos
  obtain ⟨Ak, ck, rfl, _, _⟩ := own_slice hok
  have HV := Lib.hid hv
  have Hsol := Lib.hid hsol
  have HSB := Lib.hid (hv.solB hsol)
  have HR2 := Lib.hid (And.intro ((HA.out.grow Hb1.out).more hs1) (And.intro ((HB.out.grow Hb1.out).more hs1) (And.intro ((HC.out.grow Hb1.out).more hs1) (And.intro (Rd.of_own hos) (Rd.of_own hok)))))
  have hl6 : ms.length ≤ 64 := hv.1.m
  have hl2 : ws.length ≤ 200 := hv.1.w
  have hl3 : ps.length ≤ 64 := hv.1.p
  have HPr := Lib.hid (okP_prim hv.1.pAll)
  clear hv hsol hos hok
  by_cases h0 : 0 ≤ i
  case neg =>
    go_wp2_with fail
    go_ret2
    exact ⟨(by have hbelh := Hb1.out; have hbels := hbelh.size; exact (by repeat (first | exact Below.refl _ _ | (with_reducible refine Below.drew ?_) | (with_reducible refine below_drewN ?_ _) | (with_reducible refine Below.alloc ?_ (by first | omega | (simp; done) | (simp; omega)) _) | (with_reducible refine Below.setCell ?_ (by first | omega | (simp; done) | (simp; omega)) _) | (refine Below.trans ?_ (Below.mono (by with_reducible assumption) (by first | omega | (simp; done) | (simp; omega))))))), .inr (.inl ⟨HV.out, fun h => by omega, rfl⟩)⟩
  by_cases h1 : i < (ms.length : Int)
  case neg =>
    go_wp2_with fail
    go_ret2
    exact ⟨(by have hbelh := Hb1.out; have hbels := hbelh.size; exact (by repeat (first | exact Below.refl _ _ | (with_reducible refine Below.drew ?_) | (with_reducible refine below_drewN ?_ _) | (with_reducible refine Below.alloc ?_ (by first | omega | (simp; done) | (simp; omega)) _) | (with_reducible refine Below.setCell ?_ (by first | omega | (simp; done) | (simp; omega)) _) | (refine Below.trans ?_ (Below.mono (by with_reducible assumption) (by first | omega | (simp; done) | (simp; omega))))))), .inr (.inl ⟨HV.out, fun h => by omega, rfl⟩)⟩
  obtain ⟨i, rfl⟩ := Int.eq_ofNat_of_zero_le h0
  obtain ⟨rank, hr, hrn⟩ := acyc_rank HV.out.2 HSB.out.wk
  have Hr := Lib.hid hr
  have Hrn := Lib.hid (hrn i h0 h1)
  clear hr hrn
  have hd1 : decide ((i : Int) < 0) = false := by simp
  have hd2 : decide (ms.length ≤ i) = false := by simp; omega
  have hd3 : decide ((ms.length : Int) ≤ (i : Int)) = false := by simp; omega
  go_upto_region 7 with fail
  clear hd1 hd2 hd3
  go_loopg [3, 13, 14, 15, 16, 17] (rank i) (fun k v3 v13 _ _ _ _ wr => CsL w1 ms ws base sec kept rank i k v3 v13 wr)
  case atStart => exact ⟨i, [], rfl, by omega, rfl, by simp, fun R h => h, World.ownsRow_nil _ _ _ _, Below.refl _ _⟩
  case round =>
    obtain ⟨j, L, rfl, hj, hk, hlen, hch, hown, hbel⟩ := hrel
    have Hk := Lib.hid hk
    have Hlen := Lib.hid hlen
    have Hch := Lib.hid hch
    have HO := Lib.hid hown
    have HL := Lib.hid hbel
    clear hk hlen hch hown hbel
    have hsz := HL.out.size
    obtain ⟨A13, c13, rfl, hc13, hm13⟩ := own_slice HO.out
    unfold maxLen at hm13
    have hjs : j < sec.length := by rw [HSB.out.ls]; exact hj
    obtain ⟨bs, os, rfl, hbs, s0⟩ := rd1 (HR2.out.2.2.2.1.grow HL.out) j hjs
    have hsv : sec[j] = gi base j + prim ps j := by rw [← gi_nat sec j hjs]; exact Hsol.out.s j (by omega) (by omega)
    rw [hsv] at s0
    clear hsv
    have hbd := HSB.out.bd j (by omega) (by omega)
    obtain ⟨hbd0, hbd1, _, _⟩ := hbd
    generalize hbv : gi base j = bv at *
    have Hbv := Lib.hid hbv
    clear hbv
    have hpb := prim_bd ps j HPr.out.1 HPr.out.2
    have hwr : IntKind.i64.wrap (bv + prim ps j - prim ps j) = bv := by rw [IntWalk.i64_in _ (by omega)]; omega
    have hbs' : bs < wr.heap.size := World.block_lt_of_cell? _ _ s0
    clear hpb
    go_upto_region 7 with fail
    refine wp_region_overL (by kernel_rfl) (by kernel_rfl) ?_
    repeat (go_big_quiet_step (first | (go_at_call 30; exact callsOver (primary_any C _ c' ps _ _ ((((HR2.out.2.2.1.grow HL.out).more hsz).keep (fun k hk => (over_below _ _).block k hk)).more (over_size _ _)) rfl hl3 HPr.out.1))))
    refine wpQuiet_nil ?_
    clear hwr
    intro w3 hb3
    have HO3 := Lib.hid (own_grow HO.out hb3)
    have HL3 := Lib.hid (HL.out.trans (hb3.mono hsz))
    clear s0 hbs' hb3 HO HL hsz
    have hsz := HL3.out.size
    go_wp2_with fail
    obtain ⟨wo, rfl⟩ : ∃ wo : World, wo = w3 := ⟨_, rfl⟩
    go_loopg [15, 16, 17] ws.length (fun k v15 v16 _ wr => RcL wo (fun a => rsB ws base sec kept j a && !blkB ms base j) ws.length k v15 v16 wr)
    case atStart => exact ⟨ws.length, -1, Nat.le_refl _, rfl, rfl, rfl, RBy.start _ _, Below.refl _ _⟩
    case round =>
      obtain ⟨m, bY, hm, rfl, rfl, rfl, hrb, hbel⟩ := hrel
      have HRB := Lib.hid hrb
      have HL2 := Lib.hid (HL3.out.trans (hbel.mono hsz))
      have HLo := Lib.hid hbel
      clear hrb hbel
      have hsz2 := HL2.out.size
      cases m with
      | zero =>
        rw [show ((0 : Nat) : Int) - 1 = -1 by omega]
        have hbY : bY = rsnV ms ws base sec kept j := HRB.out.rsn
        subst hbY
        have HO5 := Lib.hid (own_grow HO3.out HLo.out)
        clear HRB HO3
        rcases rsn_cases ms ws base sec kept j with ⟨e1, hc0⟩ | ⟨q, hq, e1, e2, e3, e4, hc0⟩
        · rw [e1]
          have HC0 := Lib.hid (Hch.out [] hc0)
          clear e1 hc0
          go_wp2_with fail
          go_ret2
          refine ⟨Hb1.out.trans (HL2.out.mono hs1), .inr (.inr ⟨HV.out, ⟨by omega, by omega⟩, _, L, base, sec, kept, rfl, Hsol.out, by simpa using HC0.out, ?_, own_base HO5.out hs1⟩)⟩
          have := Hlen.out
          have := Hrn.out
          omega
        · rw [e1]
          have HC0 := Lib.hid hc0
          have Hrk := Lib.hid (Hr.out ws[q] (List.getElem_mem hq))
          rw [e2] at Hrk
          have hok := HSB.out.wk ws[q] (List.getElem_mem hq)
          obtain ⟨bw, ow, rfl, hbw, d0, _⟩ := rdWt (HR2.out.2.1.grow HL2.out) rfl q hq
          clear e1 e2 e3 e4 hc0
          have f0 : 0 ≤ ws[q].fr := hok.f0
          have f1 : ws[q].fr < ms.length := hok.f1
          clear hok
          have hll : L.length ≤ 64 := by have := Hlen.out; have := Hrn.out; omega
          generalize ws[q].fr = f at *
          obtain ⟨f, rfl⟩ := Int.eq_ofNat_of_zero_le f0
          go_wp2_with (at_builtin; refine wpList_append_own_at _ rfl _ _ 22 rfl w1.heap.size 3 i0 _ 1 8 Try.underlying22 HI.out.1 HI.out.2.1 HI.out.2.2.1 HI.out.2.2.2 rfl (by omega) _ L.length _ rfl (World.ownsRow.alloc HO5.out _) ⟨wr.heap.size, 0, none⟩ 1 1 [.int .i64 (q : Int)] rfl rfl ?c0 ?c1 ?c2 ?c3 ?c4 ?_; rotate_right; intro v' w' hown' hg' _ hat'; have d1 := cell_app hg' ((World.cell?_alloc_lt _ _ _ (World.block_lt_of_cell? _ _ d0)).trans d0) (fun e => by have := (own_block HO5.out _ e).1; omega))
          case c0 => exact news_new _ _ _
          case c1 => intro u hu; simp at hu; subst hu; rfl
          case c2 => simp only [maxLen]; omega
          case c3 => omega
          case c4 => simp; omega
          have HO6 := Lib.hid hown'
          have HL6 := Lib.hid (below_app (HL2.out.alloc hsz2 _) (World.ownsRow.alloc HO5.out _) (Nat.le_refl _) (by simp; omega) hg')
          clear hown' hg' hat' d0 d1
          go_roundg (rank f)
          case measure => have := Hrk.out; have := Hk.out; omega
          case rel =>
            refine ⟨f, L ++ [(q : Int)], rfl, by omega, rfl, by have := Hrk.out; have := Hlen.out; simp; omega, fun R hR => ?_, by rw [List.length_append, List.map_append]; exact HO6.out, HL6.out⟩
            have := Hch.out _ (HC0.out R hR)
            simpa using this
      | succ m =>
        rw [show ((m + 1 : Nat) : Int) - 1 = (m : Int) by omega]
        have hlt : m < ws.length := by omega
        obtain ⟨bw, ow, rfl, hbw, d0, d1, d2, d3⟩ := rdWt (HR2.out.2.1.grow HL2.out) rfl m hlt
        have hjk : m < kept.length := by rw [HSB.out.lk]; exact hlt
        obtain ⟨bk, ok, rfl, hbk, k0⟩ := rd1 (HR2.out.2.2.2.2.grow HL2.out) m hjk
        obtain ⟨bm, om, rfl, hbm, m0, m1⟩ := rdMom (HR2.out.1.grow HL2.out) rfl j hj
        have hrs := rsB_get (base := base) (sec := sec) (kept := kept) (i := j) hlt
        rw [Hbv.out, show kept.getD m false = kept[m] by simp [hjk]] at hrs
        have hblk : blkB ms base j = (ms[j].hold && decide (bv ≤ ms[j].time)) := by unfold blkB; rw [hd_nat ms j hj, tm_nat ms j hj, Hbv.out]
        have hok := HSB.out.wk ws[m] (List.getElem_mem hlt)
        generalize kept[m] = kb at *
        generalize ms[j].hold = hv at *
        generalize ms[j].time = tv at *
        generalize ws[m] = kk at *
        obtain ⟨f, t, mn, mx⟩ := kk
        simp only at d0 d1 d2 d3 hrs
        obtain ⟨f, rfl⟩ := Int.eq_ofNat_of_zero_le (show 0 ≤ f from hok.f0)
        have hfl : f < ms.length := by have := hok.f1; simp only at this; omega
        have hmn0 : 0 ≤ mn := hok.m0
        have hmn1 : mn ≤ 4194304 := hok.m1
        clear hok
        have hfs : f < sec.length := by rw [HSB.out.ls]; exact hfl
        obtain ⟨bs', os', e1, _, s0⟩ := rd1 (HR2.out.2.2.2.1.grow HL2.out) f hfs
        injection e1 with e1
        injection e1 with e1 e2
        subst e1 e2
        have hsb := HSB.out.bd f (by omega) (by omega)
        rw [gi_nat sec f hfs] at hsb hrs
        obtain ⟨_, _, hsb0, hsb1⟩ := hsb
        generalize sec[f] = sf at *
        have Hrs := Lib.hid hrs
        have Hbk := Lib.hid hblk
        clear hrs hblk
        have hbw' : bw < wr.heap.size := World.block_lt_of_cell? _ _ d0
        have hbk' : bk < wr.heap.size := World.block_lt_of_cell? _ _ k0
        have hbs' : bs < wr.heap.size := World.block_lt_of_cell? _ _ s0
        have hbm' : bm < wr.heap.size := World.block_lt_of_cell? _ _ m0
        have hwr : IntKind.i64.wrap (sf + mn) = sf + mn := IntWalk.i64_in _ (by omega)
        cases e1 : (t == (j : Int))
        · go_upto_region 13 with fail
          go_quiet (fail)
          go_wp2_with fail
          go_roundg m
          case measure => omega
          case rel => exact ⟨m, _, by omega, by first | rfl | go_num, rfl, rfl, HRB.out.no (by show (_ && _) = false; rw [Hrs.out, Hbk.out]; rw [e1]; rfl), (by have hbelh := HLo.out; have hbels := hbelh.size; exact (by repeat (first | exact Below.refl _ _ | (with_reducible refine Below.drew ?_) | (with_reducible refine below_drewN ?_ _) | (with_reducible refine Below.alloc ?_ (by first | omega | (simp; done) | (simp; omega)) _) | (with_reducible refine Below.setCell ?_ (by first | omega | (simp; done) | (simp; omega)) _) | (refine Below.trans ?_ (Below.mono (by with_reducible assumption) (by first | omega | (simp; done) | (simp; omega)))))))⟩
        cases kb
        · go_upto_region 13 with fail
          go_quiet (fail)
          go_wp2_with fail
          go_roundg m
          case measure => omega
          case rel => exact ⟨m, _, by omega, by first | rfl | go_num, rfl, rfl, HRB.out.no (by show (_ && _) = false; rw [Hrs.out, Hbk.out]; simp), (by have hbelh := HLo.out; have hbels := hbelh.size; exact (by repeat (first | exact Below.refl _ _ | (with_reducible refine Below.drew ?_) | (with_reducible refine below_drewN ?_ _) | (with_reducible refine Below.alloc ?_ (by first | omega | (simp; done) | (simp; omega)) _) | (with_reducible refine Below.setCell ?_ (by first | omega | (simp; done) | (simp; omega)) _) | (refine Below.trans ?_ (Below.mono (by with_reducible assumption) (by first | omega | (simp; done) | (simp; omega)))))))⟩
        cases e3 : (sf + mn == bv)
        · go_upto_region 13 with fail
          go_quiet (fail)
          go_wp2_with fail
          go_roundg m
          case measure => omega
          case rel => exact ⟨m, _, by omega, by first | rfl | go_num, rfl, rfl, HRB.out.no (by show (_ && _) = false; rw [Hrs.out, Hbk.out]; rw [e3]; simp), (by have hbelh := HLo.out; have hbels := hbelh.size; exact (by repeat (first | exact Below.refl _ _ | (with_reducible refine Below.drew ?_) | (with_reducible refine below_drewN ?_ _) | (with_reducible refine Below.alloc ?_ (by first | omega | (simp; done) | (simp; omega)) _) | (with_reducible refine Below.setCell ?_ (by first | omega | (simp; done) | (simp; omega)) _) | (refine Below.trans ?_ (Below.mono (by with_reducible assumption) (by first | omega | (simp; done) | (simp; omega)))))))⟩
        cases hv
        · go_upto_region 13 with fail
          go_quiet (fail)
          go_wp2_with fail
          go_roundg m
          case measure => omega
          case rel => exact ⟨m, _, by omega, by first | rfl | go_num, rfl, rfl, HRB.out.yes hlt (by show (_ && _) = true; rw [Hrs.out, Hbk.out, e1, e3]; simp), (by have hbelh := HLo.out; have hbels := hbelh.size; exact (by repeat (first | exact Below.refl _ _ | (with_reducible refine Below.drew ?_) | (with_reducible refine below_drewN ?_ _) | (with_reducible refine Below.alloc ?_ (by first | omega | (simp; done) | (simp; omega)) _) | (with_reducible refine Below.setCell ?_ (by first | omega | (simp; done) | (simp; omega)) _) | (refine Below.trans ?_ (Below.mono (by with_reducible assumption) (by first | omega | (simp; done) | (simp; omega)))))))⟩
        · cases e4 : decide (tv < bv)
          · have e5 : decide (bv ≤ tv) = true := by simp at e4 ⊢; exact e4
            go_upto_region 13 with fail
            go_quiet (fail)
            go_wp2_with fail
            go_roundg m
            case measure => omega
            case rel => exact ⟨m, _, by omega, by first | rfl | go_num, rfl, rfl, HRB.out.no (by show (_ && _) = false; rw [Hrs.out, Hbk.out]; rw [e5]; simp), (by have hbelh := HLo.out; have hbels := hbelh.size; exact (by repeat (first | exact Below.refl _ _ | (with_reducible refine Below.drew ?_) | (with_reducible refine below_drewN ?_ _) | (with_reducible refine Below.alloc ?_ (by first | omega | (simp; done) | (simp; omega)) _) | (with_reducible refine Below.setCell ?_ (by first | omega | (simp; done) | (simp; omega)) _) | (refine Below.trans ?_ (Below.mono (by with_reducible assumption) (by first | omega | (simp; done) | (simp; omega)))))))⟩
          · have e5 : decide (bv ≤ tv) = false := by simp at e4 ⊢; exact e4
            go_upto_region 13 with fail
            go_quiet (fail)
            go_wp2_with fail
            go_roundg m
            case measure => omega
            case rel => exact ⟨m, _, by omega, by first | rfl | go_num, rfl, rfl, HRB.out.yes hlt (by show (_ && _) = true; rw [Hrs.out, Hbk.out, e1, e3, e5]; simp), (by have hbelh := HLo.out; have hbels := hbelh.size; exact (by repeat (first | exact Below.refl _ _ | (with_reducible refine Below.drew ?_) | (with_reducible refine below_drewN ?_ _) | (with_reducible refine Below.alloc ?_ (by first | omega | (simp; done) | (simp; omega)) _) | (with_reducible refine Below.setCell ?_ (by first | omega | (simp; done) | (simp; omega)) _) | (refine Below.trans ?_ (Below.mono (by with_reducible assumption) (by first | omega | (simp; done) | (simp; omega)))))))⟩
end Go.Proofs.Ytddkfdfgfkejoaa
