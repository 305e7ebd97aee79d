import Derived.Test.YtddkfdfgfkejoaaDly6
import Derived.Test.YtddkfdfgfkejoaaDlyMath3
namespace Go.Proofs.Ytddkfdfgfkejoaa
open Go.RowKit

/-- what is used of a problem of keep2.Delay -/
structure Small (ms : List Mom) (ws : List Wt) (ps : List Pri) : Prop where
  n1 : 1 ≤ ms.length
  n6 : ms.length ≤ 6
  nw : ws.length ≤ 12
  np : ps.length ≤ 6
  mt : ∀ x ∈ ms, 0 ≤ x.time ∧ x.time ≤ 10000
  wt : ∀ k ∈ ws, 0 ≤ k.fr ∧ k.fr < k.tt ∧ k.tt < (ms.length : Int) ∧ 0 ≤ k.mn ∧ k.mn < 400 ∧ -1 ≤ k.mx ∧ k.mx < 400
  nd : (ps.map Pri.mo).Nodup
  pt : ∀ d ∈ ps, 0 ≤ d.mo ∧ d.mo < (ms.length : Int) ∧ 0 ≤ d.sec ∧ d.sec ≤ 600
theorem DlyOk.small {n : Nat} {ms : List Mom} {ws : List Wt} {ps : List Pri} (h : DlyOk n ms ws ps) (h1 : 1 ≤ n) (h6 : n ≤ 6) : Small ms ws ps := by
  have hm := h.m
  refine ⟨by omega, by omega, by have := h.w; omega, by have := h.p; omega, fun x hx => by have := h.mt x hx; omega, fun k hk => by have := h.wt k hk; omega, ?_, fun d hd => by have := h.pt d hd; omega⟩
  exact h.pd.imp (fun hlt e => by omega)
theorem Small.valid {ms : List Mom} {ws : List Wt} {ps : List Pri} (h : Small ms ws ps) : Valid ms ws ps := by
  refine ⟨⟨by have := h.n6; omega, by have := h.nw; omega, by have := h.np; omega, fun x hx => ?_, fun k hk => ?_, fun j hj => ?_⟩, fun x => x.toNat, fun k hk => ?_⟩
  · have := h.mt x hx
    simp [clkB]; omega
  · rw [wtB_ok]
    have := h.wt k hk
    exact ⟨by omega, by omega, by omega, by omega, by omega, by omega, by omega, by omega, by omega⟩
  · have h1 := h.pt ps[j] (List.getElem_mem hj)
    refine ⟨by simp [momB]; omega, by simp [clkB]; omega, fun hmem => ?_⟩
    obtain ⟨d, hd, e⟩ := List.mem_map.1 hmem
    obtain ⟨r, hr, rfl⟩ := List.mem_take_iff_getElem.1 hd
    have h2 := List.pairwise_iff_getElem.1 h.nd r j (by simp; omega) (by simpa using hj) (by omega)
    simp only [List.getElem_map] at h2
    exact h2 e
  · have := h.wt k hk
    show k.fr.toNat < k.tt.toNat
    omega
theorem Small.prim {ms : List Mom} {ws : List Wt} {ps : List Pri} (h : Small ms ws ps) (i : Int) : 0 ≤ prim ps i ∧ prim ps i ≤ 600 :=
  prim_bdc 600 (by omega) ps i h.nd (fun d hd => (h.pt d hd).2.2)
theorem Small.sec {ms : List Mom} {ws : List Wt} {ps : List Pri} {b s : List Int} {k : List Bool} (h : Small ms ws ps) (hs : Sol ms ws ps b s k) (i : Int) (h0 : 0 ≤ i) (h1 : i < (ms.length : Int)) : 0 ≤ gi b i ∧ gi b i ≤ 20000 ∧ 0 ≤ gi s i ∧ gi s i ≤ 20000 := by
  have := sol_bd hs (fun j hj0 hj1 => by
    obtain ⟨j, rfl⟩ := Int.eq_ofNat_of_zero_le hj0
    rw [tm_nat ms j (by omega)]
    exact h.mt _ (List.getElem_mem _)) (fun k hk => by have := h.wt k hk; omega) h.prim i.toNat i (by omega) h1
  have := h.n6
  omega
/-- what holds of a solution -/
theorem Sol.hold {ms : List Mom} {ws : List Wt} {ps : List Pri} {b s : List Int} {k : List Bool} (hs : Sol ms ws ps b s k) (hp : ∀ i, 0 ≤ prim ps i) (i : Nat) (hi : i < ms.length) (hh : ms[i].hold = true) : ms[i].time ≤ gi s i := by
  rw [hs.s i (by omega) (by omega), hs.b i (by omega) (by omega)]
  have := (fold_true ms s i ws (hd ms i, tm ms i) (by rw [hd_nat ms i hi]; exact hh)).2
  have := hp i
  simp only [tm_nat ms i hi] at *
  unfold baseS
  rw [tm_nat ms i hi]
  omega
theorem Sol.wait {ms : List Mom} {ws : List Wt} {ps : List Pri} {b s : List Int} {kp : List Bool} (hs : Sol ms ws ps b s kp) (hp : ∀ i, 0 ≤ prim ps i) (k : Wt) (hk : k ∈ ws) (h0 : 0 ≤ k.tt) (h1 : k.tt < (ms.length : Int)) (hb : keptB ms s k = true) : gi s k.fr + k.mn ≤ gi s k.tt := by
  rw [hs.s k.tt h0 h1, hs.b k.tt h0 h1]
  have := (fold_ge ms s k.tt ws (hd ms k.tt, tm ms k.tt) k hk rfl hb).2
  have := hp k.tt
  unfold baseS
  unfold rdy at *
  omega
def LoopB (w2 : World) (n k : Nat) (v : Value) (wr : World) : Prop := ∃ i : Nat, v = .int .i64 i ∧ i + k = n ∧ Below w2.heap.size w2 wr

set_option maxRecDepth 100000 in
set_option maxHeartbeats 3200000 in
theorem delayWaits_true (A : Option Addr) (n c : Nat) (z : List Int) (w : World) (h : Rd w w.heap.size 1 A n (z.map (Value.int .i64))) (m : n ≤ c ∧ c ≤ maxLen ∧ c * 8 ≤ 140737488351232) :
    Calls Try.prog 3 #[.slice A n c] w fun e w' => e = .returned (.bool true) ∧ Below w.heap.size w w' := by
  have H := Lib.hid h
  have HN : n ≤ maxLen := by omega
  have HN := Lib.hid HN
  clear h m
  go_enter Try.func3, Try.ntmps3
  go_wp2_with fail
  refine (mkdelay_any A n c z w H.out HN.out).mono ?_
  rintro e w1 ⟨v6, v7, v8, nn, ms, ws, ps, rfl, hn1, hn6, hok, hb1, hom, how, hop⟩
  obtain ⟨A6, c6, rfl, hc6, hm6⟩ := own_slice hom
  obtain ⟨A7, c7, rfl, hc7, hm7⟩ := own_slice how
  obtain ⟨A8, c8, rfl, hc8, hm8⟩ := own_slice hop
  have hsm := hok.small hn1 hn6
  have HS := Lib.hid hsm
  have HO := Lib.hid (And.intro (Rd.of_own hom) (And.intro (Rd.of_own how) (Rd.of_own hop)))
  have Hb1 := Lib.hid hb1
  have hl6 := hsm.n6
  have hl1 := hsm.n1
  have hlw := hsm.nw
  have hlp := hsm.np
  clear hsm hok hom how hop hb1 hn1 hn6 H HN
  unfold maxLen at hm6 hm7 hm8
  go_wp2_with fail
  refine (propa_any _ _ _ _ _ _ _ _ _ ms ws ps w1 HO.out.1 HO.out.2.1 HO.out.2.2 rfl rfl rfl (by omega) (by omega) (by omega)).mono ?_
  rintro e w2 ⟨hb2, hcase⟩
  rcases hcase with ⟨hv, vs, vk, base, sec, kept, rfl, hsol, hos, hok⟩ | ⟨hv, rfl⟩
  case inr => exact absurd HS.out.valid hv
  obtain ⟨As, cs, rfl, hcs, hms⟩ := own_slice hos
  obtain ⟨Ak, ck, rfl, hck, hmk⟩ := own_slice hok
  have HR := Lib.hid (And.intro ((HO.out.1.grow hb2).more hb2.size) (And.intro ((HO.out.2.1.grow hb2).more hb2.size) (And.intro (Rd.of_own hos) (Rd.of_own hok))))
  have Hsol := Lib.hid hsol
  have Hb2 := Lib.hid (Hb1.out.trans (hb2.mono Hb1.out.size))
  have hs2 : w.heap.size ≤ w2.heap.size := Hb2.out.size
  clear hv hsol hos hok hb2 HO Hb1
  unfold maxLen at hms hmk
  have n1 : ((ms.length : Int) != (ms.length : Int)) = false := by simp
  have n2 : ((ws.length : Int) != (ws.length : Int)) = false := by simp
  go_wp2_with fail
  clear n1 n2
  go_loopg [9, 45] ms.length (fun k _ v wr => LoopB w2 ms.length k v wr)
  case atStart => exact ⟨0, rfl, by omega, Below.refl _ _⟩
  case round =>
    obtain ⟨i, rfl, hi, hbr⟩ := hrel
    have Hi := Lib.hid hi
    have Hbr := Lib.hid hbr
    clear hi hbr
    by_cases hlt : i < ms.length
    · obtain ⟨bm, om, rfl, hbm, m0, m1⟩ := rdMom (HR.out.1.grow Hbr.out) rfl i hlt
      obtain ⟨bs, os, rfl, hbs, s0⟩ := rd1 (HR.out.2.2.1.grow Hbr.out) i (by rw [Hsol.out.ls]; exact hlt)
      have hh := Hsol.out.hold (fun j => (HS.out.prim j).1) i hlt
      rw [gi_nat sec i (by rw [Hsol.out.ls]; exact hlt)] at hh
      generalize sec[i]'(by rw [Hsol.out.ls]; exact hlt) = sv at *
      generalize ms[i] = mi at *
      obtain ⟨tv, hv⟩ := mi
      simp only at m0 m1 hh
      cases hv
      · clear hh
        go_upto_region 8 with fail
        go_quiet (fail)
        go_wp2_with fail
        go_roundg (ms.length - i - 1)
        case measure => have := Hi.out; omega
        case rel => exact ⟨i + 1, by first | rfl | go_num, by omega, below_drewN Hbr.out _⟩
      · have hh' : decide (sv < tv) = false := by simpa using hh rfl
        clear hh
        go_upto_region 8 with fail
        go_quiet (fail)
        go_wp2_with fail
        go_roundg (ms.length - i - 1)
        case measure => have := Hi.out; omega
        case rel => exact ⟨i + 1, by first | rfl | go_num, by omega, below_drewN Hbr.out _⟩
    · go_wp2_with fail
      clear Hi hlt
      go_loopg [10, 11, 12, 68] ws.length (fun k _ _ _ v wr => LoopB w2 ws.length k v wr)
      case atStart => exact ⟨0, rfl, by omega, Hbr.out⟩
      case round =>
        clear Hbr
        obtain ⟨a, rfl, ha, hbr⟩ := hrel
        have Ha := Lib.hid ha
        have Hbr := Lib.hid hbr
        clear ha hbr
        by_cases hlt : a < ws.length
        · obtain ⟨bw, ow, rfl, hbw, d0, d1, d2, d3⟩ := rdWt (HR.out.2.1.grow Hbr.out) rfl a hlt
          obtain ⟨bk, ok, rfl, hbk, k0⟩ := rd1 (HR.out.2.2.2.grow Hbr.out) a (by rw [Hsol.out.lk]; exact hlt)
          have hkk := Hsol.out.k a hlt
          rw [List.getElem?_eq_getElem (by rw [Hsol.out.lk]; exact hlt)] at hkk
          injection hkk with hkk
          rw [hkk] at k0
          have hw := HS.out.wt ws[a] (List.getElem_mem hlt)
          have hwait := Hsol.out.wait (fun j => (HS.out.prim j).1) ws[a] (List.getElem_mem hlt) (by omega) (by omega)
          generalize ws[a] = kk at *
          obtain ⟨f, t, mn, mx⟩ := kk
          simp only at d0 d1 d2 d3 hw hwait
          obtain ⟨hf0, hft, ht1, hmn0, hmn1, hmx0, hmx1⟩ := hw
          obtain ⟨f, rfl⟩ := Int.eq_ofNat_of_zero_le hf0
          obtain ⟨t, rfl⟩ := Int.eq_ofNat_of_zero_le (show 0 ≤ t by omega)
          have hfl : f < ms.length := by omega
          have htl : t < ms.length := by omega
          obtain ⟨bm, om, rfl, hbm, m0, m1⟩ := rdMom (HR.out.1.grow Hbr.out) rfl t htl
          obtain ⟨bs, os, rfl, hbs, s0⟩ := rd1 (HR.out.2.2.1.grow Hbr.out) f (by rw [Hsol.out.ls]; exact hfl)
          obtain ⟨bs', os', e1, _, s1⟩ := rd1 (HR.out.2.2.1.grow Hbr.out) t (by rw [Hsol.out.ls]; exact htl)
          injection e1 with e1
          injection e1 with e1 e2
          subst e1 e2
          have hsf := HS.out.sec Hsol.out f (by omega) (by omega)
          have hst := HS.out.sec Hsol.out t (by omega) (by omega)
          have hmt := HS.out.mt ms[t] (List.getElem_mem htl)
          have hkB : keptB ms sec ⟨f, t, mn, mx⟩ = (mx == -1 || decide (sec[f]'(by rw [Hsol.out.ls]; exact hfl) + mn ≤ ms[t].time + mx)) := by
            unfold keptB rdy; simp only; rw [gi_nat sec f (by rw [Hsol.out.ls]; exact hfl), tm_nat ms t htl]
          rw [hkB] at hwait k0
          rw [gi_nat sec f (by rw [Hsol.out.ls]; exact hfl)] at hsf hwait
          rw [gi_nat sec t (by rw [Hsol.out.ls]; exact htl)] at hst hwait
          clear hkB hkk
          generalize sec[f]'(by rw [Hsol.out.ls]; exact hfl) = sf at *
          generalize sec[t]'(by rw [Hsol.out.ls]; exact htl) = st at *
          generalize ms[t].time = tv at *
          clear m1
          obtain ⟨_, _, hsf0, hsf1⟩ := hsf
          obtain ⟨_, _, hst0, hst1⟩ := hst
          obtain ⟨hmt0, hmt1⟩ := hmt
          have hcase : ((mx == -1) = true ∧ st ≥ sf + mn) ∨ ((mx == -1) = false ∧ sf + mn ≤ tv + mx ∧ st ≥ sf + mn) ∨ ((mx == -1) = false ∧ tv + mx < sf + mn) := by
            by_cases h1 : mx = -1
            · left; exact ⟨by simpa using h1, hwait (by simp [h1])⟩
            · by_cases h2 : sf + mn ≤ tv + mx
              · right; left; exact ⟨by simpa using h1, h2, hwait (by simp [h2])⟩
              · right; right; exact ⟨by simpa using h1, by omega⟩
          clear hwait
          rcases hcase with ⟨h1, h2⟩ | ⟨h1, h2, h3⟩ | ⟨h1, h2⟩
          · rw [h1, Bool.true_or] at k0
            have hbw' : bw < wr.heap.size := World.block_lt_of_cell? _ _ d0
            have hbm' : bm < wr.heap.size := World.block_lt_of_cell? _ _ m0
            have hbs' : bs < wr.heap.size := World.block_lt_of_cell? _ _ s0
            have hbk' : bk < wr.heap.size := World.block_lt_of_cell? _ _ k0
            go_upto_region 14 with fail
            go_quiet (fail)
            go_upto_region 15 with fail
            have hdd : decide (st < sf + mn) = false := by simpa using h2
            have hwr : IntKind.i64.wrap (sf + mn) = sf + mn := IntWalk.i64_in _ (by omega)
            go_quiet (fail)
            clear hdd hwr
            go_wp2_with fail
            go_roundg (ws.length - a - 1)
            case measure => have := Ha.out; omega
            case rel => exact ⟨a + 1, by first | rfl | go_num, by omega, (by have hbelh := Hbr.out; have hbels := hbelh.size; exact (by repeat (first | exact Below.refl _ _ | (with_reducible refine Below.drew ?_) | (with_reducible refine below_drewN ?_ _) | (with_reducible refine Below.alloc ?_ (by first | omega | (simp; done) | (simp; omega)) _) | (with_reducible refine Below.setCell ?_ (by first | omega | (simp; done) | (simp; omega)) _) | (refine Below.trans ?_ (Below.mono (by with_reducible assumption) (by first | omega | (simp; done) | (simp; omega)))))))⟩
          · have h4 : decide (sf + mn ≤ tv + mx) = true := by simpa using h2
            rw [h1, h4, Bool.false_or] at k0
            clear h4
            have hbw' : bw < wr.heap.size := World.block_lt_of_cell? _ _ d0
            have hbm' : bm < wr.heap.size := World.block_lt_of_cell? _ _ m0
            have hbs' : bs < wr.heap.size := World.block_lt_of_cell? _ _ s0
            have hbk' : bk < wr.heap.size := World.block_lt_of_cell? _ _ k0
            go_upto_region 14 with fail
            go_quiet (fail)
            go_upto_region 15 with fail
            have hdd : decide (st < sf + mn) = false := by simpa using h3
            have hde : decide (sf + mn - tv ≤ mx) = true := by simp; omega
            have hwr : IntKind.i64.wrap (sf + mn) = sf + mn := IntWalk.i64_in _ (by omega)
            go_quiet (fail)
            clear hdd hwr
            go_wp2_with fail
            go_roundg (ws.length - a - 1)
            case measure => have := Ha.out; omega
            case rel => exact ⟨a + 1, by first | rfl | go_num, by omega, (by have hbelh := Hbr.out; have hbels := hbelh.size; exact (by repeat (first | exact Below.refl _ _ | (with_reducible refine Below.drew ?_) | (with_reducible refine below_drewN ?_ _) | (with_reducible refine Below.alloc ?_ (by first | omega | (simp; done) | (simp; omega)) _) | (with_reducible refine Below.setCell ?_ (by first | omega | (simp; done) | (simp; omega)) _) | (refine Below.trans ?_ (Below.mono (by with_reducible assumption) (by first | omega | (simp; done) | (simp; omega)))))))⟩
          · have h4 : decide (sf + mn ≤ tv + mx) = false := by simpa using h2
            rw [h1, h4, Bool.false_or] at k0
            clear h4
            have hbw' : bw < wr.heap.size := World.block_lt_of_cell? _ _ d0
            have hbm' : bm < wr.heap.size := World.block_lt_of_cell? _ _ m0
            have hbs' : bs < wr.heap.size := World.block_lt_of_cell? _ _ s0
            have hbk' : bk < wr.heap.size := World.block_lt_of_cell? _ _ k0
            go_upto_region 14 with fail
            go_quiet (fail)
            go_upto_region 15 with fail
            skip
            go_quiet (fail)
            skip
            go_wp2_with fail
            go_roundg (ws.length - a - 1)
            case measure => have := Ha.out; omega
            case rel => exact ⟨a + 1, by first | rfl | go_num, by omega, (by have hbelh := Hbr.out; have hbels := hbelh.size; exact (by repeat (first | exact Below.refl _ _ | (with_reducible refine Below.drew ?_) | (with_reducible refine below_drewN ?_ _) | (with_reducible refine Below.alloc ?_ (by first | omega | (simp; done) | (simp; omega)) _) | (with_reducible refine Below.setCell ?_ (by first | omega | (simp; done) | (simp; omega)) _) | (refine Below.trans ?_ (Below.mono (by with_reducible assumption) (by first | omega | (simp; done) | (simp; omega)))))))⟩
        · go_wp2_with fail
          refine (awake_any _).mono ?_
          rintro e w3 ⟨rfl, hb3⟩
          go_wp2_with fail
          go_ret
          exact ⟨rfl, Hb2.out.trans ((Hbr.out.trans (hb3.mono Hbr.out.size)).mono Hb2.out.size)⟩
end Go.Proofs.Ytddkfdfgfkejoaa
