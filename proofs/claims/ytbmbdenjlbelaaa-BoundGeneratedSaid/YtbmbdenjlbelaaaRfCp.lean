import Derived.Test.YtbmbdenjlbelaaaBd2
import Derived.Test.YtbmbdenjlbelaaaRf2
namespace Go.Proofs.Ytbmbdenjlbelaaa
open Go.RowKit
theorem over_iff {acts : List Act} {us : List Int} : overB acts us = true ↔ ∃ i : Nat, i < acts.length ∧ (ag acts i).wt < gi us i := by
  unfold overB
  rw [List.any_eq_true]
  constructor
  · rintro ⟨i, hi, h⟩; exact ⟨i, List.mem_range.1 hi, by simpa using h⟩
  · rintro ⟨i, hi, h⟩; exact ⟨i, List.mem_range.2 hi, by simpa using h⟩
theorem over_set {acts : List Act} {us : List Int} {a : Nat} {v : Int} (ha : a < acts.length) (hl : us.length = acts.length) (hv : gi us a ≤ v) : overB acts (us.set a v) = (overB acts us || decide ((ag acts a).wt < v)) := by
  have e : ∀ i : Nat, gi (us.set a v) i = if (i : Int) = a then v else gi us i := fun i => by
    have := gi_set us (a : Int) (i : Int) v (by omega) (by omega) (by omega)
    simpa using this
  rw [Bool.eq_iff_iff, Bool.or_eq_true, over_iff, over_iff, decide_eq_true_eq]
  constructor
  · rintro ⟨i, hi, h⟩
    rw [e] at h
    split at h
    · rename_i h2
      obtain rfl : i = a := by omega
      exact .inr h
    · exact .inl ⟨i, hi, h⟩
  · rintro (⟨i, hi, h⟩ | h)
    · refine ⟨i, hi, ?_⟩
      rw [e]
      split
      · rename_i h2
        obtain rfl : i = a := by omega
        omega
      · exact h
    · exact ⟨a, ha, by rw [e, if_pos rfl]; exact h⟩
theorem over_add {acts : List Act} {tm : Int} {us arcs : List Int} (hn : arcs.Nodup) (hr : ∀ a ∈ arcs, 0 ≤ a ∧ a < (acts.length : Int)) (hl : us.length = acts.length) (ht : 0 ≤ tm) (h : overB acts (addL tm us arcs) = false) : overB acts us = false := by
  cases ho : overB acts us
  · rfl
  · obtain ⟨i, hi, h2⟩ := over_iff.1 ho
    have : overB acts (addL tm us arcs) = true := over_iff.2 ⟨i, hi, by
      rw [addL_gi tm arcs us i hn (fun a ha => by rw [hl]; exact hr a ha) (by omega)]
      split <;> omega⟩
    rw [this] at h; cases h
theorem over_zero {T : Int} {ne : Nat} {acts : List Act} {ps : List Prt} (hn : NetOk T ne acts) : overB acts (usL acts ps 0) = false := by
  cases ho : overB acts (usL acts ps 0)
  · rfl
  · obtain ⟨i, hi, h2⟩ := over_iff.1 ho
    have h0 := (hn.a _ (ag_mem acts i (by omega) (by omega))).w0
    have : gi (usL acts ps 0) (i : Nat) = 0 := by
      show gi (List.replicate acts.length 0) i = 0
      unfold gi
      rw [List.getD_eq_getElem?_getD, List.getElem?_replicate]
      split <;> rfl
    omega
def RP1 (w : World) (X G : Nat) (xs : Array Value) (T : Int) (ne : Nat) (acts : List Act) (ps : List Prt) (k : Nat) (v6 v9 v : Value) (wr : World) : Prop :=
  ∃ (j : Nat) (bv : Int), v = .int .i64 j ∧ j + k = ps.length ∧ v6 = .int .i64 bv ∧ v9 = .bool (overB acts (usL acts ps j)) ∧ (overB acts (usL acts ps j) = false → bv = wrap64 (baseS acts + sumN (prT T ne acts ps) j)) ∧ PrOk T ne acts ps j ∧ PkS w wr X G acts.length xs (usL acts ps j)
def RP2 (w : World) (X G Q : Nat) (xs qs : Array Value) (acts : List Act) (arcs us : List Int) (tm : Int) (k : Nat) (v9 v : Value) (wr : World) : Prop :=
  ∃ (i : Nat), v = .int .i64 i ∧ i + k = arcs.length ∧ v9 = .bool (overB acts (addL tm us (arcs.take i))) ∧ PkS w wr X G acts.length xs (addL tm us (arcs.take i)) ∧ Blk wr Q 45 qs
set_option maxRecDepth 100000 in
set_option maxHeartbeats 12800000 in
theorem rcheck_any (T : Int) (AE AA Ap : Option Addr) (ne ce ca cp : Nat) (acts : List Act) (ps : List Prt) (w : World) (hA : Rd w w.heap.size 6 AA acts.length (acts.flatMap Act.cells)) (he : ne ≤ 4611686018427387904) (hl : acts.length ≤ 4611686018427387904) (hP : PrsRd w Ap ps) (hcap : ∀ p ∈ ps, p.c.arcs.length ≤ p.c.cr) :
    Calls Try.prog 45 #[.agg #[.int .i64 T, .slice AE ne ce, .slice AA acts.length ca], .slice Ap ps.length cp] w (ChkOut T ne acts ps w) := by
  have HA := Lib.hid hA
  have HP := Lib.hid hP
  have hpn := hP.n
  have HCap := Lib.hid hcap
  clear hA hP hcap
  obtain ⟨i0, a1, a2, a3, a4⟩ := info_parts infoInt
  have HI := Lib.hid (And.intro a1 (And.intro a2 (And.intro a3 a4)))
  clear a1 a2 a3 a4
  go_enter Try.func45, Try.ntmps45
  go_upto_region 1 with fail
  refine world_gen (fun w1 => FeN w w1 w.heap.size #[.int .i64 T, .slice AE ne ce, .slice AA acts.length ca]) ⟨(Below.refl _ _).alloc (Nat.le_refl _) _, Blk.new _ _ _⟩ ?_
  intro w0 hf0
  obtain ⟨X, hX⟩ : ∃ X, X = w.heap.size := ⟨_, rfl⟩
  rw [← hX] at ⊢
  rw [show FeN w w0 w.heap.size = FeN w w0 X by rw [hX]] at hf0
  have hXw : w.heap.size ≤ X := by omega
  clear hX
  have HF := Lib.hid hf0
  clear hf0
  have x0 := HF.out.x.cell 0
  have x1 := HF.out.x.cell 1
  have x2 := HF.out.x.cell 2
  simp at x0 x1 x2
  go_wp2_with fail
  refine (rbase_any T AE AA ne ce ca acts w0 ((HA.out.grow HF.out.bel).more HF.out.bel.size) he hl).mono ?_
  rintro e w1 ⟨rfl, hb1⟩
  have HF1 := Lib.hid (HF.out.grow hb1)
  clear x0 x1 x2 hb1 HF
  have HF := HF1
  clear HF1
  cases hn : netB T ne acts
  case false =>
    have HO := Lib.hid (show chkV T ne acts ps = 0 ∧ chkE T ne acts ps = 1 by unfold chkV chkE; rw [hn]; exact ⟨rfl, rfl⟩)
    rw [show baseV T ne acts = 0 by unfold baseV; rw [hn]; rfl, show baseE T ne acts = 1 by unfold baseE; rw [hn]; rfl]
    go_wp2_with fail
    go_ret2
    exact ⟨by rw [HO.out.1, HO.out.2]; rfl, HF.out.bel⟩
  rw [show baseV T ne acts = baseS acts by unfold baseV; rw [hn]; rfl, show baseE T ne acts = 0 by unfold baseE; rw [hn]; rfl]
  have HNB := Lib.hid hn
  have HN := Lib.hid (netB_iff.1 hn)
  have hna := (netB_iff.1 hn).n
  have hne := (netB_iff.1 hn).e
  have hbb := wmN_bd HN.out acts.length (Nat.le_refl _)
  rw [show sumN (wmT acts) acts.length = baseS acts from rfl] at hbb
  clear hn
  have x2 := HF.out.x.cell 2
  simp at x2
  have hxl := HF.out.x.lt
  go_upto_region 5 with (at_make; refine wpList_make_full _ rfl _ _ 22 rfl (X + 1) 3 i0 _ 1 Try.underlying22 HI.out.1 HI.out.2.1 HI.out.2.2.1 .i64 .i64 _ _ acts.length rfl rfl rfl rfl ?m1 ?m2 ?m3 ?_; rotate_right; intro w2 hown2 hg2)
  case m1 => rw [HI.out.2.2.2]; omega
  case m2 => simp only [maxLen]; omega
  case m3 => omega
  have hb2 : Below w1.heap.size w1 w2 := (Below.refl _ _).grown hg2 (Nat.le_refl _) (by simp)
  have HK := Lib.hid (show PkS w w2 X w1.heap.size acts.length #[.int .i64 T, .slice AE ne ce, .slice AA acts.length ca] (usL acts ps 0) from ⟨HF.out.grow hb2, by
    show w2.ownsRow _ _ _ _ _ ((List.replicate acts.length 0).map (Value.int .i64))
    rw [← madeCells_one]
    exact hown2, hXw⟩)
  clear hown2 hg2 hb2 HF x2 hxl
  generalize w1.heap.size = G at *
  have HB0 := Lib.hid (show baseS acts = wrap64 (baseS acts + sumN (prT T ne acts ps) 0) by show _ = wrap64 (baseS acts + 0); rw [IntWalk.wrap64_in _ (by omega)]; omega)
  go_wp2_with fail
  go_loopg [6, 9, 10, 11, 12, 13, 14] ps.length (fun k v6 v9 v _ _ _ _ wr => RP1 w X G #[.int .i64 T, .slice AE ne ce, .slice AA acts.length ca] T ne acts ps k v6 v9 v wr)
  case atStart => exact ⟨0, _, rfl, by omega, rfl, by rw [over_zero HN.out], fun _ => HB0.out, fun i h hi => by omega, HK.out⟩
  case round =>
    obtain ⟨j, bv, rfl, hj, rfl, rfl, hbv, hok, hpk⟩ := hrel
    clear HK HB0
    have Hj := Lib.hid hj
    have Hbv := Lib.hid hbv
    have Hok := Lib.hid hok
    have HK := Lib.hid hpk
    clear hj hbv hok hpk
    by_cases hlt : j < ps.length
    · obtain ⟨bp, op, rfl, hbp, d0, d1, d2⟩ := rdPrt (HP.out.r.grow HK.out.f.bel) rfl j hlt
      have HD2 := Lib.hid (fun (W : World) (hb : Below w.heap.size w W) => (rdPrt (HP.out.r.grow hb) rfl j hlt))
      have HCy := Lib.hid (HP.out.c ps[j] (List.getElem_mem hlt))
      have HCp := Lib.hid (HCap.out ps[j] (List.getElem_mem hlt))
      have HPr := Lib.hid (show prE T ne acts ps[j] = if 1 ≤ ps[j].tm ∧ ps[j].tm ≤ 1048576 then gapE T ne acts ps[j].c.arcs ps[j].c.signs else 1 from rfl)
      have HStop := Lib.hid (show prE T ne acts ps[j] ≠ 0 → prsE T ne acts ps = prE T ne acts ps[j] from fun h => by rw [← prsE_pre j (by omega) Hok.out]; exact prsE_stop j hlt h)
      have HPt := Lib.hid (prT_at (T := T) (ne := ne) (acts := acts) j hlt)
      have HUs := Lib.hid (usL_succ (acts := acts) (ps := ps) j hlt)
      have HOkn := Lib.hid (show prE T ne acts ps[j] = 0 → PrOk T ne acts ps (j + 1) from fun h i hi hij => by
        rcases Nat.lt_or_ge i j with h2 | h2
        · exact Hok.out i hi h2
        · obtain rfl : i = j := by omega
          exact h)
      have hgb := gapV_bd (T := T) (ne := ne) (acts := acts) (arcs := ps[j].c.arcs) (signs := ps[j].c.signs)
      have HUb : Hid (∀ b : Int, 0 ≤ b → 0 ≤ gi (usL acts ps j) b ∧ gi (usL acts ps j) b ≤ 1048576 * (j : Int)) := fun b hb => usL_bd j (by omega) Hok.out b hb
      have HUl := Lib.hid (usL_len (acts := acts) (ps := ps) j)
      have HSu : Hid (sumN (prT T ne acts ps) (j + 1) = sumN (prT T ne acts ps) j + prT T ne acts ps j) := rfl
      generalize usL acts ps j = us at *
      generalize prE T ne acts ps[j] = pe at *
      generalize ps[j] = p at *
      obtain ⟨⟨Ar, cr, As, cs, arcs, signs⟩, tm⟩ := p
      simp only at d0 d1 d2 HCy HPr HPt HUs hgb HCp HD2
      go_upto_region 10 with fail
      refine world_gen (fun w6 => PkS w w6 X G acts.length #[.int .i64 T, .slice AE ne ce, .slice AA acts.length ca] us ∧ Blk w6 wr.heap.size 45 #[.slice Ar arcs.length cr, .slice As signs.length cs]) ⟨HK.out.grow ((Below.refl _ _).alloc (Nat.le_refl _) _), Blk.new _ _ _⟩ ?_
      rintro w6 ⟨hk6, hq6⟩
      have hQX : X < wr.heap.size := HK.out.f.x.lt
      have hQG : G ≠ wr.heap.size := fun e => by have := (own_block HK.out.o G rfl).2; omega
      generalize wr.heap.size = Q at *
      clear HK d0 d1 d2
      have HK := Lib.hid hk6
      have HQ := Lib.hid hq6
      clear hk6 hq6
      have q0 := HQ.out.cell 0
      have q1 := HQ.out.cell 1
      simp at q0 q1
      have x0 := HK.out.f.x.cell 0
      have x1 := HK.out.f.x.cell 1
      have x2 := HK.out.f.x.cell 2
      simp at x0 x1 x2
      go_wp2_with fail
      refine (rcycchk_any T AE AA Ar As ne ce ca cr cs acts arcs signs _ ((HCy.out.grow HK.out.f.bel).ncyc ((HA.out.grow HK.out.f.bel).more HK.out.f.bel.size) he hl) HCp.out).mono ?_
      rintro e w7 ⟨rfl, hb7⟩
      have HK7 := Lib.hid (HK.out.grow hb7)
      have HQ7 := Lib.hid (HQ.out.bel hb7)
      clear HK HQ hb7 x0 x1 x2 q0 q1
      have HK := HK7
      have HQ := HQ7
      clear HK7 HQ7
      cases hcy : cycB T ne acts arcs signs
      case false =>
        have hpe : pe = 1 := by
          rw [HPr.out]
          split
          · unfold gapE; rw [hcy]; rfl
          · rfl
        have HO := Lib.hid (chk_err HNB.out ((HStop.out (by omega)).trans hpe) (by decide))
        clear hpe hcy
        go_wp2_with fail
        go_ret2
        exact ⟨by rw [HO.out.1, HO.out.2]; rfl, HK.out.f.bel⟩
      have HCk := Lib.hid (cycB_iff.1 hcy)
      obtain ⟨b2, o2, e2, hb2', _, _, d2⟩ := HD2.out _ HK.out.f.bel
      injection e2 with e2
      injection e2 with e3 e4
      subst e3 e4
      have HCb := Lib.hid hcy
      clear hcy
      go_wp2_with fail
      refine (rin_any tm 1 1048576 _).mono ?_
      rintro e w8 ⟨rfl, rfl⟩
      by_cases ht : 1 ≤ tm ∧ tm ≤ 1048576
      case neg =>
        have hpe : pe = 1 := by have := HPr.out; rwa [if_neg ht] at this
        have HO := Lib.hid (chk_err HNB.out ((HStop.out (by omega)).trans hpe) (by decide))
        have hin : inB tm 1 1048576 = false := by unfold inB; simpa using ht
        rw [hin]
        clear hpe hin
        go_wp2_with fail
        go_ret2
        exact ⟨by rw [HO.out.1, HO.out.2]; rfl, HK.out.f.bel⟩
      have hpe : pe = gapE T ne acts arcs signs := by have := HPr.out; rwa [if_pos ht] at this
      have hin : inB tm 1 1048576 = true := by unfold inB; simpa using ht
      rw [hin]
      obtain ⟨ht0, ht1⟩ := ht
      clear hin
      have q0 := HQ.out.cell 0
      have q1 := HQ.out.cell 1
      simp at q0 q1
      have x0 := HK.out.f.x.cell 0
      have x1 := HK.out.f.x.cell 1
      have x2 := HK.out.f.x.cell 2
      simp at x0 x1 x2
      go_wp2_with fail
      refine (rgap_any T AE AA Ar As ne ce ca cr cs acts arcs signs _ ((HCy.out.grow HK.out.f.bel).ncyc ((HA.out.grow HK.out.f.bel).more HK.out.f.bel.size) he hl) HCp.out).mono ?_
      rintro e w9 ⟨rfl, hb9⟩
      have HK7 := Lib.hid (HK.out.grow hb9)
      have HQ7 := Lib.hid (HQ.out.bel hb9)
      clear HK HQ hb9 x0 x1 x2 q0 q1 d2
      have HK := HK7
      have HQ := HQ7
      clear HK7 HQ7
      cases hw : okW T ne acts arcs signs
      case false =>
        have hpe2 : pe = 14 := by rw [hpe]; unfold gapE; rw [if_pos HCb.out, hw]; rfl
        have HO := Lib.hid (chk_err HNB.out ((HStop.out (by omega)).trans hpe2) (by decide))
        clear hpe hpe2 hw
        go_wp2_with fail
        go_ret2
        exact ⟨by rw [HO.out.1, HO.out.2]; rfl, HK.out.f.bel⟩
      have h0 : pe = 0 := by rw [hpe]; unfold gapE; rw [if_pos HCb.out, hw]; rfl
      have HOk2 := Lib.hid (HOkn.out h0)
      clear h0 hpe hw HPr HStop HOkn
      have HBn := Lib.hid (show overB acts us = false → wrap64 (bv + tm * gapV T ne acts arcs signs) = wrap64 (baseS acts + sumN (prT T ne acts ps) (j + 1)) from fun ho => by rw [HSu.out, HPt.out, Hbv.out ho, wrap64_add]; congr 1; omega)
      have hmg := mul_bd2 tm (gapV T ne acts arcs signs) 1048576 67108864 (by omega) ht1 hgb.1 hgb.2
      generalize gapV T ne acts arcs signs = gv at *
      obtain ⟨hg0, hg1⟩ := hgb
      obtain ⟨hm0, hm1⟩ := hmg
      have hal := HCk.out.sum.n
      have HNd := Lib.hid HCk.out.nodup
      have HRg := Lib.hid HCk.out.range
      have q0 := HQ.out.cell 0
      simp at q0
      go_wp2_with fail
      clear q0
      go_loopg [9, 14] arcs.length (fun k v9 v wr => RP2 w X G Q #[.int .i64 T, .slice AE ne ce, .slice AA acts.length ca] #[.slice Ar arcs.length cr, .slice As signs.length cs] acts arcs us tm k v9 v wr)
      case atStart => exact ⟨0, rfl, by omega, rfl, HK.out, HQ.out⟩
      case round =>
        obtain ⟨i, rfl, hi, rfl, hk, hq⟩ := hrel
        clear HK HQ
        have Hi := Lib.hid hi
        have HK := Lib.hid hk
        have HQ := Lib.hid hq
        clear hi hk hq
        by_cases hil : i < arcs.length
        · obtain ⟨br, orr, rfl, hbr, r0⟩ := rd1 ((HCy.out.r).grow HK.out.f.bel) i hil
          have HR0 := Lib.hid (fun (W : World) (hb : Below w.heap.size w W) => show W.cell? ⟨br, orr + i, none⟩ = some (.int .i64 arcs[i]) from by
            obtain ⟨b', o', e', _, h⟩ := rd1 ((HCy.out.r).grow hb) i hil
            injection e' with e'
            injection e' with e1 e2
            subst e1 e2
            exact h)
          have HTk := Lib.hid (List.take_succ_eq_append_getElem hil)
          have hrg := HRg.out arcs[i] (List.getElem_mem hil)
          have hni : arcs[i] ∉ arcs.take i := take_nodup HNd.out i hil
          have hlen : (addL tm us (arcs.take i)).length = acts.length := by rw [addL_len]; exact HUl.out
          have hgi : gi (addL tm us (arcs.take i)) arcs[i] = gi us arcs[i] := by
            rw [addL_gi tm (arcs.take i) us arcs[i] (List.Nodup.sublist (List.take_sublist _ _) HNd.out) (fun x hx => by rw [HUl.out]; exact HRg.out x (List.mem_of_mem_take hx)) hrg.1, if_neg hni]
            omega
          have hub := HUb.out arcs[i] hrg.1
          have HAp := Lib.hid (addL_app tm (arcs.take i) us arcs[i])
          rw [hgi] at HAp
          simp only at r0
          generalize arcs[i] = ar at *
          obtain ⟨a, rfl⟩ := Int.eq_ofNat_of_zero_le hrg.1
          have hal2 : a < (addL tm us (arcs.take i)).length := by rw [hlen]; omega
          have u0 := own1 HK.out.o a hal2
          rw [← gi_nat _ a hal2, hgi] at u0
          have HFz : Hid (∀ w6, Below wr.heap.size wr w6 → w6.frozen? ⟨G, a, none⟩ = false) := fun w6 hb => (own_grow HK.out.o hb).frozenAt a
          have haA : a < acts.length := by omega
          have hOS := over_set (acts := acts) (us := addL tm us (arcs.take i)) (a := a) (v := gi us (a : Int) + tm) haA hlen (by rw [hgi]; omega)
          have hsl : (addL tm us (arcs.take i)).set a (gi us (a : Int) + tm) = addL tm us (arcs.take (i + 1)) := by
            rw [HTk.out, HAp.out, Int.toNat_natCast]
          rw [hsl] at hOS
          have HOS := Lib.hid hOS
          have HSl := Lib.hid hsl
          have hals : a < (addL tm us (arcs.take (i + 1))).length := by rw [addL_len, HUl.out]; exact haA
          have HGn := Lib.hid (show gi (addL tm us (arcs.take (i + 1))) (a : Nat) = gi us (a : Int) + tm by
            rw [← hsl, gi_nat _ a (by rw [List.length_set]; exact hal2)]
            simp)
          clear hOS hsl
          generalize overB acts (addL tm us (arcs.take i)) = on at *
          generalize gi us (a : Int) = uv at *
          obtain ⟨hu0, hu1⟩ := hub
          have q0 := HQ.out.cell 0
          simp at q0
          have hql := HQ.out.lt
          have hgl := (own_block HK.out.o G rfl).2
          obtain ⟨b3, o3, e3, hb3', _, _, d2⟩ := HD2.out _ HK.out.f.bel
          injection e3 with e3
          injection e3 with e4 e5
          subst e4 e5
          have hws := HK.out.f.bel.size
          have hbr' : br < wr.heap.size := by omega
          have hbp' : bp < wr.heap.size := by omega
          clear hni hgi hlen hal2 hrg
          go_upto_region 18 with fail
          have e1 : IntKind.i64.wrap (uv + tm) = uv + tm := IntWalk.i64_in _ (by omega)
          refine wp_region_overT 14 (by kernel_rfl) (by kernel_rfl) ?_
          simp only [List.take_succ_cons, List.take_zero, List.drop_succ_cons, List.drop_zero]
          repeat (go_big_quiet_step ((fail)))
          refine wpQuiet_nil ?_
          intro w9 hb9
          clear e1
          have u9 := cell_bel hb9 u0
          have f9 := HFz.out w9 hb9
          have HK9 := Lib.hid ((HK.out.grow hb9).set a (uv + tm))
          have HQ9 := Lib.hid ((HQ.out.bel hb9).far (b := G) (o := a) (u := .int .i64 (uv + tm)) hQG)
          rw [HSl.out] at HK9
          have hgl9 : G < w9.heap.size := by have := hb9.size; omega
          clear HK HQ HFz hb9 u0 q0 hql hgl r0 d2 hb3'
          go_upto_region 19 with fail
          have q0 := HQ9.out.cell 0
          simp at q0
          have r0 := HR0.out _ HK9.out.f.bel
          have u0 := own1 HK9.out.o a hals
          rw [← gi_nat _ a hals, HGn.out] at u0
          obtain ⟨ba, oa, rfl, hba, _, _, _, _, _, a5⟩ := rdAct (HA.out.grow HK9.out.f.bel) rfl a haA
          have x2 := HK9.out.f.x.cell 2
          simp at x2
          have hag := ag_nat acts a haA
          rw [hag] at HOS
          generalize (acts[a]'haA).wt = wt at *
          clear u9 f9
          generalize w9.setCell ⟨G, a, none⟩ (.int .i64 (uv + tm)) = w10 at *
          have hG10 := (own_block HK9.out.o G rfl).2
          have hQ10 := HQ9.out.lt
          have hX10 := HK9.out.f.x.lt
          cases on
          · cases hwt : decide (wt < uv + tm)
            all_goals
              rw [hwt] at HOS
              go_quiet (fail)
              have HK11 := Lib.hid (HK9.out.grow (below_drewN (Below.refl _ _) nq))
              have HQ11 := Lib.hid (HQ9.out.drN nq)
              go_wp2_with fail
              go_roundg (arcs.length - i - 1)
              case measure => have := Hi.out; omega
              case rel => exact ⟨i + 1, by first | rfl | go_num, by omega, by rw [HOS.out]; rfl, HK11.out, HQ11.out⟩
          · go_quiet (fail)
            have HK11 := Lib.hid (HK9.out.grow (below_drewN (Below.refl _ _) nq))
            have HQ11 := Lib.hid (HQ9.out.drN nq)
            go_wp2_with fail
            go_roundg (arcs.length - i - 1)
            case measure => have := Hi.out; omega
            case rel => exact ⟨i + 1, by first | rfl | go_num, by omega, by rw [HOS.out]; rfl, HK11.out, HQ11.out⟩
        · obtain rfl : i = arcs.length := by have := Hi.out; omega
          rw [List.take_length, ← HUs.out] at HK
          have HOv := Lib.hid (show overB acts (usL acts ps (j + 1)) = false → overB acts us = false from fun h => by rw [HUs.out] at h; exact over_add HNd.out HRg.out HUl.out (by omega) h)
          have q0 := HQ.out.cell 0
          simp at q0
          rw [List.take_length, ← HUs.out]
          cases ho : overB acts (usL acts ps (j + 1))
          · have HB2 := Lib.hid (HBn.out (HOv.out ho))
            obtain ⟨b3, o3, e3, hb3', _, _, d2⟩ := HD2.out _ HK.out.f.bel
            injection e3 with e3
            injection e3 with e4 e5
            subst e4 e5
            go_wp2_with fail
            go_roundg (ps.length - j - 1)
            case measure => have := Hj.out; omega
            case rel => exact ⟨j + 1, _, by first | rfl | go_num, by omega, rfl, by rw [ho], fun _ => by first | exact HB2.out | (rw [← HB2.out]; rfl), HOk2.out, HK.out⟩
          · go_wp2_with fail
            go_roundg (ps.length - j - 1)
            case measure => have := Hj.out; omega
            case rel => exact ⟨j + 1, bv, by first | rfl | go_num, by omega, rfl, by rw [ho], (fun h => by rw [ho] at h; cases h), HOk2.out, HK.out⟩
    · obtain rfl : j = ps.length := by have := Hj.out; omega
      have HE := Lib.hid (show prsE T ne acts ps = 0 by rw [← prsE_pre ps.length (Nat.le_refl _) Hok.out, List.drop_length]; rfl)
      cases ho : overB acts (usL acts ps ps.length)
      · have HFin := Lib.hid (show chkE T ne acts ps = 0 ∧ chkV T ne acts ps = bv from by
          have h0 : chkE T ne acts ps = 0 := by unfold chkE; rw [if_pos HNB.out, if_pos HE.out, ho]; rfl
          refine ⟨h0, ?_⟩
          unfold chkV
          have hs := chk_small HN.out Hok.out ho
          rw [if_pos h0, Hbv.out ho, IntWalk.wrap64_in _ (by omega)])
        clear ho
        go_wp2_with fail
        go_ret2
        exact ⟨by rw [HFin.out.1, HFin.out.2]; rfl, HK.out.f.bel⟩
      · have HFin := Lib.hid (show chkE T ne acts ps = 4 ∧ chkV T ne acts ps = 0 from by
          have h4 : chkE T ne acts ps = 4 := by unfold chkE; rw [if_pos HNB.out, if_pos HE.out, if_pos ho]
          exact ⟨h4, by unfold chkV; rw [h4]; rfl⟩)
        clear ho
        go_wp2_with fail
        go_ret2
        exact ⟨by rw [HFin.out.1, HFin.out.2]; rfl, HK.out.f.bel⟩
end Go.Proofs.Ytbmbdenjlbelaaa
