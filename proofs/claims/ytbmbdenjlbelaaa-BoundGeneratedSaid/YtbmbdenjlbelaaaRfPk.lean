import Derived.Test.YtbmbdenjlbelaaaPk
import Derived.Test.YtbmbdenjlbelaaaRfCp
namespace Go.Proofs.Ytbmbdenjlbelaaa
open Go.RowKit
theorem below_nil {W w' : World} (h : W.grownBy w' (Value.slice none 0 0).ownBlock) : Below W.heap.size W w' := (Below.refl _ _).grown h (Nat.le_refl _) (fun k hk => by simp [Value.ownBlock] at hk)
theorem Rd.news {W : World} {B n b o : Nat} {xs : List Value} (h : Rd W B 1 (some ⟨b, o, none⟩) n xs) (hn : 0 < n) : ∀ j u, xs[j]? = some u → W.cell? ((⟨b, o, none⟩ : Addr).add j) = some u := fun j u hu => by
  obtain ⟨b', o', e, _, hc⟩ := h.2 hn
  injection e with e
  injection e with e1 e2
  subst e1 e2
  rw [show (⟨b, o, none⟩ : Addr).add j = ⟨b, o + j, none⟩ by unfold Addr.add; split <;> simp_all]
  exact hc j u hu
theorem cp_own2 {w wr W1 w8 W2 w9 : World} {X G na : Nat} {xs : Array Value} {left : List Int} {v12 : Value} {ps : List Prt} {arcs signs : List Int} {A8 A9 : Option Addr} {c8 c9 : Nat} (hP : PaS w wr X G na xs left v12 ps) (h1 : Below wr.heap.size wr W1) (ho8 : w8.ownsRow (G + 1) 3 1 (.slice A8 arcs.length c8) arcs.length (arcs.map (Value.int .i64))) (h2 : Below w8.heap.size w8 W2) (hb8 : Below W1.heap.size W1 w8)
    (ho9 : w9.ownsRow (G + 1) 3 1 (.slice A9 signs.length c9) signs.length (signs.map (Value.int .i64))) (hb9 : Below W2.heap.size W2 w9) (ha : arcs.length ≤ 512) (hs : signs.length ≤ 512) : PaS w w9 X G na xs left v12 ps ∧ CyOwn w9 (G + 1) ⟨A8, c8, A9, c9, arcs, signs⟩ := by
  have z1 := h1.size
  have z2 := h2.size
  have z8 := hb8.size
  have hb : Below wr.heap.size wr w9 := ((h1.trans (hb8.mono z1)).trans (h2.mono (by omega))).trans (hb9.mono (by omega))
  exact ⟨hP.grow hb, own_grow (own_grow ho8 h2) hb9, ho9, by simp only; omega, by simp only; omega⟩
def RK3 (w : World) (X G : Nat) (xs : Array Value) (acts : List Act) (left : List Int) (v12 : Value) (ps : List Prt) (arcs : List Int) (k : Nat) (v15 v : Value) (wr : World) : Prop :=
  ∃ i : Nat, v = .int .i64 i ∧ i + k = arcs.length ∧ v15 = .int .i64 (minA left arcs i) ∧ PaS w wr X G acts.length xs left v12 ps
def RK4 (w : World) (X G : Nat) (xs : Array Value) (acts : List Act) (left : List Int) (v12 : Value) (ps : List Prt) (arcs : List Int) (tm : Int) (k : Nat) (v : Value) (wr : World) : Prop :=
  ∃ i : Nat, v = .int .i64 i ∧ i + k = arcs.length ∧ PaS w wr X G acts.length xs (addL (-tm) left (arcs.take i)) v12 ps
attribute [local go_sem ↓] run_max_keep run_min_keep
set_option maxRecDepth 100000 in
set_option maxHeartbeats 12800000 in
theorem rpack_any (T : Int) (AE AA Ac : Option Addr) (ne ce ca cc : Nat) (acts : List Act) (l : List Cyc) (w : World) (hA : Rd w w.heap.size 6 AA acts.length (acts.flatMap Act.cells)) (he : ne ≤ 4611686018427387904) (hl : acts.length ≤ 4611686018427387904) (hC : CysRd w Ac l) (_hln : l.length ≤ 4611686018427387904) (hcap : ∀ c ∈ l, c.arcs.length ≤ c.cr) :
    Calls Try.prog 44 #[.agg #[.int .i64 T, .slice AE ne ce, .slice AA acts.length ca], .slice Ac l.length cc] w (PackOut T ne acts l w) := by
  have HA := Lib.hid hA
  have HCs := Lib.hid hC
  have HCap := Lib.hid hcap
  clear hA hC hcap
  obtain ⟨i0, a1, a2, a3, a4⟩ := info_parts infoInt
  have HI := Lib.hid (And.intro a1 (And.intro a2 (And.intro a3 a4)))
  clear a1 a2 a3 a4
  obtain ⟨p0, a1, a2, a3, a4⟩ := info_parts infoPrt'
  have HIp := Lib.hid (And.intro a1 (And.intro a2 (And.intro a3 a4)))
  clear a1 a2 a3 a4
  go_enter Try.func44, Try.ntmps44
  go_upto_region 1 with fail
  refine world_gen (fun w1 => FeN w w1 w.heap.size #[.int .i64 T, .slice AE ne ce, .slice AA acts.length ca]) ⟨(Below.refl _ _).alloc (Nat.le_refl _) _, Blk.new _ _ _⟩ ?_
  intro w0 hf0
  obtain ⟨X, hX⟩ : ∃ X, X = w.heap.size := ⟨_, rfl⟩
  rw [← hX] at ⊢
  rw [show FeN w w0 w.heap.size = FeN w w0 X by rw [hX]] at hf0
  have hXw : w.heap.size ≤ X := by omega
  clear hX
  have HF := Lib.hid hf0
  clear hf0
  have x0 := HF.out.x.cell 0
  have x1 := HF.out.x.cell 1
  have x2 := HF.out.x.cell 2
  simp at x0 x1 x2
  go_wp2_with fail
  refine (rbase_any T AE AA ne ce ca acts w0 ((HA.out.grow HF.out.bel).more HF.out.bel.size) he hl).mono ?_
  rintro e w1 ⟨rfl, hb1⟩
  have HF1 := Lib.hid (HF.out.grow hb1)
  clear x0 x1 x2 hb1 HF
  have HF := HF1
  clear HF1
  cases hn : netB T ne acts
  case false =>
    have HO := Lib.hid (show packE T ne acts l = 1 ∧ packB T ne acts l = 0 ∧ packO T ne acts l = [] by unfold packB packO packE; rw [hn]; exact ⟨rfl, rfl, rfl⟩)
    rw [show baseV T ne acts = 0 by unfold baseV; rw [hn]; rfl, show baseE T ne acts = 1 by unfold baseE; rw [hn]; rfl]
    go_wp2_with fail
    go_ret3
    exact ⟨none, 0, [], by rw [HO.out.1, HO.out.2.1]; rfl, by rw [HO.out.2.2]; rfl, World.ownsRow_nil _ _ _ _, fun p hp => by simp at hp, HF.out.bel⟩
  rw [show baseV T ne acts = baseS acts by unfold baseV; rw [hn]; rfl, show baseE T ne acts = 0 by unfold baseE; rw [hn]; rfl]
  have HNB := Lib.hid hn
  have HN := Lib.hid (netB_iff.1 hn)
  have hna := (netB_iff.1 hn).n
  have hne := (netB_iff.1 hn).e
  clear hn
  have x2 := HF.out.x.cell 2
  simp at x2
  have hxl := HF.out.x.lt
  go_upto_region 5 with (at_make; refine wpList_make_full _ rfl _ _ 22 rfl (X + 1) 3 i0 _ 1 Try.underlying22 HI.out.1 HI.out.2.1 HI.out.2.2.1 .i64 .i64 _ _ acts.length rfl rfl rfl rfl ?m1 ?m2 ?m3 ?_; rotate_right; intro w2 hown2 hg2)
  case m1 => rw [HI.out.2.2.2]; omega
  case m2 => simp only [maxLen]; omega
  case m3 => omega
  have hb2 : Below w1.heap.size w1 w2 := (Below.refl _ _).grown hg2 (Nat.le_refl _) (by simp)
  have HK := Lib.hid (show PkS w w2 X w1.heap.size acts.length #[.int .i64 T, .slice AE ne ce, .slice AA acts.length ca] ((acts.map (·.wt)).take 0 ++ List.replicate ((acts.map (·.wt)).length - 0) 0) from ⟨HF.out.grow hb2, by
    rw [← fill_zero _ _ acts.length (by simp), ← madeCells_one]
    exact hown2, hXw⟩)
  clear hown2 hg2 hb2 HF x2 hxl
  generalize w1.heap.size = G at *
  have x2 := HK.out.f.x.cell 2
  simp at x2
  go_wp2_with fail
  clear x2
  go_loopg [10, 33] acts.length (fun k _ v wr => PK1 w X G #[.int .i64 T, .slice AE ne ce, .slice AA acts.length ca] acts k v wr)
  case atStart => exact ⟨0, rfl, by omega, HK.out⟩
  case round =>
    obtain ⟨j, rfl, hj, hk⟩ := hrel
    clear HK
    have Hj := Lib.hid hj
    have HK := Lib.hid hk
    clear hj hk
    by_cases hlt : j < acts.length
    · obtain ⟨ba, oa, rfl, hba, d0, d1, d2, d3, d4, d5⟩ := rdAct (HA.out.grow HK.out.f.bel) rfl j hlt
      have hjl : j < (acts.map (·.wt)).length := by simpa using hlt
      have hset := HK.out.set j (acts.map (·.wt))[j]
      rw [fill_set _ _ _ hjl] at hset
      have hwt : (acts.map (·.wt))[j] = acts[j].wt := by simp
      rw [hwt] at hset
      have HK9 := Lib.hid hset
      have q0 := own1 HK.out.o j (by rw [fill_len _ _ _ (by omega)]; exact hjl)
      have q1 := HK.out.o.frozenAt j
      have x2 := HK.out.f.x.cell 2
      simp at x2
      have hG := (own_block HK.out.o G rfl).2
      clear hset hwt
      generalize ((acts.map (·.wt)).take j ++ List.replicate ((acts.map (·.wt)).length - j) 0)[j]'(by rw [fill_len _ _ _ (by omega)]; exact hjl) = ov at *
      generalize acts[j].wt = wt at *
      go_wp2_with fail
      go_roundg (acts.length - j - 1)
      case measure => have := Hj.out; omega
      case rel => exact ⟨j + 1, by first | rfl | go_num, by omega, HK9.out⟩
    · have hfl := HK.out
      rw [fill_all _ _ _ (by simp; have := Hj.out; omega)] at hfl
      have HP0 := Lib.hid (show PaS w wr X G acts.length #[.int .i64 T, .slice AE ne ce, .slice AA acts.length ca] (pkAll T ne acts l 0).left (.slice none 0 0) [] from ⟨hfl, World.ownsRow_nil _ _ _ _, fun p hp => by simp at hp⟩)
      clear HK Hj hfl
      have hlc := HCs.out.n
      go_wp2_with fail
      go_loopg [7, 11, 12, 13, 14, 15, 16, 17, 18] l.length (fun k v7 v11 v _ _ _ _ _ _ wr => PK2 w X G #[.int .i64 T, .slice AE ne ce, .slice AA acts.length ca] T ne acts l k v7 v11 v wr)
      case atStart => exact ⟨0, [], rfl, by omega, fun i h hi => by omega, rfl, rfl, Nat.le_refl _, HP0.out⟩
      case round =>
        obtain ⟨j, ps, rfl, hj, hok, rfl, hpo, hpj, hps⟩ := hrel
        clear HP0
        have Hj := Lib.hid hj
        have Hok := Lib.hid hok
        have Hpo := Lib.hid hpo
        have HP := Lib.hid hps
        clear hj hok hpo hps
        obtain ⟨A11, c11, rfl, _, _⟩ := own_slice HP.out.o
        by_cases hlt : j < l.length
        · obtain ⟨bc, oc, rfl, hbc, d0, d1⟩ := rdCyc (HCs.out.r.grow HP.out.k.f.bel) rfl j hlt
          have HCy := Lib.hid (HCs.out.c l[j] (List.getElem_mem hlt))
          have HCp := Lib.hid (HCap.out l[j] (List.getElem_mem hlt))
          have HDD := Lib.hid (fun (W : World) (hb : Below w.heap.size w W) => show W.cell? ⟨bc, oc + j * 2, none⟩ = some (.slice l[j].Ar l[j].arcs.length l[j].cr) ∧ W.cell? ⟨bc, oc + j * 2 + 1, none⟩ = some (.slice l[j].As l[j].signs.length l[j].cs) from by
            obtain ⟨b', o', e', _, h1, h2⟩ := rdCyc (HCs.out.r.grow hb) rfl j hlt
            injection e' with e'
            injection e' with e1 e2
            subst e1 e2
            exact ⟨h1, h2⟩)
          have HStop := Lib.hid (show gapE T ne acts l[j].arcs l[j].signs ≠ 0 → packE T ne acts l = gapE T ne acts l[j].arcs l[j].signs from fun h => by
            unfold packE
            rw [if_pos HNB.out]
            exact pkErr_stop l j hlt Hok.out h)
          have HOkn := Lib.hid (show gapE T ne acts l[j].arcs l[j].signs = 0 → ∀ i (h : i < l.length), i < j + 1 → gapE T ne acts l[i].arcs l[i].signs = 0 from fun h i hi hij => by
            rcases Nat.lt_or_ge i j with h2 | h2
            · exact Hok.out i hi h2
            · obtain rfl : i = j := by omega
              exact h)
          have HSt := Lib.hid (show pkAll T ne acts l (j + 1) = pkStep T ne acts l[j].arcs l[j].signs (pkAll T ne acts l j) by
            show (match l[j]? with | some c => _ | none => _) = _
            rw [List.getElem?_eq_getElem hlt])
          have HOks := Lib.hid (pkAll_ok HN.out j (by omega) Hok.out)
          have HCnt := Lib.hid (pk_len HN.out j (by omega) Hok.out)
          generalize pkAll T ne acts l j = st at *
          generalize l[j] = c at *
          obtain ⟨Ar, cr, As, cs, arcs, signs⟩ := c
          simp only at d0 d1 HStop HOkn HSt HDD HCp
          have x0 := HP.out.k.f.x.cell 0
          have x1 := HP.out.k.f.x.cell 1
          have x2 := HP.out.k.f.x.cell 2
          simp at x0 x1 x2
          have hxl := HP.out.k.f.x.lt
          have hbc' : bc < wr.heap.size := World.block_lt_of_cell? _ _ d0
          go_upto_region 14 with fail
          refine wp_region_overL (by kernel_rfl) (by kernel_rfl) ?_
          repeat (go_big_quiet_step ((go_at_call 59; exact callsOver (rcycchk_any T AE AA Ar As ne ce ca cr cs acts arcs signs _ ((HCy.out.grow (HP.out.k.f.bel.trans ((over_below _ _).mono HP.out.k.f.bel.size))).ncyc ((HA.out.grow (HP.out.k.f.bel.trans ((over_below _ _).mono HP.out.k.f.bel.size))).more (HP.out.k.f.bel.trans ((over_below _ _).mono HP.out.k.f.bel.size)).size) he hl) HCp.out))))
          refine wpQuiet_nil ?_
          intro w6 hb6
          have HP6 := Lib.hid (HP.out.grow hb6)
          clear HP hb6 x0 x1 x2 d0 d1 hxl hbc'
          have HP := HP6
          clear HP6
          cases hcy : cycB T ne acts arcs signs
          case false =>
            have hge : gapE T ne acts arcs signs = 1 := by unfold gapE; rw [hcy]; rfl
            have HO := Lib.hid (show packE T ne acts l = 1 by rw [HStop.out (by rw [hge]; decide), hge])
            have HO2 := Lib.hid (show packB T ne acts l = 0 ∧ packO T ne acts l = [] by unfold packB packO; rw [HO.out]; exact ⟨rfl, rfl⟩)
            clear hge hcy
            go_wp2_with fail
            go_ret3
            exact ⟨none, 0, [], by rw [HO.out, HO2.out.1]; rfl, by rw [HO2.out.2]; rfl, World.ownsRow_nil _ _ _ _, fun p hp => by simp at hp, HP.out.k.f.bel⟩
          have HCk := Lib.hid (cycB_iff.1 hcy)
          have HCb := Lib.hid hcy
          clear hcy
          obtain ⟨d0, d1⟩ := HDD.out _ HP.out.k.f.bel
          have x0 := HP.out.k.f.x.cell 0
          have x1 := HP.out.k.f.x.cell 1
          have x2 := HP.out.k.f.x.cell 2
          simp at x0 x1 x2
          have hxl := HP.out.k.f.x.lt
          have hbc' : bc < w6.heap.size := World.block_lt_of_cell? _ _ d0
          go_upto_region 16 with fail
          refine wp_region_overL (by kernel_rfl) (by kernel_rfl) ?_
          repeat (go_big_quiet_step ((go_at_call 31; exact callsOver (rgap_any T AE AA Ar As ne ce ca cr cs acts arcs signs _ ((HCy.out.grow (HP.out.k.f.bel.trans ((over_below _ _).mono HP.out.k.f.bel.size))).ncyc ((HA.out.grow (HP.out.k.f.bel.trans ((over_below _ _).mono HP.out.k.f.bel.size))).more (HP.out.k.f.bel.trans ((over_below _ _).mono HP.out.k.f.bel.size)).size) he hl) HCp.out))))
          refine wpQuiet_nil ?_
          intro w7 hb7
          have HP6 := Lib.hid (HP.out.grow hb7)
          clear HP hb7 x0 x1 x2 d0 d1 hxl hbc'
          have HP := HP6
          clear HP6
          cases hw : okW T ne acts arcs signs
          case false =>
            have hge : gapE T ne acts arcs signs = 14 := by unfold gapE; rw [if_pos HCb.out, hw]; rfl
            have HO := Lib.hid (show packE T ne acts l = 14 by rw [HStop.out (by rw [hge]; decide), hge])
            have HO2 := Lib.hid (show packB T ne acts l = 0 ∧ packO T ne acts l = [] by unfold packB packO; rw [HO.out]; exact ⟨rfl, rfl⟩)
            clear hge hw
            go_wp2_with fail
            go_ret3
            exact ⟨none, 0, [], by rw [HO.out, HO2.out.1]; rfl, by rw [HO2.out.2]; rfl, World.ownsRow_nil _ _ _ _, fun p hp => by simp at hp, HP.out.k.f.bel⟩
          have hge : gapE T ne acts arcs signs = 0 := by unfold gapE; rw [if_pos HCb.out, hw]; rfl
          have HOk2 := Lib.hid (HOkn.out hge)
          clear hge hw HStop HOkn
          have hal := HCk.out.sum.n
          have hal2 := HCk.out.two
          have hgb := gapV_bd (T := T) (ne := ne) (acts := acts) (arcs := arcs) (signs := signs)
          have HLv : Hid (∀ i : Nat, i < arcs.length → ∃ a : Nat, gi arcs i = (a : Int) ∧ a < acts.length ∧ 0 ≤ gi st.left (gi arcs i) ∧ gi st.left (gi arcs i) ≤ 1048576) := fun i hi => by
            have h1 := (HCk.out.arc i hi).a0
            have h2 := (HCk.out.arc i hi).a1
            obtain ⟨a, ha⟩ := Int.eq_ofNat_of_zero_le h1
            have h3 := HOks.out.bd a (by omega)
            have h4 := (HN.out.a _ (ag_mem acts a (by omega) (by omega))).w1
            exact ⟨a, ha, by omega, by rw [ha]; exact h3.1, by rw [ha]; omega⟩
          have HLn := Lib.hid HOks.out.len
          generalize hgv : gapV T ne acts arcs signs = gv at *
          have Hgv := Lib.hid hgv
          clear hgv
          obtain ⟨a0, ha0, ha0l, hv0, hv1⟩ := HLv.out 0 (by omega)
          obtain ⟨br, orr, rfl, hbr, r0⟩ := rd1 (HCy.out.r.grow HP.out.k.f.bel) 0 (by simp only; omega)
          simp only at r0
          rw [← gi_nat arcs 0 (by omega), ha0, Nat.add_zero] at r0
          have u0 := own1 HP.out.k.o a0 (by rw [HLn.out]; exact ha0l)
          rw [← gi_nat _ a0 (by rw [HLn.out]; exact ha0l), ← ha0] at u0
          have HM0 : Hid (minA st.left arcs 0 = gi st.left (gi arcs 0)) := rfl
          obtain ⟨d0, d1⟩ := HDD.out _ HP.out.k.f.bel
          go_wp2_with fail
          clear d0 d1 u0 r0
          go_loopg [15, 16] arcs.length (fun k v15 v wr => RK3 w X G #[.int .i64 T, .slice AE ne ce, .slice AA acts.length ca] acts st.left (.slice A11 ps.length c11) ps arcs k v15 v wr)
          case atStart => exact ⟨0, rfl, by omega, by rw [HM0.out], HP.out⟩
          case round =>
            obtain ⟨i, rfl, hi, rfl, hp⟩ := hrel
            clear HP
            have Hi := Lib.hid hi
            have HP := Lib.hid hp
            obtain ⟨d0, d1⟩ := HDD.out _ HP.out.k.f.bel
            clear hi hp
            by_cases hil : i < arcs.length
            · obtain ⟨b', o', e', _, r0⟩ := rd1 (HCy.out.r.grow HP.out.k.f.bel) i hil
              injection e' with e'
              injection e' with e1 e2
              subst e1 e2
              obtain ⟨a, ha, hal3, hw0, hw1⟩ := HLv.out i hil
              simp only at r0
              rw [← gi_nat arcs i hil, ha] at r0
              have u0 := own1 HP.out.k.o a (by rw [HLn.out]; exact hal3)
              rw [← gi_nat _ a (by rw [HLn.out]; exact hal3), ← ha] at u0
              have HM : Hid (minA st.left arcs (i + 1) = min (minA st.left arcs i) (gi st.left (gi arcs i))) := rfl
              generalize minA st.left arcs i = mv at *
              generalize gi st.left (gi arcs i) = uv at *
              go_wp2_with fail
              go_roundg (arcs.length - i - 1)
              case measure => have := Hi.out; omega
              case rel => exact ⟨i + 1, by first | rfl | go_num, by omega, by rw [HM.out], HP.out⟩
            · obtain rfl : i = arcs.length := by have := Hi.out; omega
              have HSt2 := Lib.hid (show pkAll T ne acts l (j + 1) = if minA st.left arcs arcs.length < 1 ∨ gv < 1 then st else ⟨addL (-minA st.left arcs arcs.length) st.left arcs, st.out ++ [(arcs, signs, minA st.left arcs arcs.length)], st.bnd + minA st.left arcs arcs.length * gv⟩ by rw [HSt.out]; unfold pkStep; rw [Hgv.out])
              have hm0 := minA_bd st.left arcs (fun i hi => by obtain ⟨_, _, _, h, _⟩ := HLv.out i hi; exact h) (by omega) arcs.length (Nat.le_refl _)
              have hm1 := minA_le st.left arcs arcs.length 0 (by omega)
              have hm2 : minA st.left arcs arcs.length ≤ 1048576 := by have h : gi st.left (gi arcs ((0 : Nat) : Int)) ≤ 1048576 := hv1; omega
              have HAr : Hid (∀ a : Nat, (a : Int) ∈ arcs → minA st.left arcs arcs.length ≤ gi st.left a) := fun a ha => by
                obtain ⟨i, hi, e⟩ := List.getElem_of_mem ha
                have := minA_le st.left arcs arcs.length i hi
                rwa [gi_nat arcs i hi, e] at this
              clear HSt HM0 hm1 Hi hil
              generalize minA st.left arcs arcs.length = tm at *
              by_cases hsk : tm < 1 ∨ gv < 1
              · rw [if_pos hsk] at HSt2
                by_cases ht1 : tm < 1
                · have ht1' : decide (tm < 1) = true := by simpa using ht1
                  go_wp2_with fail
                  go_roundg (l.length - j - 1)
                  case measure => have := Hj.out; omega
                  case rel => exact ⟨j + 1, ps, by first | rfl | go_num, by omega, HOk2.out, by rw [HSt2.out], by rw [HSt2.out]; exact Hpo.out, by omega, by rw [HSt2.out]; exact HP.out⟩
                · have ht1' : decide (tm < 1) = false := by simpa using ht1
                  have hg1 : gv < 1 := hsk.resolve_left ht1
                  have hg1' : decide (gv < 1) = true := by simpa using hg1
                  go_wp2_with fail
                  go_roundg (l.length - j - 1)
                  case measure => have := Hj.out; omega
                  case rel => exact ⟨j + 1, ps, by first | rfl | go_num, by omega, HOk2.out, by rw [HSt2.out], by rw [HSt2.out]; exact Hpo.out, by omega, by rw [HSt2.out]; exact HP.out⟩
              · rw [if_neg hsk] at HSt2
                have ht1 : 1 ≤ tm := by omega
                have hg1 : 1 ≤ gv := by omega
                clear hsk
                have HNd := Lib.hid HCk.out.nodup
                have HRg := Lib.hid HCk.out.range
                go_wp2_with fail
                clear d0 d1
                go_loopg [17] arcs.length (fun k v wr => RK4 w X G #[.int .i64 T, .slice AE ne ce, .slice AA acts.length ca] acts st.left (.slice A11 ps.length c11) ps arcs tm k v wr)
                case atStart => exact ⟨0, rfl, by omega, HP.out⟩
                case round =>
                  obtain ⟨i, rfl, hi, hp⟩ := hrel
                  clear HP
                  have Hi := Lib.hid hi
                  have HP := Lib.hid hp
                  obtain ⟨d0, d1⟩ := HDD.out _ HP.out.k.f.bel
                  clear hi hp
                  by_cases hil : i < arcs.length
                  · obtain ⟨b', o', e', _, r0⟩ := rd1 (HCy.out.r.grow HP.out.k.f.bel) i hil
                    injection e' with e'
                    injection e' with e1 e2
                    subst e1 e2
                    obtain ⟨a, ha, hal3, hw0, hw1⟩ := HLv.out i hil
                    have HTk := Lib.hid (List.take_succ_eq_append_getElem hil)
                    have hni : arcs[i] ∉ arcs.take i := take_nodup HNd.out i hil
                    rw [gi_nat arcs i hil] at ha hw0 hw1
                    have hgi : gi (addL (-tm) st.left (arcs.take i)) arcs[i] = gi st.left arcs[i] := by
                      rw [addL_gi (-tm) (arcs.take i) st.left arcs[i] (List.Nodup.sublist (List.take_sublist _ _) HNd.out) (fun x hx => by rw [HLn.out]; exact HRg.out x (List.mem_of_mem_take hx)) (by omega), if_neg hni]
                      omega
                    have HAp := Lib.hid (addL_app (-tm) (arcs.take i) st.left arcs[i])
                    have hle : tm ≤ gi st.left arcs[i] := by rw [ha]; exact HAr.out a (by rw [← ha]; exact List.getElem_mem hil)
                    rw [hgi] at HAp
                    simp only at r0
                    rw [ha] at r0 HAp HTk hgi hw0 hw1 hle
                    have hall : a < (addL (-tm) st.left (arcs.take i)).length := by rw [addL_len, HLn.out]; exact hal3
                    have u0 := own1 HP.out.k.o a hall
                    rw [← gi_nat _ a hall, hgi] at u0
                    have f0 := HP.out.k.o.frozenAt a
                    have HP9 := Lib.hid (HP.out.set a (gi st.left (a : Int) - tm))
                    simp only [Int.toNat_natCast] at HAp
                    rw [show gi st.left (a : Int) + -tm = gi st.left (a : Int) - tm by omega] at HAp
                    rw [← HAp.out, ← HTk.out] at HP9
                    generalize gi st.left (a : Int) = uv at *
                    clear hgi hall hni ha
                    go_wp2_with fail
                    go_roundg (arcs.length - i - 1)
                    case measure => have := Hi.out; omega
                    case rel => exact ⟨i + 1, by first | rfl | go_num, by omega, HP9.out⟩
                  · obtain rfl : i = arcs.length := by have := Hi.out; omega
                    rw [List.take_length] at HP
                    have hbd := pk_bd HN.out HOks.out
                    have hmg := mul_bd2 tm gv 1048576 67108864 hm0 hm2 hgb.1 hgb.2
                    obtain ⟨hbd0, hbd1⟩ := hbd
                    obtain ⟨hmg0, hmg1⟩ := hmg
                    generalize st.bnd = bn at *
                    have hsl1 : 1 ≤ signs.length := by have := HCk.out.len; omega
                    have hsl2 : signs.length ≤ 512 := by have := HCk.out.len; omega
                    have hGl := (own_block HP.out.k.o G rfl).2
                    have hbc' : bc < wr.heap.size := World.block_lt_of_cell? _ _ d0
                    obtain ⟨bs, os, eAs⟩ : ∃ bs os, As = some ⟨bs, os, none⟩ := by
                      have hs := HCy.out.s
                      simp only at hs
                      obtain ⟨b, o, e, _⟩ := hs.2 (by omega)
                      exact ⟨b, o, e⟩
                    subst eAs
                    have HCr : Hid (∀ W, Below wr.heap.size wr W → Rd W W.heap.size 1 (some ⟨br, orr, none⟩) arcs.length (arcs.map (Value.int .i64))) := fun W hW => (HCy.out.r.grow (HP.out.k.f.bel.trans (hW.mono HP.out.k.f.bel.size))).more (HP.out.k.f.bel.trans (hW.mono HP.out.k.f.bel.size)).size
                    have HCs2 : Hid (∀ W, Below wr.heap.size wr W → Rd W W.heap.size 1 (some ⟨bs, os, none⟩) signs.length (signs.map (Value.int .i64))) := fun W hW => (HCy.out.s.grow (HP.out.k.f.bel.trans (hW.mono HP.out.k.f.bel.size))).more (HP.out.k.f.bel.trans (hW.mono HP.out.k.f.bel.size)).size
                    go_upto_region 29 with fail
                    go_cut [18] (fun v18 wx => CpR w X G acts.length #[.int .i64 T, .slice AE ne ce, .slice AA acts.length ca] (addL (-tm) st.left arcs) (.slice A11 ps.length c11) ps arcs signs v18 wx)
                    case first =>
                      go_region_held3 (fun w' => w'.cell? ⟨bc, oc + j * 2, none⟩ = some (.slice (some ⟨br, orr, none⟩) arcs.length cr) ∧ w'.cell? ⟨bc, oc + j * 2 + 1, none⟩ = some (.slice (some ⟨bs, os, none⟩) signs.length cs))
                        (exact ⟨cell_bel (w := wr) (by repeat (first | exact Below.refl _ _ | (with_reducible refine Below.drew ?_) | (with_reducible refine below_drewN ?_ _) | (with_reducible refine Below.alloc ?_ (by first | omega | (simp; done) | (simp; omega)) _) | (with_reducible refine Below.setCell ?_ (by first | omega | (simp; done) | (simp; omega)) _) | (refine Below.trans ?_ (Below.mono (by with_reducible assumption) (by first | omega | (simp; done) | (simp; omega)))))) d0, cell_bel (w := wr) (by repeat (first | exact Below.refl _ _ | (with_reducible refine Below.drew ?_) | (with_reducible refine below_drewN ?_ _) | (with_reducible refine Below.alloc ?_ (by first | omega | (simp; done) | (simp; omega)) _) | (with_reducible refine Below.setCell ?_ (by first | omega | (simp; done) | (simp; omega)) _) | (refine Below.trans ?_ (Below.mono (by with_reducible assumption) (by first | omega | (simp; done) | (simp; omega)))))) d1⟩)
                        (first | (refine step_append_lies _ (by rfl) _ _ _ (by rfl) (G + 1) 3 i0 _ 1 8 Try.underlying22 HI.out.1 HI.out.2.1 HI.out.2.2.1 HI.out.2.2.2 rfl (by omega) (.slice none 0 0) 0 [] (by rfl) (World.ownsRow_nil _ _ _ _) ⟨br, orr, none⟩ arcs.length cr (arcs.map (Value.int .i64)) (by rfl) (by simp) (Rd.news (HCr.out _ (by repeat (first | exact Below.refl _ _ | (with_reducible refine Below.drew ?_) | (with_reducible refine below_drewN ?_ _) | (with_reducible refine Below.alloc ?_ (by first | omega | (simp; done) | (simp; omega)) _) | (with_reducible refine Below.setCell ?_ (by first | omega | (simp; done) | (simp; omega)) _) | (refine Below.trans ?_ (Below.mono (by with_reducible assumption) (by first | omega | (simp; done) | (simp; omega))))))) (by omega)) (by intro u hu; obtain ⟨_, _, rfl⟩ := List.mem_map.1 hu; rfl) (by omega) (by simp only [maxLen]; omega) (by omega) (by first | omega | (simp; omega)) _ rfl ?_; intro g8 k8 w8 ho8 hg8 _ hl8; have hb8 := below_nil hg8; have z8 := hb8.size; (try simp at z8); (try (have y8 : wr.heap.size < w8.heap.size := by omega)); obtain ⟨hc8, hf8⟩ := bcell hb8) | (refine step_append_lies _ (by rfl) _ _ _ (by rfl) (G + 1) 3 i0 _ 1 8 Try.underlying22 HI.out.1 HI.out.2.1 HI.out.2.2.1 HI.out.2.2.2 rfl (by omega) (.slice none 0 0) 0 [] (by rfl) (World.ownsRow_nil _ _ _ _) ⟨bs, os, none⟩ signs.length cs (signs.map (Value.int .i64)) (by rfl) (by simp) (Rd.news (HCs2.out _ (by repeat (first | exact Below.refl _ _ | (with_reducible refine Below.drew ?_) | (with_reducible refine below_drewN ?_ _) | (with_reducible refine Below.alloc ?_ (by first | omega | (simp; done) | (simp; omega)) _) | (with_reducible refine Below.setCell ?_ (by first | omega | (simp; done) | (simp; omega)) _) | (refine Below.trans ?_ (Below.mono (by with_reducible assumption) (by first | omega | (simp; done) | (simp; omega))))))) (by omega)) (by intro u hu; obtain ⟨_, _, rfl⟩ := List.mem_map.1 hu; rfl) (by omega) (by simp only [maxLen]; omega) (by omega) (by first | omega | (simp; omega)) _ rfl ?_; intro g9 k9 w9 ho9 hg9 _ hl9; have hb9 := below_nil hg9; have z9 := hb9.size; (try simp at z9); (try (have y9 : wr.heap.size < w9.heap.size := by omega)); obtain ⟨hc9, hf9⟩ := bcell hb9))
                      · rw [Nat.zero_add, List.nil_append] at ho8 ho9
                        obtain ⟨hp9, hc9'⟩ := cp_own2 HP.out (Below.refl _ _).drew ho8 (Below.refl _ _) hb8 ho9 hb9 hal hsl2
                        (try rw [Nat.zero_add, Nat.zero_add])
                        go_wp2_with fail
                        go_meet
                        case rel => exact cp_new hp9 hc9'
                      · rw [Nat.zero_add, List.nil_append] at ho8 ho9
                        obtain ⟨hp9, hc9'⟩ := cp_own2 HP.out (Below.refl _ _).drew ho8 ((Below.refl _ _).alloc (Nat.le_refl _) _) hb8 ho9 hb9 hal hsl2
                        have hk9 := (Blk.new w8 45 #[.slice none 0 0, .slice none 0 0]).bel hb9
                        have hw8 := HP.out.k.f.bel.size
                        have hxl := HP.out.k.f.x.lt
                        (try rw [Nat.zero_add, Nat.zero_add])
                        go_wp2_with fail
                        go_meet
                        case rel => exact cp_far hp9 hc9' hk9 (by omega) (by omega)
                      · rw [Nat.zero_add, List.nil_append] at ho8 ho9
                        obtain ⟨hp9, hc9'⟩ := cp_own2 HP.out ((Below.refl _ _).drew.alloc (Nat.le_refl _) _) ho8 (Below.refl _ _) hb8 ho9 hb9 hal hsl2
                        have hk9 := ((Blk.new wr.drew 45 #[.slice none 0 0, .slice none 0 0]).bel hb8).bel hb9
                        have hw8 := HP.out.k.f.bel.size
                        have hxl := HP.out.k.f.x.lt
                        (try rw [Nat.zero_add, Nat.zero_add])
                        go_wp2_with fail
                        go_meet
                        case rel => exact cp_far hp9 hc9' hk9 (by simpa using hw8) (by simp; omega)
                    case rest =>
                      obtain ⟨C, A1, A2, k1, k2, rfl, hp, hk, hco⟩ := hcut
                      clear HP hGl HCr HCs2 hbc' d0 d1
                      have HP := Lib.hid hp
                      have HCo := Lib.hid hco
                      have y0 := hk.cell 0
                      have y1 := hk.cell 1
                      simp at y0 y1
                      have hpsl : ps.length ≤ 536870912 := by
                        have h1 := congrArg List.length Hpo.out
                        rw [List.length_map] at h1
                        rw [h1]; exact HCnt.out
                      have hGl := (own_block HP.out.k.o G rfl).2
                      clear hp hco hk
                      go_wp2_with (at_builtin; refine wpList_append_own_at _ rfl _ _ 32 rfl (G + 1) 47 p0 _ 3 56 Try.underlying32 HIp.out.1 HIp.out.2.1 HIp.out.2.2.1 HIp.out.2.2.2 rfl (by omega) _ ps.length _ rfl (World.ownsRow.alloc HP.out.o _) ⟨_, 0, none⟩ 1 1 [.slice A1 arcs.length k1, .slice A2 signs.length k2, .int .i64 tm] rfl rfl ?c0 ?c1 ?c2 ?c3 ?c4 ?_; rotate_right; intro v9 w9 hown9 hg9 _ _)
                      case c0 => exact news_new _ _ _
                      case c1 => intro u hu; simp at hu; rcases hu with rfl | rfl | rfl <;> rfl
                      case c2 => simp only [maxLen]; omega
                      case c3 => omega
                      case c4 => simp; omega
                      have HP9 := Lib.hid (HP.out.app (p := ⟨⟨A1, k1, A2, k2, arcs, signs⟩, tm⟩) HCo.out hown9 hg9)
                      clear hown9 hg9 HP HCo y0 y1
                      go_roundg (l.length - j - 1)
                      case measure => have := Hj.out; omega
                      case rel => exact ⟨j + 1, ps ++ [⟨⟨A1, k1, A2, k2, arcs, signs⟩, tm⟩], by first | rfl | go_num, by omega, HOk2.out, by rw [HSt2.out], by rw [HSt2.out, List.map_append, Hpo.out]; rfl, by simp; omega, by rw [HSt2.out]; exact HP9.out⟩
        · obtain rfl : j = l.length := by have := Hj.out; omega
          have HE0 := Lib.hid (show packE T ne acts l = 0 by
            unfold packE
            rw [if_pos HNB.out]
            exact pkErr_all (fun c hc => by obtain ⟨i, hi, rfl⟩ := List.getElem_of_mem hc; exact Hok.out i hi hi))
          have HO := Lib.hid (show packB T ne acts l = (pkAll T ne acts l l.length).bnd ∧ packO T ne acts l = (pkAll T ne acts l l.length).out by unfold packB packO; rw [HE0.out]; exact ⟨rfl, rfl⟩)
          go_wp2_with fail
          go_ret3
          exact ⟨A11, c11, ps, by rw [HE0.out, HO.out.1]; rfl, by rw [HO.out.2]; exact Hpo.out, own_base HP.out.o (by have := (own_block HP.out.k.o G rfl).1; omega), fun p hp => ⟨own_base (HP.out.c p hp).r (by have := (own_block HP.out.k.o G rfl).1; omega), own_base (HP.out.c p hp).s (by have := (own_block HP.out.k.o G rfl).1; omega), (HP.out.c p hp).hr, (HP.out.c p hp).hs⟩, HP.out.k.f.bel⟩
end Go.Proofs.Ytbmbdenjlbelaaa
