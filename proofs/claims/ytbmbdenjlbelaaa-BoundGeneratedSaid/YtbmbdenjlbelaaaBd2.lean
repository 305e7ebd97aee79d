import Derived.Test.YtbmbdenjlbelaaaBd
import Derived.Test.YtbmbdenjlbelaaaBdMath2
namespace Go.Proofs.Ytbmbdenjlbelaaa
open Go.RowKit

theorem wrap64_add (a b : Int) : wrap64 (wrap64 a + b) = wrap64 (a + b) := by unfold wrap64; omega
theorem rdPrt {w : World} {B n : Nat} {A : Option Addr} {xs : List Prt} (h : Rd w B 3 A n (xs.flatMap Prt.cells)) (hn : n = xs.length) (j : Nat) (hj : j < xs.length) :
    ∃ b off, A = some ⟨b, off, none⟩ ∧ b < B ∧ w.cell? ⟨b, off + j * 3, none⟩ = some (.slice xs[j].c.Ar xs[j].c.arcs.length xs[j].c.cr) ∧ w.cell? ⟨b, off + j * 3 + 1, none⟩ = some (.slice xs[j].c.As xs[j].c.signs.length xs[j].c.cs) ∧ w.cell? ⟨b, off + j * 3 + 2, none⟩ = some (.int .i64 xs[j].tm) := by
  obtain ⟨b, off, rfl, hb, hc⟩ := h.2 (by omega)
  have h2 : ∀ i u, i < 3 → xs[j].cells[i]? = some u → w.cell? ⟨b, off + (j * 3 + i), none⟩ = some u := fun i u hi hu => hc _ u (by rw [flat_get Prt.cells 3 Prt.len xs j hj i hi]; exact hu)
  exact ⟨b, off, rfl, hb, h2 0 _ (by omega) rfl, h2 1 _ (by omega) rfl, h2 2 _ (by omega) rfl⟩
/-- a list of parts that is read in a world -/
structure PrsRd (w : World) (A : Option Addr) (ps : List Prt) : Prop where
  r : Rd w w.heap.size 3 A ps.length (ps.flatMap Prt.cells)
  c : ∀ p ∈ ps, CyRd w p.c
  n : ps.length ≤ 2513169434843
theorem PrsRd.grow {w w' : World} {A : Option Addr} {ps : List Prt} (h : PrsRd w A ps) (hb : Below w.heap.size w w') : PrsRd w' A ps := ⟨(h.r.grow hb).more hb.size, fun p hp => (h.c p hp).grow hb, h.n⟩
/-- the network and the used weights -/
structure PkS (w wr : World) (X G na : Nat) (xs : Array Value) (us : List Int) : Prop where
  f : FeN w wr X xs
  o : wr.ownsRow (X + 1) 3 1 (.slice (some ⟨G, 0, none⟩) na na) na (us.map (Value.int .i64))
  hX : w.heap.size ≤ X
theorem PkS.grow {w wr w' : World} {X G na : Nat} {xs : Array Value} {us : List Int} (h : PkS w wr X G na xs us) (hb : Below wr.heap.size wr w') : PkS w w' X G na xs us := ⟨h.f.grow hb, own_grow h.o hb, h.hX⟩
theorem PkS.set {w wr : World} {X G na : Nat} {xs : Array Value} {us : List Int} (h : PkS w wr X G na xs us) (i : Nat) (v : Int) : PkS w (wr.setCell ⟨G, i, none⟩ (.int .i64 v)) X G na xs (us.set i v) := by
  have hG := (own_block h.o G rfl).1
  have hX := h.hX
  exact ⟨⟨h.f.bel.setCell (by simp; omega) _, h.f.x.far (by omega)⟩, own1_set h.o i v, hX⟩
def ChkOut (T : Int) (ne : Nat) (acts : List Act) (ps : List Prt) (w : World) (e : Ending) (w' : World) : Prop :=
  e = .returned (.tuple #[.int .i64 (chkV T ne acts ps), .int .i64 (chkE T ne acts ps)]) ∧ Below w.heap.size w w'
def PC1 (w : World) (X G : Nat) (xs : Array Value) (T : Int) (ne : Nat) (acts : List Act) (ps : List Prt) (k : Nat) (v6 v : Value) (wr : World) : Prop :=
  ∃ (j : Nat) (bv : Int), v = .int .i64 j ∧ j + k = ps.length ∧ v6 = .int .i64 bv ∧ bv = wrap64 (baseS acts + sumN (prT T ne acts ps) j) ∧ PrOk T ne acts ps j ∧ PkS w wr X G acts.length xs (usL acts ps j)
def PC2 (w : World) (X G Q : Nat) (xs qs : Array Value) (acts : List Act) (arcs us : List Int) (tm : Int) (k : Nat) (v : Value) (wr : World) : Prop :=
  ∃ (i : Nat), v = .int .i64 i ∧ i + k = arcs.length ∧ PkS w wr X G acts.length xs (addL tm us (arcs.take i)) ∧ Blk wr Q 47 qs
def PC3 (w : World) (X G : Nat) (xs : Array Value) (acts : List Act) (us : List Int) (k : Nat) (v : Value) (wr : World) : Prop :=
  ∃ (j : Nat), v = .int .i64 j ∧ j + k = acts.length ∧ (∀ i, i < j → gi us i ≤ (ag acts i).wt) ∧ PkS w wr X G acts.length xs us
theorem take_nodup {l : List Int} (h : l.Nodup) (i : Nat) (hi : i < l.length) : l[i] ∉ l.take i := by
  intro hm
  obtain ⟨k, hk, e⟩ := List.mem_take_iff_getElem.1 hm
  unfold List.Nodup at h
  rw [List.pairwise_iff_getElem] at h
  exact h k i (by omega) hi (by omega) e
theorem chk_err {T : Int} {ne : Nat} {acts : List Act} {ps : List Prt} {er : Int} (hn : netB T ne acts = true) (h : prsE T ne acts ps = er) (h0 : er ≠ 0) : chkE T ne acts ps = er ∧ chkV T ne acts ps = 0 := by
  have : chkE T ne acts ps = er := by unfold chkE; rw [if_pos hn, h, if_neg h0]
  exact ⟨this, by unfold chkV; rw [this, if_neg h0]⟩

set_option maxRecDepth 100000 in
set_option maxHeartbeats 3200000 in
theorem check_any (T : Int) (AE AA Ap : Option Addr) (ne ce ca cp : Nat) (acts : List Act) (ps : List Prt) (w : World) (hA : Rd w w.heap.size 6 AA acts.length (acts.flatMap Act.cells)) (he : ne ≤ 4611686018427387904) (hl : acts.length ≤ 4611686018427387904) (hP : PrsRd w Ap ps) :
    Calls Try.prog 15 #[.agg #[.int .i64 T, .slice AE ne ce, .slice AA acts.length ca], .slice Ap ps.length cp] w (ChkOut T ne acts ps w) := by
  have HA := Lib.hid hA
  have HP := Lib.hid hP
  have hpn := hP.n
  clear hA hP
  obtain ⟨i0, a1, a2, a3, a4⟩ := info_parts infoInt
  have HI := Lib.hid (And.intro a1 (And.intro a2 (And.intro a3 a4)))
  clear a1 a2 a3 a4
  go_enter Try.func15, Try.ntmps15
  go_upto_region 1 with fail
  refine world_gen (fun w1 => FeN w w1 w.heap.size #[.int .i64 T, .slice AE ne ce, .slice AA acts.length ca]) ⟨(Below.refl _ _).alloc (Nat.le_refl _) _, Blk.new _ _ _⟩ ?_
  intro w0 hf0
  obtain ⟨X, hX⟩ : ∃ X, X = w.heap.size := ⟨_, rfl⟩
  rw [← hX] at ⊢
  rw [show FeN w w0 w.heap.size = FeN w w0 X by rw [hX]] at hf0
  have hXw : w.heap.size ≤ X := by omega
  clear hX
  have HF := Lib.hid hf0
  clear hf0
  have x0 := HF.out.x.cell 0
  have x1 := HF.out.x.cell 1
  have x2 := HF.out.x.cell 2
  simp at x0 x1 x2
  go_wp2_with fail
  refine (base_any T AE AA ne ce ca acts w0 ((HA.out.grow HF.out.bel).more HF.out.bel.size) he hl).mono ?_
  rintro e w1 ⟨rfl, hb1⟩
  have HF1 := Lib.hid (HF.out.grow hb1)
  clear x0 x1 x2 hb1 HF
  have HF := HF1
  clear HF1
  cases hn : netB T ne acts
  case false =>
    have HO := Lib.hid (show chkV T ne acts ps = 0 ∧ chkE T ne acts ps = 1 by unfold chkV chkE; rw [hn]; exact ⟨rfl, rfl⟩)
    rw [show baseV T ne acts = 0 by unfold baseV; rw [hn]; rfl, show baseE T ne acts = 1 by unfold baseE; rw [hn]; rfl]
    go_wp2_with fail
    go_ret2
    exact ⟨by rw [HO.out.1, HO.out.2]; rfl, HF.out.bel⟩
  rw [show baseV T ne acts = baseS acts by unfold baseV; rw [hn]; rfl, show baseE T ne acts = 0 by unfold baseE; rw [hn]; rfl]
  have HNB := Lib.hid hn
  have HN := Lib.hid (netB_iff.1 hn)
  have hna := (netB_iff.1 hn).n
  have hne := (netB_iff.1 hn).e
  have hbb := wmN_bd HN.out acts.length (Nat.le_refl _)
  rw [show sumN (wmT acts) acts.length = baseS acts from rfl] at hbb
  clear hn
  have x2 := HF.out.x.cell 2
  simp at x2
  have hxl := HF.out.x.lt
  go_upto_region 5 with (at_make; refine wpList_make_full _ rfl _ _ 22 rfl (X + 1) 3 i0 _ 1 Try.underlying22 HI.out.1 HI.out.2.1 HI.out.2.2.1 .i64 .i64 _ _ acts.length rfl rfl rfl rfl ?m1 ?m2 ?m3 ?_; rotate_right; intro w2 hown2 hg2)
  case m1 => rw [HI.out.2.2.2]; omega
  case m2 => simp only [maxLen]; omega
  case m3 => omega
  have hb2 : Below w1.heap.size w1 w2 := (Below.refl _ _).grown hg2 (Nat.le_refl _) (by simp)
  have HK := Lib.hid (show PkS w w2 X w1.heap.size acts.length #[.int .i64 T, .slice AE ne ce, .slice AA acts.length ca] (usL acts ps 0) from ⟨HF.out.grow hb2, by
    show w2.ownsRow _ _ _ _ _ ((List.replicate acts.length 0).map (Value.int .i64))
    rw [← madeCells_one]
    exact hown2, hXw⟩)
  clear hown2 hg2 hb2 HF x2 hxl
  generalize w1.heap.size = G at *
  have HB0 := Lib.hid (show baseS acts = wrap64 (baseS acts + sumN (prT T ne acts ps) 0) by show _ = wrap64 (baseS acts + 0); rw [IntWalk.wrap64_in _ (by omega)]; omega)
  go_wp2_with fail
  go_loopg [6, 10, 11, 12, 14, 31] ps.length (fun k v6 _ _ _ _ v wr => PC1 w X G #[.int .i64 T, .slice AE ne ce, .slice AA acts.length ca] T ne acts ps k v6 v wr)
  case atStart => exact ⟨0, _, rfl, by omega, rfl, HB0.out, fun i h hi => by omega, HK.out⟩
  case round =>
    obtain ⟨j, bv, rfl, hj, rfl, hbv, hok, hpk⟩ := hrel
    clear HK HB0
    have Hj := Lib.hid hj
    have Hbv := Lib.hid hbv
    have Hok := Lib.hid hok
    have HK := Lib.hid hpk
    clear hj hbv hok hpk
    by_cases hlt : j < ps.length
    · obtain ⟨bp, op, rfl, hbp, d0, d1, d2⟩ := rdPrt (HP.out.r.grow HK.out.f.bel) rfl j hlt
      have HCy := Lib.hid (HP.out.c ps[j] (List.getElem_mem hlt))
      have HPr := Lib.hid (show prE T ne acts ps[j] = if 1 ≤ ps[j].tm ∧ ps[j].tm ≤ 1048576 then gapE T ne acts ps[j].c.arcs ps[j].c.signs else 1 from rfl)
      have HStop := Lib.hid (show prE T ne acts ps[j] ≠ 0 → prsE T ne acts ps = prE T ne acts ps[j] from fun h => by rw [← prsE_pre j (by omega) Hok.out]; exact prsE_stop j hlt h)
      have HPt := Lib.hid (prT_at (T := T) (ne := ne) (acts := acts) j hlt)
      have HUs := Lib.hid (usL_succ (acts := acts) (ps := ps) j hlt)
      have HOkn := Lib.hid (show prE T ne acts ps[j] = 0 → PrOk T ne acts ps (j + 1) from fun h i hi hij => by
        rcases Nat.lt_or_ge i j with h2 | h2
        · exact Hok.out i hi h2
        · obtain rfl : i = j := by omega
          exact h)
      have HZe := Lib.hid (show prE T ne acts ps[j] = 0 → CycOk T ne acts ps[j].c.arcs ps[j].c.signs from fun h => (prE_zero h).2.2.1)
      have hgb := gapV_bd (T := T) (ne := ne) (acts := acts) (arcs := ps[j].c.arcs) (signs := ps[j].c.signs)
      have HUb : Hid (∀ b : Int, 0 ≤ b → 0 ≤ gi (usL acts ps j) b ∧ gi (usL acts ps j) b ≤ 1048576 * (j : Int)) := fun b hb => usL_bd j (by omega) Hok.out b hb
      have HUl := Lib.hid (usL_len (acts := acts) (ps := ps) j)
      have HSu : Hid (sumN (prT T ne acts ps) (j + 1) = sumN (prT T ne acts ps) j + prT T ne acts ps j) := rfl
      generalize usL acts ps j = us at *
      generalize prE T ne acts ps[j] = pe at *
      generalize ps[j] = p at *
      obtain ⟨⟨Ar, cr, As, cs, arcs, signs⟩, tm⟩ := p
      simp only at d0 d1 d2 HCy HPr HPt HUs HZe hgb
      go_upto_region 8 with fail
      refine world_gen (fun w6 => PkS w w6 X G acts.length #[.int .i64 T, .slice AE ne ce, .slice AA acts.length ca] us ∧ Blk w6 wr.heap.size 47 #[.slice Ar arcs.length cr, .slice As signs.length cs, .int .i64 tm]) ⟨HK.out.grow ((Below.refl _ _).alloc (Nat.le_refl _) _), Blk.new _ _ _⟩ ?_
      rintro w6 ⟨hk6, hq6⟩
      have hQX : X < wr.heap.size := HK.out.f.x.lt
      have hQG : G ≠ wr.heap.size := fun e => by have := (own_block HK.out.o G rfl).2; omega
      generalize wr.heap.size = Q at *
      clear HK d0 d1 d2
      have HK := Lib.hid hk6
      have HQ := Lib.hid hq6
      clear hk6 hq6
      have q0 := HQ.out.cell 0
      have q1 := HQ.out.cell 1
      have q2 := HQ.out.cell 2
      simp at q0 q1 q2
      by_cases ht : 1 ≤ tm ∧ tm ≤ 1048576
      case neg =>
        have hpe : pe = 1 := by have := HPr.out; rwa [if_neg ht] at this
        have HO := Lib.hid (chk_err HNB.out ((HStop.out (by omega)).trans hpe) (by decide))
        clear hpe
        by_cases ht1 : tm < 1
        · have ht1' : decide (tm < 1) = true := by simpa using ht1
          go_wp2_with fail
          go_ret2
          exact ⟨by rw [HO.out.1, HO.out.2]; rfl, HK.out.f.bel⟩
        · have ht1' : decide (tm < 1) = false := by simpa using ht1
          have ht2 : decide (1048576 < tm) = true := by simp; omega
          go_wp2_with fail
          go_ret2
          exact ⟨by rw [HO.out.1, HO.out.2]; rfl, HK.out.f.bel⟩
      have hpe : pe = gapE T ne acts arcs signs := by have := HPr.out; rwa [if_pos ht] at this
      obtain ⟨ht0, ht1⟩ := ht
      have x0 := HK.out.f.x.cell 0
      have x1 := HK.out.f.x.cell 1
      have x2 := HK.out.f.x.cell 2
      simp at x0 x1 x2
      go_wp2_with fail
      refine (gapof_any T AE AA Ar As ne ce ca cr cs acts arcs signs _ ((HCy.out.grow HK.out.f.bel).ncyc ((HA.out.grow HK.out.f.bel).more HK.out.f.bel.size) he hl)).mono ?_
      rintro e w7 ⟨rfl, hb7⟩
      have HK7 := Lib.hid (HK.out.grow hb7)
      have HQ7 := Lib.hid (HQ.out.bel hb7)
      clear HK HQ hb7 x0 x1 x2 q0 q1 q2
      have HK := HK7
      have HQ := HQ7
      clear HK7 HQ7
      rw [← hpe]
      clear hpe
      by_cases h0 : pe = 0
      case neg =>
        have HO := Lib.hid (chk_err HNB.out (HStop.out h0) h0)
        have h0' : (pe != 0) = true := by simpa using h0
        go_wp2_with fail
        go_ret2
        exact ⟨by rw [HO.out.1, HO.out.2]; rfl, HK.out.f.bel⟩
      have HOk2 := Lib.hid (HOkn.out h0)
      have HCk := Lib.hid (HZe.out h0)
      rw [h0]
      clear h0 HPr HStop HOkn HZe
      have HBn := Lib.hid (show wrap64 (bv + tm * gapV T ne acts arcs signs) = wrap64 (baseS acts + sumN (prT T ne acts ps) (j + 1)) by rw [HSu.out, HPt.out, Hbv.out, wrap64_add]; congr 1; omega)
      have hmg := mul_bd2 tm (gapV T ne acts arcs signs) 1048576 67108864 (by omega) ht1 hgb.1 hgb.2
      generalize gapV T ne acts arcs signs = gv at *
      obtain ⟨hg0, hg1⟩ := hgb
      obtain ⟨hm0, hm1⟩ := hmg
      have q0 := HQ.out.cell 0
      have q2 := HQ.out.cell 2
      simp at q0 q2
      go_wp2_with fail
      clear q0 q2
      have hal := HCk.out.sum.n
      have HNd := Lib.hid HCk.out.nodup
      have HRg := Lib.hid HCk.out.range
      go_loopg [14, 63] arcs.length (fun k _ v wr => PC2 w X G Q #[.int .i64 T, .slice AE ne ce, .slice AA acts.length ca] #[.slice Ar arcs.length cr, .slice As signs.length cs, .int .i64 tm] acts arcs us tm k v wr)
      case atStart => exact ⟨0, rfl, by omega, HK.out, HQ.out⟩
      case round =>
        obtain ⟨i, rfl, hi, hk, hq⟩ := hrel
        clear HK HQ
        have Hi := Lib.hid hi
        have HK := Lib.hid hk
        have HQ := Lib.hid hq
        clear hi hk hq
        by_cases hil : i < arcs.length
        · obtain ⟨br, orr, rfl, hbr, r0⟩ := rd1 ((HCy.out.r).grow HK.out.f.bel) i hil
          have HTk := Lib.hid (List.take_succ_eq_append_getElem hil)
          have hrg := HRg.out arcs[i] (List.getElem_mem hil)
          have hni : arcs[i] ∉ arcs.take i := take_nodup HNd.out i hil
          have hlen : (addL tm us (arcs.take i)).length = acts.length := by rw [addL_len]; exact HUl.out
          have hgi : gi (addL tm us (arcs.take i)) arcs[i] = gi us arcs[i] := by
            rw [addL_gi tm (arcs.take i) us arcs[i] (List.Nodup.sublist (List.take_sublist _ _) HNd.out) (fun x hx => by rw [HUl.out]; exact HRg.out x (List.mem_of_mem_take hx)) hrg.1, if_neg hni]
            omega
          have hub := HUb.out arcs[i] hrg.1
          have HAp := Lib.hid (addL_app tm (arcs.take i) us arcs[i])
          rw [hgi] at HAp
          simp only at r0
          generalize arcs[i] = ar at *
          obtain ⟨a, rfl⟩ := Int.eq_ofNat_of_zero_le hrg.1
          have hal2 : a < (addL tm us (arcs.take i)).length := by rw [hlen]; omega
          have u0 := own1 HK.out.o a hal2
          rw [← gi_nat _ a hal2, hgi] at u0
          have HFz : Hid (∀ w6, Below wr.heap.size wr w6 → w6.frozen? ⟨G, a, none⟩ = false) := fun w6 hb => (own_grow HK.out.o hb).frozenAt a
          have haA : a < acts.length := by omega
          generalize gi us (a : Int) = uv at *
          obtain ⟨hu0, hu1⟩ := hub
          have q2 := HQ.out.cell 2
          simp at q2
          have hql := HQ.out.lt
          have hgl := (own_block HK.out.o G rfl).2
          clear hni hgi hlen hal2 hrg
          go_upto_region 17 with fail
          have e1 : IntKind.i64.wrap (uv + tm) = uv + tm := IntWalk.i64_in _ (by omega)
          refine wp_region_overT 7 (by kernel_rfl) (by kernel_rfl) ?_
          simp only [List.take_succ_cons, List.take_zero, List.drop_succ_cons, List.drop_zero]
          repeat (go_big_quiet_step ((fail)))
          refine wpQuiet_nil ?_
          intro w9 hb9
          clear e1
          have u9 := cell_bel hb9 u0
          have f9 := HFz.out w9 hb9
          have HK9 := Lib.hid ((HK.out.grow hb9).set a (uv + tm))
          have HQ9 := Lib.hid ((HQ.out.bel hb9).far (b := G) (o := a) (u := .int .i64 (uv + tm)) hQG)
          simp only [Int.toNat_natCast] at HAp
          rw [← HAp.out, ← HTk.out] at HK9
          clear HK HQ HFz hb9 u0 q2 hql hgl r0
          go_wp2_with fail
          go_roundg (arcs.length - i - 1)
          case measure => have := Hi.out; omega
          case rel => exact ⟨i + 1, by first | rfl | go_num, by omega, HK9.out, HQ9.out⟩
        · obtain rfl : i = arcs.length := by have := Hi.out; omega
          rw [List.take_length, ← HUs.out] at HK
          go_wp2_with fail
          go_roundg (ps.length - j - 1)
          case measure => have := Hj.out; omega
          case rel => exact ⟨j + 1, _, by first | rfl | go_num, by omega, rfl, by first | exact HBn.out | (rw [← HBn.out]; rfl), HOk2.out, HK.out⟩
    · obtain rfl : j = ps.length := by have := Hj.out; omega
      have HE := Lib.hid (show prsE T ne acts ps = 0 by rw [← prsE_pre ps.length (Nat.le_refl _) Hok.out, List.drop_length]; rfl)
      have HUb : Hid (∀ b : Int, 0 ≤ b → 0 ≤ gi (usL acts ps ps.length) b ∧ gi (usL acts ps ps.length) b ≤ 1048576 * (ps.length : Int)) := fun b hb => usL_bd ps.length (Nat.le_refl _) Hok.out b hb
      have HUl := Lib.hid (usL_len (acts := acts) (ps := ps) ps.length)
      have HOv := Lib.hid (show ∀ i, i < acts.length → (ag acts (i : Nat)).wt < gi (usL acts ps ps.length) i → chkE T ne acts ps = 4 ∧ chkV T ne acts ps = 0 from fun i hi h => by
        have : overB acts (usL acts ps ps.length) = true := by
          unfold overB
          rw [List.any_eq_true]
          exact ⟨i, List.mem_range.2 hi, by simpa using h⟩
        have h4 : chkE T ne acts ps = 4 := by unfold chkE; rw [if_pos HNB.out, if_pos HE.out, if_pos this]
        exact ⟨h4, by unfold chkV; rw [h4]; rfl⟩)
      have HFin := Lib.hid (show (∀ i, i < acts.length → gi (usL acts ps ps.length) (i : Nat) ≤ (ag acts i).wt) → chkE T ne acts ps = 0 ∧ chkV T ne acts ps = bv from fun h => by
        have ho : overB acts (usL acts ps ps.length) = false := by
          unfold overB
          rw [List.any_eq_false]
          intro i hi
          have := h i (List.mem_range.1 hi)
          simp; omega
        have h0 : chkE T ne acts ps = 0 := by unfold chkE; rw [if_pos HNB.out, if_pos HE.out, ho]; rfl
        refine ⟨h0, ?_⟩
        unfold chkV
        have hs := chk_small HN.out Hok.out ho
        rw [if_pos h0, Hbv.out, IntWalk.wrap64_in _ (by omega)])
      clear Hj Hok HE Hbv hlt
      generalize usL acts ps ps.length = us at *
      have x2 := HK.out.f.x.cell 2
      simp at x2
      go_wp2_with fail
      clear x2
      go_loopg [15, 16, 80] acts.length (fun k _ _ v wr => PC3 w X G #[.int .i64 T, .slice AE ne ce, .slice AA acts.length ca] acts us k v wr)
      case atStart => exact ⟨0, rfl, by omega, fun i hi => by omega, HK.out⟩
      case round =>
        obtain ⟨j, rfl, hj, hle, hk⟩ := hrel
        clear HK
        have Hj := Lib.hid hj
        have Hle := Lib.hid hle
        have HK := Lib.hid hk
        clear hj hle hk
        by_cases hlt : j < acts.length
        · obtain ⟨ba, oa, rfl, hba, d0, d1, d2, d3, d4, d5⟩ := rdAct (HA.out.grow HK.out.f.bel) rfl j hlt
          have Hov := Lib.hid (HOv.out j hlt)
          have Hnx : Hid (gi us j ≤ (ag acts j).wt → ∀ i, i < j + 1 → gi us i ≤ (ag acts i).wt) := fun h i hi => by
            rcases Nat.lt_or_ge i j with h2 | h2
            · exact Hle.out i h2
            · obtain rfl : i = j := by omega
              exact h
          have hjl : j < us.length := by rw [HUl.out]; exact hlt
          have u0 := own1 HK.out.o j hjl
          rw [← gi_nat us j hjl] at u0
          have hub := HUb.out (j : Int) (by omega)
          rw [ag_nat acts j hlt] at Hov Hnx
          generalize gi us (j : Int) = uv at *
          generalize acts[j] = aa at *
          obtain ⟨kd, fr, tt, mn, mx, wt⟩ := aa
          simp only at d0 d1 d2 d3 d4 d5 Hov Hnx
          go_upto_region 23 with fail
          refine world_gen (fun w6 => PkS w w6 X G acts.length #[.int .i64 T, .slice AE ne ce, .slice (some ⟨ba, oa, none⟩) acts.length ca] us ∧ Blk w6 wr.heap.size 61 #[.int .i64 kd, .int .i64 fr, .int .i64 tt, .int .i64 mn, .int .i64 mx, .int .i64 wt] ∧ Below wr.heap.size wr w6) ⟨HK.out.grow ((Below.refl _ _).alloc (Nat.le_refl _) _), Blk.new _ _ _, (Below.refl _ _).alloc (Nat.le_refl _) _⟩ ?_
          rintro w6 ⟨hk6, ha6, hb6⟩
          have u6 := cell_bel hb6 u0
          have a5 := ha6.cell 5
          simp at a5
          have hl6 := ha6.lt
          have HK6 := Lib.hid hk6
          clear hk6 ha6 hb6 u0 HK d0 d1 d2 d3 d4 d5
          go_quiet (fail)
          by_cases ho : wt < uv
          · have HO := Lib.hid (Hov.out ho)
            go_wp2_with fail
            go_ret2
            exact ⟨by rw [HO.out.1, HO.out.2]; rfl, (by have hbelh := HK6.out.f.bel; have hbels := hbelh.size; exact (by repeat (first | exact Below.refl _ _ | (with_reducible refine Below.drew ?_) | (with_reducible refine below_drewN ?_ _) | (with_reducible refine Below.alloc ?_ (by first | omega | (simp; done) | (simp; omega)) _) | (with_reducible refine Below.setCell ?_ (by first | omega | (simp; done) | (simp; omega)) _) | (refine Below.trans ?_ (Below.mono (by with_reducible assumption) (by first | omega | (simp; done) | (simp; omega)))))))⟩
          · have HN2 := Lib.hid (Hnx.out (by omega))
            go_wp2_with fail
            go_roundg (acts.length - j - 1)
            case measure => have := Hj.out; omega
            case rel => exact ⟨j + 1, by first | rfl | go_num, by omega, HN2.out, HK6.out.grow (below_drewN (Below.refl _ _) _)⟩
        · have HO := Lib.hid (HFin.out (fun i hi => Hle.out i (by omega)))
          go_wp2_with fail
          go_ret2
          exact ⟨by rw [HO.out.1, HO.out.2]; rfl, HK.out.f.bel⟩
end Go.Proofs.Ytbmbdenjlbelaaa
