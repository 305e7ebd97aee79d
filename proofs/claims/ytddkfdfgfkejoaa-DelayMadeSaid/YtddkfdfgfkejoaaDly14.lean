import Derived.Test.YtddkfdfgfkejoaaDly13
namespace Go.Proofs.Ytddkfdfgfkejoaa
open Go.RowKit

/-- the blocks of the reference's propagation -/
structure QrS (w1 wr : World) (n m GO GK : Nat) (sec : List Int) (kept : List Bool) : Prop where
  os : wr.ownsRow w1.heap.size 3 1 (.slice (some ⟨GO, 0, none⟩) n n) n (sec.map (Value.int .i64))
  ok : wr.ownsRow w1.heap.size 4 1 (.slice (some ⟨GK, 0, none⟩) m m) m (kept.map Value.bool)
  bel : Below w1.heap.size w1 wr
theorem QrS.grow {w1 wr w' : World} {n m GO GK : Nat} {sec : List Int} {kept : List Bool} (h : QrS w1 wr n m GO GK sec kept) (hb : Below wr.heap.size wr w') : QrS w1 w' n m GO GK sec kept :=
  ⟨own_grow h.os hb, own_grow h.ok hb, h.bel.trans (hb.mono h.bel.size)⟩
structure QrT (w1 wr : World) (n m GO GK : Nat) (vo : Value) (ord : List Int) (sec : List Int) (kept : List Bool) : Prop where
  os : wr.ownsRow w1.heap.size 3 1 (.slice (some ⟨GO, 0, none⟩) n n) n (sec.map (Value.int .i64))
  ok : wr.ownsRow w1.heap.size 4 1 (.slice (some ⟨GK, 0, none⟩) m m) m (kept.map Value.bool)
  bel : Below w1.heap.size w1 wr
  oo : ∃ B, wr.ownsRow B 3 1 vo n (ord.map (Value.int .i64)) ∧ GO < B ∧ GK < B
section
variable {w1 wr w' : World} {n m GO GK : Nat} {vo : Value} {ord sec : List Int} {kept : List Bool}
theorem QrT.grow (h : QrT w1 wr n m GO GK vo ord sec kept) (hb : Below wr.heap.size wr w') : QrT w1 w' n m GO GK vo ord sec kept := by
  obtain ⟨B, h1, h2, h3⟩ := h.oo
  exact ⟨own_grow h.os hb, own_grow h.ok hb, h.bel.trans (hb.mono h.bel.size), B, own_grow h1 hb, h2, h3⟩
theorem QrT.setK (h : QrT w1 wr n m GO GK vo ord sec kept) (a : Nat) (x : Bool) : QrT w1 (wr.setCell ⟨GK, a, none⟩ (.bool x)) n m GO GK vo ord sec (kept.set a x) := by
  obtain ⟨B, h1, h2, h3⟩ := h.oo
  exact ⟨own_far h.os (ne_far (own_ne h.os h.ok (by decide)) rfl), own1_set h.ok a x, h.bel.setCell (p := ⟨GK, a, none⟩) (own_block h.ok GK rfl).1 _, B, own_far h1 (fun e => by have := (own_block h1 _ e).1; simp at this; omega), h2, h3⟩
theorem QrT.setS (h : QrT w1 wr n m GO GK vo ord sec kept) (a : Nat) (x : Int) : QrT w1 (wr.setCell ⟨GO, a, none⟩ (.int .i64 x)) n m GO GK vo ord (sec.set a x) kept := by
  obtain ⟨B, h1, h2, h3⟩ := h.oo
  exact ⟨own1_set h.os a x, own_far h.ok (ne_far (own_ne h.ok h.os (by decide)) rfl), h.bel.setCell (p := ⟨GO, a, none⟩) (own_block h.os GO rfl).1 _, B, own_far h1 (fun e => by have := (own_block h1 _ e).1; simp at this; omega), h2, h3⟩
end
def Qr1 (w1 : World) (ms : List Mom) (ws : List Wt) (ps : List Pri) (vo : Value) (ord : List Int) (GO GK k : Nat) (v : Value) (wr : World) : Prop :=
  ∃ (t : Nat) (base sec : List Int) (kept : List Bool), v = .int .i64 t ∧ t + k = ord.length ∧ PrI ms ws ps ord t base sec kept ∧ QrT w1 wr ms.length ws.length GO GK vo ord sec kept
def Qr2 (w1 : World) (ms : List Mom) (ws : List Wt) (vo : Value) (ord : List Int) (i : Int) (sec : List Int) (kept : List Bool) (GO GK k : Nat) (v15 v16 v : Value) (wr : World) : Prop :=
  ∃ (a : Nat) (kept' : List Bool), v = .int .i64 a ∧ a + k = ws.length ∧ v16 = .bool ((ws.take a).foldl (stepB ms sec i) (false, 0)).1 ∧ v15 = .int .i64 ((ws.take a).foldl (stepB ms sec i) (false, 0)).2 ∧ Kup ms ws sec i kept kept' a ∧ QrT w1 wr ms.length ws.length GO GK vo ord sec kept'

set_option maxRecDepth 100000 in
set_option maxHeartbeats 6400000 in
theorem rpropa_any (A B C : Option Addr) (a b c a' b' c' : Nat) (ms : List Mom) (ws : List Wt) (ps : List Pri) (w : World) (hA : Rd w w.heap.size 2 A a (ms.flatMap Mom.cells)) (hB : Rd w w.heap.size 4 B b (ws.flatMap Wt.cells)) (hC : Rd w w.heap.size 2 C c (ps.flatMap Pri.cells))
    (ha : a = ms.length) (hb : b = ws.length) (hc : c = ps.length) (hal : ms.length ≤ 4611686018427387904) (hbl : ws.length ≤ 4611686018427387904) (hcl : ps.length ≤ 4611686018427387904) (hcc : ps.length ≤ c') (hcm : c' ≤ maxLen) :
    Calls Try.prog 16 #[.slice A a a', .slice B b b', .slice C c c'] w (PropaOut ms ws ps w) := by
  subst ha hb hc
  have HA := Lib.hid hA
  have HB := Lib.hid hB
  have HC := Lib.hid hC
  clear hA hB hC
  obtain ⟨i0, hi0, hz0, hz1, hz2⟩ := info_parts infoInt
  have HI := Lib.hid (And.intro hi0 (And.intro hz0 (And.intro hz1 hz2)))
  obtain ⟨j0, hj0, hy0, hy1, hy2⟩ := info_parts infoBool
  have HJ := Lib.hid (And.intro hj0 (And.intro hy0 (And.intro hy1 hy2)))
  clear hi0 hz0 hz1 hz2 hj0 hy0 hy1 hy2
  go_enter Try.func16, Try.ntmps16
  go_wp2_with fail
  refine (rcheck_any A B C _ _ _ a' b' c' ms ws ps w HA.out HB.out HC.out rfl rfl rfl hal hbl hcl hcc hcm).mono ?_
  rintro e w1 ⟨hb1, hcase⟩
  have Hb1 := Lib.hid hb1
  have hsz1 := hb1.size
  clear hb1
  rcases hcase with ⟨hv, rfl⟩ | ⟨hv, rfl⟩
  case inr =>
    have HV := Lib.hid hv
    clear hv
    go_wp2_with fail
    go_ret3
    exact ⟨Hb1.out, .inr ⟨HV.out, rfl⟩⟩
  have HV := Lib.hid hv
  have HBa := Lib.hid hv.1
  have hs1 : ms.length ≤ 64 := hv.1.m
  have hs2 : ws.length ≤ 200 := hv.1.w
  have hs3 : ps.length ≤ 64 := hv.1.p
  clear hv
  go_upto_region 4 with (at_make; refine wpList_make_full _ rfl _ _ 22 rfl w1.heap.size 3 i0 _ 1 Try.underlying22 HI.out.1 HI.out.2.1 HI.out.2.2.1 .i64 .i64 _ _ ms.length rfl rfl rfl rfl ?m1 ?m2 ?m3 ?_; rotate_right; intro w2 hown2 hg2)
  case m1 => rw [HI.out.2.2.2]; omega
  case m2 => simp only [maxLen]; omega
  case m3 => omega
  have hown2' : w2.ownsRow w1.heap.size 3 1 (.slice (some ⟨w1.heap.size, 0, none⟩) ms.length ms.length) ms.length ((List.replicate ms.length (0 : Int)).map (Value.int .i64)) := by
    have := madeCells_one (Value.int .i64) 0 ms.length
    rw [← this]
    exact hown2
  have Hb2 := Lib.hid (show Below w1.heap.size w1 w2 from (Below.refl _ _).grown hg2 (Nat.le_refl _) (by simp))
  have HO2 := Lib.hid hown2'
  have hsz2 := Hb2.out.size
  clear hown2 hown2' hg2
  go_upto_region 5 with (at_make; refine wpList_make_full _ rfl _ _ 28 rfl w1.heap.size 4 j0 _ 1 Try.underlying28 HJ.out.1 HJ.out.2.1 HJ.out.2.2.1 .i64 .i64 _ _ ws.length rfl rfl rfl rfl ?m1 ?m2 ?m3 ?_; rotate_right; intro w3 hown3 hg3)
  case m1 => rw [HJ.out.2.2.2]; omega
  case m2 => simp only [maxLen]; omega
  case m3 => omega
  have hown3' : w3.ownsRow w1.heap.size 4 1 (.slice (some ⟨w2.heap.size, 0, none⟩) ws.length ws.length) ws.length ((List.replicate ws.length false).map Value.bool) := by
    have := madeCells_one Value.bool false ws.length
    rw [← this]
    exact hown3
  have hb3 : Below w2.heap.size w2 w3 := (Below.refl _ _).grown hg3 (Nat.le_refl _) (by simp)
  have HQ3 := Lib.hid (show QrS w1 w3 ms.length ws.length w1.heap.size w2.heap.size (List.replicate ms.length 0) (List.replicate ws.length false) from ⟨own_grow HO2.out hb3, hown3', Hb2.out.trans (hb3.mono hsz2)⟩)
  clear hown3 hown3' hg3 hb3 HO2 Hb2 hsz2
  generalize w2.heap.size = GK at *
  obtain ⟨GO, hGO⟩ : ∃ GO, GO = w1.heap.size := ⟨_, rfl⟩
  rw [← hGO] at ⊢
  rw [show QrS w1 w3 ms.length ws.length w1.heap.size GK (List.replicate ms.length 0) (List.replicate ws.length false) = QrS w1 w3 ms.length ws.length GO GK (List.replicate ms.length 0) (List.replicate ws.length false) by rw [hGO]] at HQ3
  clear hGO
  go_wp2_with fail
  refine (rtopo_any ms.length B ws.length b' ws w3 (((HB.out.grow Hb1.out).more Hb1.out.size |>.grow HQ3.out.bel).more HQ3.out.bel.size) rfl hs1 hs2 (fun k hk => (wtB_ok _ _).1 (HBa.out.wAll k hk))).mono ?_
  rintro e w4 ⟨hb4, hcase⟩
  rcases hcase with ⟨v, ord, rfl, htopo, hol, hown⟩ | ⟨hac, rfl⟩
  case inr => exact absurd HV.out.2 hac
  obtain ⟨Ao, co, rfl, hco, hmo⟩ := own_slice hown
  have HT := Lib.hid htopo
  have Hol := Lib.hid hol
  have HQ := Lib.hid (show QrT w1 w4 ms.length ws.length GO GK (.slice Ao ms.length co) ord (List.replicate ms.length 0) (List.replicate ws.length false) from
    ⟨own_grow HQ3.out.os hb4, own_grow HQ3.out.ok hb4, HQ3.out.bel.trans (hb4.mono HQ3.out.bel.size), w3.heap.size, hown, (own_block HQ3.out.os GO rfl).2, (own_block HQ3.out.ok GK rfl).2⟩)
  clear htopo hol hown hb4 HQ3
  unfold maxLen at hmo
  go_wp2_with fail
  go_loopg [14, 15, 16, 17, 18, 19, 40, 46] ms.length (fun k _ _ _ _ _ _ v _ wr => Qr1 w1 ms ws ps (.slice Ao ms.length co) ord GO GK k v wr)
  case atStart => exact ⟨0, _, _, _, rfl, by rw [Hol.out]; omega, pr_start ms ws ps ord, HQ.out⟩
  case round =>
    obtain ⟨t, base, sec, kept, rfl, ht, hpr, hprs⟩ := hrel
    rw [Hol.out] at ht
    have Ht := Lib.hid ht
    have HPr := Lib.hid hpr
    clear HQ
    have HP := Lib.hid hprs
    clear ht hpr hprs
    by_cases hlt0 : t < ms.length
    · have hlt : t < ord.length := by rw [Hol.out]; exact hlt0
      obtain ⟨bo, oo, rfl, hbo, qo⟩ := rd1 (Rd.of_own HP.out.oo.choose_spec.1) t hlt
      have hin := HT.out.lt ord[t] (List.getElem_mem hlt)
      generalize hoi : ord[t] = oi at *
      have Hoi := Lib.hid hoi
      clear hoi
      obtain ⟨hi0, hi1⟩ := hin
      obtain ⟨i, rfl⟩ := Int.eq_ofNat_of_zero_le hi0
      have him : i < ms.length := by omega
      have htm : 0 ≤ tm ms i ∧ tm ms i ≤ 4194304 := by
        have := HBa.out.mAll ms[i] (List.getElem_mem him)
        rw [tm_nat ms i him]; simpa [clkB] using this
      obtain ⟨htm0, htm1⟩ := htm
      generalize htme : tm ms i = tmi at *
      have Htme := Lib.hid htme
      clear htme
      obtain ⟨wo, rfl⟩ : ∃ wo : World, wo = wr := ⟨_, rfl⟩
      go_wp2_with fail
      clear qo
      go_loopg [15, 16, 17, 18, 19, 46] ws.length (fun k v15 v16 _ _ _ v wr => Qr2 w1 ms ws (.slice (some ⟨bo, oo, none⟩) ms.length co) ord i sec kept GO GK k v15 v16 v wr)
      case atStart => exact ⟨0, kept, rfl, by omega, rfl, rfl, ⟨HPr.out.lk, fun b hb => by simp⟩, HP.out⟩
      case round =>
        obtain ⟨a, kept', rfl, ha, rfl, rfl, hkup, hprs⟩ := hrel
        have Ha := Lib.hid ha
        have HKu := Lib.hid hkup
        have HP2 := Lib.hid hprs
        clear ha hkup hprs HP
        by_cases hlta : a < ws.length
        · obtain ⟨bw, ow, rfl, hbw, d0, d1, d2, d3⟩ := rdWt ((HB.out.grow Hb1.out).more Hb1.out.size |>.grow HP2.out.bel) rfl a hlta
          have hwk := (wtB_ok _ _).1 (HBa.out.wAll ws[a] (List.getElem_mem hlta))
          have htf := take_fold (ms := ms) (sec := sec) (i := i) hlta (false, 0)
          have Hskip := Lib.hid (fun h => HKu.out.skip hlta h)
          have Htake := Lib.hid (fun h => HKu.out.take hlta h)
          generalize hk : ws[a] = kk at *
          generalize (ws.take a).foldl (stepB ms sec i) (false, 0) = st at *
          obtain ⟨sb, sv⟩ := st
          have Htf := Lib.hid htf
          clear hk htf HKu
          obtain ⟨kf, kt, km, kx⟩ := kk
          simp only at d0 d1 d2 d3 Hskip Htake
          by_cases hti : kt = (i : Int)
          · subst hti
            have hti' : ((i : Int) != (i : Int)) = false := by simp
            obtain ⟨f, rfl⟩ := Int.eq_ofNat_of_zero_le (show 0 ≤ kf from hwk.f0)
            have hfn : f < ms.length := by have := hwk.f1; simp only at this; omega
            have hkm0 : 0 ≤ km := hwk.m0
            have hkm1 : km ≤ 4194304 := hwk.m1
            have hkx0 : -1 ≤ kx := hwk.x0
            have hkx1 : kx ≤ 4194304 := hwk.x1
            have hlo := HPr.out.lo f (by omega) (by omega)
            have hsl : f < sec.length := by rw [HPr.out.ls]; exact hfn
            have q0 := own1 HP2.out.os f hsl
            rw [show sec[f] = gi sec f from (gi_nat sec f hsl).symm] at q0
            have htl : t < 64 := by omega
            have hrd : rdy sec ⟨f, i, km, kx⟩ = gi sec f + km := rfl
            have Hrd := Lib.hid hrd
            have hkb : keptB ms sec ⟨f, i, km, kx⟩ = (kx == -1 || decide (gi sec f + km ≤ tmi + kx)) := by unfold keptB; rw [hrd, Htme.out]
            have Hkb := Lib.hid hkb
            have HK3 := Lib.hid (Htake.out rfl)
            obtain ⟨hlo0, hlo1⟩ := hlo
            have hlo2 : gi sec f ≤ 541065216 := by omega
            clear hwk hrd hkb Htake Hskip hlo1 hsl
            generalize gi sec f = rv at *
            have zO := (own_block HP2.out.os GO rfl).2
            have zK := (own_block HP2.out.ok GK rfl).2
            have hwr : IntKind.i64.wrap (rv + km) = rv + km := IntWalk.i64_in _ (by omega)
            have hwr2 : IntKind.i64.wrap (tmi + kx) = tmi + kx := IntWalk.i64_in _ (by omega)
            cases hx : (kx == -1)
            · cases hle : decide (rv + km ≤ tmi + kx)
              · rw [Hkb.out, hx, hle] at HK3
                simp only [Bool.or_self] at HK3
                have Hst := Lib.hid (show stepB ms sec i (sb, sv) ⟨f, i, km, kx⟩ = (sb, sv) by unfold stepB; rw [Hkb.out, hx, hle]; simp)
                go_upto_region 14 with fail
                refine wp_region_overL (by kernel_rfl) (by kernel_rfl) ?_
                repeat (go_big_quiet_step ((fail)))
                refine wpQuiet_nil ?_
                intro w5 hb5
                have hb5' : Below wr.heap.size wr w5 := ((Below.refl _ _).alloc (Nat.le_refl _) _).trans (hb5.mono (by simp))
                have HP5 := Lib.hid (HP2.out.grow hb5')
                have HX5 := Lib.hid ((Blk.new wr 35 #[.int .i64 (f : Int), .int .i64 (i : Int), .int .i64 km, .int .i64 kx]).same (hb5.block _ (by simp)))
                clear HP2 hb5 hb5' d0 d1 d2 d3 q0 zO zK
                generalize wr.heap.size = bx at *
                have x3 := HX5.out.cell 3
                simp at x3
                have hbx5 : bx < w5.heap.size := HX5.out.lt
                have zK := (own_block HP5.out.ok GK rfl).2
                obtain ⟨bm, om, rfl, hbm2, m0, _⟩ := rdMom ((HA.out.grow Hb1.out).more Hb1.out.size |>.grow HP5.out.bel) rfl i him
                rw [← tm_nat ms i him, Htme.out] at m0
                have hbm5 : bm < w5.heap.size := World.block_lt_of_cell? _ _ m0
                go_upto_region 15 with fail
                refine wp_region_overT 17 (by kernel_rfl) (by kernel_rfl) ?_
                simp only [List.take_succ_cons, List.take_zero, List.drop_succ_cons, List.drop_zero]
                repeat (go_big_quiet_step ((fail)))
                refine wpQuiet_nil ?_
                intro w6 hb6
                have HP6 := Lib.hid (HP5.out.grow hb6)
                clear HP5 HX5 hb6 x3 hbx5 zK m0 hbm5
                have ka := own1 HP6.out.ok a (by have := own1_len HP6.out.ok; omega)
                have fa := HP6.out.ok.frozenAt a
                have HP7 := Lib.hid (HP6.out.setK a false)
                go_upto_region 16 with fail
                clear ka fa HP6
                generalize w6.setCell ⟨GK, a, none⟩ (.bool false) = w7 at *
                have ka := own1 HP7.out.ok a (by have := own1_len HP7.out.ok; omega)
                rw [List.getElem_set_self] at ka
                go_wp2_with fail
                go_roundg (ws.length - a - 1)
                case measure => have := Ha.out; omega
                case rel => exact ⟨a + 1, _, by first | rfl | go_num, by omega, by rw [Htf.out, Hst.out], by rw [Htf.out, Hst.out], HK3.out, HP7.out⟩
              · rw [Hkb.out, hx, hle] at HK3
                simp only [Bool.or_true] at HK3
                cases sb
                · have Hst := Lib.hid (show stepB ms sec i (false, sv) ⟨f, i, km, kx⟩ = (true, rv + km) by unfold stepB; rw [Hkb.out, hx, hle, Hrd.out]; simp)
                  go_upto_region 14 with fail
                  refine wp_region_overL (by kernel_rfl) (by kernel_rfl) ?_
                  repeat (go_big_quiet_step ((fail)))
                  refine wpQuiet_nil ?_
                  intro w5 hb5
                  have hb5' : Below wr.heap.size wr w5 := ((Below.refl _ _).alloc (Nat.le_refl _) _).trans (hb5.mono (by simp))
                  have HP5 := Lib.hid (HP2.out.grow hb5')
                  have HX5 := Lib.hid ((Blk.new wr 35 #[.int .i64 (f : Int), .int .i64 (i : Int), .int .i64 km, .int .i64 kx]).same (hb5.block _ (by simp)))
                  clear HP2 hb5 hb5' d0 d1 d2 d3 q0 zO zK
                  generalize wr.heap.size = bx at *
                  have x3 := HX5.out.cell 3
                  simp at x3
                  have hbx5 : bx < w5.heap.size := HX5.out.lt
                  have zK := (own_block HP5.out.ok GK rfl).2
                  obtain ⟨bm, om, rfl, hbm2, m0, _⟩ := rdMom ((HA.out.grow Hb1.out).more Hb1.out.size |>.grow HP5.out.bel) rfl i him
                  rw [← tm_nat ms i him, Htme.out] at m0
                  have hbm5 : bm < w5.heap.size := World.block_lt_of_cell? _ _ m0
                  go_upto_region 15 with fail
                  refine wp_region_overT 17 (by kernel_rfl) (by kernel_rfl) ?_
                  simp only [List.take_succ_cons, List.take_zero, List.drop_succ_cons, List.drop_zero]
                  repeat (go_big_quiet_step ((fail)))
                  refine wpQuiet_nil ?_
                  intro w6 hb6
                  have HP6 := Lib.hid (HP5.out.grow hb6)
                  clear HP5 HX5 hb6 x3 hbx5 zK m0 hbm5
                  have ka := own1 HP6.out.ok a (by have := own1_len HP6.out.ok; omega)
                  have fa := HP6.out.ok.frozenAt a
                  have HP7 := Lib.hid (HP6.out.setK a true)
                  go_upto_region 16 with fail
                  clear ka fa HP6
                  generalize w6.setCell ⟨GK, a, none⟩ (.bool true) = w7 at *
                  have ka := own1 HP7.out.ok a (by have := own1_len HP7.out.ok; omega)
                  rw [List.getElem_set_self] at ka
                  go_wp2_with fail
                  go_roundg (ws.length - a - 1)
                  case measure => have := Ha.out; omega
                  case rel => exact ⟨a + 1, _, by first | rfl | go_num, by omega, by rw [Htf.out, Hst.out], by rw [Htf.out, Hst.out], HK3.out, HP7.out⟩
                · by_cases hgt : sv < rv + km
                  · have Hst := Lib.hid (show stepB ms sec i (true, sv) ⟨f, i, km, kx⟩ = (true, rv + km) by unfold stepB; rw [Hkb.out, hx, hle, Hrd.out]; simp [hgt])
                    go_upto_region 14 with fail
                    refine wp_region_overL (by kernel_rfl) (by kernel_rfl) ?_
                    repeat (go_big_quiet_step ((fail)))
                    refine wpQuiet_nil ?_
                    intro w5 hb5
                    have hb5' : Below wr.heap.size wr w5 := ((Below.refl _ _).alloc (Nat.le_refl _) _).trans (hb5.mono (by simp))
                    have HP5 := Lib.hid (HP2.out.grow hb5')
                    have HX5 := Lib.hid ((Blk.new wr 35 #[.int .i64 (f : Int), .int .i64 (i : Int), .int .i64 km, .int .i64 kx]).same (hb5.block _ (by simp)))
                    clear HP2 hb5 hb5' d0 d1 d2 d3 q0 zO zK
                    generalize wr.heap.size = bx at *
                    have x3 := HX5.out.cell 3
                    simp at x3
                    have hbx5 : bx < w5.heap.size := HX5.out.lt
                    have zK := (own_block HP5.out.ok GK rfl).2
                    obtain ⟨bm, om, rfl, hbm2, m0, _⟩ := rdMom ((HA.out.grow Hb1.out).more Hb1.out.size |>.grow HP5.out.bel) rfl i him
                    rw [← tm_nat ms i him, Htme.out] at m0
                    have hbm5 : bm < w5.heap.size := World.block_lt_of_cell? _ _ m0
                    go_upto_region 15 with fail
                    refine wp_region_overT 17 (by kernel_rfl) (by kernel_rfl) ?_
                    simp only [List.take_succ_cons, List.take_zero, List.drop_succ_cons, List.drop_zero]
                    repeat (go_big_quiet_step ((fail)))
                    refine wpQuiet_nil ?_
                    intro w6 hb6
                    have HP6 := Lib.hid (HP5.out.grow hb6)
                    clear HP5 HX5 hb6 x3 hbx5 zK m0 hbm5
                    have ka := own1 HP6.out.ok a (by have := own1_len HP6.out.ok; omega)
                    have fa := HP6.out.ok.frozenAt a
                    have HP7 := Lib.hid (HP6.out.setK a true)
                    go_upto_region 16 with fail
                    clear ka fa HP6
                    generalize w6.setCell ⟨GK, a, none⟩ (.bool true) = w7 at *
                    have ka := own1 HP7.out.ok a (by have := own1_len HP7.out.ok; omega)
                    rw [List.getElem_set_self] at ka
                    go_wp2_with fail
                    go_roundg (ws.length - a - 1)
                    case measure => have := Ha.out; omega
                    case rel => exact ⟨a + 1, _, by first | rfl | go_num, by omega, by rw [Htf.out, Hst.out], by rw [Htf.out, Hst.out], HK3.out, HP7.out⟩
                  · have Hst := Lib.hid (show stepB ms sec i (true, sv) ⟨f, i, km, kx⟩ = (true, sv) by unfold stepB; rw [Hkb.out, hx, hle, Hrd.out]; simp [hgt])
                    have hgt' : decide (sv < rv + km) = false := by simpa using hgt
                    go_upto_region 14 with fail
                    refine wp_region_overL (by kernel_rfl) (by kernel_rfl) ?_
                    repeat (go_big_quiet_step ((fail)))
                    refine wpQuiet_nil ?_
                    intro w5 hb5
                    have hb5' : Below wr.heap.size wr w5 := ((Below.refl _ _).alloc (Nat.le_refl _) _).trans (hb5.mono (by simp))
                    have HP5 := Lib.hid (HP2.out.grow hb5')
                    have HX5 := Lib.hid ((Blk.new wr 35 #[.int .i64 (f : Int), .int .i64 (i : Int), .int .i64 km, .int .i64 kx]).same (hb5.block _ (by simp)))
                    clear HP2 hb5 hb5' d0 d1 d2 d3 q0 zO zK
                    generalize wr.heap.size = bx at *
                    have x3 := HX5.out.cell 3
                    simp at x3
                    have hbx5 : bx < w5.heap.size := HX5.out.lt
                    have zK := (own_block HP5.out.ok GK rfl).2
                    obtain ⟨bm, om, rfl, hbm2, m0, _⟩ := rdMom ((HA.out.grow Hb1.out).more Hb1.out.size |>.grow HP5.out.bel) rfl i him
                    rw [← tm_nat ms i him, Htme.out] at m0
                    have hbm5 : bm < w5.heap.size := World.block_lt_of_cell? _ _ m0
                    go_upto_region 15 with fail
                    refine wp_region_overT 17 (by kernel_rfl) (by kernel_rfl) ?_
                    simp only [List.take_succ_cons, List.take_zero, List.drop_succ_cons, List.drop_zero]
                    repeat (go_big_quiet_step ((fail)))
                    refine wpQuiet_nil ?_
                    intro w6 hb6
                    have HP6 := Lib.hid (HP5.out.grow hb6)
                    clear HP5 HX5 hb6 x3 hbx5 zK m0 hbm5
                    have ka := own1 HP6.out.ok a (by have := own1_len HP6.out.ok; omega)
                    have fa := HP6.out.ok.frozenAt a
                    have HP7 := Lib.hid (HP6.out.setK a true)
                    go_upto_region 16 with fail
                    clear ka fa HP6
                    generalize w6.setCell ⟨GK, a, none⟩ (.bool true) = w7 at *
                    have ka := own1 HP7.out.ok a (by have := own1_len HP7.out.ok; omega)
                    rw [List.getElem_set_self] at ka
                    go_wp2_with fail
                    go_roundg (ws.length - a - 1)
                    case measure => have := Ha.out; omega
                    case rel => exact ⟨a + 1, _, by first | rfl | go_num, by omega, by rw [Htf.out, Hst.out], by rw [Htf.out, Hst.out], HK3.out, HP7.out⟩
            · rw [Hkb.out, hx] at HK3
              simp only [Bool.true_or] at HK3
              cases sb
              · have Hst := Lib.hid (show stepB ms sec i (false, sv) ⟨f, i, km, kx⟩ = (true, rv + km) by unfold stepB; rw [Hkb.out, hx, Hrd.out]; simp)
                go_upto_region 14 with fail
                refine wp_region_overL (by kernel_rfl) (by kernel_rfl) ?_
                repeat (go_big_quiet_step ((fail)))
                refine wpQuiet_nil ?_
                intro w5 hb5
                have hb5' : Below wr.heap.size wr w5 := ((Below.refl _ _).alloc (Nat.le_refl _) _).trans (hb5.mono (by simp))
                have HP5 := Lib.hid (HP2.out.grow hb5')
                have HX5 := Lib.hid ((Blk.new wr 35 #[.int .i64 (f : Int), .int .i64 (i : Int), .int .i64 km, .int .i64 kx]).same (hb5.block _ (by simp)))
                clear HP2 hb5 hb5' d0 d1 d2 d3 q0 zO zK
                generalize wr.heap.size = bx at *
                have x3 := HX5.out.cell 3
                simp at x3
                have hbx5 : bx < w5.heap.size := HX5.out.lt
                have zK := (own_block HP5.out.ok GK rfl).2
                obtain ⟨bm, om, rfl, hbm2, m0, _⟩ := rdMom ((HA.out.grow Hb1.out).more Hb1.out.size |>.grow HP5.out.bel) rfl i him
                rw [← tm_nat ms i him, Htme.out] at m0
                have hbm5 : bm < w5.heap.size := World.block_lt_of_cell? _ _ m0
                go_upto_region 15 with fail
                refine wp_region_overT 17 (by kernel_rfl) (by kernel_rfl) ?_
                simp only [List.take_succ_cons, List.take_zero, List.drop_succ_cons, List.drop_zero]
                repeat (go_big_quiet_step ((fail)))
                refine wpQuiet_nil ?_
                intro w6 hb6
                have HP6 := Lib.hid (HP5.out.grow hb6)
                clear HP5 HX5 hb6 x3 hbx5 zK m0 hbm5
                have ka := own1 HP6.out.ok a (by have := own1_len HP6.out.ok; omega)
                have fa := HP6.out.ok.frozenAt a
                have HP7 := Lib.hid (HP6.out.setK a true)
                go_upto_region 16 with fail
                clear ka fa HP6
                generalize w6.setCell ⟨GK, a, none⟩ (.bool true) = w7 at *
                have ka := own1 HP7.out.ok a (by have := own1_len HP7.out.ok; omega)
                rw [List.getElem_set_self] at ka
                go_wp2_with fail
                go_roundg (ws.length - a - 1)
                case measure => have := Ha.out; omega
                case rel => exact ⟨a + 1, _, by first | rfl | go_num, by omega, by rw [Htf.out, Hst.out], by rw [Htf.out, Hst.out], HK3.out, HP7.out⟩
              · by_cases hgt : sv < rv + km
                · have Hst := Lib.hid (show stepB ms sec i (true, sv) ⟨f, i, km, kx⟩ = (true, rv + km) by unfold stepB; rw [Hkb.out, hx, Hrd.out]; simp [hgt])
                  go_upto_region 14 with fail
                  refine wp_region_overL (by kernel_rfl) (by kernel_rfl) ?_
                  repeat (go_big_quiet_step ((fail)))
                  refine wpQuiet_nil ?_
                  intro w5 hb5
                  have hb5' : Below wr.heap.size wr w5 := ((Below.refl _ _).alloc (Nat.le_refl _) _).trans (hb5.mono (by simp))
                  have HP5 := Lib.hid (HP2.out.grow hb5')
                  have HX5 := Lib.hid ((Blk.new wr 35 #[.int .i64 (f : Int), .int .i64 (i : Int), .int .i64 km, .int .i64 kx]).same (hb5.block _ (by simp)))
                  clear HP2 hb5 hb5' d0 d1 d2 d3 q0 zO zK
                  generalize wr.heap.size = bx at *
                  have x3 := HX5.out.cell 3
                  simp at x3
                  have hbx5 : bx < w5.heap.size := HX5.out.lt
                  have zK := (own_block HP5.out.ok GK rfl).2
                  obtain ⟨bm, om, rfl, hbm2, m0, _⟩ := rdMom ((HA.out.grow Hb1.out).more Hb1.out.size |>.grow HP5.out.bel) rfl i him
                  rw [← tm_nat ms i him, Htme.out] at m0
                  have hbm5 : bm < w5.heap.size := World.block_lt_of_cell? _ _ m0
                  go_upto_region 15 with fail
                  refine wp_region_overT 17 (by kernel_rfl) (by kernel_rfl) ?_
                  simp only [List.take_succ_cons, List.take_zero, List.drop_succ_cons, List.drop_zero]
                  repeat (go_big_quiet_step ((fail)))
                  refine wpQuiet_nil ?_
                  intro w6 hb6
                  have HP6 := Lib.hid (HP5.out.grow hb6)
                  clear HP5 HX5 hb6 x3 hbx5 zK m0 hbm5
                  have ka := own1 HP6.out.ok a (by have := own1_len HP6.out.ok; omega)
                  have fa := HP6.out.ok.frozenAt a
                  have HP7 := Lib.hid (HP6.out.setK a true)
                  go_upto_region 16 with fail
                  clear ka fa HP6
                  generalize w6.setCell ⟨GK, a, none⟩ (.bool true) = w7 at *
                  have ka := own1 HP7.out.ok a (by have := own1_len HP7.out.ok; omega)
                  rw [List.getElem_set_self] at ka
                  go_wp2_with fail
                  go_roundg (ws.length - a - 1)
                  case measure => have := Ha.out; omega
                  case rel => exact ⟨a + 1, _, by first | rfl | go_num, by omega, by rw [Htf.out, Hst.out], by rw [Htf.out, Hst.out], HK3.out, HP7.out⟩
                · have Hst := Lib.hid (show stepB ms sec i (true, sv) ⟨f, i, km, kx⟩ = (true, sv) by unfold stepB; rw [Hkb.out, hx, Hrd.out]; simp [hgt])
                  have hgt' : decide (sv < rv + km) = false := by simpa using hgt
                  go_upto_region 14 with fail
                  refine wp_region_overL (by kernel_rfl) (by kernel_rfl) ?_
                  repeat (go_big_quiet_step ((fail)))
                  refine wpQuiet_nil ?_
                  intro w5 hb5
                  have hb5' : Below wr.heap.size wr w5 := ((Below.refl _ _).alloc (Nat.le_refl _) _).trans (hb5.mono (by simp))
                  have HP5 := Lib.hid (HP2.out.grow hb5')
                  have HX5 := Lib.hid ((Blk.new wr 35 #[.int .i64 (f : Int), .int .i64 (i : Int), .int .i64 km, .int .i64 kx]).same (hb5.block _ (by simp)))
                  clear HP2 hb5 hb5' d0 d1 d2 d3 q0 zO zK
                  generalize wr.heap.size = bx at *
                  have x3 := HX5.out.cell 3
                  simp at x3
                  have hbx5 : bx < w5.heap.size := HX5.out.lt
                  have zK := (own_block HP5.out.ok GK rfl).2
                  obtain ⟨bm, om, rfl, hbm2, m0, _⟩ := rdMom ((HA.out.grow Hb1.out).more Hb1.out.size |>.grow HP5.out.bel) rfl i him
                  rw [← tm_nat ms i him, Htme.out] at m0
                  have hbm5 : bm < w5.heap.size := World.block_lt_of_cell? _ _ m0
                  go_upto_region 15 with fail
                  refine wp_region_overT 17 (by kernel_rfl) (by kernel_rfl) ?_
                  simp only [List.take_succ_cons, List.take_zero, List.drop_succ_cons, List.drop_zero]
                  repeat (go_big_quiet_step ((fail)))
                  refine wpQuiet_nil ?_
                  intro w6 hb6
                  have HP6 := Lib.hid (HP5.out.grow hb6)
                  clear HP5 HX5 hb6 x3 hbx5 zK m0 hbm5
                  have ka := own1 HP6.out.ok a (by have := own1_len HP6.out.ok; omega)
                  have fa := HP6.out.ok.frozenAt a
                  have HP7 := Lib.hid (HP6.out.setK a true)
                  go_upto_region 16 with fail
                  clear ka fa HP6
                  generalize w6.setCell ⟨GK, a, none⟩ (.bool true) = w7 at *
                  have ka := own1 HP7.out.ok a (by have := own1_len HP7.out.ok; omega)
                  rw [List.getElem_set_self] at ka
                  go_wp2_with fail
                  go_roundg (ws.length - a - 1)
                  case measure => have := Ha.out; omega
                  case rel => exact ⟨a + 1, _, by first | rfl | go_num, by omega, by rw [Htf.out, Hst.out], by rw [Htf.out, Hst.out], HK3.out, HP7.out⟩
          · have hti' : (kt != (i : Int)) = true := by simpa using hti
            have HK3 := Lib.hid (Hskip.out hti)
            have Hst := Lib.hid (show stepB ms sec i (sb, sv) ⟨kf, kt, km, kx⟩ = (sb, sv) by unfold stepB; rw [if_neg (fun h => hti h.1)])
            clear hti Hskip Htake
            go_wp2_with fail
            go_roundg (ws.length - a - 1)
            case measure => have := Ha.out; omega
            case rel =>
              exact ⟨a + 1, kept', by first | rfl | go_num, by omega, by rw [Htf.out, Hst.out], by rw [Htf.out, Hst.out], HK3.out, HP2.out.grow ((Below.refl _ _).alloc (Nat.le_refl _) _)⟩
        · have hfold : (ws.take a).foldl (stepB ms sec i) (false, 0) = baseR ms ws sec i := by rw [List.take_of_length_le (by omega)]; rfl
          rw [hfold]
          have hKf := HKu.out
          have haw : a = ws.length := by have := Ha.out; omega
          rw [haw] at hKf
          have hnext := HPr.out.next HT.out hlt Hoi.out (fun k hk => (wtB_ok _ _).1 (HBa.out.wAll k hk)) HBa.out hKf
          have htl : t < 64 := by omega
          have hbb : 0 ≤ (baseS ms ws sec i).2 ∧ (baseS ms ws sec i).2 ≤ 600000000 := by
            have := base_bd ms ws sec i ((2 * t + 1) * 4194304) (fun k hk e => by
              have hk' := (wtB_ok _ _).1 (HBa.out.wAll k hk)
              have := HPr.out.lo k.fr hk'.f0 hk'.f1
              have := hk'.m0
              have := hk'.m1
              unfold rdy; omega) (by rw [Htme.out]; omega) (by rw [Htme.out]; omega)
            omega
          have his := baseR_is ms ws sec i (by rw [Htme.out]; exact htm0)
          rw [Htme.out, hd_nat ms i him] at his
          generalize (baseS ms ws sec i).2 = bS at *
          generalize baseR ms ws sec i = br at *
          obtain ⟨sb, bv⟩ := br
          simp only at his
          have Hnext := Lib.hid hnext
          have Hbb := Lib.hid hbb
          clear hnext hbb hKf hfold haw HKu Ha
          obtain ⟨bm, om, rfl, hbm2, m0, m1⟩ := rdMom ((HA.out.grow Hb1.out).more Hb1.out.size |>.grow HP2.out.bel) rfl i him
          rw [← tm_nat ms i him, Htme.out] at m0
          generalize ms[i].hold = hv at *
          cases hv
          · cases sb
            · rw [if_pos (.inr rfl)] at his
              rcases Int.lt_trichotomy bv tmi with hmx | hmx | hmx
              · have His := Lib.hid (show bS = tmi by omega)
                clear his
                have Hnx := Lib.hid (show PrI ms ws ps ord (t + 1) (base.set i (tmi)) (sec.set i (tmi + prim ps i)) kept' by have := Hnext.out; rw [His.out] at this; exact this)
                have hbs0 : 0 ≤ tmi := by have := Hbb.out; rw [His.out] at this; omega
                have hbs1 : tmi ≤ 600000000 := by have := Hbb.out; rw [His.out] at this; omega
                clear Hnext Hbb
                go_wp2_with fail
                refine (primary_any C ps.length c' ps i wr ((HC.out.grow Hb1.out).more Hb1.out.size |>.grow HP2.out.bel |>.more HP2.out.bel.size) rfl hs3 (okP_prim HBa.out.pAll).1).mono ?_
                rintro e w8 ⟨rfl, hb8⟩
                have HP8 := Lib.hid (HP2.out.grow hb8)
                have hpb := prim_bd ps i (okP_prim HBa.out.pAll).1 (okP_prim HBa.out.pAll).2
                generalize prim ps i = pv at *
                obtain ⟨hpv0, hpv1⟩ := hpb
                clear hb8 HP2
                have qs := own1 HP8.out.os i (by have := own1_len HP8.out.os; omega)
                have fs := HP8.out.os.frozenAt i
                have HP9 := Lib.hid (HP8.out.setS i (tmi + pv))
                go_wp2_with fail
                go_roundg (ms.length - t - 1)
                case measure => have := Ht.out; omega
                case rel => exact ⟨t + 1, _, _, _, by first | rfl | go_num, by rw [Hol.out]; omega, Hnx.out, HP9.out⟩
              · subst hmx
                have His := Lib.hid (show bS = bv by omega)
                clear his
                have Hnx := Lib.hid (show PrI ms ws ps ord (t + 1) (base.set i (bv)) (sec.set i (bv + prim ps i)) kept' by have := Hnext.out; rw [His.out] at this; exact this)
                have hbs0 : 0 ≤ bv := by have := Hbb.out; rw [His.out] at this; omega
                have hbs1 : bv ≤ 600000000 := by have := Hbb.out; rw [His.out] at this; omega
                clear Hnext Hbb
                go_wp2_with fail
                refine (primary_any C ps.length c' ps i wr ((HC.out.grow Hb1.out).more Hb1.out.size |>.grow HP2.out.bel |>.more HP2.out.bel.size) rfl hs3 (okP_prim HBa.out.pAll).1).mono ?_
                rintro e w8 ⟨rfl, hb8⟩
                have HP8 := Lib.hid (HP2.out.grow hb8)
                have hpb := prim_bd ps i (okP_prim HBa.out.pAll).1 (okP_prim HBa.out.pAll).2
                generalize prim ps i = pv at *
                obtain ⟨hpv0, hpv1⟩ := hpb
                clear hb8 HP2
                have qs := own1 HP8.out.os i (by have := own1_len HP8.out.os; omega)
                have fs := HP8.out.os.frozenAt i
                have HP9 := Lib.hid (HP8.out.setS i (bv + pv))
                go_wp2_with fail
                go_roundg (ms.length - t - 1)
                case measure => have := Ht.out; omega
                case rel => exact ⟨t + 1, _, _, _, by first | rfl | go_num, by rw [Hol.out]; omega, Hnx.out, HP9.out⟩
              · have His := Lib.hid (show bS = bv by omega)
                clear his
                have Hnx := Lib.hid (show PrI ms ws ps ord (t + 1) (base.set i (bv)) (sec.set i (bv + prim ps i)) kept' by have := Hnext.out; rw [His.out] at this; exact this)
                have hbs0 : 0 ≤ bv := by have := Hbb.out; rw [His.out] at this; omega
                have hbs1 : bv ≤ 600000000 := by have := Hbb.out; rw [His.out] at this; omega
                clear Hnext Hbb
                go_wp2_with fail
                refine (primary_any C ps.length c' ps i wr ((HC.out.grow Hb1.out).more Hb1.out.size |>.grow HP2.out.bel |>.more HP2.out.bel.size) rfl hs3 (okP_prim HBa.out.pAll).1).mono ?_
                rintro e w8 ⟨rfl, hb8⟩
                have HP8 := Lib.hid (HP2.out.grow hb8)
                have hpb := prim_bd ps i (okP_prim HBa.out.pAll).1 (okP_prim HBa.out.pAll).2
                generalize prim ps i = pv at *
                obtain ⟨hpv0, hpv1⟩ := hpb
                clear hb8 HP2
                have qs := own1 HP8.out.os i (by have := own1_len HP8.out.os; omega)
                have fs := HP8.out.os.frozenAt i
                have HP9 := Lib.hid (HP8.out.setS i (bv + pv))
                go_wp2_with fail
                go_roundg (ms.length - t - 1)
                case measure => have := Ht.out; omega
                case rel => exact ⟨t + 1, _, _, _, by first | rfl | go_num, by rw [Hol.out]; omega, Hnx.out, HP9.out⟩
            · rw [if_neg (by simp)] at his
              have His := Lib.hid his
              clear his
              have Hnx := Lib.hid (show PrI ms ws ps ord (t + 1) (base.set i (bv)) (sec.set i (bv + prim ps i)) kept' by have := Hnext.out; rw [His.out] at this; exact this)
              have hbs0 : 0 ≤ bv := by have := Hbb.out; rw [His.out] at this; omega
              have hbs1 : bv ≤ 600000000 := by have := Hbb.out; rw [His.out] at this; omega
              clear Hnext Hbb
              go_wp2_with fail
              refine (primary_any C ps.length c' ps i wr ((HC.out.grow Hb1.out).more Hb1.out.size |>.grow HP2.out.bel |>.more HP2.out.bel.size) rfl hs3 (okP_prim HBa.out.pAll).1).mono ?_
              rintro e w8 ⟨rfl, hb8⟩
              have HP8 := Lib.hid (HP2.out.grow hb8)
              have hpb := prim_bd ps i (okP_prim HBa.out.pAll).1 (okP_prim HBa.out.pAll).2
              generalize prim ps i = pv at *
              obtain ⟨hpv0, hpv1⟩ := hpb
              clear hb8 HP2
              have qs := own1 HP8.out.os i (by have := own1_len HP8.out.os; omega)
              have fs := HP8.out.os.frozenAt i
              have HP9 := Lib.hid (HP8.out.setS i (bv + pv))
              go_wp2_with fail
              go_roundg (ms.length - t - 1)
              case measure => have := Ht.out; omega
              case rel => exact ⟨t + 1, _, _, _, by first | rfl | go_num, by rw [Hol.out]; omega, Hnx.out, HP9.out⟩
          · rw [if_pos (.inl rfl)] at his
            rcases Int.lt_trichotomy bv tmi with hmx | hmx | hmx
            · have His := Lib.hid (show bS = tmi by omega)
              clear his
              have Hnx := Lib.hid (show PrI ms ws ps ord (t + 1) (base.set i (tmi)) (sec.set i (tmi + prim ps i)) kept' by have := Hnext.out; rw [His.out] at this; exact this)
              have hbs0 : 0 ≤ tmi := by have := Hbb.out; rw [His.out] at this; omega
              have hbs1 : tmi ≤ 600000000 := by have := Hbb.out; rw [His.out] at this; omega
              clear Hnext Hbb
              go_wp2_with fail
              refine (primary_any C ps.length c' ps i wr ((HC.out.grow Hb1.out).more Hb1.out.size |>.grow HP2.out.bel |>.more HP2.out.bel.size) rfl hs3 (okP_prim HBa.out.pAll).1).mono ?_
              rintro e w8 ⟨rfl, hb8⟩
              have HP8 := Lib.hid (HP2.out.grow hb8)
              have hpb := prim_bd ps i (okP_prim HBa.out.pAll).1 (okP_prim HBa.out.pAll).2
              generalize prim ps i = pv at *
              obtain ⟨hpv0, hpv1⟩ := hpb
              clear hb8 HP2
              have qs := own1 HP8.out.os i (by have := own1_len HP8.out.os; omega)
              have fs := HP8.out.os.frozenAt i
              have HP9 := Lib.hid (HP8.out.setS i (tmi + pv))
              go_wp2_with fail
              go_roundg (ms.length - t - 1)
              case measure => have := Ht.out; omega
              case rel => exact ⟨t + 1, _, _, _, by first | rfl | go_num, by rw [Hol.out]; omega, Hnx.out, HP9.out⟩
            · subst hmx
              have His := Lib.hid (show bS = bv by omega)
              clear his
              have Hnx := Lib.hid (show PrI ms ws ps ord (t + 1) (base.set i (bv)) (sec.set i (bv + prim ps i)) kept' by have := Hnext.out; rw [His.out] at this; exact this)
              have hbs0 : 0 ≤ bv := by have := Hbb.out; rw [His.out] at this; omega
              have hbs1 : bv ≤ 600000000 := by have := Hbb.out; rw [His.out] at this; omega
              clear Hnext Hbb
              go_wp2_with fail
              refine (primary_any C ps.length c' ps i wr ((HC.out.grow Hb1.out).more Hb1.out.size |>.grow HP2.out.bel |>.more HP2.out.bel.size) rfl hs3 (okP_prim HBa.out.pAll).1).mono ?_
              rintro e w8 ⟨rfl, hb8⟩
              have HP8 := Lib.hid (HP2.out.grow hb8)
              have hpb := prim_bd ps i (okP_prim HBa.out.pAll).1 (okP_prim HBa.out.pAll).2
              generalize prim ps i = pv at *
              obtain ⟨hpv0, hpv1⟩ := hpb
              clear hb8 HP2
              have qs := own1 HP8.out.os i (by have := own1_len HP8.out.os; omega)
              have fs := HP8.out.os.frozenAt i
              have HP9 := Lib.hid (HP8.out.setS i (bv + pv))
              go_wp2_with fail
              go_roundg (ms.length - t - 1)
              case measure => have := Ht.out; omega
              case rel => exact ⟨t + 1, _, _, _, by first | rfl | go_num, by rw [Hol.out]; omega, Hnx.out, HP9.out⟩
            · have His := Lib.hid (show bS = bv by omega)
              clear his
              have Hnx := Lib.hid (show PrI ms ws ps ord (t + 1) (base.set i (bv)) (sec.set i (bv + prim ps i)) kept' by have := Hnext.out; rw [His.out] at this; exact this)
              have hbs0 : 0 ≤ bv := by have := Hbb.out; rw [His.out] at this; omega
              have hbs1 : bv ≤ 600000000 := by have := Hbb.out; rw [His.out] at this; omega
              clear Hnext Hbb
              go_wp2_with fail
              refine (primary_any C ps.length c' ps i wr ((HC.out.grow Hb1.out).more Hb1.out.size |>.grow HP2.out.bel |>.more HP2.out.bel.size) rfl hs3 (okP_prim HBa.out.pAll).1).mono ?_
              rintro e w8 ⟨rfl, hb8⟩
              have HP8 := Lib.hid (HP2.out.grow hb8)
              have hpb := prim_bd ps i (okP_prim HBa.out.pAll).1 (okP_prim HBa.out.pAll).2
              generalize prim ps i = pv at *
              obtain ⟨hpv0, hpv1⟩ := hpb
              clear hb8 HP2
              have qs := own1 HP8.out.os i (by have := own1_len HP8.out.os; omega)
              have fs := HP8.out.os.frozenAt i
              have HP9 := Lib.hid (HP8.out.setS i (bv + pv))
              go_wp2_with fail
              go_roundg (ms.length - t - 1)
              case measure => have := Ht.out; omega
              case rel => exact ⟨t + 1, _, _, _, by first | rfl | go_num, by rw [Hol.out]; omega, Hnx.out, HP9.out⟩
    · have HSol := Lib.hid (HPr.out.sol HT.out Hol.out (by rw [Hol.out]; omega) (fun k hk => (wtB_ok _ _).1 (HBa.out.wAll k hk)))
      clear HPr
      go_wp2_with fail
      go_ret3
      exact ⟨Hb1.out.trans (HP.out.bel.mono hsz1), .inl ⟨HV.out, _, _, base, sec, kept, rfl, HSol.out, own_base HP.out.os hsz1, own_base HP.out.ok hsz1⟩⟩
end Go.Proofs.Ytddkfdfgfkejoaa
