import Derived.Test.YtbmbdenjlbelaaaSlk
import Derived.Test.YtbmbdenjlbelaaaSks
namespace Go.Proofs.Ytbmbdenjlbelaaa
open Go.RowKit
attribute [local go_sem ↓] run_max_keep run_min_keep

def mixA (T : Int) (acts : List Act) (j : Nat) : List Act := (acts.map (slackA T)).take j ++ acts.drop j
section
variable {T : Int} {acts : List Act} {j : Nat}
theorem mixA_zero : mixA T acts 0 = acts := by simp [mixA]
theorem mixA_all (h : acts.length ≤ j) : mixA T acts j = acts.map (slackA T) := by
  unfold mixA; rw [List.take_of_length_le (by simp; exact h), List.drop_eq_nil_of_le h]; simp
theorem mixA_len : (mixA T acts j).length = acts.length := by simp [mixA]; omega
theorem mixA_get (h : j < acts.length) : (mixA T acts j)[j]'(by rw [mixA_len]; exact h) = acts[j] := by
  unfold mixA
  rw [List.getElem_append_right (by simp; omega)]
  simp [Nat.min_eq_left (Nat.le_of_lt h)]
theorem mixA_set (h : j < acts.length) : (mixA T acts j).set j (slackA T acts[j]) = mixA T acts (j + 1) := by
  unfold mixA
  rw [List.take_succ_eq_append_getElem (by simpa using h), List.drop_eq_getElem_cons h, List.set_append_right _ _ (by simp; omega)]
  simp only [List.length_take, List.length_map, Nat.min_eq_left (Nat.le_of_lt h), Nat.sub_self, List.set_cons_zero, List.getElem_map, List.append_assoc, List.cons_append, List.nil_append]
end
theorem slack_sm {T : Int} {ne : Nat} {acts : List Act} (h : NetSm T ne acts) : NetSm T ne (acts.map (slackA T)) :=
  ⟨h.t0, h.t1, h.e0, h.e1, by simpa using h.n, fun x hx => by
    obtain ⟨a, ha, rfl⟩ := List.mem_map.1 hx
    have := h.a a ha
    have := h.t0
    unfold slackA
    simp only
    omega⟩
/-- the memory of Slack: the result's block R, the network's X, the row of the activities -/
structure SlS (w wr : World) (R X : Nat) (xs : Array Value) (v : Value) (la : List Act) : Prop where
  bel : Below w.heap.size w wr
  res : Blk wr R 26 #[.int .i64 0, .slice none 0 0, .slice none 0 0]
  net : Blk wr X 26 xs
  own : wr.ownsRow (R + 1) 61 6 v la.length (la.flatMap Act.cells)
  hR : w.heap.size ≤ R
  hX : R < X
  hv : v.ownBlock ≠ some X
theorem SlS.grow {w wr w' : World} {R X : Nat} {xs : Array Value} {v : Value} {la : List Act} (h : SlS w wr R X xs v la) (hb : Below wr.heap.size wr w') : SlS w w' R X xs v la :=
  ⟨h.bel.trans (hb.mono h.bel.size), h.res.bel hb, h.net.bel hb, own_grow h.own hb, h.hR, h.hX, h.hv⟩
theorem SlS.set {w wr : World} {R X g n c : Nat} {xs : Array Value} {la : List Act} (h : SlS w wr R X xs (.slice (some ⟨g, 0, none⟩) n c) la) (hn : n = la.length) (i : Nat) (hi : i < la.length) (m : Int) : SlS w (wr.setCell ⟨g, i * 6 + 4, none⟩ (.int .i64 m)) R X xs (.slice (some ⟨g, 0, none⟩) n c) (la.set i ⟨la[i].kd, la[i].fr, la[i].tt, la[i].mn, m, la[i].wt⟩) := by
  subst hn
  have hg := (own_block h.own g rfl).1
  have hR := h.hR
  have hgX : g ≠ X := fun e => h.hv (by rw [e]; rfl)
  refine ⟨h.bel.setCell (by simp; omega) _, h.res.far (by omega), h.net.far hgX, ?_, hR, h.hX, h.hv⟩
  rw [List.length_set]
  exact ownAct_set h.own i hi m
def SlL (w : World) (R X : Nat) (xs : Array Value) (T : Int) (v : Value) (acts : List Act) (k : Nat) (vj : Value) (wr : World) : Prop :=
  ∃ j : Nat, vj = .int .i64 j ∧ j + k = acts.length ∧ SlS w wr R X xs v (mixA T acts j)

set_option maxRecDepth 100000 in
set_option maxHeartbeats 6400000 in
theorem mkslack_any (A : Option Addr) (n c : Nat) (z : List Int) (w : World) (h : Rd w w.heap.size 1 A n (z.map (Value.int .i64))) (hn : n ≤ maxLen) :
    Calls Try.prog 13 #[.slice A n c] w (NetOut w) := by
  have H := Lib.hid h
  have Hn := Lib.hid hn
  clear h hn
  go_enter Try.func13, Try.ntmps13
  go_upto_region 1 with fail
  refine world_gen (fun w1 => Below w.heap.size w w1 ∧ Blk w1 w.heap.size 26 #[.int .i64 0, .slice none 0 0, .slice none 0 0] ∧ w1.heap.size = w.heap.size + 1) ⟨(Below.refl _ _).alloc (Nat.le_refl _) _, Blk.new _ _ _, by simp⟩ ?_
  rintro w0 ⟨hb0, hx0, hz0⟩
  obtain ⟨R, hR⟩ : ∃ R, R = w.heap.size := ⟨_, rfl⟩
  rw [← hR] at ⊢
  rw [show Blk w0 w.heap.size = Blk w0 R by rw [hR]] at hx0
  have hRw : w.heap.size ≤ R := by omega
  have hRz : w0.heap.size = R + 1 := by omega
  have HR0 := Lib.hid hx0
  have Hb0 := Lib.hid hb0
  clear hx0 hb0 hz0 hR
  go_wp2_with fail
  refine (mknet_any A n c z w0 ((H.out.grow Hb0.out).more Hb0.out.size) Hn.out).mono ?_
  rintro e w1 ⟨T, AE, AA, ne, ce, ca, acts, rfl, hsm, ho, hb1⟩
  have HSm := Lib.hid hsm
  have ht0 := hsm.t0
  have ht1 := hsm.t1
  have hna := hsm.n
  have HS0 := Lib.hid (show SlS w (w1.alloc (.cells #[.int .i64 T, .slice AE ne ce, .slice AA acts.length ca] 26)) R w1.heap.size #[.int .i64 T, .slice AE ne ce, .slice AA acts.length ca] (.slice AA acts.length ca) acts from
    ⟨(Hb0.out.trans (hb1.mono (by omega))).alloc (by have := hb1.size; omega) _, (HR0.out.bel hb1).al _, Blk.new _ _ _, World.ownsRow.alloc (own_base ho (by omega)) _, hRw, by have := hb1.size; omega, fun e => by have := (own_block ho _ e).2; omega⟩)
  clear hsm ho hb1 Hb0 HR0 H Hn
  go_upto_region 2 with fail
  refine world_gen (fun w2 => SlS w w2 R w1.heap.size #[.int .i64 T, .slice AE ne ce, .slice AA acts.length ca] (.slice AA acts.length ca) acts) HS0.out ?_
  generalize w1.heap.size = X at *
  intro w2 hs2
  clear HS0
  have HS := Lib.hid hs2
  clear hs2
  have x2 := HS.out.net.cell 2
  simp at x2
  go_wp2_with fail
  clear x2
  go_loopg [4, 5, 11] acts.length (fun k _ _ v wr => SlL w R X #[.int .i64 T, .slice AE ne ce, .slice AA acts.length ca] T (.slice AA acts.length ca) acts k v wr)
  case atStart => exact ⟨0, rfl, by omega, by rw [mixA_zero]; exact HS.out⟩
  case round =>
    obtain ⟨j, rfl, hj, hsl⟩ := hrel
    clear HS
    have Hj := Lib.hid hj
    have HS := Lib.hid hsl
    clear hj hsl
    by_cases hlt : j < acts.length
    · have Hml := Lib.hid (show (mixA T acts j).length = acts.length from mixA_len)
      have hjm : j < (mixA T acts j).length := by rw [Hml.out]; exact hlt
      have ho := HS.out.own
      rw [Hml.out] at ho
      obtain ⟨g, cap, hv, hgb, hgl⟩ := ho.form (by omega)
      injection hv with hv1 hv2 hv3
      subst hv1 hv3
      have hc := ownAct ho Hml.out.symm j hjm
      have HFz : Hid (∀ w6, Below wr.heap.size wr w6 → w6.frozen? ⟨g, j * 6 + 4, none⟩ = false) := fun w6 hb => (own_grow ho hb).frozenAt (j * 6 + 4)
      have HSet : Hid (∀ w6, Below wr.heap.size wr w6 → SlS w (w6.setCell ⟨g, j * 6 + 4, none⟩ (.int .i64 (min (acts[j].mx + T / 2) (acts[j].mn + T - 1)))) R X #[.int .i64 T, .slice AE ne ce, .slice (some ⟨g, 0, none⟩) acts.length ca] (.slice (some ⟨g, 0, none⟩) acts.length ca) (mixA T acts (j + 1))) := fun w6 hb => by
        have h := (HS.out.grow hb).set Hml.out.symm j hjm (min (acts[j].mx + T / 2) (acts[j].mn + T - 1))
        rw [mixA_get hlt] at h
        rw [show (⟨acts[j].kd, acts[j].fr, acts[j].tt, acts[j].mn, min (acts[j].mx + T / 2) (acts[j].mn + T - 1), acts[j].wt⟩ : Act) = slackA T acts[j] from rfl, mixA_set hlt] at h
        exact h
      rw [mixA_get hlt] at hc
      have hbd := HSm.out.a acts[j] (List.getElem_mem hlt)
      generalize acts[j] = aa at *
      obtain ⟨kd, fr, tt, mn, mx, wt⟩ := aa
      simp only at hc HSet hbd
      obtain ⟨_, _, _, c3, c4, _⟩ := hc
      have x0 := HS.out.net.cell 0
      have x2 := HS.out.net.cell 2
      simp at x0 x2
      have hxl := HS.out.net.lt
      clear ho hv2
      have e0 : T.tdiv 2 = T / 2 := Int.tdiv_eq_ediv_of_nonneg (by omega)
      have e1 : IntKind.i64.wrap (T / 2) = T / 2 := IntWalk.i64_in _ (by omega)
      have e2 : IntKind.i64.wrap (mx + T / 2) = mx + T / 2 := IntWalk.i64_in _ (by omega)
      have e3 : IntKind.i64.wrap (mn + T) = mn + T := IntWalk.i64_in _ (by omega)
      have e4 : IntKind.i64.wrap (mn + T - 1) = mn + T - 1 := IntWalk.i64_in _ (by omega)
      go_upto_region 6 with fail
      refine wp_region_overT 18 (by kernel_rfl) (by kernel_rfl) ?_
      simp only [List.take_succ_cons, List.take_zero, List.drop_succ_cons, List.drop_zero]
      repeat (go_big_quiet_step ((fail)))
      refine wpQuiet_nil ?_
      intro w6 hb6
      have c4' := cell_bel hb6 c4
      have f4' := HFz.out w6 hb6
      have HS6 := Lib.hid (HSet.out w6 hb6)
      clear HSet HFz HS hb6 c3 c4 x0 x2 e0 e1 e2 e3 e4 hgl hxl
      go_wp2_with fail
      go_roundg (acts.length - j - 1)
      case measure => have := Hj.out; omega
      case rel => exact ⟨j + 1, by first | rfl | go_num, by omega, HS6.out⟩
    · obtain rfl : j = acts.length := by have := Hj.out; omega
      rw [mixA_all (Nat.le_refl _)] at HS
      have x0 := HS.out.net.cell 0
      have x1 := HS.out.net.cell 1
      have x2 := HS.out.net.cell 2
      have r0 := HS.out.res.cell 0
      have r1 := HS.out.res.cell 1
      have r2 := HS.out.res.cell 2
      have f0 := HS.out.res.frozen 0
      have f1 := HS.out.res.frozen 1
      have f2 := HS.out.res.frozen 2
      simp at x0 x1 x2 r0 r1 r2
      have HZ := Lib.hid (((HS.out.res.set_ 0 (.int .i64 T)).set_ 1 (.slice AE ne ce)).set_ 2 (.slice AA acts.length ca))
      have HNS := Lib.hid (slack_sm HSm.out)
      have hRX : R < X := HS.out.hX
      have HOA := Lib.hid (own_base (own_far (p := ⟨R, 2, none⟩) (u := .slice AA acts.length ca) (own_far (p := ⟨R, 1, none⟩) (u := .slice AE ne ce) (own_far (p := ⟨R, 0, none⟩) (u := .int .i64 T) HS.out.own (fun e => by have := (own_block HS.out.own _ e).1; simp at this; omega)) (fun e => by have := (own_block HS.out.own _ e).1; simp at this; omega)) (fun e => by have := (own_block HS.out.own _ e).1; simp at this; omega)) (show w.heap.size + 1 ≤ R + 1 by omega))
      have HBL := Lib.hid (((HS.out.bel.setCell (p := ⟨R, 0, none⟩) (by simp; omega) (.int .i64 T)).setCell (p := ⟨R, 1, none⟩) (by simp; omega) (.slice AE ne ce)).setCell (p := ⟨R, 2, none⟩) (by simp; omega) (.slice AA acts.length ca))
      have Hlen := Lib.hid (show (acts.map (slackA T)).length = acts.length by simp)
      go_wp2_with fail
      have g0 := HZ.out.cell 0
      have g1 := HZ.out.cell 1
      have g2 := HZ.out.cell 2
      simp at g0 g1 g2
      exact bodyPost_ret (v := .agg #[.int .i64 T, .slice AE ne ce, .slice AA acts.length ca]) (by simp [results, Try.results13, go_sem, g0, g1, g2]) rfl ⟨T, AE, AA, ne, ce, ca, acts.map (slackA T), by rw [Hlen.out], HNS.out, by rw [Hlen.out] at HOA ⊢; exact HOA.out, HBL.out⟩
end Go.Proofs.Ytbmbdenjlbelaaa
