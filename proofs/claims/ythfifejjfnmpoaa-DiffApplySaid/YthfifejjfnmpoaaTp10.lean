import Derived.Test.YthfifejjfnmpoaaTp7
namespace Go.Proofs.Ythfifejjfnmpoaa
open Go.RowKit
/-- all valid, and in order -/
def chkG {α : Type} (ok : α → Bool) (key : α → PT) (l : List α) : Bool := l.all ok && ascB (l.map key)
theorem chkT_g (l : List PT) : chkT l = (decide (l.length ≤ 1024) && chkG okT (fun t => t) l) := by
  unfold chkT chkG
  rw [List.map_id', Bool.and_assoc]
theorem chkG_iff {α : Type} {ok : α → Bool} {key : α → PT} {l : List α} : chkG ok key l = true ↔ (∀ t ∈ l, ok t = true) ∧ Asc (l.map key) := by
  simp only [chkG, Bool.and_eq_true, ascB_iff, List.all_eq_true]
def OkP {α : Type} (ok : α → Bool) (key : α → PT) (L : List α) (j : Nat) : Prop := (∀ i (h : i < L.length), i < j → ok L[i] = true) ∧ Asc ((L.map key).take j)
section
variable {α : Type} {ok : α → Bool} {key : α → PT} {L : List α}
theorem OkP.zero (ok : α → Bool) (key : α → PT) (L : List α) : OkP ok key L 0 := ⟨fun i _ h => by omega, by rw [List.take_zero]; exact List.Pairwise.nil⟩
theorem chkG_bad1 (j : Nat) (hj : j < L.length) (h : ok L[j] = false) : chkG ok key L = false := by
  rw [Bool.eq_false_iff]
  intro hc
  have := (chkG_iff.1 hc).1 L[j] (List.getElem_mem hj)
  rw [h] at this
  cases this
theorem chkG_bad2 (p j : Nat) (hp : p < L.length) (hj : j < L.length) (hpj : p + 1 = j) (h : ¬ ltK (key L[p]) (key L[j])) : chkG ok key L = false := by
  rw [Bool.eq_false_iff]
  intro hc
  have h1 := List.pairwise_iff_getElem.1 (chkG_iff.1 hc).2 p j (by simpa using hp) (by simpa using hj) (by omega)
  simp at h1
  exact h h1
theorem OkP.step {j : Nat} (h : OkP ok key L j) (hj : j < L.length) (h1 : ok L[j] = true) (h2 : ∀ p (hp : p < L.length), p + 1 = j → ltK (key L[p]) (key L[j])) : OkP ok key L (j + 1) := by
  refine ⟨fun i hi hij => ?_, ?_⟩
  · rcases Nat.lt_or_ge i j with hlt | hge
    · exact h.1 i hi hlt
    · obtain rfl : i = j := by omega
      exact h1
  · have hjm : j < (L.map key).length := by simpa using hj
    rw [List.take_succ_eq_append_getElem hjm]
    refine List.pairwise_append.2 ⟨h.2, by simp, fun x hx y hy => ?_⟩
    simp only [List.mem_singleton, List.getElem_map] at hy
    subst hy
    obtain ⟨i, hi, rfl⟩ := List.getElem_of_mem hx
    simp only [List.length_take, List.length_map] at hi
    rcases Nat.lt_or_ge (i + 1) j with hlt | hge
    · have hlast := h2 (j - 1) (by omega) (by omega)
      have := List.pairwise_iff_getElem.1 h.2 i (j - 1) (by simp; omega) (by simp; omega) (by omega)
      simp only [List.getElem_take, List.getElem_map] at this ⊢
      exact ltK_trans this hlast
    · have := h2 i (by omega) (by omega)
      simpa using this
theorem OkP.all {j : Nat} (h : OkP ok key L j) (hj : L.length ≤ j) : chkG ok key L = true := by
  refine chkG_iff.2 ⟨fun t ht => ?_, ?_⟩
  · obtain ⟨i, hi, rfl⟩ := List.getElem_of_mem ht
    exact h.1 i hi (by omega)
  · have := h.2
    rwa [List.take_of_length_le (by simpa using hj)] at this
end
def CkLT (w : World) (ts : List CT) (k : Nat) (v : Value) (wr : World) : Prop :=
  ∃ j : Nat, v = .int .i64 j ∧ j + k = ts.length ∧ OkP okT (fun t => t) (ts.map CT.pt) j ∧ Below w.heap.size w wr
set_option maxRecDepth 100000 in
set_option maxHeartbeats 3200000 in
theorem check_any (A : Option Addr) (c : Nat) (ts : List CT) (w : World) (h : TL w A c ts) :
    Calls Try.prog 13 #[.slice A ts.length c] w fun e w' => e = .returned (.bool (chkT (ts.map CT.pt))) ∧ Below w.heap.size w w' := by
  have H := Lib.hid h
  clear h
  have HZ := Lib.hid (chkT_g (ts.map CT.pt))
  rw [List.length_map] at HZ
  generalize chkT (ts.map CT.pt) = z at *
  have hsz := H.out.sz
  by_cases h1 : 1024 < ts.length
  case pos =>
    have hz : z = false := by rw [HZ.out, decide_eq_false (by omega)]; rfl
    subst hz
    go_enter Try.func13, Try.ntmps13
    go_wp2_with fail
    go_ret
    exact ⟨rfl, (by repeat (first | exact Below.refl _ _ | (with_reducible refine Below.drew ?_) | (with_reducible refine below_drewN ?_ _) | (with_reducible refine Below.alloc ?_ (by first | omega | (simp; done) | (simp; omega)) _) | (with_reducible refine Below.setCell ?_ (by first | omega | (simp; done) | (simp; omega)) _) | (refine Below.trans ?_ (Below.mono (by with_reducible assumption) (by first | omega | (simp; done) | (simp; omega))))))⟩
  have hz := HZ.out
  rw [decide_eq_true (show ts.length ≤ 1024 by omega), Bool.true_and] at hz
  clear HZ
  have HZ := Lib.hid hz
  clear hz
  go_enter Try.func13, Try.ntmps13
  go_wp2_with fail
  go_loopg [3, 4, 10] ts.length (fun k _ _ v wr => CkLT w ts k v wr)
  case atStart => exact ⟨0, rfl, by omega, OkP.zero _ _ _, (by repeat (first | exact Below.refl _ _ | (with_reducible refine Below.drew ?_) | (with_reducible refine below_drewN ?_ _) | (with_reducible refine Below.alloc ?_ (by first | omega | (simp; done) | (simp; omega)) _) | (with_reducible refine Below.setCell ?_ (by first | omega | (simp; done) | (simp; omega)) _) | (refine Below.trans ?_ (Below.mono (by with_reducible assumption) (by first | omega | (simp; done) | (simp; omega))))))⟩
  case round =>
    obtain ⟨j, rfl, hj, hg, hb⟩ := hrel
    have Hj := Lib.hid hj
    have Hg := Lib.hid hg
    have HB := Lib.hid hb
    clear hj hg hb
    by_cases hlt : j < ts.length
    · have hltm : j < (ts.map CT.pt).length := by simpa using hlt
      have HBAD := Lib.hid (fun h => HZ.out.trans (chkG_bad1 (ok := okT) (key := fun t => t) (L := ts.map CT.pt) j hltm h))
      have HSTEP := Lib.hid (Hg.out.step hltm)
      have HTM : Hid (∀ W, Below wr.heap.size wr W → TM W W.heap.size ts[j]) := fun W hW => (H.out.m _ (List.getElem_mem hlt)).go (HB.out.trans (hW.mono HB.out.size))
      have HPM : Hid (∀ p (hp : p < ts.length), ∀ W, Below wr.heap.size wr W → TM W W.heap.size ts[p]) := fun p hp W hW => (H.out.m _ (List.getElem_mem hp)).go (HB.out.trans (hW.mono HB.out.size))
      obtain ⟨bb, off, rfl, hbb, d0, d1, d2, d3⟩ := rdT (H.out.r.grow HB.out) rfl j hlt
      have HBAD2 : Hid (∀ p (hp : p < ts.length), p + 1 = j → ¬ ltK (ts[p]).pt (ts[j]).pt → z = false) := fun p hp hpj hn => HZ.out.trans (chkG_bad2 (ok := okT) (key := fun t => t) (L := ts.map CT.pt) p j (by simpa using hp) hltm hpj (by simpa using hn))
      have HOP : Hid (∀ p (hp : p < ts.length), p + 1 = j → okT (ts[p]).pt = true) := fun p hp hpj => by have := Hg.out.1 p (by simpa using hp) (by omega); simpa using this
      have HS2 : Hid (okT (ts[j]).pt = true → (∀ p (hp : p < ts.length), p + 1 = j → ltK (ts[p]).pt (ts[j]).pt) → OkP okT (fun t => t) (ts.map CT.pt) (j + 1)) := fun h1 h2 => HSTEP.out (by simpa using h1) (fun p hp hpj => by have := h2 p (by simpa using hp) hpj; simpa using this)
      have HBD : Hid (okT (ts[j]).pt = false → z = false) := fun h => HBAD.out (by simpa using h)
      clear HBAD HSTEP
      generalize ts[j] = t at *
      have hbw : bb < wr.heap.size := World.block_lt_of_cell? _ _ d0
      go_upto_region 6 with fail
      have HPC : Hid (∀ p (hp : p < ts.length), wr.cell? ⟨bb, off + p * 4, none⟩ = some (.int .i64 (ts[p]).ln) ∧ wr.cell? ⟨bb, off + p * 4 + 1, none⟩ = some (.int .i64 (ts[p]).dy) ∧ wr.cell? ⟨bb, off + p * 4 + 2, none⟩ = some (.slice (ts[p]).Ad (ts[p]).dep.length (ts[p]).cd) ∧ wr.cell? ⟨bb, off + p * 4 + 3, none⟩ = some (.slice (ts[p]).Aa (ts[p]).arr.length (ts[p]).ca)) := fun p hp => by
        obtain ⟨b', o', e', _, q0, q1, q2, q3⟩ := rdT (H.out.r.grow HB.out) rfl p hp
        injection e' with e'
        injection e' with e1 e2
        subst e1 e2
        exact ⟨q0, q1, q2, q3⟩
      refine world_gen (fun w5 => Blk w5 wr.heap.size 28 #[.int .i64 (t).ln, .int .i64 (t).dy, .slice (t).Ad (t).dep.length (t).cd, .slice (t).Aa (t).arr.length (t).ca] ∧ Below wr.heap.size wr w5) ⟨Blk.new wr _ _, (by repeat (first | exact Below.refl _ _ | (with_reducible refine Below.drew ?_) | (with_reducible refine below_drewN ?_ _) | (with_reducible refine Below.alloc ?_ (by first | omega | (simp; done) | (simp; omega)) _) | (with_reducible refine Below.setCell ?_ (by first | omega | (simp; done) | (simp; omega)) _) | (refine Below.trans ?_ (Below.mono (by with_reducible assumption) (by first | omega | (simp; done) | (simp; omega))))))⟩ ?_
      rintro w5 ⟨hx5, hb5⟩
      have HB5 := Lib.hid hb5
      have x0 := hx5.cell 0
      have x1 := hx5.cell 1
      have x2 := hx5.cell 2
      have x3 := hx5.cell 3
      simp at x0 x1 x2 x3
      have hxl := hx5.lt
      have hbw5 := Nat.lt_of_lt_of_le hbw hb5.size
      clear d0 d1 d2 d3 hb5 hx5
      have HIS : Hid (∀ W, Below w5.heap.size w5 W → Calls Try.prog 33 #[.agg #[.int .i64 (t).ln, .int .i64 (t).dy, .slice (t).Ad (t).dep.length (t).cd, .slice (t).Aa (t).arr.length (t).ca]] W fun e w' => e = .returned (.bool (okT t.pt)) ∧ Below W.heap.size W w') := fun W hW => ist_any t W (HTM.out W (HB5.out.trans (hW.mono HB5.out.size)))
      have HL1 := Lib.hid (okT_iff (t := t.pt))
      generalize hu : okT t.pt = u at *
      have HU := Lib.hid hu
      clear hu
      cases u with
      | false =>
        have hz := HBD.out rfl
        subst hz
        refine wp_region_overL (by kernel_rfl) (by kernel_rfl) ?_
        repeat (go_big_quiet_step ((go_at_call 33; exact callsOver (HIS.out _ (over_below _ _)))))
        refine wpQuiet_nil ?_
        intro w6 hb6
        have HB6 := Lib.hid (HB.out.trans ((HB5.out.trans (hb6.mono HB5.out.size)).mono HB.out.size))
        go_wp2_with fail
        go_ret
        exact ⟨rfl, HB6.out⟩
      | true =>
        have ht1 : 1 ≤ t.dep.length := (HL1.out.1 rfl).2.2.2.1
        clear HL1
        by_cases hj0 : j = 0
        · subst hj0
          have HS3 := Lib.hid (HS2.out rfl (fun p _ h => by omega))
          clear HBD HS2 HOP HBAD2 HPM HPC
          refine wp_region_overL (by kernel_rfl) (by kernel_rfl) ?_
          repeat (go_big_quiet_step ((go_at_call 33; exact callsOver (HIS.out _ (over_below _ _)))))
          refine wpQuiet_nil ?_
          intro w6 hb6
          have HB6 := Lib.hid (HB.out.trans ((HB5.out.trans (hb6.mono HB5.out.size)).mono HB.out.size))
          clear hb6
          go_wp2_with fail
          go_roundg (ts.length - 0 - 1)
          case measure => have := Hj.out; omega
          case rel => exact ⟨1, by first | rfl | go_num, by omega, HS3.out, HB6.out⟩
        · obtain ⟨p, hp⟩ : ∃ p, p + 1 = j := ⟨j - 1, by omega⟩
          have hpl : p < ts.length := by omega
          have e0 : IntKind.i64.wrap ((j : Int) - 1) = (p : Int) := by rw [IntWalk.i64_in _ (by omega)]; omega
          have hpos : decide ((j : Int) > 0) = true := by simp; omega
          have hpos' : decide (0 < j) = true := by simp; omega
          obtain ⟨q0, q1, q2, q3⟩ := HPC.out p hpl
          replace q0 := cell_bel HB5.out q0
          replace q1 := cell_bel HB5.out q1
          replace q2 := cell_bel HB5.out q2
          replace q3 := cell_bel HB5.out q3
          have HUM := Lib.hid (HPM.out p hpl)
          have ho := (okT_iff.1 (HOP.out p hpl hp)).2.2.2.1
          have HBD2 := Lib.hid (HBAD2.out p hpl hp)
          have hs3 : ltK (ts[p]).pt t.pt → OkP okT (fun t => t) (ts.map CT.pt) (j + 1) := by
            intro h
            refine HS2.out rfl fun p' hp' h' => ?_
            have e : p' = p := by omega
            subst e
            exact h
          have HS3 := Lib.hid hs3
          clear hs3
          have hu1 : 1 ≤ (ts[p]).dep.length := ho
          clear ho
          have Hp := Lib.hid hp
          clear HBD HS2 HOP HBAD2 HPM HPC hp hj0
          generalize ts[p] = u at *
          have HCM : Hid (∀ W, Below w5.heap.size w5 W → Calls Try.prog 34 #[.agg #[.int .i64 (u).ln, .int .i64 (u).dy, .slice (u).Ad (u).dep.length (u).cd, .slice (u).Aa (u).arr.length (u).ca], .agg #[.int .i64 (t).ln, .int .i64 (t).dy, .slice (t).Ad (t).dep.length (t).cd, .slice (t).Aa (t).arr.length (t).ca]] W fun e w' => e = .returned (.int .i64 (cmpV u.pt t.pt)) ∧ Below W.heap.size W w') := fun W hW => cmp_any u t W (HUM.out W (HB5.out.trans (hW.mono HB5.out.size))) (HTM.out W (HB5.out.trans (hW.mono HB5.out.size))) hu1 ht1
          have HLT := Lib.hid (cmpV_lt (a := u.pt) (b := t.pt))
          generalize cmpV u.pt t.pt = cv at *
          by_cases hcv : cv < 0
          · have hc : decide (cv ≥ 0) = false := by simp; omega
            have hc' : decide (0 ≤ cv) = false := by simp; omega
            have HS4 := Lib.hid (HS3.out (HLT.out.1 hcv))
            clear HS3 HLT HBD2
            refine wp_region_overL (by kernel_rfl) (by kernel_rfl) ?_
            repeat (go_big_quiet_step (first | (go_at_call 33; exact callsOver (HIS.out _ (over_below _ _))) | (go_at_call 34; exact callsOver (HCM.out _ (over_below _ _)))))
            refine wpQuiet_nil ?_
            intro w6 hb6
            have HB6 := Lib.hid (HB.out.trans ((HB5.out.trans (hb6.mono HB5.out.size)).mono HB.out.size))
            clear hb6 x0 x1 x2 x3 q0 q1 q2 q3 e0 hpos
            go_wp2_with fail
            go_roundg (ts.length - j - 1)
            case measure => have := Hj.out; omega
            case rel => exact ⟨j + 1, by first | rfl | go_num, by omega, HS4.out, HB6.out⟩
          · have hc : decide (cv ≥ 0) = true := by simp; omega
            have hc' : decide (0 ≤ cv) = true := by simp; omega
            have hz := HBD2.out (fun h => hcv (HLT.out.2 h))
            subst hz
            clear HS3 HLT HBD2
            refine wp_region_overL (by kernel_rfl) (by kernel_rfl) ?_
            repeat (go_big_quiet_step (first | (go_at_call 33; exact callsOver (HIS.out _ (over_below _ _))) | (go_at_call 34; exact callsOver (HCM.out _ (over_below _ _)))))
            refine wpQuiet_nil ?_
            intro w6 hb6
            have HB6 := Lib.hid (HB.out.trans ((HB5.out.trans (hb6.mono HB5.out.size)).mono HB.out.size))
            clear hb6 x0 x1 x2 x3 q0 q1 q2 q3 e0 hpos
            go_wp2_with fail
            go_ret
            exact ⟨rfl, HB6.out⟩
    · have HT := Lib.hid (show z = true from HZ.out.trans (Hg.out.all (by simp; omega)))
      have hz := HT.out
      subst hz
      clear HT
      go_wp2_with fail
      go_ret
      exact ⟨rfl, HB.out⟩
set_option maxRecDepth 100000 in
set_option maxHeartbeats 3200000 in
theorem rcheck_any (A : Option Addr) (c : Nat) (ts : List CT) (w : World) (h : TL w A c ts) :
    Calls Try.prog 16 #[.slice A ts.length c] w fun e w' => e = .returned (.bool (chkT (ts.map CT.pt))) ∧ Below w.heap.size w w' := by
  have H := Lib.hid h
  clear h
  have HZ := Lib.hid (chkT_g (ts.map CT.pt))
  rw [List.length_map] at HZ
  generalize chkT (ts.map CT.pt) = z at *
  have hsz := H.out.sz
  by_cases h1 : 1024 < ts.length
  case pos =>
    have hz : z = false := by rw [HZ.out, decide_eq_false (by omega)]; rfl
    subst hz
    go_enter Try.func16, Try.ntmps16
    go_wp2_with fail
    go_ret
    exact ⟨rfl, (by repeat (first | exact Below.refl _ _ | (with_reducible refine Below.drew ?_) | (with_reducible refine below_drewN ?_ _) | (with_reducible refine Below.alloc ?_ (by first | omega | (simp; done) | (simp; omega)) _) | (with_reducible refine Below.setCell ?_ (by first | omega | (simp; done) | (simp; omega)) _) | (refine Below.trans ?_ (Below.mono (by with_reducible assumption) (by first | omega | (simp; done) | (simp; omega))))))⟩
  have hz := HZ.out
  rw [decide_eq_true (show ts.length ≤ 1024 by omega), Bool.true_and] at hz
  clear HZ
  have HZ := Lib.hid hz
  clear hz
  go_enter Try.func16, Try.ntmps16
  go_wp2_with fail
  go_loopg [3, 4, 10] ts.length (fun k _ _ v wr => CkLT w ts k v wr)
  case atStart => exact ⟨0, rfl, by omega, OkP.zero _ _ _, (by repeat (first | exact Below.refl _ _ | (with_reducible refine Below.drew ?_) | (with_reducible refine below_drewN ?_ _) | (with_reducible refine Below.alloc ?_ (by first | omega | (simp; done) | (simp; omega)) _) | (with_reducible refine Below.setCell ?_ (by first | omega | (simp; done) | (simp; omega)) _) | (refine Below.trans ?_ (Below.mono (by with_reducible assumption) (by first | omega | (simp; done) | (simp; omega))))))⟩
  case round =>
    obtain ⟨j, rfl, hj, hg, hb⟩ := hrel
    have Hj := Lib.hid hj
    have Hg := Lib.hid hg
    have HB := Lib.hid hb
    clear hj hg hb
    by_cases hlt : j < ts.length
    · have hltm : j < (ts.map CT.pt).length := by simpa using hlt
      have HBAD := Lib.hid (fun h => HZ.out.trans (chkG_bad1 (ok := okT) (key := fun t => t) (L := ts.map CT.pt) j hltm h))
      have HSTEP := Lib.hid (Hg.out.step hltm)
      have HTM : Hid (∀ W, Below wr.heap.size wr W → TM W W.heap.size ts[j]) := fun W hW => (H.out.m _ (List.getElem_mem hlt)).go (HB.out.trans (hW.mono HB.out.size))
      have HPM : Hid (∀ p (hp : p < ts.length), ∀ W, Below wr.heap.size wr W → TM W W.heap.size ts[p]) := fun p hp W hW => (H.out.m _ (List.getElem_mem hp)).go (HB.out.trans (hW.mono HB.out.size))
      obtain ⟨bb, off, rfl, hbb, d0, d1, d2, d3⟩ := rdT (H.out.r.grow HB.out) rfl j hlt
      have HBAD2 : Hid (∀ p (hp : p < ts.length), p + 1 = j → ¬ ltK (ts[p]).pt (ts[j]).pt → z = false) := fun p hp hpj hn => HZ.out.trans (chkG_bad2 (ok := okT) (key := fun t => t) (L := ts.map CT.pt) p j (by simpa using hp) hltm hpj (by simpa using hn))
      have HOP : Hid (∀ p (hp : p < ts.length), p + 1 = j → okT (ts[p]).pt = true) := fun p hp hpj => by have := Hg.out.1 p (by simpa using hp) (by omega); simpa using this
      have HS2 : Hid (okT (ts[j]).pt = true → (∀ p (hp : p < ts.length), p + 1 = j → ltK (ts[p]).pt (ts[j]).pt) → OkP okT (fun t => t) (ts.map CT.pt) (j + 1)) := fun h1 h2 => HSTEP.out (by simpa using h1) (fun p hp hpj => by have := h2 p (by simpa using hp) hpj; simpa using this)
      have HBD : Hid (okT (ts[j]).pt = false → z = false) := fun h => HBAD.out (by simpa using h)
      clear HBAD HSTEP
      generalize ts[j] = t at *
      have hbw : bb < wr.heap.size := World.block_lt_of_cell? _ _ d0
      go_upto_region 6 with fail
      have HPC : Hid (∀ p (hp : p < ts.length), wr.cell? ⟨bb, off + p * 4, none⟩ = some (.int .i64 (ts[p]).ln) ∧ wr.cell? ⟨bb, off + p * 4 + 1, none⟩ = some (.int .i64 (ts[p]).dy) ∧ wr.cell? ⟨bb, off + p * 4 + 2, none⟩ = some (.slice (ts[p]).Ad (ts[p]).dep.length (ts[p]).cd) ∧ wr.cell? ⟨bb, off + p * 4 + 3, none⟩ = some (.slice (ts[p]).Aa (ts[p]).arr.length (ts[p]).ca)) := fun p hp => by
        obtain ⟨b', o', e', _, q0, q1, q2, q3⟩ := rdT (H.out.r.grow HB.out) rfl p hp
        injection e' with e'
        injection e' with e1 e2
        subst e1 e2
        exact ⟨q0, q1, q2, q3⟩
      refine world_gen (fun w5 => Blk w5 wr.heap.size 28 #[.int .i64 (t).ln, .int .i64 (t).dy, .slice (t).Ad (t).dep.length (t).cd, .slice (t).Aa (t).arr.length (t).ca] ∧ Below wr.heap.size wr w5) ⟨Blk.new wr _ _, (by repeat (first | exact Below.refl _ _ | (with_reducible refine Below.drew ?_) | (with_reducible refine below_drewN ?_ _) | (with_reducible refine Below.alloc ?_ (by first | omega | (simp; done) | (simp; omega)) _) | (with_reducible refine Below.setCell ?_ (by first | omega | (simp; done) | (simp; omega)) _) | (refine Below.trans ?_ (Below.mono (by with_reducible assumption) (by first | omega | (simp; done) | (simp; omega))))))⟩ ?_
      rintro w5 ⟨hx5, hb5⟩
      have HB5 := Lib.hid hb5
      have x0 := hx5.cell 0
      have x1 := hx5.cell 1
      have x2 := hx5.cell 2
      have x3 := hx5.cell 3
      simp at x0 x1 x2 x3
      have hxl := hx5.lt
      have hbw5 := Nat.lt_of_lt_of_le hbw hb5.size
      clear d0 d1 d2 d3 hb5 hx5
      have HIS : Hid (∀ W, Below w5.heap.size w5 W → Calls Try.prog 35 #[.agg #[.int .i64 (t).ln, .int .i64 (t).dy, .slice (t).Ad (t).dep.length (t).cd, .slice (t).Aa (t).arr.length (t).ca]] W fun e w' => e = .returned (.bool (okT t.pt)) ∧ Below W.heap.size W w') := fun W hW => vt_any t W (HTM.out W (HB5.out.trans (hW.mono HB5.out.size)))
      have HL1 := Lib.hid (okT_iff (t := t.pt))
      generalize hu : okT t.pt = u at *
      have HU := Lib.hid hu
      clear hu
      cases u with
      | false =>
        have hz := HBD.out rfl
        subst hz
        refine wp_region_overL (by kernel_rfl) (by kernel_rfl) ?_
        repeat (go_big_quiet_step ((go_at_call 35; exact callsOver (HIS.out _ (over_below _ _)))))
        refine wpQuiet_nil ?_
        intro w6 hb6
        have HB6 := Lib.hid (HB.out.trans ((HB5.out.trans (hb6.mono HB5.out.size)).mono HB.out.size))
        go_wp2_with fail
        go_ret
        exact ⟨rfl, HB6.out⟩
      | true =>
        have ht1 : 1 ≤ t.dep.length := (HL1.out.1 rfl).2.2.2.1
        clear HL1
        by_cases hj0 : j = 0
        · subst hj0
          have HS3 := Lib.hid (HS2.out rfl (fun p _ h => by omega))
          clear HBD HS2 HOP HBAD2 HPM HPC
          refine wp_region_overL (by kernel_rfl) (by kernel_rfl) ?_
          repeat (go_big_quiet_step ((go_at_call 35; exact callsOver (HIS.out _ (over_below _ _)))))
          refine wpQuiet_nil ?_
          intro w6 hb6
          have HB6 := Lib.hid (HB.out.trans ((HB5.out.trans (hb6.mono HB5.out.size)).mono HB.out.size))
          clear hb6
          go_wp2_with fail
          go_roundg (ts.length - 0 - 1)
          case measure => have := Hj.out; omega
          case rel => exact ⟨1, by first | rfl | go_num, by omega, HS3.out, HB6.out⟩
        · obtain ⟨p, hp⟩ : ∃ p, p + 1 = j := ⟨j - 1, by omega⟩
          have hpl : p < ts.length := by omega
          have e0 : IntKind.i64.wrap ((j : Int) - 1) = (p : Int) := by rw [IntWalk.i64_in _ (by omega)]; omega
          have hpos : decide ((j : Int) > 0) = true := by simp; omega
          have hpos' : decide (0 < j) = true := by simp; omega
          obtain ⟨q0, q1, q2, q3⟩ := HPC.out p hpl
          replace q0 := cell_bel HB5.out q0
          replace q1 := cell_bel HB5.out q1
          replace q2 := cell_bel HB5.out q2
          replace q3 := cell_bel HB5.out q3
          have HUM := Lib.hid (HPM.out p hpl)
          have ho := (okT_iff.1 (HOP.out p hpl hp)).2.2.2.1
          have HBD2 := Lib.hid (HBAD2.out p hpl hp)
          have hs3 : ltK (ts[p]).pt t.pt → OkP okT (fun t => t) (ts.map CT.pt) (j + 1) := by
            intro h
            refine HS2.out rfl fun p' hp' h' => ?_
            have e : p' = p := by omega
            subst e
            exact h
          have HS3 := Lib.hid hs3
          clear hs3
          have hu1 : 1 ≤ (ts[p]).dep.length := ho
          clear ho
          have Hp := Lib.hid hp
          clear HBD HS2 HOP HBAD2 HPM HPC hp hj0
          generalize ts[p] = u at *
          have HCM : Hid (∀ W, Below w5.heap.size w5 W → Calls Try.prog 36 #[.agg #[.int .i64 (u).ln, .int .i64 (u).dy, .slice (u).Ad (u).dep.length (u).cd, .slice (u).Aa (u).arr.length (u).ca], .agg #[.int .i64 (t).ln, .int .i64 (t).dy, .slice (t).Ad (t).dep.length (t).cd, .slice (t).Aa (t).arr.length (t).ca]] W fun e w' => e = .returned (.int .i64 (cmpV u.pt t.pt)) ∧ Below W.heap.size W w') := fun W hW => ord_any u t W (HUM.out W (HB5.out.trans (hW.mono HB5.out.size))) (HTM.out W (HB5.out.trans (hW.mono HB5.out.size))) hu1 ht1
          have HLT := Lib.hid (cmpV_lt (a := u.pt) (b := t.pt))
          generalize cmpV u.pt t.pt = cv at *
          by_cases hcv : cv < 0
          · have hc : decide (cv ≥ 0) = false := by simp; omega
            have hc' : decide (0 ≤ cv) = false := by simp; omega
            have HS4 := Lib.hid (HS3.out (HLT.out.1 hcv))
            clear HS3 HLT HBD2
            refine wp_region_overL (by kernel_rfl) (by kernel_rfl) ?_
            repeat (go_big_quiet_step (first | (go_at_call 35; exact callsOver (HIS.out _ (over_below _ _))) | (go_at_call 36; exact callsOver (HCM.out _ (over_below _ _)))))
            refine wpQuiet_nil ?_
            intro w6 hb6
            have HB6 := Lib.hid (HB.out.trans ((HB5.out.trans (hb6.mono HB5.out.size)).mono HB.out.size))
            clear hb6 x0 x1 x2 x3 q0 q1 q2 q3 e0 hpos
            go_wp2_with fail
            go_roundg (ts.length - j - 1)
            case measure => have := Hj.out; omega
            case rel => exact ⟨j + 1, by first | rfl | go_num, by omega, HS4.out, HB6.out⟩
          · have hc : decide (cv ≥ 0) = true := by simp; omega
            have hc' : decide (0 ≤ cv) = true := by simp; omega
            have hz := HBD2.out (fun h => hcv (HLT.out.2 h))
            subst hz
            clear HS3 HLT HBD2
            refine wp_region_overL (by kernel_rfl) (by kernel_rfl) ?_
            repeat (go_big_quiet_step (first | (go_at_call 35; exact callsOver (HIS.out _ (over_below _ _))) | (go_at_call 36; exact callsOver (HCM.out _ (over_below _ _)))))
            refine wpQuiet_nil ?_
            intro w6 hb6
            have HB6 := Lib.hid (HB.out.trans ((HB5.out.trans (hb6.mono HB5.out.size)).mono HB.out.size))
            clear hb6 x0 x1 x2 x3 q0 q1 q2 q3 e0 hpos
            go_wp2_with fail
            go_ret
            exact ⟨rfl, HB6.out⟩
    · have HT := Lib.hid (show z = true from HZ.out.trans (Hg.out.all (by simp; omega)))
      have hz := HT.out
      subst hz
      clear HT
      go_wp2_with fail
      go_ret
      exact ⟨rfl, HB.out⟩
end Go.Proofs.Ythfifejjfnmpoaa
