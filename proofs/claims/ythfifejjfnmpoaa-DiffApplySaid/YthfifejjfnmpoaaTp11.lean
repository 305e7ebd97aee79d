import Derived.Test.YthfifejjfnmpoaaTp10
namespace Go.Proofs.Ythfifejjfnmpoaa
open Go.RowKit
theorem okE_key {e : PE} (h : okE e = true) : 1 ≤ (keyE e).dep.length := by
  unfold okE at h
  unfold keyE
  split at h
  · rename_i h1
    rw [if_pos h1]
    simp only [Bool.and_eq_true] at h
    exact (okT_iff.1 h.2).2.2.2.1
  · rename_i h1
    rw [if_neg h1]
    split at h
    · simp only [Bool.and_eq_true] at h
      exact (okT_iff.1 h.1).2.2.2.1
    · split at h
      · simp only [Bool.and_eq_true] at h
        exact (okT_iff.1 h.1.1.1).2.2.2.1
      · cases h
def CkLE (w : World) (es : List CE) (k : Nat) (v : Value) (wr : World) : Prop :=
  ∃ j : Nat, v = .int .i64 j ∧ j + k = es.length ∧ OkP okE keyE (es.map CE.pe) j ∧ Below w.heap.size w wr
set_option maxRecDepth 100000 in
set_option maxHeartbeats 3200000 in
theorem ckE_any (A : Option Addr) (c : Nat) (es : List CE) (w : World) (h : EL w A c es) :
    Calls Try.prog 26 #[.slice A es.length c] w fun e w' => e = .returned (.bool (chkG okE keyE (es.map CE.pe))) ∧ Below w.heap.size w w' := by
  have HE := Lib.hid h
  clear h
  have hz0 : ∀ z, chkG okE keyE (es.map CE.pe) = z → z = chkG okE keyE (es.map CE.pe) := fun z h => h.symm
  generalize hz : chkG okE keyE (es.map CE.pe) = z at *
  have HZ := Lib.hid hz.symm
  clear hz hz0
  have hsz := HE.out.sz
  go_enter Try.func26, Try.ntmps26
  go_wp2_with fail
  go_loopg [3, 4, 7] es.length (fun k _ _ v wr => CkLE w es k v wr)
  case atStart => exact ⟨0, rfl, by omega, OkP.zero _ _ _, (by repeat (first | exact Below.refl _ _ | (with_reducible refine Below.drew ?_) | (with_reducible refine below_drewN ?_ _) | (with_reducible refine Below.alloc ?_ (by first | omega | (simp; done) | (simp; omega)) _) | (with_reducible refine Below.setCell ?_ (by first | omega | (simp; done) | (simp; omega)) _) | (refine Below.trans ?_ (Below.mono (by with_reducible assumption) (by first | omega | (simp; done) | (simp; omega))))))⟩
  case round =>
    obtain ⟨j, rfl, hj, hg, hb⟩ := hrel
    have Hj := Lib.hid hj
    have Hg := Lib.hid hg
    have HB := Lib.hid hb
    clear hj hg hb
    by_cases hlt : j < es.length
    · have hltm : j < (es.map CE.pe).length := by simpa using hlt
      have HBAD := Lib.hid (fun h => HZ.out.trans (chkG_bad1 (ok := okE) (key := keyE) (L := es.map CE.pe) j hltm h))
      have HSTEP := Lib.hid (Hg.out.step hltm)
      have HTM : Hid (∀ W, Below wr.heap.size wr W → EM W W.heap.size es[j]) := fun W hW => (HE.out.m _ (List.getElem_mem hlt)).go (HB.out.trans (hW.mono HB.out.size))
      have HPM : Hid (∀ p (hp : p < es.length), ∀ W, Below wr.heap.size wr W → EM W W.heap.size es[p]) := fun p hp W hW => (HE.out.m _ (List.getElem_mem hp)).go (HB.out.trans (hW.mono HB.out.size))
      obtain ⟨bb, off, rfl, hbb, d0, d1, d2, d3, d4, d5, d6, d7, d8⟩ := rdE (HE.out.r.grow HB.out) rfl j hlt
      have HBAD2 : Hid (∀ p (hp : p < es.length), p + 1 = j → ¬ ltK (keyE (es[p]).pe) (keyE (es[j]).pe) → z = false) := fun p hp hpj hn => HZ.out.trans (chkG_bad2 (ok := okE) (key := keyE) (L := es.map CE.pe) p j (by simpa using hp) hltm hpj (by simpa using hn))
      have HOP : Hid (∀ p (hp : p < es.length), p + 1 = j → okE (es[p]).pe = true) := fun p hp hpj => by have := Hg.out.1 p (by simpa using hp) (by omega); simpa using this
      have HS2 : Hid (okE (es[j]).pe = true → (∀ p (hp : p < es.length), p + 1 = j → ltK (keyE (es[p]).pe) (keyE (es[j]).pe)) → OkP okE keyE (es.map CE.pe) (j + 1)) := fun h1 h2 => HSTEP.out (by simpa using h1) (fun p hp hpj => by have := h2 p (by simpa using hp) hpj; simpa using this)
      have HBD : Hid (okE (es[j]).pe = false → z = false) := fun h => HBAD.out (by simpa using h)
      clear HBAD HSTEP
      generalize es[j] = t at *
      have hbw : bb < wr.heap.size := World.block_lt_of_cell? _ _ d0
      go_upto_region 4 with fail
      have HPC : Hid (∀ p (hp : p < es.length), (wr).cell? ⟨bb, off + p * 9, none⟩ = some (.int .i64 (es[p]).k) ∧ (wr).cell? ⟨bb, off + p * 9 + 1, none⟩ = some (.int .i64 (es[p]).o.ln) ∧ (wr).cell? ⟨bb, off + p * 9 + 2, none⟩ = some (.int .i64 (es[p]).o.dy) ∧ (wr).cell? ⟨bb, off + p * 9 + 3, none⟩ = some (.slice (es[p]).o.Ad (es[p]).o.dep.length (es[p]).o.cd) ∧ (wr).cell? ⟨bb, off + p * 9 + 4, none⟩ = some (.slice (es[p]).o.Aa (es[p]).o.arr.length (es[p]).o.ca) ∧ (wr).cell? ⟨bb, off + p * 9 + 5, none⟩ = some (.int .i64 (es[p]).n.ln) ∧ (wr).cell? ⟨bb, off + p * 9 + 6, none⟩ = some (.int .i64 (es[p]).n.dy) ∧ (wr).cell? ⟨bb, off + p * 9 + 7, none⟩ = some (.slice (es[p]).n.Ad (es[p]).n.dep.length (es[p]).n.cd) ∧ (wr).cell? ⟨bb, off + p * 9 + 8, none⟩ = some (.slice (es[p]).n.Aa (es[p]).n.arr.length (es[p]).n.ca)) := fun p hp => by
        obtain ⟨b', o', e', _, q⟩ := rdE (HE.out.r.grow HB.out) rfl p hp
        injection e' with e'
        injection e' with e1 e2
        subst e1 e2
        exact q
      refine world_gen (fun w5 => Blk w5 wr.heap.size 40 #[.int .i64 (t).k, .int .i64 (t).o.ln, .int .i64 (t).o.dy, .slice (t).o.Ad (t).o.dep.length (t).o.cd, .slice (t).o.Aa (t).o.arr.length (t).o.ca, .int .i64 (t).n.ln, .int .i64 (t).n.dy, .slice (t).n.Ad (t).n.dep.length (t).n.cd, .slice (t).n.Aa (t).n.arr.length (t).n.ca] ∧ Below wr.heap.size wr w5) ⟨Blk.new wr _ _, (by repeat (first | exact Below.refl _ _ | (with_reducible refine Below.drew ?_) | (with_reducible refine below_drewN ?_ _) | (with_reducible refine Below.alloc ?_ (by first | omega | (simp; done) | (simp; omega)) _) | (with_reducible refine Below.setCell ?_ (by first | omega | (simp; done) | (simp; omega)) _) | (refine Below.trans ?_ (Below.mono (by with_reducible assumption) (by first | omega | (simp; done) | (simp; omega))))))⟩ ?_
      rintro w5 ⟨hx5, hb5⟩
      have HB5 := Lib.hid hb5
      have x0 := hx5.cell 0
      have x1 := hx5.cell 1
      have x2 := hx5.cell 2
      have x3 := hx5.cell 3
      have x4 := hx5.cell 4
      have x5 := hx5.cell 5
      have x6 := hx5.cell 6
      have x7 := hx5.cell 7
      have x8 := hx5.cell 8
      simp at x0 x1 x2 x3 x4 x5 x6 x7 x8
      have hxl := hx5.lt
      have hbw5 := Nat.lt_of_lt_of_le hbw hb5.size
      clear d0 d1 d2 d3 d4 d5 d6 d7 d8 hb5 hx5
      have HIS : Hid (∀ W, Below w5.heap.size w5 W → Calls Try.prog 46 #[.agg #[.int .i64 (t).k, .int .i64 (t).o.ln, .int .i64 (t).o.dy, .slice (t).o.Ad (t).o.dep.length (t).o.cd, .slice (t).o.Aa (t).o.arr.length (t).o.ca, .int .i64 (t).n.ln, .int .i64 (t).n.dy, .slice (t).n.Ad (t).n.dep.length (t).n.cd, .slice (t).n.Aa (t).n.arr.length (t).n.ca]] W fun e w' => e = .returned (.bool (okE t.pe)) ∧ Below W.heap.size W w') := fun W hW => ve_any t W (HTM.out W (HB5.out.trans (hW.mono HB5.out.size)))
      have HL1 := Lib.hid (okE_key (e := t.pe))
      generalize hu : okE t.pe = u at *
      have HU := Lib.hid hu
      clear hu
      cases u with
      | false =>
        have hz := HBD.out rfl
        subst hz
        refine wp_region_overL (by kernel_rfl) (by kernel_rfl) ?_
        repeat (go_big_quiet_step ((go_at_call 46; exact callsOver (HIS.out _ (over_below _ _)))))
        refine wpQuiet_nil ?_
        intro w6 hb6
        have HB6 := Lib.hid (HB.out.trans ((HB5.out.trans (hb6.mono HB5.out.size)).mono HB.out.size))
        go_wp2_with fail
        go_ret
        exact ⟨rfl, HB6.out⟩
      | true =>
        have ht1 : 1 ≤ (keyC t).dep.length := by
          have := HL1.out rfl
          rw [← keyC_pt] at this
          exact this
        clear HL1
        by_cases hj0 : j = 0
        · subst hj0
          have HS3 := Lib.hid (HS2.out rfl (fun p _ h => by omega))
          clear HBD HS2 HOP HBAD2 HPM HPC
          refine wp_region_overL (by kernel_rfl) (by kernel_rfl) ?_
          repeat (go_big_quiet_step ((go_at_call 46; exact callsOver (HIS.out _ (over_below _ _)))))
          refine wpQuiet_nil ?_
          intro w6 hb6
          have HB6 := Lib.hid (HB.out.trans ((HB5.out.trans (hb6.mono HB5.out.size)).mono HB.out.size))
          clear hb6
          go_wp2_with fail
          go_roundg (es.length - 0 - 1)
          case measure => have := Hj.out; omega
          case rel => exact ⟨1, by first | rfl | go_num, by omega, HS3.out, HB6.out⟩
        · obtain ⟨p, hp⟩ : ∃ p, p + 1 = j := ⟨j - 1, by omega⟩
          have hpl : p < es.length := by omega
          have e0 : IntKind.i64.wrap ((j : Int) - 1) = (p : Int) := by rw [IntWalk.i64_in _ (by omega)]; omega
          have hpos : decide ((j : Int) > 0) = true := by simp; omega
          have hpos' : decide (0 < j) = true := by simp; omega
          obtain ⟨q0, q1, q2, q3, q4, q5, q6, q7, q8⟩ := HPC.out p hpl
          replace q0 := cell_bel HB5.out q0
          replace q1 := cell_bel HB5.out q1
          replace q2 := cell_bel HB5.out q2
          replace q3 := cell_bel HB5.out q3
          replace q4 := cell_bel HB5.out q4
          replace q5 := cell_bel HB5.out q5
          replace q6 := cell_bel HB5.out q6
          replace q7 := cell_bel HB5.out q7
          replace q8 := cell_bel HB5.out q8
          have HUM := Lib.hid (HPM.out p hpl)
          have ho := okE_key (HOP.out p hpl hp)
          rw [← keyC_pt] at ho
          have hu1 : 1 ≤ (keyC (es[p])).dep.length := ho
          have HBD2 := Lib.hid (HBAD2.out p hpl hp)
          have hs3 : ltK (keyE (es[p]).pe) (keyE t.pe) → OkP okE keyE (es.map CE.pe) (j + 1) := by
            intro h
            refine HS2.out rfl fun p' hp' h' => ?_
            have e : p' = p := by omega
            subst e
            exact h
          have HS3 := Lib.hid hs3
          clear hs3 ho
          have Hp := Lib.hid hp
          clear HBD HS2 HOP HBAD2 HPM HPC hp hj0
          generalize es[p] = u at *
          have HCM : Hid (∀ W, Below w5.heap.size w5 W → Calls Try.prog 36 #[.agg #[.int .i64 (keyC u).ln, .int .i64 (keyC u).dy, .slice (keyC u).Ad (keyC u).dep.length (keyC u).cd, .slice (keyC u).Aa (keyC u).arr.length (keyC u).ca], .agg #[.int .i64 (keyC t).ln, .int .i64 (keyC t).dy, .slice (keyC t).Ad (keyC t).dep.length (keyC t).cd, .slice (keyC t).Aa (keyC t).arr.length (keyC t).ca]] W fun e w' => e = .returned (.int .i64 (cmpV (keyE u.pe) (keyE t.pe))) ∧ Below W.heap.size W w') := fun W hW => by
            rw [← keyC_pt, ← keyC_pt]
            exact ord_any (keyC u) (keyC t) W (keyC_tm (HUM.out W (HB5.out.trans (hW.mono HB5.out.size)))) (keyC_tm (HTM.out W (HB5.out.trans (hW.mono HB5.out.size)))) hu1 ht1
          have HLT := Lib.hid (cmpV_lt (a := keyE u.pe) (b := keyE t.pe))
          generalize cmpV (keyE u.pe) (keyE t.pe) = cv at *
          have HK1 := Lib.hid (fun W => rkey_any u W)
          have HK2 := Lib.hid (fun W => rkey_any t W)
          generalize keyC u = ku at *
          generalize keyC t = kt at *
          by_cases hcv : cv < 0
          · have hc : decide (cv ≥ 0) = false := by simp; omega
            have hc' : decide (0 ≤ cv) = false := by simp; omega
            have HS4 := Lib.hid (HS3.out (HLT.out.1 hcv))
            clear HS3 HLT HBD2
            refine wp_region_overL (by kernel_rfl) (by kernel_rfl) ?_
            repeat (go_big_quiet_step (first | (go_at_call 46; exact callsOver (HIS.out _ (over_below _ _))) | (go_at_call 47; with_reducible exact callsOver (HK1.out _)) | (go_at_call 47; with_reducible exact callsOver (HK2.out _)) | (go_at_call 36; exact callsOver (HCM.out _ (over_below _ _)))))
            refine wpQuiet_nil ?_
            intro w6 hb6
            have HB6 := Lib.hid (HB.out.trans ((HB5.out.trans (hb6.mono HB5.out.size)).mono HB.out.size))
            clear hb6 x0 x1 x2 x3 x4 x5 x6 x7 x8 q0 q1 q2 q3 q4 q5 q6 q7 q8 e0 hpos
            go_wp2_with fail
            go_roundg (es.length - j - 1)
            case measure => have := Hj.out; omega
            case rel => exact ⟨j + 1, by first | rfl | go_num, by omega, HS4.out, HB6.out⟩
          · have hc : decide (cv ≥ 0) = true := by simp; omega
            have hc' : decide (0 ≤ cv) = true := by simp; omega
            have hz := HBD2.out (fun h => hcv (HLT.out.2 h))
            subst hz
            clear HS3 HLT HBD2
            refine wp_region_overL (by kernel_rfl) (by kernel_rfl) ?_
            repeat (go_big_quiet_step (first | (go_at_call 46; exact callsOver (HIS.out _ (over_below _ _))) | (go_at_call 47; with_reducible exact callsOver (HK1.out _)) | (go_at_call 47; with_reducible exact callsOver (HK2.out _)) | (go_at_call 36; exact callsOver (HCM.out _ (over_below _ _)))))
            refine wpQuiet_nil ?_
            intro w6 hb6
            have HB6 := Lib.hid (HB.out.trans ((HB5.out.trans (hb6.mono HB5.out.size)).mono HB.out.size))
            clear hb6 x0 x1 x2 x3 x4 x5 x6 x7 x8 q0 q1 q2 q3 q4 q5 q6 q7 q8 e0 hpos
            go_wp2_with fail
            go_ret
            exact ⟨rfl, HB6.out⟩
    · have HT := Lib.hid (show z = true from HZ.out.trans (Hg.out.all (by simp; omega)))
      have hz := HT.out
      subst hz
      clear HT
      go_wp2_with fail
      go_ret
      exact ⟨rfl, HB.out⟩
end Go.Proofs.Ythfifejjfnmpoaa
