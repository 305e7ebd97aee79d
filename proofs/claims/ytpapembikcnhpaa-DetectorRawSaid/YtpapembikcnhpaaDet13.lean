import Derived.Test.YtpapembikcnhpaaDet12
namespace Go.Proofs.Ytpapembikcnhpaa
open Go.RowKit

theorem same_below (A B : Option Addr) (m m' c c' : Nat) (cs : List (Int × Int)) (w : World) (h : Rd w w.heap.size 3 A m (cs.flatMap ctc)) (h' : Rd w w.heap.size 3 B m' (cs.flatMap ctc)) (hm : m = cs.length) (hm' : m' = cs.length) (hx : cs.length ≤ 4611686018427387904) :
    Calls Try.prog 25 #[.slice A m c, .slice B m' c'] w fun e w' => e = .returned (.bool true) ∧ Below w.heap.size w w' :=
  (same_yes A B m m' c c' cs w h h' hm hm' hx).mono fun _ _ ⟨he, d, hd⟩ => ⟨he, by rw [hd]; exact below_drewN (Below.refl _ _) d⟩

set_option maxHeartbeats 3200000 in
theorem drun_walk (A : Option Addr) (n c : Nat) (z : List Int) (w : World) (h : Rd w w.heap.size 1 A n (z.map (Value.int .i64))) (hm : n ≤ c ∧ c ≤ maxLen ∧ c * 8 ≤ 140737488351232) :
    Calls Try.prog 9 #[.slice A n c] w fun e w' => e = .returned (.bool true) ∧ Below w.heap.size w w' := by
  have H := Lib.hid h
  have hn : n ≤ maxLen := by omega
  have HN := Lib.hid hn
  obtain ⟨i0, hi0, hz0, hz1, hz2⟩ := info_parts infoCtr
  have HI := Lib.hid (And.intro hi0 (And.intro hz0 (And.intro hz1 hz2)))
  clear h hm hn hi0 hz0 hz1 hz2
  go_enter Try.func9, Try.ntmps9
  go_wp2_with fail
  refine (pulses_any A n c z _ H.out HN.out).mono ?_
  rintro e w1 ⟨v, ps, rfl, hlen, hok, hb1, hown⟩
  obtain ⟨A2, c2, rfl, hc2, hm2⟩ := own_slice hown
  have HP := Lib.hid (Rd.of_own hown)
  have Hb1 := Lib.hid hb1
  have Hok := Lib.hid hok
  unfold maxLen at hm2
  clear H HN hb1 hok hown
  go_wp2_with (at_make; refine wpList_make_full _ rfl _ _ 41 rfl w1.heap.size 26 i0 _ 3 Try.underlying41 HI.out.1 HI.out.2.1 HI.out.2.2.1 .i64 .i64 _ _ 3 rfl rfl rfl rfl ?m1 ?m2 ?m3 ?_; rotate_right; intro w2 hown2 hg2)
  case m1 => rw [HI.out.2.2.2]; omega
  case m2 => simp only [maxLen]; omega
  case m3 => omega
  have HO2 : Hid (w2.ownsRow w1.heap.size 26 3 (.slice (some ⟨w1.heap.size, 0, none⟩) 3 3) 3 ((List.replicate 3 ((0 : Int), (0 : Int))).flatMap ctc)) := by
    have := madeCells_flat ctc 3 (by omega) ctc_len (0, 0) 3
    rw [← this]
    exact hown2
  have Hb2 := Lib.hid (show Below w1.heap.size w1 w2 from (Below.refl _ _).grown hg2 (Nat.le_refl _) (by simp))
  clear hown2 hg2
  obtain ⟨G, hG⟩ : ∃ G, G = w1.heap.size := ⟨_, rfl⟩
  rw [← hG] at HO2 ⊢
  have hGo : w1.heap.size ≤ G := by omega
  clear hG
  go_loopg [16] ps.length (fun k v wr => R3 w1 3 ps G k v wr)
  case atStart => exact ⟨0, rfl, by omega, by simpa using own_base HO2.out hGo, Hb2.out⟩
  case round =>
    obtain ⟨s, rfl, hs, hown, hbel⟩ := hrel
    have Hs := Lib.hid hs
    have HO3 := Lib.hid hown
    have HB3 := Lib.hid hbel
    clear hs hown hbel HO2 Hb2
    by_cases hlt2 : s < ps.length
    · obtain ⟨b, off, rfl, hbb, d0, d1, d2, d3⟩ := pul_rd (HP.out.keep (fun k hk => HB3.out.block k hk)) rfl s hlt2
      have hgs := Hok.out ps[s] (List.getElem_mem hlt2)
      have hlen3 : ((ps.take s).foldl feedC (List.replicate 3 (0, 0))).length = 3 := by rw [fold_len]; simp
      have hcs : (ps.take (s + 1)).foldl feedC (List.replicate 3 (0, 0)) = feedC ((ps.take s).foldl feedC (List.replicate 3 (0, 0))) ps[s] := by
        rw [List.take_succ_eq_append_getElem hlt2, List.foldl_append]; rfl
      generalize (ps.take s).foldl feedC (List.replicate 3 (0, 0)) = cs at *
      have Hcs := Lib.hid hcs
      clear hcs
      generalize ps[s] = p at *
      obtain ⟨pr, pi, pa, pb⟩ := p
      simp only at d0 d1 d2 d3
      obtain ⟨hr0, hr1, _⟩ := hgs
      simp only at hr0 hr1
      obtain ⟨r, rfl⟩ := Int.eq_ofNat_of_zero_le hr0
      have hrn : r < 3 := by omega
      obtain ⟨q0, q1, q2⟩ := ctr_cells HO3.out hlen3 r hrn
      generalize hq : cs.getD r (0, 0) = q at *
      have Hq := Lib.hid hq
      have Hl3 := Lib.hid hlen3
      clear hq hlen3
      have fz := fun o => HO3.out.frozenAt o
      have hGl : G < wr.heap.size := (own_block HO3.out G rfl).2
      go_upto_region 6 with fail
      refine wp_region_overT 11 (by kernel_rfl) (by kernel_rfl) ?_
      simp only [List.take_succ_cons, List.take_zero, List.drop_succ_cons, List.drop_zero]
      repeat (go_big_quiet_step ((go_at_call 14; exact callsOver (feed_is _ _ _ _ _ _ _ _))))
      refine wpQuiet_nil ?_
      intro w5 hb5
      have hb6 : Below wr.heap.size wr w5 := ((Below.refl _ _).alloc (Nat.le_refl _) _).trans (hb5.mono (by simp))
      have HO5 := Lib.hid (own_grow HO3.out hb6)
      have HB5 := Lib.hid (HB3.out.trans (hb6.mono HB3.out.size))
      clear q0 q1 q2 fz d0 d1 d2 d3 hb5 hb6 HO3 HB3
      obtain ⟨q0, q1, q2⟩ := ctr_cells HO5.out Hl3.out r hrn
      rw [Hq.out] at q0 q1 q2
      have fz := fun o => HO5.out.frozenAt o
      go_wp2_with fail
      go_roundg (ps.length - s - 1)
      case measure => have := Hs.out; omega
      case rel =>
        refine ⟨s + 1, by first | rfl | go_num, by omega, ?_, ((HB5.out.setCell (p := ⟨G, r * 3, none⟩) hGo _).setCell (p := ⟨G, r * 3 + 1, none⟩) hGo _).setCell (p := ⟨G, r * 3 + 2, none⟩) hGo _⟩
        rw [Hcs.out]
        have h1 := (HO5.out.stored (r * 3) (.int .i64 (feedF q.1 q.2 q.2 pi pa pb).1)).1
        have h2 := (h1.stored (r * 3 + 1) (.int .i64 (feedF q.1 q.2 q.2 pi pa pb).2)).1
        have h3 := (h2.stored (r * 3 + 2) (.int .i64 (feedF q.1 q.2 q.2 pi pa pb).2)).1
        rw [flat_set3 ctc ctc_len cs r (by rw [Hl3.out]; omega) (feedF q.1 q.2 q.2 pi pa pb) _ _ _ rfl] at h3
        have e : feedC cs ⟨r, pi, pa, pb⟩ = cs.set r (feedF q.1 q.2 q.2 pi pa pb) := by
          simp only [feedC, Int.toNat_natCast, Hq.out]
        rw [e]
        exact h3
    · have hrun : (ps.take s).foldl feedC (List.replicate 3 (0, 0)) = runC 3 ps := by
        rw [List.take_of_length_le (by omega)]; simp [runC]
      rw [hrun] at HO3
      have hrk : runOk 3 ps = true := by
        have : ps.all (goodB 3) = true := by
          rw [List.all_eq_true]; intro p hp; have := Hok.out p hp; simp [goodB]; exact ⟨this.1, this.2.1⟩
        simp [runOk, this]
      have hr3 : (runC 3 ps).length = 3 := by simp [runC, fold_len]
      have Hr := Lib.hid (And.intro hrk hr3)
      clear hrun hrk hr3
      go_wp2_with fail
      refine (run_any 3 A2 ps.length c2 ps wr (HP.out.keep (fun k hk => HB3.out.block k hk) |>.more HB3.out.size) rfl (by omega)).mono ?_
      rintro e w6 ⟨hb6, hif⟩
      rw [Hr.out.1, if_pos rfl] at hif
      obtain ⟨v6, rfl, hown6⟩ := hif
      rw [Hr.out.2] at hown6
      obtain ⟨A6, c6, rfl, _, _⟩ := own_slice hown6
      have HO6 := Lib.hid hown6
      have HB6 := Lib.hid hb6
      clear hown6 hb6
      go_wp2_with fail
      refine (rrun_any 3 A2 ps.length c2 ps w6 (HP.out.keep (fun k hk => (HB3.out.trans (HB6.out.mono HB3.out.size)).block k hk) |>.more (Nat.le_trans HB3.out.size HB6.out.size)) rfl (by omega)).mono ?_
      rintro e w7 ⟨hb7, hif⟩
      rw [Hr.out.1, if_pos rfl] at hif
      obtain ⟨v7, rfl, hown7⟩ := hif
      rw [Hr.out.2] at hown7
      obtain ⟨A7, c7, rfl, _, _⟩ := own_slice hown7
      have HO7 := Lib.hid hown7
      have HB7 := Lib.hid hb7
      clear hown7 hb7
      go_wp2_with fail
      refine (awake_any _).mono ?_
      rintro e w8 ⟨rfl, hb8⟩
      have HB8 := Lib.hid hb8
      clear hb8
      go_wp2_with fail
      refine (same_below _ _ _ _ _ _ (runC 3 ps) w8 (Rd.of_own (own_grow (own_grow HO6.out HB7.out) HB8.out)) (Rd.of_own (own_grow (own_grow (own_grow HO3.out HB6.out) HB7.out) HB8.out)) Hr.out.2.symm Hr.out.2.symm (by rw [Hr.out.2]; omega)).mono ?_
      rintro e w9 ⟨rfl, hb9⟩
      have HB9 := Lib.hid hb9
      clear hb9
      go_wp2_with fail
      refine (same_below _ _ _ _ _ _ (runC 3 ps) w9 (Rd.of_own (own_grow (own_grow (own_grow HO6.out HB7.out) HB8.out) HB9.out)) (Rd.of_own (own_grow (own_grow HO7.out HB8.out) HB9.out)) Hr.out.2.symm Hr.out.2.symm (by rw [Hr.out.2]; omega)).mono ?_
      rintro e w10 ⟨rfl, hb10⟩
      go_wp2_with fail
      go_ret
      have b1 := Hb1.out
      have b3 := HB3.out
      have b6 := HB6.out
      have b7 := HB7.out
      have b8 := HB8.out
      have b9 := HB9.out
      have s1 := b1.size
      have s3 := b3.size
      have s6 := b6.size
      have s7 := b7.size
      have s8 := b8.size
      have s9 := b9.size
      exact ⟨rfl, (by repeat (first | exact Below.refl _ _ | (with_reducible refine Below.drew ?_) | (with_reducible refine below_drewN ?_ _) | (with_reducible refine Below.alloc ?_ (by first | omega | (simp; done) | (simp; omega)) _) | (with_reducible refine Below.setCell ?_ (by first | omega | (simp; done) | (simp; omega)) _) | (refine Below.trans ?_ (Below.mono (by with_reducible assumption) (by first | omega | (simp; done) | (simp; omega))))))⟩
end Go.Proofs.Ytpapembikcnhpaa
