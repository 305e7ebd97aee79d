import Derived.Test.YtpapembikcnhpaaDet11
namespace Go.Proofs.Ytpapembikcnhpaa
open Go.RowKit

def R4 (w : World) (nn : Nat) (ps : List Pul) (G k : Nat) (v : Value) (wr : World) : Prop :=
  ∃ s : Nat, v = .int .i64 s ∧ s + k = ps.length ∧ (∀ i (h : i < ps.length), i < s → goodB nn ps[i] = true) ∧ wr.ownsRow w.heap.size 26 3 (.slice (some ⟨G, 0, none⟩) nn nn) nn (((ps.take s).foldl feedC (List.replicate nn (0, 0))).flatMap ctc) ∧ Below w.heap.size w wr

set_option maxHeartbeats 3200000 in
theorem rrun_any (n : Int) (A : Option Addr) (m c : Nat) (ps : List Pul) (w : World) (h : Rd w w.heap.size 4 A m (ps.flatMap Pul.cells)) (hm : m = ps.length) (hx : ps.length ≤ 4611686018427387904) :
    Calls Try.prog 24 #[.int .i64 n, .slice A m c] w (RunOut n ps w) := by
  subst hm
  have H := Lib.hid h
  obtain ⟨i0, hi0, hz0, hz1, hz2⟩ := info_parts infoCtr
  have HI := Lib.hid (And.intro hi0 (And.intro hz0 (And.intro hz1 hz2)))
  clear hi0 hz0 hz1 hz2 h
  by_cases hn : 0 ≤ n ∧ n ≤ 144
  case neg =>
    have hno : runOk n ps = false := by simp [runOk]; intro a b; omega
    have Hno := Lib.hid hno
    clear hno
    by_cases h0 : n < 0
    · go_enter Try.func24, Try.ntmps24
      go_wp2_with fail
      go_ret2
      exact ⟨Below.refl _ _, by rw [Hno.out]; rfl⟩
    · have h1 : ¬ n < 0 := h0
      have h2 : 144 < n := by omega
      have h0' : decide (n < 0) = false := by simpa using h0
      clear hn
      go_enter Try.func24, Try.ntmps24
      go_wp2_with fail
      go_ret2
      exact ⟨Below.refl _ _, by rw [Hno.out]; rfl⟩
  case pos =>
    obtain ⟨hn0, hn1⟩ := hn
    obtain ⟨nn, rfl⟩ := Int.eq_ofNat_of_zero_le hn0
    have h0' : decide ((nn : Int) < 0) = false := by simp
    have h1' : decide (144 < (nn : Int)) = false := by simp; omega
    go_enter Try.func24, Try.ntmps24
    go_wp2_with (at_make; refine wpList_make_full _ rfl _ _ 41 rfl w.heap.size 26 i0 _ 3 Try.underlying41 HI.out.1 HI.out.2.1 HI.out.2.2.1 .i64 .i64 _ _ nn rfl rfl rfl rfl ?m1 ?m2 ?m3 ?_; rotate_right; intro w2 hown2 hg2)
    case m1 => rw [HI.out.2.2.2]; omega
    case m2 => simp only [maxLen]; omega
    case m3 => omega
    have HO2 : Hid (w2.ownsRow w.heap.size 26 3 (.slice (some ⟨w.heap.size, 0, none⟩) nn nn) nn ((List.replicate nn ((0 : Int), (0 : Int))).flatMap ctc)) := by
      have := madeCells_flat ctc 3 (by omega) ctc_len (0, 0) nn
      rw [← this]
      exact hown2
    have Hb2 := Lib.hid (show Below w.heap.size w w2 from (Below.refl _ _).grown hg2 (Nat.le_refl _) (by simp))
    clear hown2 hg2
    obtain ⟨G, hG⟩ : ∃ G, G = w.heap.size := ⟨_, rfl⟩
    rw [← hG] at HO2 ⊢
    have hGo : w.heap.size ≤ G := by omega
    clear hG
    go_loopg [19] ps.length (fun k v wr => R4 w nn ps G k v wr)
    case atStart => exact ⟨0, rfl, by omega, fun i h hi => by omega, by simpa using own_base HO2.out hGo, Hb2.out⟩
    case round =>
      obtain ⟨s, rfl, hs, hgood, hown, hbel⟩ := hrel
      have Hs := Lib.hid hs
      have Hg := Lib.hid hgood
      have HO3 := Lib.hid hown
      have HB3 := Lib.hid hbel
      clear hs hown hbel HO2 Hb2 hgood
      by_cases hlt2 : s < ps.length
      · obtain ⟨b, off, rfl, hbb, d0, d1, d2, d3⟩ := pul_rd (H.out.keep (fun k hk => HB3.out.block k hk)) rfl s hlt2
        have hlen : ((ps.take s).foldl feedC (List.replicate nn (0, 0))).length = nn := by rw [fold_len]; simp
        have hcs : (ps.take (s + 1)).foldl feedC (List.replicate nn (0, 0)) = feedC ((ps.take s).foldl feedC (List.replicate nn (0, 0))) ps[s] := by
          rw [List.take_succ_eq_append_getElem hlt2, List.foldl_append]; rfl
        generalize (ps.take s).foldl feedC (List.replicate nn (0, 0)) = cs at *
        have Hcs := Lib.hid hcs
        clear hcs
        have hno : goodB nn ps[s] = false → Hid (runOk nn ps = false) := fun hbad => by
          have h2 : ps.all (goodB nn) = false := by
            rw [List.all_eq_false]
            exact ⟨ps[s], List.getElem_mem hlt2, by rw [hbad]; simp⟩
          exact Lib.hid (by simp [runOk, h2])
        have Hno := Lib.hid hno
        clear hno
        have hnx : goodB nn ps[s] = true → ∀ i (h : i < ps.length), i < s + 1 → goodB nn ps[i] = true := fun h1 i hi hij => by
          rcases Nat.lt_or_ge i s with h2 | h2
          · exact Hg.out i hi h2
          · obtain rfl : i = s := by omega
            exact h1
        have Hnx := Lib.hid hnx
        clear hnx Hg
        generalize ps[s] = p at *
        obtain ⟨pr, pi, pa, pb⟩ := p
        simp only at d0 d1 d2 d3
        by_cases hr0 : pr < 0
        · go_wp2_with fail
          go_ret2
          exact ⟨(by have hbelh := HB3.out; have hbels := hbelh.size; exact (by repeat (first | exact Below.refl _ _ | (with_reducible refine Below.drew ?_) | (with_reducible refine below_drewN ?_ _) | (with_reducible refine Below.alloc ?_ (by first | omega | (simp; done) | (simp; omega)) _) | (with_reducible refine Below.setCell ?_ (by first | omega | (simp; done) | (simp; omega)) _) | (refine Below.trans ?_ (Below.mono (by with_reducible assumption) (by first | omega | (simp; done) | (simp; omega))))))), by rw [(Hno.out (by simp [goodB]; omega)).out]; rfl⟩
        · have hr0' : decide (pr < 0) = false := by simpa using hr0
          by_cases hr1 : (nn : Int) ≤ pr
          · go_wp2_with fail
            go_ret2
            exact ⟨(by have hbelh := HB3.out; have hbels := hbelh.size; exact (by repeat (first | exact Below.refl _ _ | (with_reducible refine Below.drew ?_) | (with_reducible refine below_drewN ?_ _) | (with_reducible refine Below.alloc ?_ (by first | omega | (simp; done) | (simp; omega)) _) | (with_reducible refine Below.setCell ?_ (by first | omega | (simp; done) | (simp; omega)) _) | (refine Below.trans ?_ (Below.mono (by with_reducible assumption) (by first | omega | (simp; done) | (simp; omega))))))), by rw [(Hno.out (by simp [goodB]; omega)).out]; rfl⟩
          · have hr1' : decide ((nn : Int) ≤ pr) = false := by simpa using hr1
            obtain ⟨r, rfl⟩ := Int.eq_ofNat_of_zero_le (show 0 ≤ pr by omega)
            have hrn : r < nn := by omega
            obtain ⟨q0, q1, q2⟩ := ctr_cells HO3.out hlen r hrn
            generalize hq : cs.getD r (0, 0) = q at *
            have Hq := Lib.hid hq
            clear hq
            have fz := fun o => HO3.out.frozenAt o
            have hGl : G < wr.heap.size := (own_block HO3.out G rfl).2
            go_upto_region 9 with fail
            refine wp_region_overT 11 (by kernel_rfl) (by kernel_rfl) ?_
            simp only [List.take_succ_cons, List.take_zero, List.drop_succ_cons, List.drop_zero]
            repeat (go_big_quiet_step ((go_at_call 19; exact callsOver (rfeed_is _ _ _ _ _ _ _ _))))
            refine wpQuiet_nil ?_
            intro w5 hb5
            have hb6 : Below wr.heap.size wr w5 := ((Below.refl _ _).alloc (Nat.le_refl _) _).trans (hb5.mono (by simp))
            have HO5 := Lib.hid (own_grow HO3.out hb6)
            have HB5 := Lib.hid (HB3.out.trans (hb6.mono HB3.out.size))
            clear q0 q1 q2 fz d0 d1 d2 d3 hb5 hb6 HO3 HB3
            obtain ⟨q0, q1, q2⟩ := ctr_cells HO5.out hlen r hrn
            rw [Hq.out] at q0 q1 q2
            have fz := fun o => HO5.out.frozenAt o
            go_wp2_with fail
            go_roundg (ps.length - s - 1)
            case measure => have := Hs.out; omega
            case rel =>
              refine ⟨s + 1, by first | rfl | go_num, by omega, Hnx.out (by simp [goodB]; omega), ?_, ((HB5.out.setCell (p := ⟨G, r * 3, none⟩) hGo _).setCell (p := ⟨G, r * 3 + 1, none⟩) hGo _).setCell (p := ⟨G, r * 3 + 2, none⟩) hGo _⟩
              rw [Hcs.out]
              have h1 := (HO5.out.stored (r * 3) (.int .i64 (feedF q.1 q.2 q.2 pi pa pb).1)).1
              have h2 := (h1.stored (r * 3 + 1) (.int .i64 (feedF q.1 q.2 q.2 pi pa pb).2)).1
              have h3 := (h2.stored (r * 3 + 2) (.int .i64 (feedF q.1 q.2 q.2 pi pa pb).2)).1
              rw [flat_set3 ctc ctc_len cs r (by omega) (feedF q.1 q.2 q.2 pi pa pb) _ _ _ rfl] at h3
              have e : feedC cs ⟨r, pi, pa, pb⟩ = cs.set r (feedF q.1 q.2 q.2 pi pa pb) := by
                simp only [feedC, Int.toNat_natCast, Hq.out]
              rw [e]
              exact h3
      · go_wp2_with fail
        go_ret2
        have hok : runOk nn ps = true := by
          have h1 : ps.all (goodB nn) = true := by
            rw [List.all_eq_true]
            intro p hp
            obtain ⟨i, hi, rfl⟩ := List.getElem_of_mem hp
            exact Hg.out i hi (by omega)
          simp [runOk, h1]; omega
        refine ⟨HB3.out, ?_⟩
        rw [hok, if_pos rfl]
        have e1 : runC nn ps = (ps.take s).foldl feedC (List.replicate nn (0, 0)) := by
          rw [List.take_of_length_le (by omega)]; simp [runC]
        have e2 : (runC nn ps).length = nn := by simp [runC, fold_len]
        refine ⟨_, rfl, ?_⟩
        rw [e2, e1]
        exact HO3.out

/-- Same, of two lists of counters -/
theorem ctr_rd {w : World} {B n : Nat} {A : Option Addr} {cs : List (Int × Int)} (h : Rd w B 3 A n (cs.flatMap ctc)) (hn : n = cs.length) (j : Nat) (hj : j < cs.length) :
    ∃ b off, A = some ⟨b, off, none⟩ ∧ w.cell? ⟨b, off + j * 3, none⟩ = some (.int .i64 cs[j].1) ∧ w.cell? ⟨b, off + j * 3 + 1, none⟩ = some (.int .i64 cs[j].2) ∧ w.cell? ⟨b, off + j * 3 + 2, none⟩ = some (.int .i64 cs[j].2) := by
  obtain ⟨b, off, rfl, hb, hc⟩ := h.2 (by omega)
  have h2 : ∀ i u, i < 3 → (ctc cs[j])[i]? = some u → w.cell? ⟨b, off + (j * 3 + i), none⟩ = some u := fun i u hi hu => hc _ u (by rw [flat_get ctc 3 ctc_len cs j hj i hi]; exact hu)
  exact ⟨b, off, rfl, h2 0 _ (by omega) rfl, h2 1 _ (by omega) rfl, h2 2 _ (by omega) rfl⟩

def SameRel (w : World) (cs : List (Int × Int)) (k : Nat) (v : Value) (wr : World) : Prop :=
  ∃ s d : Nat, v = .int .i64 s ∧ s + k = cs.length ∧ wr = w.drewN d

set_option maxHeartbeats 1600000 in
theorem same_yes (A B : Option Addr) (m m' c c' : Nat) (cs : List (Int × Int)) (w : World) (h : Rd w w.heap.size 3 A m (cs.flatMap ctc)) (h' : Rd w w.heap.size 3 B m' (cs.flatMap ctc)) (hm : m = cs.length) (hm' : m' = cs.length) (hx : cs.length ≤ 4611686018427387904) :
    Calls Try.prog 25 #[.slice A m c, .slice B m' c'] w fun e w' => e = .returned (.bool true) ∧ ∃ d, w' = w.drewN d := by
  subst hm hm'
  have H := Lib.hid h
  have H' := Lib.hid h'
  clear h h'
  have hne : ((cs.length : Int) != (cs.length : Int)) = false := by simp
  go_enter Try.func25, Try.ntmps25
  go_wp2_with fail
  go_loopg [5, 13] cs.length (fun k _ v wr => SameRel w cs k v wr)
  case atStart => exact ⟨0, 0, rfl, by omega, rfl⟩
  case round =>
    obtain ⟨s, d, rfl, hs, rfl⟩ := hrel
    have Hs := Lib.hid hs
    clear hs
    by_cases hlt : s < cs.length
    · obtain ⟨b, off, rfl, q0, q1, q2⟩ := ctr_rd H.out rfl s hlt
      obtain ⟨b', off', rfl, r0, r1, r2⟩ := ctr_rd H'.out rfl s hlt
      generalize cs[s] = q at *
      go_upto_region 6 with fail
      go_quiet (fail)
      go_wp2_with fail
      go_roundg (cs.length - s - 1)
      case measure => have := Hs.out; omega
      case rel => exact ⟨s + 1, _, by first | rfl | go_num, by omega, rfl⟩
    · go_wp2_with fail
      go_ret
      exact ⟨rfl, _, rfl⟩
end Go.Proofs.Ytpapembikcnhpaa
