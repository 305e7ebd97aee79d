import Derived.Test.YtcgamkldlmmdnaaIne
namespace Go.Proofs.Ytcgamkldlmmdnaa
open Go.RowKit

set_option maxRecDepth 100000 in
set_option maxHeartbeats 3200000 in
theorem rnetchk_any (T : Int) (AE AA : Option Addr) (ne ce ca : Nat) (acts : List Act) (w : World) (hA : Rd w w.heap.size 6 AA acts.length (acts.flatMap Act.cells)) (he : ne ≤ 4611686018427387904) (hl : acts.length ≤ 4611686018427387904) :
    Calls Try.prog 54 #[.agg #[.int .i64 T, .slice AE ne ce, .slice AA acts.length ca]] w fun e w' => e = .returned (.bool (netB T ne acts)) ∧ Below w.heap.size w w' := by
  have HA := Lib.hid hA
  clear hA
  cases h1 : inB T 2 7200
  case false =>
    rw [netB_no (fun h => by have := h.t0; have := h.t1; simp [inB] at h1; omega)]
    go_enter Try.func54, Try.ntmps54
    go_wp2_with (go_at_call 40; refine (in_any _ _ _ _).mono ?_; rintro e w' ⟨rfl, rfl⟩)
    go_ret
    exact ⟨rfl, (by repeat (first | exact Below.refl _ _ | (with_reducible refine Below.drew ?_) | (with_reducible refine below_drewN ?_ _) | (with_reducible refine Below.alloc ?_ (by first | omega | (simp; done) | (simp; omega)) _) | (with_reducible refine Below.setCell ?_ (by first | omega | (simp; done) | (simp; omega)) _) | (refine Below.trans ?_ (Below.mono (by with_reducible assumption) (by first | omega | (simp; done) | (simp; omega))))))⟩
  have h1' : 2 ≤ T ∧ T ≤ 7200 := by simpa [inB] using h1
  obtain ⟨ht0, ht1⟩ := h1'
  by_cases h3 : 48 < ne
  case pos =>
    rw [netB_no (fun h => by have := h.e; omega)]
    go_enter Try.func54, Try.ntmps54
    go_wp2_with (go_at_call 40; refine (in_any _ _ _ _).mono ?_; rintro e w' ⟨rfl, rfl⟩)
    go_ret
    exact ⟨rfl, (by repeat (first | exact Below.refl _ _ | (with_reducible refine Below.drew ?_) | (with_reducible refine below_drewN ?_ _) | (with_reducible refine Below.alloc ?_ (by first | omega | (simp; done) | (simp; omega)) _) | (with_reducible refine Below.setCell ?_ (by first | omega | (simp; done) | (simp; omega)) _) | (refine Below.trans ?_ (Below.mono (by with_reducible assumption) (by first | omega | (simp; done) | (simp; omega))))))⟩
  by_cases h4 : 512 < acts.length
  case pos =>
    rw [netB_no (fun h => by have := h.n; omega)]
    go_enter Try.func54, Try.ntmps54
    go_wp2_with (go_at_call 40; refine (in_any _ _ _ _).mono ?_; rintro e w' ⟨rfl, rfl⟩)
    go_ret
    exact ⟨rfl, (by repeat (first | exact Below.refl _ _ | (with_reducible refine Below.drew ?_) | (with_reducible refine below_drewN ?_ _) | (with_reducible refine Below.alloc ?_ (by first | omega | (simp; done) | (simp; omega)) _) | (with_reducible refine Below.setCell ?_ (by first | omega | (simp; done) | (simp; omega)) _) | (refine Below.trans ?_ (Below.mono (by with_reducible assumption) (by first | omega | (simp; done) | (simp; omega))))))⟩
  have e3 : decide (48 < ne) = false := by simpa using h3
  have e4 : decide (512 < acts.length) = false := by simpa using h4
  have HX0 := Lib.hid (Blk.new w 26 #[.int .i64 T, .slice AE ne ce, .slice AA acts.length ca])
  have HL0 := Lib.hid (show Below w.heap.size w (w.alloc (.cells #[.int .i64 T, .slice AE ne ce, .slice AA acts.length ca] 26)) from (Below.refl _ _).alloc (Nat.le_refl _) _)
  go_enter Try.func54, Try.ntmps54
  go_wp2_with (go_at_call 40; refine (in_any _ _ _ _).mono ?_; rintro e w' ⟨rfl, rfl⟩)
  clear e3 e4 h1
  go_loopg [3, 4] acts.length (fun k v _ wr => NC1 w T ne acts w.heap.size #[.int .i64 T, .slice AE ne ce, .slice AA acts.length ca] k v wr)
  case atStart => exact ⟨0, rfl, by omega, fun i h hi => by omega, HX0.out, HL0.out⟩
  case round =>
    obtain ⟨j, rfl, hj, hgood, hx, hbel⟩ := hrel
    have Hj := Lib.hid hj
    have Hg := Lib.hid hgood
    have HX := Lib.hid hx
    have HL := Lib.hid hbel
    clear hj hgood hx hbel HX0 HL0
    have hxl := HX.out.lt
    have x0 := HX.out.cell 0
    have x1 := HX.out.cell 1
    have x2 := HX.out.cell 2
    simp at x0 x1 x2
    by_cases hlt : j < acts.length
    · obtain ⟨bb, off, rfl, hbb, d0, d1, d2, d3, d4, d5⟩ := rdAct (HA.out.grow HL.out) rfl j hlt
      have hbb' : bb < wr.heap.size := World.block_lt_of_cell? _ _ d0
      have HOK := Lib.hid (fun (h : NetOk T ne acts) => h.a acts[j] (List.getElem_mem hlt))
      have Hnx := Lib.hid (show ActOk T ne acts[j] → ∀ i (h : i < acts.length), i < j + 1 → ActOk T ne acts[i] from fun h1 i hi hij => by
        rcases Nat.lt_or_ge i j with h2 | h2
        · exact Hg.out i hi h2
        · obtain rfl : i = j := by omega
          exact h1)
      clear Hg
      generalize acts[j] = aj at *
      obtain ⟨kd, fr, tt, mn, mx, wt⟩ := aj
      simp only at d0 d1 d2 d3 d4 d5
      go_upto_region 7 with fail
      refine world_gen (fun w6 => Blk w6 w.heap.size 26 #[.int .i64 T, .slice AE ne ce, .slice (some ⟨bb, off, none⟩) acts.length ca] ∧ Blk w6 wr.heap.size 62 #[.int .i64 kd, .int .i64 fr, .int .i64 tt, .int .i64 mn, .int .i64 mx, .int .i64 wt] ∧ Below w.heap.size w w6) ⟨(by have hblk := HX.out; repeat (first | exact hblk | refine Blk.al ?_ _ | refine Blk.dr ?_ | refine Blk.drN ?_ _)), (by have hblk := Blk.new wr 62 #[.int .i64 kd, .int .i64 fr, .int .i64 tt, .int .i64 mn, .int .i64 mx, .int .i64 wt]; repeat (first | exact hblk | refine Blk.al ?_ _ | refine Blk.dr ?_ | refine Blk.drN ?_ _)), (by have hbelh := HL.out; have hbels := hbelh.size; exact (by repeat (first | exact Below.refl _ _ | (with_reducible refine Below.drew ?_) | (with_reducible refine below_drewN ?_ _) | (with_reducible refine Below.alloc ?_ (by first | omega | (simp; done) | (simp; omega)) _) | (with_reducible refine Below.setCell ?_ (by first | omega | (simp; done) | (simp; omega)) _) | (refine Below.trans ?_ (Below.mono (by with_reducible assumption) (by first | omega | (simp; done) | (simp; omega)))))))⟩ ?_
      rintro w6 ⟨hx6, hy6, hl6⟩
      have HX6 := Lib.hid hx6
      have HY6 := Lib.hid hy6
      have HL6 := Lib.hid hl6
      clear d0 d1 d2 d3 d4 d5 x0 x1 x2 hxl HX HL hbb' hx6 hy6 hl6
      have HL := HL6
      clear HL6
      have x0 := HX6.out.cell 0
      have x1 := HX6.out.cell 1
      have d1 := HY6.out.cell 1
      have d2 := HY6.out.cell 2
      have d3 := HY6.out.cell 3
      have d4 := HY6.out.cell 4
      have d5 := HY6.out.cell 5
      simp at x0 x1 d1 d2 d3 d4 d5
      cases g1 : inB fr 0 ((ne : Int) - 1)
      · have HNB := Lib.hid (netB_no (T := T) (ne := ne) (acts := acts) (fun h => by have hok := HOK.out h; have := hok.f0; have := hok.f1; simp [inB] at g1; simp only at *; omega))
        go_wp2_with (go_at_call 40; refine (in_any _ _ _ _).mono ?_; rintro e w' ⟨rfl, rfl⟩)
        go_ret
        exact ⟨by rw [HNB.out]; rfl, (by have hbelh := HL.out; have hbels := hbelh.size; exact (by repeat (first | exact Below.refl _ _ | (with_reducible refine Below.drew ?_) | (with_reducible refine below_drewN ?_ _) | (with_reducible refine Below.alloc ?_ (by first | omega | (simp; done) | (simp; omega)) _) | (with_reducible refine Below.setCell ?_ (by first | omega | (simp; done) | (simp; omega)) _) | (refine Below.trans ?_ (Below.mono (by with_reducible assumption) (by first | omega | (simp; done) | (simp; omega)))))))⟩
      cases g2 : inB tt 0 ((ne : Int) - 1)
      · have HNB := Lib.hid (netB_no (T := T) (ne := ne) (acts := acts) (fun h => by have hok := HOK.out h; have := hok.t0; have := hok.t1; simp [inB] at g2; simp only at *; omega))
        go_wp2_with (go_at_call 40; refine (in_any _ _ _ _).mono ?_; rintro e w' ⟨rfl, rfl⟩)
        go_ret
        exact ⟨by rw [HNB.out]; rfl, (by have hbelh := HL.out; have hbels := hbelh.size; exact (by repeat (first | exact Below.refl _ _ | (with_reducible refine Below.drew ?_) | (with_reducible refine below_drewN ?_ _) | (with_reducible refine Below.alloc ?_ (by first | omega | (simp; done) | (simp; omega)) _) | (with_reducible refine Below.setCell ?_ (by first | omega | (simp; done) | (simp; omega)) _) | (refine Below.trans ?_ (Below.mono (by with_reducible assumption) (by first | omega | (simp; done) | (simp; omega)))))))⟩
      cases g3 : (fr == tt)
      case true =>
        have HNB := Lib.hid (netB_no (T := T) (ne := ne) (acts := acts) (fun h => (HOK.out h).ft (by simpa using g3)))
        go_wp2_with (go_at_call 40; refine (in_any _ _ _ _).mono ?_; rintro e w' ⟨rfl, rfl⟩)
        go_ret
        exact ⟨by rw [HNB.out]; rfl, (by have hbelh := HL.out; have hbels := hbelh.size; exact (by repeat (first | exact Below.refl _ _ | (with_reducible refine Below.drew ?_) | (with_reducible refine below_drewN ?_ _) | (with_reducible refine Below.alloc ?_ (by first | omega | (simp; done) | (simp; omega)) _) | (with_reducible refine Below.setCell ?_ (by first | omega | (simp; done) | (simp; omega)) _) | (refine Below.trans ?_ (Below.mono (by with_reducible assumption) (by first | omega | (simp; done) | (simp; omega)))))))⟩
      by_cases g4 : mn < -65536
      · have HNB := Lib.hid (netB_no (T := T) (ne := ne) (acts := acts) (fun h => by have := (HOK.out h).m0; simp only at this; omega))
        go_wp2_with (go_at_call 40; refine (in_any _ _ _ _).mono ?_; rintro e w' ⟨rfl, rfl⟩)
        go_ret
        exact ⟨by rw [HNB.out]; rfl, (by have hbelh := HL.out; have hbels := hbelh.size; exact (by repeat (first | exact Below.refl _ _ | (with_reducible refine Below.drew ?_) | (with_reducible refine below_drewN ?_ _) | (with_reducible refine Below.alloc ?_ (by first | omega | (simp; done) | (simp; omega)) _) | (with_reducible refine Below.setCell ?_ (by first | omega | (simp; done) | (simp; omega)) _) | (refine Below.trans ?_ (Below.mono (by with_reducible assumption) (by first | omega | (simp; done) | (simp; omega)))))))⟩
      by_cases g6 : 65536 < mx
      · have HNB := Lib.hid (netB_no (T := T) (ne := ne) (acts := acts) (fun h => by have := (HOK.out h).m1; simp only at this; omega))
        go_wp2_with (go_at_call 40; refine (in_any _ _ _ _).mono ?_; rintro e w' ⟨rfl, rfl⟩)
        go_ret
        exact ⟨by rw [HNB.out]; rfl, (by have hbelh := HL.out; have hbels := hbelh.size; exact (by repeat (first | exact Below.refl _ _ | (with_reducible refine Below.drew ?_) | (with_reducible refine below_drewN ?_ _) | (with_reducible refine Below.alloc ?_ (by first | omega | (simp; done) | (simp; omega)) _) | (with_reducible refine Below.setCell ?_ (by first | omega | (simp; done) | (simp; omega)) _) | (refine Below.trans ?_ (Below.mono (by with_reducible assumption) (by first | omega | (simp; done) | (simp; omega)))))))⟩
      by_cases g5 : mx < mn
      · have HNB := Lib.hid (netB_no (T := T) (ne := ne) (acts := acts) (fun h => by have := (HOK.out h).mm; simp only at this; omega))
        go_wp2_with (go_at_call 40; refine (in_any _ _ _ _).mono ?_; rintro e w' ⟨rfl, rfl⟩)
        go_ret
        exact ⟨by rw [HNB.out]; rfl, (by have hbelh := HL.out; have hbels := hbelh.size; exact (by repeat (first | exact Below.refl _ _ | (with_reducible refine Below.drew ?_) | (with_reducible refine below_drewN ?_ _) | (with_reducible refine Below.alloc ?_ (by first | omega | (simp; done) | (simp; omega)) _) | (with_reducible refine Below.setCell ?_ (by first | omega | (simp; done) | (simp; omega)) _) | (refine Below.trans ?_ (Below.mono (by with_reducible assumption) (by first | omega | (simp; done) | (simp; omega)))))))⟩
      by_cases g7 : T ≤ mx - mn
      · have HNB := Lib.hid (netB_no (T := T) (ne := ne) (acts := acts) (fun h => by have := (HOK.out h).sp; simp only at this; omega))
        go_wp2_with (go_at_call 40; refine (in_any _ _ _ _).mono ?_; rintro e w' ⟨rfl, rfl⟩)
        go_ret
        exact ⟨by rw [HNB.out]; rfl, (by have hbelh := HL.out; have hbels := hbelh.size; exact (by repeat (first | exact Below.refl _ _ | (with_reducible refine Below.drew ?_) | (with_reducible refine below_drewN ?_ _) | (with_reducible refine Below.alloc ?_ (by first | omega | (simp; done) | (simp; omega)) _) | (with_reducible refine Below.setCell ?_ (by first | omega | (simp; done) | (simp; omega)) _) | (refine Below.trans ?_ (Below.mono (by with_reducible assumption) (by first | omega | (simp; done) | (simp; omega)))))))⟩
      cases g8 : inB wt 0 1048576
      · have HNB := Lib.hid (netB_no (T := T) (ne := ne) (acts := acts) (fun h => by have := (HOK.out h).w0; have := (HOK.out h).w1; simp [inB] at g8; simp only at *; omega))
        go_wp2_with (go_at_call 40; refine (in_any _ _ _ _).mono ?_; rintro e w' ⟨rfl, rfl⟩)
        go_ret
        exact ⟨by rw [HNB.out]; rfl, (by have hbelh := HL.out; have hbels := hbelh.size; exact (by repeat (first | exact Below.refl _ _ | (with_reducible refine Below.drew ?_) | (with_reducible refine below_drewN ?_ _) | (with_reducible refine Below.alloc ?_ (by first | omega | (simp; done) | (simp; omega)) _) | (with_reducible refine Below.setCell ?_ (by first | omega | (simp; done) | (simp; omega)) _) | (refine Below.trans ?_ (Below.mono (by with_reducible assumption) (by first | omega | (simp; done) | (simp; omega)))))))⟩
      have Hok := Lib.hid (show ActOk T ne ⟨kd, fr, tt, mn, mx, wt⟩ by
        simp [inB] at g1 g2 g3 g8
        exact ⟨by simp only; omega, by simp only; omega, by simp only; omega, by simp only; omega, by simp only; omega, by simp only; omega, by simp only; omega, by simp only; omega, by simp only; omega, by simp only; omega, by simp only; omega⟩)
      go_wp2_with (go_at_call 40; refine (in_any _ _ _ _).mono ?_; rintro e w' ⟨rfl, rfl⟩)
      go_roundg (acts.length - j - 1)
      case measure => have := Hj.out; omega
      case rel => exact ⟨j + 1, by first | rfl | go_num, by omega, Hnx.out Hok.out, HX6.out, HL.out⟩
    · have HN := Lib.hid (show NetOk T ne acts from ⟨by omega, by omega, by omega, by omega, fun x hx => by
        obtain ⟨i, hi, rfl⟩ := List.getElem_of_mem hx
        exact Hg.out i hi (by omega)⟩)
      have HNB := Lib.hid (netB_yes HN.out)
      go_wp2_with fail
      go_ret
      exact ⟨by rw [HNB.out]; rfl, HL.out⟩
end Go.Proofs.Ytcgamkldlmmdnaa
