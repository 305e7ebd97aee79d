import Derived.Test.YtcgamkldlmmdnaaBunA
import Derived.Test.YtcgamkldlmmdnaaBunM
namespace Go.Proofs.Ytcgamkldlmmdnaa
open Go.RowKit
def Act.cells (x : Act) : List Value := [.int .i64 x.kd, .int .i64 x.fr, .int .i64 x.tt, .int .i64 x.mn, .int .i64 x.mx, .int .i64 x.wt]
theorem Act.len (x : Act) : x.cells.length = 6 := rfl
theorem Act.one (x : Act) : ∀ u ∈ x.cells, u.oneCell' = true := by intro u hu; simp only [Act.cells, List.mem_cons, List.not_mem_nil, or_false] at hu; rcases hu with rfl | rfl | rfl | rfl | rfl | rfl <;> rfl
theorem infoAct : (Try.prog.info? 62).map (fun i => (i.zero, i.size, i.bytes)) = some (some (.agg #[.int .i64 0, .int .i64 0, .int .i64 0, .int .i64 0, .int .i64 0, .int .i64 0]), 6, 48) := by kernel_rfl
theorem rdAct {w : World} {B n : Nat} {A : Option Addr} {xs : List Act} (h : Rd w B 6 A n (xs.flatMap Act.cells)) (hn : n = xs.length) (j : Nat) (hj : j < xs.length) :
    ∃ b off, A = some ⟨b, off, none⟩ ∧ b < B ∧ w.cell? ⟨b, off + j * 6, none⟩ = some (.int .i64 xs[j].kd) ∧ w.cell? ⟨b, off + j * 6 + 1, none⟩ = some (.int .i64 xs[j].fr) ∧ w.cell? ⟨b, off + j * 6 + 2, none⟩ = some (.int .i64 xs[j].tt) ∧ w.cell? ⟨b, off + j * 6 + 3, none⟩ = some (.int .i64 xs[j].mn) ∧ w.cell? ⟨b, off + j * 6 + 4, none⟩ = some (.int .i64 xs[j].mx) ∧ w.cell? ⟨b, off + j * 6 + 5, none⟩ = some (.int .i64 xs[j].wt) := by
  obtain ⟨b, off, rfl, hb, hc⟩ := h.2 (by omega)
  have h2 : ∀ i u, i < 6 → xs[j].cells[i]? = some u → w.cell? ⟨b, off + (j * 6 + i), none⟩ = some u := fun i u hi hu => hc _ u (by rw [flat_get Act.cells 6 Act.len xs j hj i hi]; exact hu)
  exact ⟨b, off, rfl, hb, h2 0 _ (by omega) rfl, h2 1 _ (by omega) rfl, h2 2 _ (by omega) rfl, h2 3 _ (by omega) rfl, h2 4 _ (by omega) rfl, h2 5 _ (by omega) rfl⟩
theorem ownAct {w : World} {base n cap g : Nat} {xs : List Act} (h : w.ownsRow base 62 6 (.slice (some ⟨g, 0, none⟩) n cap) n (xs.flatMap Act.cells)) (hn : n = xs.length) (j : Nat) (hj : j < xs.length) : w.cell? ⟨g, j * 6, none⟩ = some (.int .i64 xs[j].kd) ∧ w.cell? ⟨g, j * 6 + 1, none⟩ = some (.int .i64 xs[j].fr) ∧ w.cell? ⟨g, j * 6 + 2, none⟩ = some (.int .i64 xs[j].tt) ∧ w.cell? ⟨g, j * 6 + 3, none⟩ = some (.int .i64 xs[j].mn) ∧ w.cell? ⟨g, j * 6 + 4, none⟩ = some (.int .i64 xs[j].mx) ∧ w.cell? ⟨g, j * 6 + 5, none⟩ = some (.int .i64 xs[j].wt) := by
  have hc : ∀ i, i < 6 → w.cell? ⟨g, j * 6 + i, none⟩ = xs[j].cells[i]? := fun i hi => by
    rw [h.cellAt (j * 6 + i) (by omega)]
    exact flat_get Act.cells 6 Act.len xs j hj i hi
  exact ⟨hc 0 (by omega), hc 1 (by omega), hc 2 (by omega), hc 3 (by omega), hc 4 (by omega), hc 5 (by omega)⟩
theorem infoInt : (Try.prog.info? 3).map (fun i => (i.zero, i.size, i.bytes)) = some (some (.int .i64 0), 1, 8) := by kernel_rfl
theorem infoBool : (Try.prog.info? 4).map (fun i => (i.zero, i.size, i.bytes)) = some (some (.bool false), 1, 1) := by kernel_rfl

def evB (ne : Nat) (i : Int) : Bool := decide (0 ≤ i ∧ i < ne)
set_option maxHeartbeats 400000 in
theorem isev_any (T : Int) (AE AA : Option Addr) (ne ce na ca : Nat) (i : Int) (w : World) (_h : ne ≤ 4611686018427387904) :
    Calls Try.prog 65 #[.agg #[.int .i64 T, .slice AE ne ce, .slice AA na ca], .int .i64 i] w fun e w' => e = .returned (.bool (evB ne i)) ∧ w' = w.alloc (.cells #[.int .i64 T, .slice AE ne ce, .slice AA na ca] 26) := by
  by_cases h0 : 0 ≤ i
  · go_enter Try.func65, Try.ntmps65
    go_wp2
    all_goals
      go_ret
      refine ⟨ret_bool ?_, rfl⟩
      simp_all [evB]
  · have h0' : decide (0 ≤ i) = false := by simpa using h0
    go_enter Try.func65, Try.ntmps65
    go_wp2
    all_goals
      go_ret
      refine ⟨ret_bool ?_, rfl⟩
      simp_all [evB]
      try omega
def inB (n lo hi : Int) : Bool := decide (lo ≤ n ∧ n ≤ hi)
set_option maxHeartbeats 400000 in
theorem in_any (n lo hi : Int) (w : World) : Calls Try.prog 40 #[.int .i64 n, .int .i64 lo, .int .i64 hi] w fun e w' => e = .returned (.bool (inB n lo hi)) ∧ w = w' := by
  by_cases h0 : lo ≤ n
  · go_enter Try.func40, Try.ntmps40
    go_wp2
    all_goals
      go_ret
      refine ⟨ret_bool ?_, rfl⟩
      simp_all [inB]
  · have h0' : decide (lo ≤ n) = false := by simpa using h0
    go_enter Try.func40, Try.ntmps40
    go_wp2
    all_goals
      go_ret
      refine ⟨ret_bool ?_, rfl⟩
      simp_all [inB]
      try omega
def NC1 (w : World) (T : Int) (ne : Nat) (acts : List Act) (X : Nat) (cs : Array Value) (k : Nat) (v : Value) (wr : World) : Prop :=
  ∃ j : Nat, v = .int .i64 j ∧ j + k = acts.length ∧ (∀ i (h : i < acts.length), i < j → ActOk T ne acts[i]) ∧ Blk wr X 26 cs ∧ Below w.heap.size w wr

set_option maxRecDepth 100000 in
set_option maxHeartbeats 3200000 in
theorem netchk_any (T : Int) (AE AA : Option Addr) (ne ce ca : Nat) (acts : List Act) (w : World) (hA : Rd w w.heap.size 6 AA acts.length (acts.flatMap Act.cells)) (he : ne ≤ 4611686018427387904) (hl : acts.length ≤ 4611686018427387904) :
    Calls Try.prog 56 #[.agg #[.int .i64 T, .slice AE ne ce, .slice AA acts.length ca]] w fun e w' => e = .returned (.bool (netB T ne acts)) ∧ Below w.heap.size w w' := by
  have HA := Lib.hid hA
  clear hA
  by_cases h1 : T < 2
  case pos =>
    rw [netB_no (fun h => by have := h.t0; omega)]
    go_enter Try.func56, Try.ntmps56
    go_wp2_with fail
    go_ret
    exact ⟨rfl, (by repeat (first | exact Below.refl _ _ | (with_reducible refine Below.drew ?_) | (with_reducible refine below_drewN ?_ _) | (with_reducible refine Below.alloc ?_ (by first | omega | (simp; done) | (simp; omega)) _) | (with_reducible refine Below.setCell ?_ (by first | omega | (simp; done) | (simp; omega)) _) | (refine Below.trans ?_ (Below.mono (by with_reducible assumption) (by first | omega | (simp; done) | (simp; omega))))))⟩
  by_cases h2 : 7200 < T
  case pos =>
    rw [netB_no (fun h => by have := h.t1; omega)]
    go_enter Try.func56, Try.ntmps56
    go_wp2_with fail
    go_ret
    exact ⟨rfl, (by repeat (first | exact Below.refl _ _ | (with_reducible refine Below.drew ?_) | (with_reducible refine below_drewN ?_ _) | (with_reducible refine Below.alloc ?_ (by first | omega | (simp; done) | (simp; omega)) _) | (with_reducible refine Below.setCell ?_ (by first | omega | (simp; done) | (simp; omega)) _) | (refine Below.trans ?_ (Below.mono (by with_reducible assumption) (by first | omega | (simp; done) | (simp; omega))))))⟩
  by_cases h3 : 48 < ne
  case pos =>
    rw [netB_no (fun h => by have := h.e; omega)]
    go_enter Try.func56, Try.ntmps56
    go_wp2_with fail
    go_ret
    exact ⟨rfl, (by repeat (first | exact Below.refl _ _ | (with_reducible refine Below.drew ?_) | (with_reducible refine below_drewN ?_ _) | (with_reducible refine Below.alloc ?_ (by first | omega | (simp; done) | (simp; omega)) _) | (with_reducible refine Below.setCell ?_ (by first | omega | (simp; done) | (simp; omega)) _) | (refine Below.trans ?_ (Below.mono (by with_reducible assumption) (by first | omega | (simp; done) | (simp; omega))))))⟩
  by_cases h4 : 512 < acts.length
  case pos =>
    rw [netB_no (fun h => by have := h.n; omega)]
    go_enter Try.func56, Try.ntmps56
    go_wp2_with fail
    go_ret
    exact ⟨rfl, (by repeat (first | exact Below.refl _ _ | (with_reducible refine Below.drew ?_) | (with_reducible refine below_drewN ?_ _) | (with_reducible refine Below.alloc ?_ (by first | omega | (simp; done) | (simp; omega)) _) | (with_reducible refine Below.setCell ?_ (by first | omega | (simp; done) | (simp; omega)) _) | (refine Below.trans ?_ (Below.mono (by with_reducible assumption) (by first | omega | (simp; done) | (simp; omega))))))⟩
  have e1 : decide (T < 2) = false := by simpa using h1
  have e2 : decide (7200 < T) = false := by simpa using h2
  have e3 : decide (48 < ne) = false := by simpa using h3
  have e4 : decide (512 < acts.length) = false := by simpa using h4
  have HX0 := Lib.hid (Blk.new w 26 #[.int .i64 T, .slice AE ne ce, .slice AA acts.length ca])
  have HL0 := Lib.hid (show Below w.heap.size w (w.alloc (.cells #[.int .i64 T, .slice AE ne ce, .slice AA acts.length ca] 26)) from (Below.refl _ _).alloc (Nat.le_refl _) _)
  go_enter Try.func56, Try.ntmps56
  go_wp2_with fail
  clear e1 e2 e3 e4
  go_loopg [4, 28] acts.length (fun k _ v wr => NC1 w T ne acts w.heap.size #[.int .i64 T, .slice AE ne ce, .slice AA acts.length ca] k v wr)
  case atStart => exact ⟨0, rfl, by omega, fun i h hi => by omega, HX0.out, HL0.out⟩
  case round =>
    obtain ⟨j, rfl, hj, hgood, hx, hbel⟩ := hrel
    have Hj := Lib.hid hj
    have Hg := Lib.hid hgood
    have HX := Lib.hid hx
    have HL := Lib.hid hbel
    clear hj hgood hx hbel HX0 HL0
    by_cases hlt : j < acts.length
    · obtain ⟨bb, off, rfl, hbb, d0, d1, d2, d3, d4, d5⟩ := rdAct (HA.out.grow HL.out) rfl j hlt
      have hbb' : bb < wr.heap.size := World.block_lt_of_cell? _ _ d0
      have hxl := HX.out.lt
      have x0 := HX.out.cell 0
      have x1 := HX.out.cell 1
      have x2 := HX.out.cell 2
      simp at x0 x1 x2
      have HOK := Lib.hid (fun (h : NetOk T ne acts) => h.a acts[j] (List.getElem_mem hlt))
      have Hnx := Lib.hid (show ActOk T ne acts[j] → ∀ i (h : i < acts.length), i < j + 1 → ActOk T ne acts[i] from fun h1 i hi hij => by
        rcases Nat.lt_or_ge i j with h2 | h2
        · exact Hg.out i hi h2
        · obtain rfl : i = j := by omega
          exact h1)
      clear Hg
      generalize acts[j] = aj at *
      obtain ⟨kd, fr, tt, mn, mx, wt⟩ := aj
      simp only at d0 d1 d2 d3 d4 d5
      cases g1 : evB ne fr
      · have HNB := Lib.hid (netB_no (T := T) (ne := ne) (acts := acts) (fun h => by have hok := HOK.out h; have := hok.f0; have := hok.f1; simp [evB] at g1; simp only at *; omega))
        go_wp2_with (go_at_call 65; refine (isev_any _ _ _ _ _ _ _ _ _ he).mono ?_; rintro e w' ⟨rfl, rfl⟩)
        go_ret
        exact ⟨by rw [HNB.out]; rfl, (by have hbelh := HL.out; have hbels := hbelh.size; exact (by repeat (first | exact Below.refl _ _ | (with_reducible refine Below.drew ?_) | (with_reducible refine below_drewN ?_ _) | (with_reducible refine Below.alloc ?_ (by first | omega | (simp; done) | (simp; omega)) _) | (with_reducible refine Below.setCell ?_ (by first | omega | (simp; done) | (simp; omega)) _) | (refine Below.trans ?_ (Below.mono (by with_reducible assumption) (by first | omega | (simp; done) | (simp; omega)))))))⟩
      cases g2 : evB ne tt
      · have HNB := Lib.hid (netB_no (T := T) (ne := ne) (acts := acts) (fun h => by have hok := HOK.out h; have := hok.t0; have := hok.t1; simp [evB] at g2; simp only at *; omega))
        go_wp2_with (go_at_call 65; refine (isev_any _ _ _ _ _ _ _ _ _ he).mono ?_; rintro e w' ⟨rfl, rfl⟩)
        go_ret
        exact ⟨by rw [HNB.out]; rfl, (by have hbelh := HL.out; have hbels := hbelh.size; exact (by repeat (first | exact Below.refl _ _ | (with_reducible refine Below.drew ?_) | (with_reducible refine below_drewN ?_ _) | (with_reducible refine Below.alloc ?_ (by first | omega | (simp; done) | (simp; omega)) _) | (with_reducible refine Below.setCell ?_ (by first | omega | (simp; done) | (simp; omega)) _) | (refine Below.trans ?_ (Below.mono (by with_reducible assumption) (by first | omega | (simp; done) | (simp; omega)))))))⟩
      cases g3 : (fr == tt)
      case true =>
        have HNB := Lib.hid (netB_no (T := T) (ne := ne) (acts := acts) (fun h => (HOK.out h).ft (by simpa using g3)))
        go_wp2_with (go_at_call 65; refine (isev_any _ _ _ _ _ _ _ _ _ he).mono ?_; rintro e w' ⟨rfl, rfl⟩)
        go_ret
        exact ⟨by rw [HNB.out]; rfl, (by have hbelh := HL.out; have hbels := hbelh.size; exact (by repeat (first | exact Below.refl _ _ | (with_reducible refine Below.drew ?_) | (with_reducible refine below_drewN ?_ _) | (with_reducible refine Below.alloc ?_ (by first | omega | (simp; done) | (simp; omega)) _) | (with_reducible refine Below.setCell ?_ (by first | omega | (simp; done) | (simp; omega)) _) | (refine Below.trans ?_ (Below.mono (by with_reducible assumption) (by first | omega | (simp; done) | (simp; omega)))))))⟩
      go_upto_region 8 with (go_at_call 65; refine (isev_any _ _ _ _ _ _ _ _ _ he).mono ?_; rintro e w' ⟨rfl, rfl⟩)
      refine world_gen (fun w6 => Blk w6 w.heap.size 26 #[.int .i64 T, .slice AE ne ce, .slice (some ⟨bb, off, none⟩) acts.length ca] ∧ Blk w6 wr.heap.size 62 #[.int .i64 kd, .int .i64 fr, .int .i64 tt, .int .i64 mn, .int .i64 mx, .int .i64 wt] ∧ Below w.heap.size w w6) ⟨(by have hblk := HX.out; repeat (first | exact hblk | refine Blk.al ?_ _ | refine Blk.dr ?_ | refine Blk.drN ?_ _)), (by have hblk := Blk.new wr 62 #[.int .i64 kd, .int .i64 fr, .int .i64 tt, .int .i64 mn, .int .i64 mx, .int .i64 wt]; repeat (first | exact hblk | refine Blk.al ?_ _ | refine Blk.dr ?_ | refine Blk.drN ?_ _)), (by have hbelh := HL.out; have hbels := hbelh.size; exact (by repeat (first | exact Below.refl _ _ | (with_reducible refine Below.drew ?_) | (with_reducible refine below_drewN ?_ _) | (with_reducible refine Below.alloc ?_ (by first | omega | (simp; done) | (simp; omega)) _) | (with_reducible refine Below.setCell ?_ (by first | omega | (simp; done) | (simp; omega)) _) | (refine Below.trans ?_ (Below.mono (by with_reducible assumption) (by first | omega | (simp; done) | (simp; omega)))))))⟩ ?_
      rintro w6 ⟨hx6, hy6, hl6⟩
      have HX6 := Lib.hid hx6
      have HY6 := Lib.hid hy6
      have HL6 := Lib.hid hl6
      clear d0 d1 d2 d3 d4 d5 x0 x1 x2 hxl HX HL hbb' hx6 hy6 hl6
      have x0 := HX6.out.cell 0
      have d3 := HY6.out.cell 3
      have d4 := HY6.out.cell 4
      have d5 := HY6.out.cell 5
      simp at x0 d3 d4 d5
      have HL := HL6
      clear HL6
      by_cases g4 : mn < -65536
      · have HNB := Lib.hid (netB_no (T := T) (ne := ne) (acts := acts) (fun h => by have := (HOK.out h).m0; simp only at this; omega))
        go_wp2_with (go_at_call 65; refine (isev_any _ _ _ _ _ _ _ _ _ he).mono ?_; rintro e w' ⟨rfl, rfl⟩)
        go_ret
        exact ⟨by rw [HNB.out]; rfl, (by have hbelh := HL.out; have hbels := hbelh.size; exact (by repeat (first | exact Below.refl _ _ | (with_reducible refine Below.drew ?_) | (with_reducible refine below_drewN ?_ _) | (with_reducible refine Below.alloc ?_ (by first | omega | (simp; done) | (simp; omega)) _) | (with_reducible refine Below.setCell ?_ (by first | omega | (simp; done) | (simp; omega)) _) | (refine Below.trans ?_ (Below.mono (by with_reducible assumption) (by first | omega | (simp; done) | (simp; omega)))))))⟩
      by_cases g5 : mx < mn
      · have HNB := Lib.hid (netB_no (T := T) (ne := ne) (acts := acts) (fun h => by have := (HOK.out h).mm; simp only at this; omega))
        go_wp2_with (go_at_call 65; refine (isev_any _ _ _ _ _ _ _ _ _ he).mono ?_; rintro e w' ⟨rfl, rfl⟩)
        go_ret
        exact ⟨by rw [HNB.out]; rfl, (by have hbelh := HL.out; have hbels := hbelh.size; exact (by repeat (first | exact Below.refl _ _ | (with_reducible refine Below.drew ?_) | (with_reducible refine below_drewN ?_ _) | (with_reducible refine Below.alloc ?_ (by first | omega | (simp; done) | (simp; omega)) _) | (with_reducible refine Below.setCell ?_ (by first | omega | (simp; done) | (simp; omega)) _) | (refine Below.trans ?_ (Below.mono (by with_reducible assumption) (by first | omega | (simp; done) | (simp; omega)))))))⟩
      by_cases g6 : 65536 < mx
      · have HNB := Lib.hid (netB_no (T := T) (ne := ne) (acts := acts) (fun h => by have := (HOK.out h).m1; simp only at this; omega))
        go_wp2_with (go_at_call 65; refine (isev_any _ _ _ _ _ _ _ _ _ he).mono ?_; rintro e w' ⟨rfl, rfl⟩)
        go_ret
        exact ⟨by rw [HNB.out]; rfl, (by have hbelh := HL.out; have hbels := hbelh.size; exact (by repeat (first | exact Below.refl _ _ | (with_reducible refine Below.drew ?_) | (with_reducible refine below_drewN ?_ _) | (with_reducible refine Below.alloc ?_ (by first | omega | (simp; done) | (simp; omega)) _) | (with_reducible refine Below.setCell ?_ (by first | omega | (simp; done) | (simp; omega)) _) | (refine Below.trans ?_ (Below.mono (by with_reducible assumption) (by first | omega | (simp; done) | (simp; omega)))))))⟩
      by_cases g7 : T ≤ mx - mn
      · have HNB := Lib.hid (netB_no (T := T) (ne := ne) (acts := acts) (fun h => by have := (HOK.out h).sp; simp only at this; omega))
        go_wp2_with (go_at_call 65; refine (isev_any _ _ _ _ _ _ _ _ _ he).mono ?_; rintro e w' ⟨rfl, rfl⟩)
        go_ret
        exact ⟨by rw [HNB.out]; rfl, (by have hbelh := HL.out; have hbels := hbelh.size; exact (by repeat (first | exact Below.refl _ _ | (with_reducible refine Below.drew ?_) | (with_reducible refine below_drewN ?_ _) | (with_reducible refine Below.alloc ?_ (by first | omega | (simp; done) | (simp; omega)) _) | (with_reducible refine Below.setCell ?_ (by first | omega | (simp; done) | (simp; omega)) _) | (refine Below.trans ?_ (Below.mono (by with_reducible assumption) (by first | omega | (simp; done) | (simp; omega)))))))⟩
      by_cases g8 : wt < 0
      · have HNB := Lib.hid (netB_no (T := T) (ne := ne) (acts := acts) (fun h => by have := (HOK.out h).w0; simp only at this; omega))
        go_wp2_with (go_at_call 65; refine (isev_any _ _ _ _ _ _ _ _ _ he).mono ?_; rintro e w' ⟨rfl, rfl⟩)
        go_ret
        exact ⟨by rw [HNB.out]; rfl, (by have hbelh := HL.out; have hbels := hbelh.size; exact (by repeat (first | exact Below.refl _ _ | (with_reducible refine Below.drew ?_) | (with_reducible refine below_drewN ?_ _) | (with_reducible refine Below.alloc ?_ (by first | omega | (simp; done) | (simp; omega)) _) | (with_reducible refine Below.setCell ?_ (by first | omega | (simp; done) | (simp; omega)) _) | (refine Below.trans ?_ (Below.mono (by with_reducible assumption) (by first | omega | (simp; done) | (simp; omega)))))))⟩
      by_cases g9 : 1048576 < wt
      · have HNB := Lib.hid (netB_no (T := T) (ne := ne) (acts := acts) (fun h => by have := (HOK.out h).w1; simp only at this; omega))
        go_wp2_with (go_at_call 65; refine (isev_any _ _ _ _ _ _ _ _ _ he).mono ?_; rintro e w' ⟨rfl, rfl⟩)
        go_ret
        exact ⟨by rw [HNB.out]; rfl, (by have hbelh := HL.out; have hbels := hbelh.size; exact (by repeat (first | exact Below.refl _ _ | (with_reducible refine Below.drew ?_) | (with_reducible refine below_drewN ?_ _) | (with_reducible refine Below.alloc ?_ (by first | omega | (simp; done) | (simp; omega)) _) | (with_reducible refine Below.setCell ?_ (by first | omega | (simp; done) | (simp; omega)) _) | (refine Below.trans ?_ (Below.mono (by with_reducible assumption) (by first | omega | (simp; done) | (simp; omega)))))))⟩
      have Hok := Lib.hid (show ActOk T ne ⟨kd, fr, tt, mn, mx, wt⟩ by
        simp [evB] at g1 g2 g3
        exact ⟨by simp only; omega, by simp only; omega, by simp only; omega, by simp only; omega, by simp only; omega, by simp only; omega, by simp only; omega, by simp only; omega, by simp only; omega, by simp only; omega, by simp only; omega⟩)
      go_wp2_with fail
      go_roundg (acts.length - j - 1)
      case measure => have := Hj.out; omega
      case rel => exact ⟨j + 1, by first | rfl | go_num, by omega, Hnx.out Hok.out, HX6.out, HL.out⟩
    · have HN := Lib.hid (show NetOk T ne acts from ⟨by omega, by omega, by omega, by omega, fun x hx => by
        obtain ⟨i, hi, rfl⟩ := List.getElem_of_mem hx
        exact Hg.out i hi (by omega)⟩)
      have HNB := Lib.hid (netB_yes HN.out)
      go_wp2_with fail
      go_ret
      exact ⟨by rw [HNB.out]; rfl, HL.out⟩
end Go.Proofs.Ytcgamkldlmmdnaa
