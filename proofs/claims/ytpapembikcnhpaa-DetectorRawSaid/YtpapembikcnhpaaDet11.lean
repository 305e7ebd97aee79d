import Derived.Test.YtpapembikcnhpaaDet10
import Derived.Test.YtpapembikcnhpaaTail
namespace Go.Proofs.Ytpapembikcnhpaa
open Go.RowKit

def ctc (p : Int × Int) : List Value := [.int .i64 p.1, .int .i64 p.2, .int .i64 p.2]
theorem ctc_len (p : Int × Int) : (ctc p).length = 3 := rfl
theorem infoCtr : (Try.prog.info? 26).map (fun i => (i.zero, i.size, i.bytes)) = some (some (.agg #[.int .i64 0, .int .i64 0, .int .i64 0]), 3, 24) := by kernel_rfl

def goodB (n : Int) (p : Pul) : Bool := decide (0 ≤ p.r ∧ p.r < n)
def runOk (n : Int) (ps : List Pul) : Bool := decide (0 ≤ n ∧ n ≤ 144) && ps.all (goodB n)
def feedC (cs : List (Int × Int)) (p : Pul) : List (Int × Int) := cs.set p.r.toNat (feedF (cs.getD p.r.toNat (0, 0)).1 (cs.getD p.r.toNat (0, 0)).2 (cs.getD p.r.toNat (0, 0)).2 p.i p.a p.b)
def runC (n : Int) (ps : List Pul) : List (Int × Int) := ps.foldl feedC (List.replicate n.toNat (0, 0))
def RunOut (n : Int) (ps : List Pul) (w : World) (e : Ending) (w' : World) : Prop :=
  Below w.heap.size w w' ∧ if runOk n ps then ∃ v, e = .returned (.tuple #[v, .int .i64 0]) ∧ w'.ownsRow w.heap.size 26 3 v (runC n ps).length ((runC n ps).flatMap ctc) else e = .returned (.tuple #[.slice none 0 0, .int .i64 4])
theorem feedC_len (cs : List (Int × Int)) (p : Pul) : (feedC cs p).length = cs.length := by simp [feedC]
theorem fold_len (ps : List Pul) (cs : List (Int × Int)) : (ps.foldl feedC cs).length = cs.length := by
  induction ps generalizing cs with
  | nil => rfl
  | cons p ps ih => simp [ih, feedC_len]

/-- the cells of the pulse number j of a slice that is read -/
theorem pul_rd {w : World} {B n : Nat} {A : Option Addr} {ps : List Pul} (h : Rd w B 4 A n (ps.flatMap Pul.cells)) (hn : n = ps.length) (j : Nat) (hj : j < ps.length) :
    ∃ b off, A = some ⟨b, off, none⟩ ∧ b < B ∧ w.cell? ⟨b, off + j * 4, none⟩ = some (.int .i64 ps[j].r) ∧ w.cell? ⟨b, off + j * 4 + 1, none⟩ = some (.bool ps[j].i) ∧ w.cell? ⟨b, off + j * 4 + 2, none⟩ = some (.int .i64 ps[j].a) ∧ w.cell? ⟨b, off + j * 4 + 3, none⟩ = some (.int .i64 ps[j].b) := by
  obtain ⟨b, off, rfl, hb, hc⟩ := h.2 (by omega)
  have h2 : ∀ i u, i < 4 → ps[j].cells[i]? = some u → w.cell? ⟨b, off + (j * 4 + i), none⟩ = some u := fun i u hi hu => hc _ u (by rw [flat_get Pul.cells 4 Pul.len ps j hj i hi]; exact hu)
  exact ⟨b, off, rfl, hb, h2 0 _ (by omega) rfl, h2 1 _ (by omega) rfl, h2 2 _ (by omega) rfl, h2 3 _ (by omega) rfl⟩

def R1 (w : World) (n : Int) (ps : List Pul) (k : Nat) (v : Value) (wr : World) : Prop :=
  ∃ j : Nat, v = .int .i64 j ∧ j + k = ps.length ∧ (∀ i (h : i < ps.length), i < j → goodB n ps[i] = true) ∧ Below w.heap.size w wr

theorem rep_cell (nn i : Nat) (hi : i < nn) : ((List.replicate nn ((0 : Int), (0 : Int))).flatMap ctc)[i * 3]? = some (.int .i64 0) := by
  have := flat_get ctc 3 ctc_len (List.replicate nn ((0 : Int), (0 : Int))) i (by simpa using hi) 0 (by omega)
  simpa [ctc] using this
theorem rep_set (nn i : Nat) (hi : i < nn) : ((List.replicate nn ((0 : Int), (0 : Int))).flatMap ctc).set (i * 3) (.int .i64 0) = (List.replicate nn ((0 : Int), (0 : Int))).flatMap ctc := by
  apply List.ext_getElem?
  intro m
  rw [List.getElem?_set]
  by_cases h : i * 3 = m
  · subst h
    rw [if_pos rfl, rep_cell nn i hi, if_pos]
    rw [flat_len ctc 3 ctc_len]; simp; omega
  · rw [if_neg h]
theorem ctr_cells {w : World} {base n cap g : Nat} {cs : List (Int × Int)} (h : w.ownsRow base 26 3 (.slice (some ⟨g, 0, none⟩) n cap) n (cs.flatMap ctc)) (hn : cs.length = n) (r : Nat) (hr : r < n) :
    w.cell? ⟨g, r * 3, none⟩ = some (.int .i64 (cs.getD r (0, 0)).1) ∧ w.cell? ⟨g, r * 3 + 1, none⟩ = some (.int .i64 (cs.getD r (0, 0)).2) ∧ w.cell? ⟨g, r * 3 + 2, none⟩ = some (.int .i64 (cs.getD r (0, 0)).2) := by
  have e : cs.getD r (0, 0) = cs[r]'(by omega) := by simp [List.getElem?_eq_getElem (show r < cs.length by omega)]
  have hc : ∀ i, i < 3 → w.cell? ⟨g, r * 3 + i, none⟩ = (ctc (cs[r]'(by omega)))[i]? := fun i hi => by
    rw [h.cellAt (r * 3 + i) (by omega)]
    exact flat_get ctc 3 ctc_len cs r (by omega) i hi
  rw [e]
  exact ⟨hc 0 (by omega), hc 1 (by omega), hc 2 (by omega)⟩
def R2 (w : World) (nn G k : Nat) (v : Value) (wr : World) : Prop :=
  ∃ i : Nat, v = .int .i64 i ∧ i + k = nn ∧ wr.ownsRow w.heap.size 26 3 (.slice (some ⟨G, 0, none⟩) nn nn) nn ((List.replicate nn ((0 : Int), (0 : Int))).flatMap ctc) ∧ Below w.heap.size w wr
def R3 (w : World) (nn : Nat) (ps : List Pul) (G k : Nat) (v : Value) (wr : World) : Prop :=
  ∃ s : Nat, v = .int .i64 s ∧ s + k = ps.length ∧ wr.ownsRow w.heap.size 26 3 (.slice (some ⟨G, 0, none⟩) nn nn) nn (((ps.take s).foldl feedC (List.replicate nn (0, 0))).flatMap ctc) ∧ Below w.heap.size w wr

set_option maxHeartbeats 3200000 in
theorem run_any (n : Int) (A : Option Addr) (m c : Nat) (ps : List Pul) (w : World) (h : Rd w w.heap.size 4 A m (ps.flatMap Pul.cells)) (hm : m = ps.length) (hx : ps.length ≤ 4611686018427387904) :
    Calls Try.prog 23 #[.int .i64 n, .slice A m c] w (RunOut n ps w) := by
  subst hm
  have H := Lib.hid h
  obtain ⟨i0, hi0, hz0, hz1, hz2⟩ := info_parts infoCtr
  have HI := Lib.hid (And.intro hi0 (And.intro hz0 (And.intro hz1 hz2)))
  clear hi0 hz0 hz1 hz2 h
  by_cases hn : 0 ≤ n ∧ n ≤ 144
  case neg =>
    have hno : runOk n ps = false := by simp [runOk]; intro a b; omega
    have Hno := Lib.hid hno
    clear hno
    by_cases h0 : n < 0
    · go_enter Try.func23, Try.ntmps23
      go_wp2_with fail
      go_ret2
      exact ⟨Below.refl _ _, by rw [Hno.out]; rfl⟩
    · have h1 : ¬ n < 0 := h0
      have h2 : 144 < n := by omega
      have h0' : decide (n < 0) = false := by simpa using h0
      clear hn
      go_enter Try.func23, Try.ntmps23
      go_wp2_with fail
      go_ret2
      exact ⟨Below.refl _ _, by rw [Hno.out]; rfl⟩
  case pos =>
    obtain ⟨hn0, hn1⟩ := hn
    obtain ⟨nn, rfl⟩ := Int.eq_ofNat_of_zero_le hn0
    have h0' : decide ((nn : Int) < 0) = false := by simp
    have h1' : decide (144 < (nn : Int)) = false := by simp; omega
    go_enter Try.func23, Try.ntmps23
    go_wp2_with fail
    go_loopg [20] ps.length (fun k v wr => R1 w nn ps k v wr)
    case atStart => exact ⟨0, rfl, by omega, fun i h hi => by omega, Below.refl _ _⟩
    case round =>
      obtain ⟨j, rfl, hj, hgood, hbel⟩ := hrel
      have Hj := Lib.hid hj
      have Hg := Lib.hid hgood
      have Hb := Lib.hid hbel
      clear hj hgood hbel
      by_cases hlt : j < ps.length
      · obtain ⟨b, off, rfl, hbb, d0, d1, d2, d3⟩ := pul_rd (H.out.keep (fun k hk => Hb.out.block k hk)) rfl j hlt
        have hgj : goodB nn ps[j] = decide (0 ≤ ps[j].r ∧ ps[j].r < (nn : Int)) := rfl
        have Hgj := Lib.hid hgj
        clear hgj
        generalize hpr : ps[j].r = pr at *
        have Hpr := Lib.hid hpr
        clear hpr
        generalize ps[j].i = pi at d1
        generalize ps[j].a = pa at d2
        generalize ps[j].b = pb at d3
        have hno : ¬ (0 ≤ pr ∧ pr < (nn : Int)) → Hid (runOk nn ps = false) := fun hbad => by
          have h1 : goodB nn ps[j] = false := by rw [Hgj.out]; simp; omega
          have h2 : ps.all (goodB nn) = false := by
            rw [List.all_eq_false]
            exact ⟨ps[j], List.getElem_mem hlt, by rw [h1]; simp⟩
          exact Lib.hid (by simp [runOk, h2])
        have Hno := Lib.hid hno
        clear hno
        by_cases hr0 : pr < 0
        · go_wp2_with fail
          go_ret2
          exact ⟨(by have hbelh := Hb.out; have hbels := hbelh.size; exact (by repeat (first | exact Below.refl _ _ | (with_reducible refine Below.drew ?_) | (with_reducible refine below_drewN ?_ _) | (with_reducible refine Below.alloc ?_ (by first | omega | (simp; done) | (simp; omega)) _) | (with_reducible refine Below.setCell ?_ (by first | omega | (simp; done) | (simp; omega)) _) | (refine Below.trans ?_ (Below.mono (by with_reducible assumption) (by first | omega | (simp; done) | (simp; omega))))))), by rw [(Hno.out (by omega)).out]; rfl⟩
        · have hr0' : decide (pr < 0) = false := by simpa using hr0
          by_cases hr1 : (nn : Int) ≤ pr
          · go_wp2_with fail
            go_ret2
            exact ⟨(by have hbelh := Hb.out; have hbels := hbelh.size; exact (by repeat (first | exact Below.refl _ _ | (with_reducible refine Below.drew ?_) | (with_reducible refine below_drewN ?_ _) | (with_reducible refine Below.alloc ?_ (by first | omega | (simp; done) | (simp; omega)) _) | (with_reducible refine Below.setCell ?_ (by first | omega | (simp; done) | (simp; omega)) _) | (refine Below.trans ?_ (Below.mono (by with_reducible assumption) (by first | omega | (simp; done) | (simp; omega))))))), by rw [(Hno.out (by omega)).out]; rfl⟩
          · have hr1' : decide ((nn : Int) ≤ pr) = false := by simpa using hr1
            go_wp2_with fail
            go_roundg (ps.length - j - 1)
            case measure => have := Hj.out; omega
            case rel =>
              refine ⟨j + 1, by first | rfl | go_num, by omega, fun i hi hij => ?_, (by have hbelh := Hb.out; have hbels := hbelh.size; exact (by repeat (first | exact Below.refl _ _ | (with_reducible refine Below.drew ?_) | (with_reducible refine below_drewN ?_ _) | (with_reducible refine Below.alloc ?_ (by first | omega | (simp; done) | (simp; omega)) _) | (with_reducible refine Below.setCell ?_ (by first | omega | (simp; done) | (simp; omega)) _) | (refine Below.trans ?_ (Below.mono (by with_reducible assumption) (by first | omega | (simp; done) | (simp; omega)))))))⟩
              rcases Nat.lt_or_ge i j with h1 | h1
              · exact Hg.out i hi h1
              · obtain rfl : i = j := by omega
                rw [Hgj.out]; simp; omega
      · have hok : runOk nn ps = true := by
          have h1 : ps.all (goodB nn) = true := by
            rw [List.all_eq_true]
            intro p hp
            obtain ⟨i, hi, rfl⟩ := List.getElem_of_mem hp
            exact Hg.out i hi (by omega)
          simp [runOk, h1]; omega
        have Hok := Lib.hid hok
        have hgd : ∀ i (h : i < ps.length), goodB nn ps[i] = true := fun i h => Hg.out i h (by omega)
        have Hgd := Lib.hid hgd
        have hsz : w.heap.size ≤ wr.heap.size := Hb.out.size
        clear Hg hok hgd
        go_wp2_with (at_make; refine wpList_make_full _ rfl _ _ 41 rfl w.heap.size 26 i0 _ 3 Try.underlying41 HI.out.1 HI.out.2.1 HI.out.2.2.1 .i64 .i64 _ _ nn rfl rfl rfl rfl ?m1 ?m2 ?m3 ?_; rotate_right; intro w2 hown2 hg2)
        case m1 => rw [HI.out.2.2.2]; omega
        case m2 => simp only [maxLen]; omega
        case m3 => omega
        have HO2 : Hid (w2.ownsRow w.heap.size 26 3 (.slice (some ⟨wr.heap.size, 0, none⟩) nn nn) nn ((List.replicate nn ((0 : Int), (0 : Int))).flatMap ctc)) := by
          have := madeCells_flat ctc 3 (by omega) ctc_len (0, 0) nn
          rw [← this]
          exact hown2
        have Hb2 := Lib.hid (show Below w.heap.size w w2 from Hb.out.grown hg2 hsz (by simp))
        clear hown2 hg2 Hb
        generalize wr.heap.size = G at *
        go_loopg [9, 38] nn (fun k _ v wr => R2 w nn G k v wr)
        case atStart => exact ⟨0, rfl, by omega, HO2.out, Hb2.out⟩
        case round =>
          obtain ⟨i, rfl, hi, hown, hbel⟩ := hrel
          have Hi := Lib.hid hi
          have HO := Lib.hid hown
          have HB := Lib.hid hbel
          clear hi hown hbel HO2 Hb2
          by_cases hin : i < nn
          · have q0 := HO.out.cellAt (i * 3) (by omega)
            rw [rep_cell nn i hin] at q0
            have q1 := HO.out.frozenAt (i * 3)
            go_wp2_with fail
            go_roundg (nn - i - 1)
            case measure => have := Hi.out; omega
            case rel =>
              refine ⟨i + 1, by first | rfl | go_num, by omega, ?_, HB.out.setCell (p := ⟨G, i * 3, none⟩) (own_block HO.out G rfl).1 _⟩
              have := (HO.out.stored (i * 3) (.int .i64 0)).1
              rwa [rep_set nn i hin] at this
          · go_wp2_with fail
            go_loopg [48] ps.length (fun k v wr => R3 w nn ps G k v wr)
            case atStart => exact ⟨0, rfl, by omega, by simpa using HO.out, HB.out⟩
            case round =>
              obtain ⟨s, rfl, hs, hown, hbel⟩ := hrel
              have Hs := Lib.hid hs
              have HO3 := Lib.hid hown
              have HB3 := Lib.hid hbel
              clear hs hown hbel HO HB
              by_cases hlt2 : s < ps.length
              · obtain ⟨b, off, rfl, hbb, d0, d1, d2, d3⟩ := pul_rd (H.out.keep (fun k hk => HB3.out.block k hk)) rfl s hlt2
                have hgs := Hgd.out s hlt2
                have hlen : ((ps.take s).foldl feedC (List.replicate nn (0, 0))).length = nn := by rw [fold_len]; simp
                have hcs : (ps.take (s + 1)).foldl feedC (List.replicate nn (0, 0)) = feedC ((ps.take s).foldl feedC (List.replicate nn (0, 0))) ps[s] := by
                  rw [List.take_succ_eq_append_getElem hlt2, List.foldl_append]; rfl
                generalize (ps.take s).foldl feedC (List.replicate nn (0, 0)) = cs at *
                have Hcs := Lib.hid hcs
                clear hcs
                generalize ps[s] = p at *
                obtain ⟨pr, pi, pa, pb⟩ := p
                simp only at d0 d1 d2 d3
                simp only [goodB, decide_eq_true_eq] at hgs
                obtain ⟨hr0, hr1⟩ := hgs
                obtain ⟨r, rfl⟩ := Int.eq_ofNat_of_zero_le hr0
                have hrn : r < nn := by omega
                obtain ⟨q0, q1, q2⟩ := ctr_cells HO3.out hlen r hrn
                generalize hq : cs.getD r (0, 0) = q at *
                have Hq := Lib.hid hq
                clear hq
                have fz := fun o => HO3.out.frozenAt o
                have hGl : G < wr.heap.size := (own_block HO3.out G rfl).2
                go_upto_region 18 with fail
                refine wp_region_overT 11 (by kernel_rfl) (by kernel_rfl) ?_
                simp only [List.take_succ_cons, List.take_zero, List.drop_succ_cons, List.drop_zero]
                repeat (go_big_quiet_step ((go_at_call 14; exact callsOver (feed_is _ _ _ _ _ _ _ _))))
                refine wpQuiet_nil ?_
                intro w5 hb5
                have hb6 : Below wr.heap.size wr w5 := ((Below.refl _ _).alloc (Nat.le_refl _) _).trans (hb5.mono (by simp))
                have HO5 := Lib.hid (own_grow HO3.out hb6)
                have HB5 := Lib.hid (HB3.out.trans (hb6.mono HB3.out.size))
                have hGo : w.heap.size ≤ G := (own_block HO3.out G rfl).1
                clear q0 q1 q2 fz d0 d1 d2 d3 hb5 hb6 HO3 HB3
                obtain ⟨q0, q1, q2⟩ := ctr_cells HO5.out hlen r hrn
                rw [Hq.out] at q0 q1 q2
                have fz := fun o => HO5.out.frozenAt o
                go_wp2_with fail
                go_roundg (ps.length - s - 1)
                case measure => have := Hs.out; omega
                case rel =>
                  refine ⟨s + 1, by first | rfl | go_num, by omega, ?_, ((HB5.out.setCell (p := ⟨G, r * 3, none⟩) hGo _).setCell (p := ⟨G, r * 3 + 1, none⟩) hGo _).setCell (p := ⟨G, r * 3 + 2, none⟩) hGo _⟩
                  rw [Hcs.out]
                  have h1 := (HO5.out.stored (r * 3) (.int .i64 (feedF q.1 q.2 q.2 pi pa pb).1)).1
                  have h2 := (h1.stored (r * 3 + 1) (.int .i64 (feedF q.1 q.2 q.2 pi pa pb).2)).1
                  have h3 := (h2.stored (r * 3 + 2) (.int .i64 (feedF q.1 q.2 q.2 pi pa pb).2)).1
                  rw [flat_set3 ctc ctc_len cs r (by omega) (feedF q.1 q.2 q.2 pi pa pb) _ _ _ rfl] at h3
                  have e : feedC cs ⟨r, pi, pa, pb⟩ = cs.set r (feedF q.1 q.2 q.2 pi pa pb) := by
                    simp only [feedC, Int.toNat_natCast, Hq.out]
                  rw [e]
                  exact h3
              · go_wp2_with fail
                go_ret2
                refine ⟨HB3.out, ?_⟩
                rw [Hok.out, if_pos rfl]
                have e1 : runC nn ps = (ps.take s).foldl feedC (List.replicate nn (0, 0)) := by
                  rw [List.take_of_length_le (by omega)]; simp [runC]
                have e2 : (runC nn ps).length = nn := by simp [runC, fold_len]
                refine ⟨_, rfl, ?_⟩
                rw [e2, e1]
                exact HO3.out
end Go.Proofs.Ytpapembikcnhpaa
