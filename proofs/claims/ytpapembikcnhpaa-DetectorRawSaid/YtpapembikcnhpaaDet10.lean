import Derived.Test.YtpapembikcnhpaaDet9
namespace Go.Proofs.Ytpapembikcnhpaa
open Go.RowKit

/-- the cells of the pulse number j -/
theorem pul_cells {w : World} {base n cap g : Nat} {ps : List Pul} (h : w.ownsRow base 31 4 (.slice (some ⟨g, 0, none⟩) n cap) n (ps.flatMap Pul.cells)) (hn : n = ps.length) (j : Nat) (hj : j < ps.length) :
    w.cell? ⟨g, j * 4, none⟩ = some (.int .i64 ps[j].r) ∧ w.cell? ⟨g, j * 4 + 1, none⟩ = some (.bool ps[j].i) ∧ w.cell? ⟨g, j * 4 + 2, none⟩ = some (.int .i64 ps[j].a) ∧ w.cell? ⟨g, j * 4 + 3, none⟩ = some (.int .i64 ps[j].b) := by
  have hc : ∀ i, i < 4 → w.cell? ⟨g, j * 4 + i, none⟩ = ps[j].cells[i]? := fun i hi => by
    rw [h.cellAt (j * 4 + i) (by omega)]
    exact flat_get Pul.cells 4 Pul.len ps j hj i hi
  exact ⟨hc 0 (by omega), hc 1 (by omega), hc 2 (by omega), hc 3 (by omega)⟩

structure LS (w : World) (v : Value) (ps : List Pul) (g : Nat) (cs : Array Value) (wr : World) : Prop where
  blk : Blk wr g 26 cs
  bel : Below w.heap.size w wr
  own : wr.ownsRow (g + 1) 31 4 v ps.length (ps.flatMap Pul.cells)
theorem LS.grow {w : World} {v : Value} {ps : List Pul} {g : Nat} {cs : Array Value} {wr w1 : World} (h : LS w v ps g cs wr) (hb : Below wr.heap.size wr w1) : LS w v ps g cs w1 :=
  ⟨h.blk.same (hb.block g h.blk.lt), h.bel.trans (hb.mono h.bel.size), own_grow h.own hb⟩
theorem LS.set {w : World} {v : Value} {ps : List Pul} {g : Nat} {a b c : Value} {wr : World} (h : LS w v ps g #[a, b, c] wr) (a' b' c' : Value) (hg : w.heap.size ≤ g) :
    LS w v ps g #[a', b', c'] (((wr.setCell ⟨g, 0, none⟩ a').setCell ⟨g, 1, none⟩ b').setCell ⟨g, 2, none⟩ c') := by
  refine ⟨by have := ((h.blk.set_ 0 a').set_ 1 b').set_ 2 c'; simpa using this, ((h.bel.setCell (p := ⟨g, 0, none⟩) hg _).setCell (p := ⟨g, 1, none⟩) hg _).setCell (p := ⟨g, 2, none⟩) hg _, ?_⟩
  exact ownsRow_setCell_below (ownsRow_setCell_below (ownsRow_setCell_below h.own (by simp) _) (by simp) _) (by simp) _
theorem LS.cells {w : World} {v : Value} {ps : List Pul} {g : Nat} {a b c : Value} {wr : World} (h : LS w v ps g #[a, b, c] wr) : wr.cell? ⟨g, 0, none⟩ = some a ∧ wr.cell? ⟨g, 1, none⟩ = some b ∧ wr.cell? ⟨g, 2, none⟩ = some c ∧
    wr.frozen? ⟨g, 0, none⟩ = false ∧ wr.frozen? ⟨g, 1, none⟩ = false ∧ wr.frozen? ⟨g, 2, none⟩ = false :=
  ⟨h.blk.cell 0, h.blk.cell 1, h.blk.cell 2, h.blk.frozen 0, h.blk.frozen 1, h.blk.frozen 2⟩

def LatRel (w : World) (A : Option Addr) (c : Nat) (ps : List Pul) (g k : Nat) (v : Value) (wr : World) : Prop :=
  ∃ j : Nat, v = .int .i64 j ∧ j + k = ps.length ∧ LS w (.slice A ps.length c) ps g #[.int .i64 1, .int .i64 0, .int .i64 0] wr

theorem feed_unclean (s a b : Int) (i : Bool) (pa pb : Int) (h : pa ≠ pb) : feedF s a b i pa pb = (1, 0) := by
  have : cleanB pa pb = false := by simp [cleanB, h]
  simp [feedF, this]
theorem feed_unsure (a b : Int) (i : Bool) (pa pb : Int) : feedF 1 a b i pa pb = (1, 0) := by
  have : soundB 1 a b = false := by simp [soundB]
  simp [feedF, this]

set_option maxHeartbeats 3200000 in
theorem latch_walk (A : Option Addr) (n c : Nat) (z : List Int) (a b : Int) (w : World) (h : Rd w w.heap.size 1 A n (z.map (Value.int .i64))) (hm : n ≤ c ∧ c ≤ maxLen ∧ c * 8 ≤ 140737488351232) (_wa : (Lit.int .i64 a).wf = true) (_wb : (Lit.int .i64 b).wf = true) :
    Calls Try.prog 8 #[.slice A n c, .int .i64 a, .int .i64 b] w fun e w' => e = .returned (.bool true) ∧ Below w.heap.size w w' := by
  have H := Lib.hid h
  have hn : n ≤ maxLen := by omega
  have HN := Lib.hid hn
  have hpa := pick_bd a 3 (by omega) (by omega)
  have hpb := pick_bd b 3 (by omega) (by omega)
  have hpc := pick_bd a 9 (by omega) (by omega)
  clear h hm hn _wa _wb
  go_enter Try.func8, Try.ntmps8
  go_wp2_with (go_at_call 17; refine (pick_any _ _ _ (by omega) (by omega)).mono ?_; rintro e w' ⟨rfl, rfl⟩)
  refine (feed_is _ _ _ _ _ _ _ _).mono ?_
  rintro e w1 ⟨rfl, hb1⟩
  rw [feed_unclean _ _ _ _ _ _ (by omega)]
  have HB1 := Lib.hid hb1
  clear hb1
  go_wp2_with fail
  have Hb2 := Lib.hid (HB1.out.alloc HB1.out.size (.cells #[.int .i64 1, .int .i64 0, .int .i64 0] 26))
  have HBk := Lib.hid (Blk.new w1 26 #[.int .i64 1, .int .i64 0, .int .i64 0])
  have hg : w.heap.size ≤ w1.heap.size := HB1.out.size
  refine (pulses_any A n c z _ (H.out.keep (fun k hk => Hb2.out.block k hk) |>.more Hb2.out.size) HN.out).mono ?_
  rintro e w2 ⟨v, ps, rfl, hlen, _, hb2, hown⟩
  have HL : Hid (LS w v ps w1.heap.size #[.int .i64 1, .int .i64 0, .int .i64 0] w2) := ⟨HBk.out.same (hb2.block _ (by simp)), Hb2.out.trans (hb2.mono Hb2.out.size), by have := own_base hown (base' := w1.heap.size + 1) (by simp); exact this⟩
  obtain ⟨A2, c2, rfl, hc2, hm2⟩ := own_slice hown
  clear HB1 Hb2 HBk hb2 hown H HN
  generalize w1.heap.size = g at *
  unfold maxLen at hm2
  go_wp2_with fail
  go_loopg [27] ps.length (fun k v wr => LatRel w A2 c2 ps g k v wr)
  case atStart => exact ⟨0, rfl, by omega, HL.out⟩
  case round =>
    obtain ⟨j, rfl, hj, hls⟩ := hrel
    have HS := Lib.hid hls
    have Hj := Lib.hid hj
    clear hls hj HL
    by_cases hlt : j < ps.length
    · have hls := HS.out.own
      obtain ⟨g2, cc, hv, hg2, _⟩ := hls.form (by omega)
      have hA : A2 = some ⟨g2, 0, none⟩ := by injection hv
      subst hA
      obtain ⟨d0, d1, d2, d3⟩ := pul_cells hls rfl j hlt
      have dj : ((j : Int)).toNat = j := by omega
      obtain ⟨c0, c1, c2', f0, f1, f2⟩ := HS.out.cells
      generalize ps[j].r = pr at *
      generalize ps[j].i = pi at *
      generalize ps[j].a = pa at *
      generalize ps[j].b = pb at *
      clear hv hls
      have hgl : g < wr.heap.size := HS.out.blk.lt
      have HS1 := Lib.hid (HS.out.grow ((Below.refl _ _).alloc (Nat.le_refl _) (.cells #[.int .i64 pr, .bool pi, .int .i64 pa, .int .i64 pb] 31)))
      go_wp2_with fail
      refine (feed_is _ _ _ _ _ _ _ _).mono ?_
      rintro e w3 ⟨rfl, hb3⟩
      rw [feed_unsure]
      have HS2 := Lib.hid (HS1.out.grow hb3)
      clear HS HS1 hb3 d0 d1 d2 d3 c0 c1 c2' f0 f1 f2 hgl
      obtain ⟨c0, c1, c2', f0, f1, f2⟩ := HS2.out.cells
      have HS3 := Lib.hid (HS2.out.set (.int .i64 1) (.int .i64 0) (.int .i64 0) hg)
      go_wp2_with fail
      refine (report_any _ _ _ _).mono ?_
      rintro e w4 ⟨rfl, hb4⟩
      rw [show reportF 1 0 0 = 2 by decide]
      have HS4 := Lib.hid (HS3.out.grow hb4)
      clear HS2 HS3 hb4 c0 c1 c2' f0 f1 f2
      obtain ⟨c0, c1, c2', f0, f1, f2⟩ := HS4.out.cells
      go_wp2_with fail
      go_roundg (ps.length - j - 1)
      case measure => have := Hj.out; omega
      case rel => exact ⟨j + 1, by first | rfl | go_num, by omega, HS4.out⟩
    · obtain ⟨c0, c1, c2', f0, f1, f2⟩ := HS.out.cells
      have hgl : g < wr.heap.size := HS.out.blk.lt
      go_wp2_with fail
      refine (reset_is _ _ _ _).mono ?_
      rintro e w3 ⟨rfl, hb3⟩
      rw [show resetT 1 0 0 = (2, 0, 0) by decide]
      have HS2 := Lib.hid (HS.out.grow hb3)
      clear HS hb3 c0 c1 c2' f0 f1 f2 hgl
      obtain ⟨c0, c1, c2', f0, f1, f2⟩ := HS2.out.cells
      have HS3 := Lib.hid (HS2.out.set (.int .i64 2) (.int .i64 0) (.int .i64 0) hg)
      go_wp2_with (go_at_call 17; refine (pick_any _ _ _ (by omega) (by omega)).mono ?_; rintro e w' ⟨rfl, rfl⟩)
      clear c0 c1 c2' f0 f1 f2
      generalize ((w3.setCell ⟨g, 0, none⟩ (.int .i64 2)).setCell ⟨g, 1, none⟩ (.int .i64 0)).setCell ⟨g, 2, none⟩ (.int .i64 0) = w5 at *
      obtain ⟨c0, c1, c2', _, _, _⟩ := HS3.out.cells
      have hgl : g < w5.heap.size := HS3.out.blk.lt
      refine (feed_is _ _ _ _ _ _ _ _).mono ?_
      rintro e w6 ⟨rfl, hb6⟩
      generalize pick a 9 = q at *
      have e1 : feedF 2 0 0 true (1 + q) (1 + q) = (2, 1 + q) := by
        have h1 : soundB 2 0 0 = true := by decide
        have h2 : cleanB (1 + q) (1 + q) = true := by simp [cleanB]; omega
        simp [feedF, h1, h2]; omega
      have e2 : feedF 2 (1 + q) (1 + q) false (1 + q) (1 + q) = (0, 0) := by
        have h1 : soundB 2 (1 + q) (1 + q) = true := by simp [soundB]; omega
        have h2 : cleanB (1 + q) (1 + q) = true := by simp [cleanB]; omega
        simp [feedF, h1, h2]
      have e3 : reportF 2 (1 + q) (1 + q) = 2 := by simp [reportF]
      have E := Lib.hid (And.intro e1 (And.intro e2 e3))
      clear e1 e2 e3
      rw [E.out.1]
      obtain ⟨hc6, hf6⟩ := bcell hb6
      have z6 := hb6.size
      try simp at z6
      have y6 : g < w6.heap.size := by omega
      go_wp2_with fail
      refine (feed_is _ _ _ _ _ _ _ _).mono ?_
      rintro e w7 ⟨rfl, hb7⟩
      rw [E.out.2.1]
      obtain ⟨hc7, hf7⟩ := bcell hb7
      have z7 := hb7.size
      try simp at z7
      have y7 : g < w7.heap.size := by omega
      have y7' : w6.heap.size < w7.heap.size := by omega
      have HBw : Hid (Below w.heap.size w w5) := HS3.out.bel
      have hw5 : w.heap.size ≤ w5.heap.size := HS3.out.bel.size
      clear HS2 HS3
      go_wp2_with fail
      refine (awake_any _).mono ?_
      rintro e w8 ⟨rfl, hb8⟩
      obtain ⟨hc8, hf8⟩ := bcell hb8
      have z8 := hb8.size
      try simp at z8
      have y8 : g < w8.heap.size := by omega
      have y8' : w6.heap.size < w8.heap.size := by omega
      have y8'' : w7.heap.size < w8.heap.size := by omega
      go_wp2_with fail
      refine (report_any _ _ _ _).mono ?_
      rintro e w9 ⟨rfl, hb9⟩
      rw [show reportF 2 0 0 = 2 by decide]
      obtain ⟨hc9, hf9⟩ := bcell hb9
      have z9 := hb9.size
      try simp at z9
      have y9' : w6.heap.size < w9.heap.size := by omega
      have y9'' : w7.heap.size < w9.heap.size := by omega
      go_wp2_with fail
      refine (report_any _ _ _ _).mono ?_
      rintro e w10 ⟨rfl, hb10⟩
      rw [E.out.2.2]
      obtain ⟨hc10, hf10⟩ := bcell hb10
      have z10 := hb10.size
      try simp at z10
      have y10'' : w7.heap.size < w10.heap.size := by omega
      go_wp2_with fail
      refine (report_any _ _ _ _).mono ?_
      rintro e w11 ⟨rfl, hb11⟩
      rw [show reportF 0 0 0 = 0 by decide]
      obtain ⟨hc11, hf11⟩ := bcell hb11
      have z11 := hb11.size
      try simp at z11
      go_wp2_with fail
      go_ret
      have hbw : Below w.heap.size w w5 := HBw.out
      exact ⟨rfl, (by repeat (first | exact Below.refl _ _ | (with_reducible refine Below.drew ?_) | (with_reducible refine below_drewN ?_ _) | (with_reducible refine Below.alloc ?_ (by first | omega | (simp; done) | (simp; omega)) _) | (with_reducible refine Below.setCell ?_ (by first | omega | (simp; done) | (simp; omega)) _) | (refine Below.trans ?_ (Below.mono (by with_reducible assumption) (by first | omega | (simp; done) | (simp; omega))))))⟩
end Go.Proofs.Ytpapembikcnhpaa
