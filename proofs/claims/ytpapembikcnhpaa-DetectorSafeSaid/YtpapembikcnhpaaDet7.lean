import Derived.Test.YtpapembikcnhpaaDet6
import Derived.Deep.LoopGhost
namespace Go.Proofs.Ytpapembikcnhpaa
open Go.RowKit

/-- block g is a counter -/
structure St (w : World) (b g : Nat) (l : List Int) (s x : Int) (wr : World) : Prop where
  src : Src wr b l
  blk : Blk wr g 26 #[.int .i64 s, .int .i64 x, .int .i64 x]
  bel : Below w.heap.size w wr
theorem St.drewN {w : World} {b g : Nat} {l : List Int} {s x : Int} {wr : World} (h : St w b g l s x wr) (k : Nat) : St w b g l s x (wr.drewN k) :=
  ⟨h.src, h.blk, below_drewN h.bel k⟩
theorem St.turn {w : World} {b g : Nat} {l l' : List Int} {s x : Int} {wr w1 : World} (h : St w b g l s x wr) (hs : Src w1 b l') (ht : Turn b wr w1) (hg : g ≠ b) (hb : w.heap.size ≤ b) : St w b g l' s x w1 :=
  ⟨hs, h.blk.same (ht.block g hg), ht.below h.bel hb⟩
theorem St.below {w : World} {b g : Nat} {l : List Int} {s x : Int} {wr w1 : World} (h : St w b g l s x wr) (hb : Below wr.heap.size wr w1) (hbg : b < g) : St w b g l s x w1 :=
  have hl := h.blk.lt
  ⟨h.src.keep (fun k hk => hb.block k (by omega)), h.blk.same (hb.block g hl), h.bel.trans (hb.mono h.bel.size)⟩
theorem St.set {w : World} {b g : Nat} {l : List Int} {s x : Int} {wr : World} (h : St w b g l s x wr) (s' x' : Int) (hbg : b < g) (hw : w.heap.size ≤ g) :
    St w b g l s' x' (((wr.setCell ⟨g, 0, none⟩ (.int .i64 s')).setCell ⟨g, 1, none⟩ (.int .i64 x')).setCell ⟨g, 2, none⟩ (.int .i64 x')) := by
  refine ⟨h.src.keep (fun k hk => ?_), ?_, ((h.bel.setCell (p := ⟨g, 0, none⟩) hw _).setCell (p := ⟨g, 1, none⟩) hw _).setCell (p := ⟨g, 2, none⟩) hw _⟩
  · rw [Below.heap_setCell _ _ _ _ (by simp; omega), Below.heap_setCell _ _ _ _ (by simp; omega), Below.heap_setCell _ _ _ _ (by simp; omega)]
  · have := ((h.blk.set_ 0 (.int .i64 s')).set_ 1 (.int .i64 x')).set_ 2 (.int .i64 x')
    simpa using this

theorem St.cells {w : World} {b g : Nat} {l : List Int} {s x : Int} {wr : World} (h : St w b g l s x wr) : wr.cell? ⟨g, 0, none⟩ = some (.int .i64 s) ∧ wr.cell? ⟨g, 1, none⟩ = some (.int .i64 x) ∧ wr.cell? ⟨g, 2, none⟩ = some (.int .i64 x) ∧
    wr.frozen? ⟨g, 0, none⟩ = false ∧ wr.frozen? ⟨g, 1, none⟩ = false ∧ wr.frozen? ⟨g, 2, none⟩ = false :=
  ⟨h.blk.cell 0, h.blk.cell 1, h.blk.cell 2, h.blk.frozen 0, h.blk.frozen 1, h.blk.frozen 2⟩

def ExactRel (w : World) (g k : Nat) (v : Value) (wr : World) : Prop :=
  ∃ l x, l.length = k ∧ v = .int .i64 x ∧ 0 ≤ x ∧ x ≤ 1600 ∧ St w w.heap.size g l 0 x wr

theorem left_no (b : Nat) (w : World) (h : Src w b []) :
    Calls Try.prog 12 #[.pointer (some ⟨b, 0, none⟩)] w fun e w' => e = .returned (.bool false) ∧ ∃ k, w' = w.drewN k := (left_any b [] w h).mono fun _ _ h => ⟨by simpa using h.1, h.2⟩
theorem left_yes (b : Nat) (y : Int) (t : List Int) (w : World) (h : Src w b (y :: t)) :
    Calls Try.prog 12 #[.pointer (some ⟨b, 0, none⟩)] w fun e w' => e = .returned (.bool true) ∧ ∃ k, w' = w.drewN k := (left_any b (y :: t) w h).mono fun _ _ h => ⟨by simpa using h.1, h.2⟩

set_option maxHeartbeats 1600000 in
theorem exact_walk (A : Option Addr) (n c : Nat) (z : List Int) (w : World) (h : Rd w w.heap.size 1 A n (z.map (Value.int .i64))) (hm : n ≤ c ∧ c ≤ maxLen ∧ c * 8 ≤ 140737488351232) :
    Calls Try.prog 3 #[.slice A n c] w fun e w' => e = .returned (.bool true) ∧ Below w.heap.size w w' := by
  have H := Lib.hid h
  have hn : n ≤ maxLen := by omega
  have HN := Lib.hid hn
  clear h hm hn
  go_enter Try.func3, Try.ntmps3
  go_wp2_with fail
  refine (from_any A n c z w H.out HN.out).mono ?_
  rintro e w0 ⟨rfl, hs, hb, hz⟩
  have Hs := Lib.hid hs
  have hg : w.heap.size < w0.heap.size := by omega
  clear hs hz
  go_wp2_with fail
  go_loopg [5] z.length (fun k v wr => ExactRel w w0.heap.size k v wr)
  case atStart =>
    exact ⟨z, 0, rfl, rfl, by omega, by omega, Hs.out.keep (fun k hk => Below.heap_alloc _ _ _ (by omega)), Blk.new _ _ _, hb.alloc (by omega) _⟩
  case round =>
    obtain ⟨l, x, hl, rfl, hx0, hx1, hst⟩ := hrel
    have HL := Lib.hid hl
    have HS := Lib.hid hst
    clear hl Hs H HN hst
    generalize w0.heap.size = g at *
    rcases l with _ | ⟨y, t⟩
    · go_wp2_with fail
      refine (left_no _ _ HS.out.src).mono ?_
      rintro e w1 ⟨rfl, k1, rfl⟩
      go_wp2_with fail
      refine (awake_any _).mono ?_
      rintro e w2 ⟨rfl, hb2⟩
      go_wp2_with fail
      go_ret
      exact ⟨rfl, (below_drewN HS.out.bel k1).trans (hb2.mono HS.out.bel.size)⟩
    · go_wp2_with fail
      refine (left_yes _ y t _ HS.out.src).mono ?_
      rintro e w1 ⟨rfl, k1, rfl⟩
      have HS1 := Lib.hid (HS.out.drewN k1)
      clear HS
      generalize wr.drewN k1 = w1 at *
      go_wp2_with fail
      refine (next_any _ _ _ _ HS1.out.src (by omega) (by omega)).mono ?_
      rintro e w2 ⟨rfl, hs2, ht2⟩
      have HS2 := Lib.hid (HS1.out.turn hs2 ht2 (by omega) (Nat.le_refl _))
      clear HS1 hs2 ht2
      have hk := nextV_bd (y :: t) 9 (by omega) (by omega)
      generalize nextV (y :: t) 9 = q at *
      obtain ⟨hq0, hq1⟩ := hk
      simp only [List.tail_cons] at HS2
      by_cases hin : x < 1 + q
      · obtain ⟨c0, c1, c2, f0, f1, f2⟩ := HS2.out.cells
        go_wp2_with fail
        refine (feed_is _ _ _ _ _ _ _ _).mono ?_
        rintro e w3 ⟨rfl, hb3⟩
        rw [feed_up x (1 + q) (by omega) (by omega) (by omega) (by omega), if_neg (by omega)]
        have HS3 := Lib.hid (HS2.out.below hb3 hg)
        clear HS2 c0 c1 c2 f0 f1 f2 hb3
        obtain ⟨c0, c1, c2, f0, f1, f2⟩ := HS3.out.cells
        by_cases hv : (x + (1 + q)) = 0
        all_goals
          first
          | have hv' : ((x + (1 + q)) == 0) = true := by simpa using hv
          | have hv' : ((x + (1 + q)) == 0) = false := by simpa using hv
          have Hv := Lib.hid hv
          clear hv
          go_wp2_with fail
          refine (report_any _ _ _ _).mono ?_
          rintro e w5 ⟨rfl, hb5⟩
          have HS5 := Lib.hid ((HS3.out.set 0 (x + (1 + q)) hg (by omega)).below hb5 hg)
          clear HS3 c0 c1 c2 f0 f1 f2 hb5
          obtain ⟨c0, c1, c2, f0, f1, f2⟩ := HS5.out.cells
          have er : reportF 0 (x + (1 + q)) (x + (1 + q)) = (if (x + (1 + q)) = 0 then 0 else 1) := by
            have hs : soundB 0 (x + (1 + q)) (x + (1 + q)) = true := by simp [soundB]; omega
            simp [reportF, hs]
          rw [er]
          clear er
          first | rw [if_pos Hv.out] | rw [if_neg Hv.out]
          go_wp2_with fail
          go_roundg t.length
          case measure => have := HL.out; simp at this ⊢; omega
          case rel => exact ⟨_, _, rfl, rfl, by omega, by omega, HS5.out⟩
      · have hin' : decide (x < 1 + q) = false := by simpa using hin
        go_wp2_with fail
        refine (next_any _ _ _ _ HS2.out.src (by omega) (by omega)).mono ?_
        rintro e w4 ⟨rfl, hs2, ht2⟩
        have HS4 := Lib.hid (HS2.out.turn hs2 ht2 (by omega) (Nat.le_refl _))
        clear HS2 hs2 ht2
        have HS2 := HS4
        clear HS4
        have hk := nextV_bd t 2 (by omega) (by omega)
        generalize nextV t 2 = q2 at *
        obtain ⟨hq20, hq21⟩ := hk
        obtain ⟨c0, c1, c2, f0, f1, f2⟩ := HS2.out.cells
        have hlen : t.tail.length ≤ t.length := by simp
        by_cases hz : q2 = 0
        · have hz' : (q2 == 0) = true := by simpa using hz
          clear hz
          by_cases h15 : x < 1590
          · go_wp2_with fail
            refine (feed_is _ _ _ _ _ _ _ _).mono ?_
            rintro e w3 ⟨rfl, hb3⟩
            rw [feed_up x (1 + q) (by omega) (by omega) (by omega) (by omega), if_neg (by omega)]
            have HS3 := Lib.hid (HS2.out.below hb3 hg)
            clear HS2 c0 c1 c2 f0 f1 f2 hb3
            obtain ⟨c0, c1, c2, f0, f1, f2⟩ := HS3.out.cells
            by_cases hv : (x + (1 + q)) = 0
            all_goals
              first
              | have hv' : ((x + (1 + q)) == 0) = true := by simpa using hv
              | have hv' : ((x + (1 + q)) == 0) = false := by simpa using hv
              have Hv := Lib.hid hv
              clear hv
              go_wp2_with fail
              refine (report_any _ _ _ _).mono ?_
              rintro e w5 ⟨rfl, hb5⟩
              have HS5 := Lib.hid ((HS3.out.set 0 (x + (1 + q)) hg (by omega)).below hb5 hg)
              clear HS3 c0 c1 c2 f0 f1 f2 hb5
              obtain ⟨c0, c1, c2, f0, f1, f2⟩ := HS5.out.cells
              have er : reportF 0 (x + (1 + q)) (x + (1 + q)) = (if (x + (1 + q)) = 0 then 0 else 1) := by
                have hs : soundB 0 (x + (1 + q)) (x + (1 + q)) = true := by simp [soundB]; omega
                simp [reportF, hs]
              rw [er]
              clear er
              first | rw [if_pos Hv.out] | rw [if_neg Hv.out]
              go_wp2_with fail
              go_roundg t.tail.length
              case measure => have := HL.out; simp at this ⊢; omega
              case rel => exact ⟨_, _, rfl, rfl, by omega, by omega, HS5.out⟩
          · have h15' : decide (x < 1590) = false := by simpa using h15
            go_wp2_with fail
            refine (feed_is _ _ _ _ _ _ _ _).mono ?_
            rintro e w3 ⟨rfl, hb3⟩
            rw [feed_down x (1 + q) (by omega) (by omega) (by omega) (by omega), if_neg (by omega)]
            have HS3 := Lib.hid (HS2.out.below hb3 hg)
            clear HS2 c0 c1 c2 f0 f1 f2 hb3
            obtain ⟨c0, c1, c2, f0, f1, f2⟩ := HS3.out.cells
            by_cases hv : (x - (1 + q)) = 0
            all_goals
              first
              | have hv' : ((x - (1 + q)) == 0) = true := by simpa using hv
              | have hv' : ((x - (1 + q)) == 0) = false := by simpa using hv
              have Hv := Lib.hid hv
              clear hv
              go_wp2_with fail
              refine (report_any _ _ _ _).mono ?_
              rintro e w5 ⟨rfl, hb5⟩
              have HS5 := Lib.hid ((HS3.out.set 0 (x - (1 + q)) hg (by omega)).below hb5 hg)
              clear HS3 c0 c1 c2 f0 f1 f2 hb5
              obtain ⟨c0, c1, c2, f0, f1, f2⟩ := HS5.out.cells
              have er : reportF 0 (x - (1 + q)) (x - (1 + q)) = (if (x - (1 + q)) = 0 then 0 else 1) := by
                have hs : soundB 0 (x - (1 + q)) (x - (1 + q)) = true := by simp [soundB]; omega
                simp [reportF, hs]
              rw [er]
              clear er
              first | rw [if_pos Hv.out] | rw [if_neg Hv.out]
              go_wp2_with fail
              go_roundg t.tail.length
              case measure => have := HL.out; simp at this ⊢; omega
              case rel => exact ⟨_, _, rfl, rfl, by omega, by omega, HS5.out⟩
        · have hz' : (q2 == 0) = false := by simpa using hz
          clear hz
          go_wp2_with fail
          refine (feed_is _ _ _ _ _ _ _ _).mono ?_
          rintro e w3 ⟨rfl, hb3⟩
          rw [feed_down x (1 + q) (by omega) (by omega) (by omega) (by omega), if_neg (by omega)]
          have HS3 := Lib.hid (HS2.out.below hb3 hg)
          clear HS2 c0 c1 c2 f0 f1 f2 hb3
          obtain ⟨c0, c1, c2, f0, f1, f2⟩ := HS3.out.cells
          by_cases hv : (x - (1 + q)) = 0
          all_goals
            first
            | have hv' : ((x - (1 + q)) == 0) = true := by simpa using hv
            | have hv' : ((x - (1 + q)) == 0) = false := by simpa using hv
            have Hv := Lib.hid hv
            clear hv
            go_wp2_with fail
            refine (report_any _ _ _ _).mono ?_
            rintro e w5 ⟨rfl, hb5⟩
            have HS5 := Lib.hid ((HS3.out.set 0 (x - (1 + q)) hg (by omega)).below hb5 hg)
            clear HS3 c0 c1 c2 f0 f1 f2 hb5
            obtain ⟨c0, c1, c2, f0, f1, f2⟩ := HS5.out.cells
            have er : reportF 0 (x - (1 + q)) (x - (1 + q)) = (if (x - (1 + q)) = 0 then 0 else 1) := by
              have hs : soundB 0 (x - (1 + q)) (x - (1 + q)) = true := by simp [soundB]; omega
              simp [reportF, hs]
            rw [er]
            clear er
            first | rw [if_pos Hv.out] | rw [if_neg Hv.out]
            go_wp2_with fail
            go_roundg t.tail.length
            case measure => have := HL.out; simp at this ⊢; omega
            case rel => exact ⟨_, _, rfl, rfl, by omega, by omega, HS5.out⟩
end Go.Proofs.Ytpapembikcnhpaa
