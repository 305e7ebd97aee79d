import Derived.Test.YtpapembikcnhpaaDet7
import Derived.Deep.DeepCutAuto
import Derived.Deep.CutBlock
namespace Go.Proofs.Ytpapembikcnhpaa
open Go.RowKit

def SafeInv (s a x : Int) : Prop := (s = 1 ∧ a = 0) ∨ ((s = 0 ∨ s = 2) ∧ a = x ∧ x ≤ 1600)
theorem safe_feed (s a x k pa pb : Int) (i : Bool) (h : SafeInv s a x) (hk : 1 ≤ k) (hk4 : k ≤ 4) (hx : 0 ≤ x) (hp : pa = k ∨ pb = k) (hi : i = false → k ≤ x) :
    SafeInv (feedF s a a i pa pb).1 (feedF s a a i pa pb).2 (if i then x + k else x - k) := by
  unfold feedF
  by_cases hs : soundB s a a && cleanB pa pb
  · rw [if_pos hs]
    simp only [Bool.and_eq_true] at hs
    obtain ⟨h1, h2, h3, h4⟩ := soundB_iff hs.1
    obtain ⟨h5, h6, h7⟩ := cleanB_iff hs.2
    have hpa : pa = k := by omega
    subst hpa
    rcases h with ⟨h8, _⟩ | ⟨h8, rfl, h9⟩
    · omega
    · cases i
      · simp only [Bool.false_eq_true, if_false]
        split
        · left; simp
        · split
          · right; refine ⟨.inl rfl, ?_⟩; simp; omega
          · right; refine ⟨h1, rfl, ?_⟩; omega
      · simp only [if_true]
        split
        · left; simp
        · split
          · simp_all
          · right; refine ⟨h1, rfl, ?_⟩; omega
  · rw [if_neg hs]
    left; simp
theorem safe_reset (s a : Int) (h : SafeInv s a 0) : SafeInv (resetT s a a).1 (resetT s a a).2.1 0 ∧ (resetT s a a).2.1 = (resetT s a a).2.2 := by
  unfold resetT
  split
  · exact ⟨h, rfl⟩
  · exact ⟨.inr ⟨.inr rfl, rfl, by simp⟩, rfl⟩
theorem safe_report (s a x : Int) (h : SafeInv s a x) (hx : x ≠ 0) : (reportF s a a == 0) = false := by
  unfold reportF
  rcases h with ⟨h1, h2⟩ | ⟨h1, h2, h3⟩
  · simp [h1]
  · subst h2
    split <;> simp_all

/-- the state, and p's block -/
def SafeRel (w : World) (N g k : Nat) (v : Value) (wr : World) : Prop :=
  ∃ l x s a, l.length = k ∧ k ≤ N ∧ v = .int .i64 x ∧ 0 ≤ x ∧ x ≤ 4 * ((N : Int) - k) ∧ SafeInv s a x ∧ St w w.heap.size g l s a wr

def InRel (w : World) (g : Nat) (t : List Int) (s a x k : Int) (v : Value) (wr : World) : Prop :=
  ∃ (i : Bool) (l : List Int), v = .bool i ∧ (i = false → k ≤ x) ∧ l.length ≤ t.length ∧ St w w.heap.size g l s a wr

def SwRel (w : World) (g : Nat) (l2 : List Int) (s a : Int) (i : Bool) (k : Int) (P : Nat) (wr : World) : Prop :=
  ∃ (pa pb : Int) (l : List Int), (pa = k ∨ pb = k) ∧ l.length ≤ l2.length ∧ St w w.heap.size g l s a wr ∧ Blk wr P 31 #[.int .i64 0, .bool i, .int .i64 pa, .int .i64 pb]
theorem pcells {w : World} {P : Nat} {i : Bool} {pa pb : Int} (h : Blk w P 31 #[.int .i64 0, .bool i, .int .i64 pa, .int .i64 pb]) :
    w.cell? ⟨P, 0, none⟩ = some (.int .i64 0) ∧ w.cell? ⟨P, 1, none⟩ = some (.bool i) ∧ w.cell? ⟨P, 2, none⟩ = some (.int .i64 pa) ∧ w.cell? ⟨P, 3, none⟩ = some (.int .i64 pb) ∧ w.frozen? ⟨P, 2, none⟩ = false ∧ w.frozen? ⟨P, 3, none⟩ = false :=
  ⟨h.cell 0, h.cell 1, h.cell 2, h.cell 3, h.frozen 2, h.frozen 3⟩
theorem St.far {w : World} {b g : Nat} {l : List Int} {s x : Int} {wr : World} (h : St w b g l s x wr) {P o : Nat} {u : Value} (hbg : b < g) (hP : g < P) (hw : w.heap.size ≤ P) : St w b g l s x (wr.setCell ⟨P, o, none⟩ u) :=
  ⟨h.src.keep (fun k hk => Below.heap_setCell _ _ _ _ (by simp; omega)), h.blk.same (Below.heap_setCell _ _ _ _ (by simp; omega)), h.bel.setCell hw _⟩

set_option maxHeartbeats 3200000 in
theorem safe_walk (A : Option Addr) (n c : Nat) (z : List Int) (w : World) (h : Rd w w.heap.size 1 A n (z.map (Value.int .i64))) (hm : n ≤ c ∧ c ≤ maxLen ∧ c * 8 ≤ 140737488351232) :
    Calls Try.prog 7 #[.slice A n c] w fun e w' => e = .returned (.bool true) ∧ Below w.heap.size w w' := by
  have H := Lib.hid h
  have hn : n ≤ maxLen := by omega
  have HN := Lib.hid hn
  have hzl : z.length ≤ 17592186044416 := by have := h.1; simp at this; omega
  clear h hm hn
  go_enter Try.func7, Try.ntmps7
  go_wp2_with fail
  refine (from_any A n c z w H.out HN.out).mono ?_
  rintro e w0 ⟨rfl, hs, hb, hz⟩
  have Hs := Lib.hid hs
  have hg : w.heap.size < w0.heap.size := by omega
  clear hs hz
  go_wp2_with fail
  go_loopg [5] z.length (fun k v wr => SafeRel w z.length w0.heap.size k v wr)
  case atStart =>
    exact ⟨z, 0, 0, 0, rfl, Nat.le_refl _, rfl, by omega, by omega, .inr ⟨.inl rfl, rfl, by omega⟩, Hs.out.keep (fun k hk => Below.heap_alloc _ _ _ (by omega)), Blk.new _ _ _, hb.alloc (by omega) _⟩
  case round =>
    obtain ⟨l, x, s, a, hl, hkN, rfl, hx0, hx1, hinv, hst⟩ := hrel
    have HL := Lib.hid hl
    have HS := Lib.hid hst
    have HI := Lib.hid hinv
    clear hl Hs H HN hst hinv
    generalize w0.heap.size = g at *
    rcases l with _ | ⟨y, t⟩
    · go_wp2_with fail
      refine (left_no _ _ HS.out.src).mono ?_
      rintro e w1 ⟨rfl, k1, rfl⟩
      go_wp2_with fail
      refine (awake_any _).mono ?_
      rintro e w2 ⟨rfl, hb2⟩
      go_wp2_with fail
      go_ret
      exact ⟨rfl, (below_drewN HS.out.bel k1).trans (hb2.mono HS.out.bel.size)⟩
    · have hgk : t.length + 1 = gk := by simpa using HL.out
      have hxx : x ≤ 70368744177664 := by omega
      have Hgk := Lib.hid hgk
      clear hgk
      go_wp2_with fail
      refine (left_yes _ y t _ HS.out.src).mono ?_
      rintro e w1 ⟨rfl, k1, rfl⟩
      have HS1 := Lib.hid (HS.out.drewN k1)
      clear HS
      generalize wr.drewN k1 = w1 at *
      go_wp2_with fail
      refine (next_any _ _ _ _ HS1.out.src (by omega) (by omega)).mono ?_
      rintro e w2 ⟨rfl, hs2, ht2⟩
      have HS2 := Lib.hid (HS1.out.turn hs2 ht2 (by omega) (Nat.le_refl _))
      clear HS1 hs2 ht2
      have hk := nextV_bd (y :: t) 4 (by omega) (by omega)
      generalize nextV (y :: t) 4 = q at *
      obtain ⟨hq0, hq1⟩ := hk
      simp only [List.tail_cons] at HS2
      go_upto_region 6 with fail
      go_cut [7] (fun v wc => InRel w g t s a x (1 + q) v wc)
      case first =>
        by_cases hin : x < 1 + q
        · go_wp2_with fail
          go_meet
          case rel => exact ⟨true, t, rfl, by simp, Nat.le_refl _, HS2.out⟩
        · have hin' : decide (x < 1 + q) = false := by simpa using hin
          go_wp2_with fail
          refine (next_any _ _ _ _ HS2.out.src (by omega) (by omega)).mono ?_
          rintro e w4 ⟨rfl, hs2, ht2⟩
          have HS4 := Lib.hid (HS2.out.turn hs2 ht2 (by omega) (Nat.le_refl _))
          clear HS2 hs2 ht2
          generalize nextV t 2 = q2 at *
          go_wp2_with fail
          go_meet
          case rel => exact ⟨_, t.tail, rfl, fun _ => by omega, by simp, HS4.out⟩
      case rest =>
        obtain ⟨i, l2, rfl, hi, hl2, hst⟩ := hcut
        have HS3 := Lib.hid hst
        have Hi := Lib.hid hi
        clear hst hi HS2
        go_wp2_with fail
        have HS5 := Lib.hid (HS3.out.below ((Below.refl _ _).alloc (Nat.le_refl _) (.cells #[.int .i64 0, .bool i, .int .i64 (1 + q), .int .i64 (1 + q)] 31)) hg)
        have hB5 := Blk.new wc 31 #[.int .i64 0, .bool i, .int .i64 (1 + q), .int .i64 (1 + q)]
        have hgp : g < wc.heap.size := HS3.out.blk.lt
        refine (next_any _ _ _ _ HS5.out.src (by omega) (by omega)).mono ?_
        rintro e w6 ⟨rfl, hs2, ht2⟩
        have HS6 := Lib.hid (HS5.out.turn hs2 ht2 (by omega) (Nat.le_refl _))
        have HB6 := Lib.hid (hB5.same (ht2.block _ (by omega)))
        clear HS3 HS5 hs2 ht2 hB5
        generalize nextV l2 8 = q8 at *
        generalize wc.heap.size = P at *
        go_upto_block 2 with fail
        go_cut [] (fun wx => SwRel w g l2 s a i (1 + q) P wx)
        case first =>
          obtain ⟨d0, d1, d2, d3, e2, e3⟩ := pcells HB6.out
          by_cases h80 : q8 = 0
          · have h80' : (q8 == 0) = true := by simpa using h80
            clear h80
            go_wp2_with fail
            refine (next_any _ _ _ _ HS6.out.src (by omega) (by omega)).mono ?_
            rintro e w7 ⟨rfl, hs2, ht2⟩
            have HS7 := Lib.hid (HS6.out.turn hs2 ht2 (by omega) (Nat.le_refl _))
            have HB7 := Lib.hid (HB6.out.same (ht2.block _ (by omega)))
            have hk := nextV_bd l2.tail 9 (by omega) (by omega)
            clear hs2 ht2 HS6 HB6 d0 d1 d2 d3 e2 e3
            obtain ⟨d0, d1, d2, d3, e2, e3⟩ := pcells HB7.out
            generalize nextV l2.tail 9 = q9 at *
            obtain ⟨hq90, hq91⟩ := hk
            go_wp2_with fail
            go_meet
            case rel => exact ⟨_, _, l2.tail.tail, .inr rfl, by simp; omega, HS7.out.far hg hgp (by omega), by have := HB7.out.set_ 2 (.int .i64 (q9 - 2)); simpa using this⟩
          · have h80' : (q8 == 0) = false := by simpa using h80
            clear h80
            by_cases h81 : q8 = 1
            · have h81' : (q8 == 1) = true := by simpa using h81
              clear h81
              go_wp2_with fail
              refine (next_any _ _ _ _ HS6.out.src (by omega) (by omega)).mono ?_
              rintro e w7 ⟨rfl, hs2, ht2⟩
              have HS7 := Lib.hid (HS6.out.turn hs2 ht2 (by omega) (Nat.le_refl _))
              have HB7 := Lib.hid (HB6.out.same (ht2.block _ (by omega)))
              have hk := nextV_bd l2.tail 9 (by omega) (by omega)
              clear hs2 ht2 HS6 HB6 d0 d1 d2 d3 e2 e3
              obtain ⟨d0, d1, d2, d3, e2, e3⟩ := pcells HB7.out
              generalize nextV l2.tail 9 = q9 at *
              obtain ⟨hq90, hq91⟩ := hk
              go_wp2_with fail
              go_meet
              case rel => exact ⟨_, _, l2.tail.tail, .inl rfl, by simp; omega, HS7.out.far hg hgp (by omega), by have := HB7.out.set_ 3 (.int .i64 (q9 - 2)); simpa using this⟩
            · have h81' : (q8 == 1) = false := by simpa using h81
              clear h81
              go_wp2_with fail
              go_meet
              case rel => exact ⟨_, _, l2.tail, .inl rfl, by simp, HS6.out, HB6.out⟩
        case rest =>
          obtain ⟨pa, pb, l3, hp, hl3, hst, hblk⟩ := hcut
          have HS7 := Lib.hid hst
          have HB7 := Lib.hid hblk
          have Hp := Lib.hid hp
          clear hst hblk hp HS6 HB6
          obtain ⟨d0, d1, d2, d3, _, _⟩ := pcells HB7.out
          obtain ⟨c0, c1, c2, f0, f1, f2⟩ := HS7.out.cells
          cases i
          · have hkx : 1 + q ≤ x := Hi.out rfl
            have hi2 : SafeInv (feedF s a a false pa pb).1 (feedF s a a false pa pb).2 (x - (1 + q)) := by
              have := safe_feed s a x (1 + q) pa pb false HI.out (by omega) (by omega) hx0 Hp.out (fun _ => hkx)
              simpa using this
            have HI2 := Lib.hid hi2
            clear hi2
            go_wp2_with fail
            refine (feed_is _ _ _ _ _ _ _ _).mono ?_
            rintro e w8 ⟨rfl, hb8⟩
            have HS8 := Lib.hid (HS7.out.below hb8 hg)
            clear HS7 HB7 c0 c1 c2 f0 f1 f2 d0 d1 d2 d3 hb8
            generalize (feedF s a a false pa pb).1 = s2 at *
            generalize (feedF s a a false pa pb).2 = a2 at *
            obtain ⟨c0, c1, c2, f0, f1, f2⟩ := HS8.out.cells
            have HS9 := Lib.hid (HS8.out.set s2 a2 hg (by omega))
            by_cases hv : (x - (1 + q)) = 0
            · have hv' : ((x - (1 + q)) == 0) = true := by simpa using hv
              have hv2 : ((x - (1 + q)) != 0) = false := by simpa using hv
              have Hv := Lib.hid hv
              clear hv
              go_wp2_with fail
              refine (next_any _ _ _ _ HS9.out.src (by omega) (by omega)).mono ?_
              rintro e w10 ⟨rfl, hs2, ht2⟩
              have HS10 := Lib.hid (HS9.out.turn hs2 ht2 (by omega) (Nat.le_refl _))
              have hll : l3.tail.length ≤ l3.length := by simp
              clear HS8 HS9 hs2 ht2 c0 c1 c2 f0 f1 f2
              generalize nextV l3 3 = q3 at *
              generalize l3.tail = l3 at *
              obtain ⟨c0, c1, c2, f0, f1, f2⟩ := HS10.out.cells
              by_cases hq3 : q3 = 0
              · have hq3' : (q3 == 0) = true := by simpa using hq3
                clear hq3
                go_wp2_with fail
                refine (reset_is _ _ _ _).mono ?_
                rintro e w11 ⟨rfl, hb11⟩
                have HS11 := Lib.hid (HS10.out.below hb11 hg)
                have hr := safe_reset s2 a2 (by have := HI2.out; rw [Hv.out] at this; exact this)
                rw [← hr.2]
                have HI3 : Hid (SafeInv (resetT s2 a2 a2).1 (resetT s2 a2 a2).2.1 (x - (1 + q))) := by rw [Hv.out]; exact hr.1
                clear HS10 hb11 c0 c1 c2 f0 f1 f2 hr
                generalize (resetT s2 a2 a2).1 = s3 at *
                generalize (resetT s2 a2 a2).2.1 = a3 at *
                obtain ⟨c0, c1, c2, f0, f1, f2⟩ := HS11.out.cells
                have HS12 := Lib.hid (HS11.out.set s3 a3 hg (by omega))
                go_wp2_with fail
                refine (report_any _ _ _ _).mono ?_
                rintro e w13 ⟨rfl, hb13⟩
                have HS13 := Lib.hid (HS12.out.below hb13 hg)
                clear HS11 HS12 hb13 c0 c1 c2 f0 f1 f2
                generalize reportF s3 a3 a3 = rp at *
                cases hrp : (rp == 0)
                all_goals
                  go_wp2_with fail
                  go_roundg l3.length
                  case measure => have := Hgk.out; omega
                  case rel => exact ⟨l3, _, _, _, rfl, by have := Hgk.out; omega, rfl, by omega, by have := Hgk.out; omega, HI3.out, HS13.out⟩
              · have hq3' : (q3 == 0) = false := by simpa using hq3
                clear hq3
                go_wp2_with fail
                refine (report_any _ _ _ _).mono ?_
                rintro e w13 ⟨rfl, hb13⟩
                have HS13 := Lib.hid (HS10.out.below hb13 hg)
                clear HS10 hb13 c0 c1 c2 f0 f1 f2
                generalize reportF s2 a2 a2 = rp at *
                cases hrp : (rp == 0)
                all_goals
                  go_wp2_with fail
                  go_roundg l3.length
                  case measure => have := Hgk.out; omega
                  case rel => exact ⟨l3, _, _, _, rfl, by have := Hgk.out; omega, rfl, by omega, by have := Hgk.out; omega, HI2.out, HS13.out⟩
            · have hv' : ((x - (1 + q)) == 0) = false := by simpa using hv
              have hrp : (reportF s2 a2 a2 == 0) = false := safe_report _ _ _ HI2.out hv
              have Hv := Lib.hid hv
              clear hv
              go_wp2_with fail
              refine (report_any _ _ _ _).mono ?_
              rintro e w13 ⟨rfl, hb13⟩
              have HS13 := Lib.hid (HS9.out.below hb13 hg)
              clear HS8 HS9 hb13 c0 c1 c2 f0 f1 f2
              go_wp2_with fail
              go_roundg l3.length
              case measure => have := Hgk.out; omega
              case rel => exact ⟨l3, _, _, _, rfl, by have := Hgk.out; omega, rfl, by omega, by have := Hgk.out; omega, HI2.out, HS13.out⟩
          · have hi2 : SafeInv (feedF s a a true pa pb).1 (feedF s a a true pa pb).2 (x + (1 + q)) := by
              have := safe_feed s a x (1 + q) pa pb true HI.out (by omega) (by omega) hx0 Hp.out (fun h => Bool.noConfusion h)
              simpa using this
            have HI2 := Lib.hid hi2
            clear hi2
            go_wp2_with fail
            refine (feed_is _ _ _ _ _ _ _ _).mono ?_
            rintro e w8 ⟨rfl, hb8⟩
            have HS8 := Lib.hid (HS7.out.below hb8 hg)
            clear HS7 HB7 c0 c1 c2 f0 f1 f2 d0 d1 d2 d3 hb8
            generalize (feedF s a a true pa pb).1 = s2 at *
            generalize (feedF s a a true pa pb).2 = a2 at *
            obtain ⟨c0, c1, c2, f0, f1, f2⟩ := HS8.out.cells
            have HS9 := Lib.hid (HS8.out.set s2 a2 hg (by omega))
            by_cases hv : (x + (1 + q)) = 0
            · have hv' : ((x + (1 + q)) == 0) = true := by simpa using hv
              have hv2 : ((x + (1 + q)) != 0) = false := by simpa using hv
              have Hv := Lib.hid hv
              clear hv
              go_wp2_with fail
              refine (next_any _ _ _ _ HS9.out.src (by omega) (by omega)).mono ?_
              rintro e w10 ⟨rfl, hs2, ht2⟩
              have HS10 := Lib.hid (HS9.out.turn hs2 ht2 (by omega) (Nat.le_refl _))
              have hll : l3.tail.length ≤ l3.length := by simp
              clear HS8 HS9 hs2 ht2 c0 c1 c2 f0 f1 f2
              generalize nextV l3 3 = q3 at *
              generalize l3.tail = l3 at *
              obtain ⟨c0, c1, c2, f0, f1, f2⟩ := HS10.out.cells
              by_cases hq3 : q3 = 0
              · have hq3' : (q3 == 0) = true := by simpa using hq3
                clear hq3
                go_wp2_with fail
                refine (reset_is _ _ _ _).mono ?_
                rintro e w11 ⟨rfl, hb11⟩
                have HS11 := Lib.hid (HS10.out.below hb11 hg)
                have hr := safe_reset s2 a2 (by have := HI2.out; rw [Hv.out] at this; exact this)
                rw [← hr.2]
                have HI3 : Hid (SafeInv (resetT s2 a2 a2).1 (resetT s2 a2 a2).2.1 (x + (1 + q))) := by rw [Hv.out]; exact hr.1
                clear HS10 hb11 c0 c1 c2 f0 f1 f2 hr
                generalize (resetT s2 a2 a2).1 = s3 at *
                generalize (resetT s2 a2 a2).2.1 = a3 at *
                obtain ⟨c0, c1, c2, f0, f1, f2⟩ := HS11.out.cells
                have HS12 := Lib.hid (HS11.out.set s3 a3 hg (by omega))
                go_wp2_with fail
                refine (report_any _ _ _ _).mono ?_
                rintro e w13 ⟨rfl, hb13⟩
                have HS13 := Lib.hid (HS12.out.below hb13 hg)
                clear HS11 HS12 hb13 c0 c1 c2 f0 f1 f2
                generalize reportF s3 a3 a3 = rp at *
                cases hrp : (rp == 0)
                all_goals
                  go_wp2_with fail
                  go_roundg l3.length
                  case measure => have := Hgk.out; omega
                  case rel => exact ⟨l3, _, _, _, rfl, by have := Hgk.out; omega, rfl, by omega, by have := Hgk.out; omega, HI3.out, HS13.out⟩
              · have hq3' : (q3 == 0) = false := by simpa using hq3
                clear hq3
                go_wp2_with fail
                refine (report_any _ _ _ _).mono ?_
                rintro e w13 ⟨rfl, hb13⟩
                have HS13 := Lib.hid (HS10.out.below hb13 hg)
                clear HS10 hb13 c0 c1 c2 f0 f1 f2
                generalize reportF s2 a2 a2 = rp at *
                cases hrp : (rp == 0)
                all_goals
                  go_wp2_with fail
                  go_roundg l3.length
                  case measure => have := Hgk.out; omega
                  case rel => exact ⟨l3, _, _, _, rfl, by have := Hgk.out; omega, rfl, by omega, by have := Hgk.out; omega, HI2.out, HS13.out⟩
            · have hv' : ((x + (1 + q)) == 0) = false := by simpa using hv
              have hrp : (reportF s2 a2 a2 == 0) = false := safe_report _ _ _ HI2.out hv
              have Hv := Lib.hid hv
              clear hv
              go_wp2_with fail
              refine (report_any _ _ _ _).mono ?_
              rintro e w13 ⟨rfl, hb13⟩
              have HS13 := Lib.hid (HS9.out.below hb13 hg)
              clear HS8 HS9 hb13 c0 c1 c2 f0 f1 f2
              go_wp2_with fail
              go_roundg l3.length
              case measure => have := Hgk.out; omega
              case rel => exact ⟨l3, _, _, _, rfl, by have := Hgk.out; omega, rfl, by omega, by have := Hgk.out; omega, HI2.out, HS13.out⟩
end Go.Proofs.Ytpapembikcnhpaa
