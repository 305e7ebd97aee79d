import Derived.Test.YtcgamkldlmmdnaaIne2
import Derived.Test.YtcgamkldlmmdnaaBunM
namespace Go.Proofs.Ytcgamkldlmmdnaa
open Go.RowKit

set_option maxHeartbeats 400000 in
theorem ends_any (a : Act) (s : Int) (w : World) : Calls Try.prog 57 #[.agg #[.int .i64 a.kd, .int .i64 a.fr, .int .i64 a.tt, .int .i64 a.mn, .int .i64 a.mx, .int .i64 a.wt], .int .i64 s] w fun e w' => e = .returned (.tuple #[.int .i64 (stE a s), .int .i64 (enE a s)]) ∧ Below w.heap.size w w' := by
  by_cases h : s < 0
  · have HS := Lib.hid (show stE a s = a.tt ∧ enE a s = a.fr by unfold stE enE; rw [if_pos h, if_pos h]; exact ⟨rfl, rfl⟩)
    go_enter Try.func57, Try.ntmps57
    go_wp2_with fail
    go_quiet (fail)
    go_wp2_with fail
    go_ret2
    exact ⟨by rw [HS.out.1, HS.out.2]; rfl, (by repeat (first | exact Below.refl _ _ | (with_reducible refine Below.drew ?_) | (with_reducible refine below_drewN ?_ _) | (with_reducible refine Below.alloc ?_ (by first | omega | (simp; done) | (simp; omega)) _) | (with_reducible refine Below.setCell ?_ (by first | omega | (simp; done) | (simp; omega)) _) | (refine Below.trans ?_ (Below.mono (by with_reducible assumption) (by first | omega | (simp; done) | (simp; omega))))))⟩
  · have HS := Lib.hid (show stE a s = a.fr ∧ enE a s = a.tt by unfold stE enE; rw [if_neg h, if_neg h]; exact ⟨rfl, rfl⟩)
    go_enter Try.func57, Try.ntmps57
    go_wp2_with fail
    go_quiet (fail)
    go_wp2_with fail
    go_ret2
    exact ⟨by rw [HS.out.1, HS.out.2]; rfl, (by repeat (first | exact Below.refl _ _ | (with_reducible refine Below.drew ?_) | (with_reducible refine below_drewN ?_ _) | (with_reducible refine Below.alloc ?_ (by first | omega | (simp; done) | (simp; omega)) _) | (with_reducible refine Below.setCell ?_ (by first | omega | (simp; done) | (simp; omega)) _) | (refine Below.trans ?_ (Below.mono (by with_reducible assumption) (by first | omega | (simp; done) | (simp; omega))))))⟩

/-- the two boxes of a function of a network and a cycle -/
structure CBx (w wr : World) (X Y : Nat) (xs ys : Array Value) : Prop where
  x : Blk wr X 26 xs
  y : Blk wr Y 32 ys
  bel : Below w.heap.size w wr
theorem CBx.grow {w wr w' : World} {X Y : Nat} {xs ys : Array Value} (h : CBx w wr X Y xs ys) (hb : Below wr.heap.size wr w') : CBx w w' X Y xs ys :=
  ⟨h.x.bel hb, h.y.bel hb, h.bel.trans (hb.mono h.bel.size)⟩
/-- loop 1: the arcs before j are permitted; passed: those arcs -/
def CC1 (w : World) (acts : List Act) (arcs signs : List Int) (X Y G : Nat) (xs ys : Array Value) (k : Nat) (v : Value) (wr : World) : Prop :=
  ∃ (j : Nat) (ps : List Bool), v = .int .i64 j ∧ j + k = arcs.length ∧ (∀ i, i < j → ArcOk acts arcs signs i) ∧ ps.length = acts.length ∧ (∀ a : Int, 0 ≤ a → a < (acts.length : Int) → (gb ps a = true ↔ ∃ i, i < j ∧ gi arcs i = a)) ∧
    CBx w wr X Y xs ys ∧ wr.ownsRow (Y + 1) 4 1 (.slice (some ⟨G, 0, none⟩) acts.length acts.length) acts.length (ps.map Value.bool)
def CC2 (w : World) (ne : Nat) (acts : List Act) (arcs signs : List Int) (X Y G : Nat) (xs ys : Array Value) (k : Nat) (v11 v : Value) (wr : World) : Prop :=
  ∃ (j : Nat) (ss : List Bool), v = .int .i64 j ∧ j + k = arcs.length ∧ v11 = .int .i64 (enC acts arcs signs (prevK arcs.length j)) ∧ ss.length = ne ∧ (∀ a : Int, 0 ≤ a → a < (ne : Int) → (gb ss a = true ↔ ∃ i, i < j ∧ stC acts arcs signs i = a)) ∧
    (∀ i, i < j → stC acts arcs signs i = enC acts arcs signs (prevK arcs.length i)) ∧ (∀ i i', i < i' → i' < j → stC acts arcs signs i ≠ stC acts arcs signs i') ∧
    CBx w wr X Y xs ys ∧ wr.ownsRow (Y + 1) 4 1 (.slice (some ⟨G, 0, none⟩) ne ne) ne (ss.map Value.bool)
theorem own_seen {w : World} {base n G : Nat} {ps : List Bool} (h : w.ownsRow base 4 1 (.slice (some ⟨G, 0, none⟩) n n) n (ps.map Value.bool)) (hl : ps.length = n) (a : Nat) (ha : a < n) : w.cell? ⟨G, a, none⟩ = some (.bool (gb ps a)) ∧ w.frozen? ⟨G, a, none⟩ = false ∧ base ≤ G ∧ G < w.heap.size := by
  refine ⟨?_, h.frozenAt a, own_block h G rfl⟩
  rw [gb_nat ps a (by omega)]
  exact own1 h a (by omega)
theorem seen_set {n : Nat} {ps : List Bool} {P : Nat → Int} {j : Nat} (hl : ps.length = n) (h : ∀ a : Int, 0 ≤ a → a < (n : Int) → (gb ps a = true ↔ ∃ i, i < j ∧ P i = a)) (b : Nat) (hb : b < n) (e : P j = b) :
    (ps.set b true).length = n ∧ ∀ a : Int, 0 ≤ a → a < (n : Int) → (gb (ps.set b true) a = true ↔ ∃ i, i < j + 1 ∧ P i = a) := by
  refine ⟨by simp [hl], fun a h0 h1 => ?_⟩
  have := gb_set ps b a true (by omega) (by omega) h0
  simp only [Int.toNat_natCast] at this
  rw [this]
  by_cases c : a = b
  · rw [if_pos c]
    exact ⟨fun _ => ⟨j, by omega, by rw [e, c]⟩, fun _ => rfl⟩
  · rw [if_neg c, h a h0 h1]
    exact ⟨fun ⟨i, hi, hp⟩ => ⟨i, by omega, hp⟩, fun ⟨i, hi, hp⟩ => ⟨i, by
      by_cases hij : i = j
      · subst hij; rw [e] at hp; exact absurd hp.symm c
      · omega, hp⟩⟩

set_option maxRecDepth 100000 in
set_option maxHeartbeats 6400000 in
theorem cycchk_any (T : Int) (AE AA Ar As : Option Addr) (ne ce ca cr cs : Nat) (acts : List Act) (arcs signs : List Int) (w : World) (hA : Rd w w.heap.size 6 AA acts.length (acts.flatMap Act.cells)) (hr : Rd w w.heap.size 1 Ar arcs.length (arcs.map (Value.int .i64))) (hs : Rd w w.heap.size 1 As signs.length (signs.map (Value.int .i64)))
    (he : ne ≤ 4611686018427387904) (hl : acts.length ≤ 4611686018427387904) (hlr : arcs.length ≤ 4611686018427387904) (_hls : signs.length ≤ 4611686018427387904) :
    Calls Try.prog 36 #[.agg #[.int .i64 T, .slice AE ne ce, .slice AA acts.length ca], .agg #[.slice Ar arcs.length cr, .slice As signs.length cs]] w fun e w' => e = .returned (.bool (cycB T ne acts arcs signs)) ∧ Below w.heap.size w w' := by
  have HA := Lib.hid hA
  have HR := Lib.hid hr
  have HS := Lib.hid hs
  clear hA hr hs
  obtain ⟨j0, hj0, hy0, hy1, hy2⟩ := info_parts infoBool
  have HJ := Lib.hid (And.intro hj0 (And.intro hy0 (And.intro hy1 hy2)))
  clear hj0 hy0 hy1 hy2
  have HC0 := Lib.hid (show CBx w ((w.alloc (.cells #[.int .i64 T, .slice AE ne ce, .slice AA acts.length ca] 26)).alloc (.cells #[.slice Ar arcs.length cr, .slice As signs.length cs] 32)) w.heap.size (w.heap.size + 1) #[.int .i64 T, .slice AE ne ce, .slice AA acts.length ca] #[.slice Ar arcs.length cr, .slice As signs.length cs] from
    ⟨(Blk.new _ _ _).al _, by have := Blk.new (w.alloc (.cells #[.int .i64 T, .slice AE ne ce, .slice AA acts.length ca] 26)) 32 #[.slice Ar arcs.length cr, .slice As signs.length cs]; simpa using this, (by repeat (first | exact Below.refl _ _ | (with_reducible refine Below.drew ?_) | (with_reducible refine below_drewN ?_ _) | (with_reducible refine Below.alloc ?_ (by first | omega | (simp; done) | (simp; omega)) _) | (with_reducible refine Below.setCell ?_ (by first | omega | (simp; done) | (simp; omega)) _) | (refine Below.trans ?_ (Below.mono (by with_reducible assumption) (by first | omega | (simp; done) | (simp; omega))))))⟩)
  go_enter Try.func36, Try.ntmps36
  go_upto_region 1 with fail
  refine world_gen (fun w' => CBx w w' w.heap.size (w.heap.size + 1) #[.int .i64 T, .slice AE ne ce, .slice AA acts.length ca] #[.slice Ar arcs.length cr, .slice As signs.length cs]) HC0.out ?_
  intro w0 hc0
  have HC := Lib.hid hc0
  clear hc0 HC0
  obtain ⟨X, hX⟩ : ∃ X, X = w.heap.size := ⟨_, rfl⟩
  obtain ⟨Y, hY⟩ : ∃ Y, Y = w.heap.size + 1 := ⟨_, rfl⟩
  rw [← hY, ← hX] at ⊢
  rw [← hY, ← hX] at HC
  have hXY : w.heap.size ≤ X ∧ w.heap.size ≤ Y ∧ X ≠ Y ∧ Y ≤ w.heap.size + 1 ∧ X < Y := by omega
  obtain ⟨hXw, hYw, hne, hYw1, hXltY⟩ := hXY
  clear hX hY
  have x0 := HC.out.x.cell 0
  have x1 := HC.out.x.cell 1
  have x2 := HC.out.x.cell 2
  simp at x0 x1 x2
  go_wp2_with fail
  refine (netchk_any T AE AA ne ce ca acts w0 ((HA.out.grow HC.out.bel).more HC.out.bel.size) he hl).mono ?_
  rintro e w1 ⟨rfl, hb1⟩
  have HC1 := Lib.hid (HC.out.grow hb1)
  have HL := Lib.hid HC1.out.bel
  clear HC hb1 x0 x1 x2
  have x0 := HC1.out.x.cell 0
  have x1 := HC1.out.x.cell 1
  have x2 := HC1.out.x.cell 2
  have y0 := HC1.out.y.cell 0
  have y1 := HC1.out.y.cell 1
  simp at x0 x1 x2 y0 y1
  cases hn : netB T ne acts
  case false =>
    have HNB := Lib.hid (cycB_no (T := T) (ne := ne) (acts := acts) (arcs := arcs) (signs := signs) (fun h => by have := netB_yes h.net; rw [hn] at this; cases this))
    go_wp2_with fail
    go_ret
    exact ⟨by rw [HNB.out]; rfl, (by have hbelh := HL.out; have hbels := hbelh.size; exact (by repeat (first | exact Below.refl _ _ | (with_reducible refine Below.drew ?_) | (with_reducible refine below_drewN ?_ _) | (with_reducible refine Below.alloc ?_ (by first | omega | (simp; done) | (simp; omega)) _) | (with_reducible refine Below.setCell ?_ (by first | omega | (simp; done) | (simp; omega)) _) | (refine Below.trans ?_ (Below.mono (by with_reducible assumption) (by first | omega | (simp; done) | (simp; omega)))))))⟩
  have hN := netB_iff.1 hn
  have HN := Lib.hid hN
  have hn1 : ne ≤ 48 := hN.e
  have hn2 : acts.length ≤ 512 := hN.n
  clear hN hn
  by_cases h2 : arcs.length = signs.length
  case neg =>
    have h2' : ((arcs.length : Int) != (signs.length : Int)) = true := by simp; omega
    have HNB := Lib.hid (cycB_no (T := T) (ne := ne) (acts := acts) (arcs := arcs) (signs := signs) (fun h => h2 h.len))
    go_wp2_with fail
    go_ret
    exact ⟨by rw [HNB.out]; rfl, (by have hbelh := HL.out; have hbels := hbelh.size; exact (by repeat (first | exact Below.refl _ _ | (with_reducible refine Below.drew ?_) | (with_reducible refine below_drewN ?_ _) | (with_reducible refine Below.alloc ?_ (by first | omega | (simp; done) | (simp; omega)) _) | (with_reducible refine Below.setCell ?_ (by first | omega | (simp; done) | (simp; omega)) _) | (refine Below.trans ?_ (Below.mono (by with_reducible assumption) (by first | omega | (simp; done) | (simp; omega)))))))⟩
  have h2' : ((arcs.length : Int) != (signs.length : Int)) = false := by simp [h2]
  have H2 := Lib.hid h2
  clear h2
  by_cases h3 : arcs.length < 2
  case pos =>
    have HNB := Lib.hid (cycB_no (T := T) (ne := ne) (acts := acts) (arcs := arcs) (signs := signs) (fun h => by have := h.two; omega))
    go_wp2_with fail
    go_ret
    exact ⟨by rw [HNB.out]; rfl, (by have hbelh := HL.out; have hbels := hbelh.size; exact (by repeat (first | exact Below.refl _ _ | (with_reducible refine Below.drew ?_) | (with_reducible refine below_drewN ?_ _) | (with_reducible refine Below.alloc ?_ (by first | omega | (simp; done) | (simp; omega)) _) | (with_reducible refine Below.setCell ?_ (by first | omega | (simp; done) | (simp; omega)) _) | (refine Below.trans ?_ (Below.mono (by with_reducible assumption) (by first | omega | (simp; done) | (simp; omega)))))))⟩
  have h3' : decide (arcs.length < 2) = false := by simpa using h3
  have hw1 := HL.out.size
  have hY1 := HC1.out.y.lt
  go_upto_region 4 with (at_make; refine wpList_make_full _ rfl _ _ 80 rfl (Y + 1) 4 j0 _ 1 Try.underlying80 HJ.out.1 HJ.out.2.1 HJ.out.2.2.1 .i64 .i64 _ _ acts.length rfl rfl rfl rfl ?m1 ?m2 ?m3 ?_; rotate_right; intro w2 hown2 hg2)
  case m1 => rw [HJ.out.2.2.2]; omega
  case m2 => simp only [maxLen]; omega
  case m3 => omega
  have hb2 : Below w1.heap.size w1 w2 := (Below.refl _ _).grown hg2 (Nat.le_refl _) (by simp)
  have HC2 := Lib.hid (HC1.out.grow hb2)
  have HO2 : Hid (w2.ownsRow (Y + 1) 4 1 (.slice (some ⟨w1.heap.size, 0, none⟩) acts.length acts.length) acts.length ((List.replicate acts.length false).map Value.bool)) := by
    have := madeCells_one Value.bool false acts.length
    rw [← this]
    exact hown2
  clear hown2 hg2 hb2 HC1 x0 x1 x2 y0 y1 HL
  generalize w1.heap.size = G at *
  have y0 := HC2.out.y.cell 0
  simp at y0
  go_wp2_with fail
  clear y0
  go_loopg [6, 7, 41] arcs.length (fun k _ _ v wr => CC1 w acts arcs signs X Y G #[.int .i64 T, .slice AE ne ce, .slice AA acts.length ca] #[.slice Ar arcs.length cr, .slice As signs.length cs] k v wr)
  case atStart => exact ⟨0, _, rfl, by omega, fun i hi => by omega, by simp, fun a _ _ => by rw [gb_rep]; simp, HC2.out, HO2.out⟩
  case round =>
    obtain ⟨j, ps, rfl, hj, hok, hpl, hps, hcb, hop⟩ := hrel
    clear HC2 HO2
    have Hj := Lib.hid hj
    have Hok := Lib.hid hok
    have Hpl := Lib.hid hpl
    have Hps := Lib.hid hps
    have HC := Lib.hid hcb
    have HO := Lib.hid hop
    clear hj hok hpl hps hcb hop
    have x2 := HC.out.x.cell 2
    have y1 := HC.out.y.cell 1
    simp at x2 y1
    have hxl := HC.out.x.lt
    have hyl := HC.out.y.lt
    by_cases hlt : j < arcs.length
    · obtain ⟨br, orr, rfl, hbr, r0⟩ := rd1 (HR.out.grow HC.out.bel) j hlt
      have hlts : j < signs.length := by have := H2.out; omega
      obtain ⟨bs, os, rfl, hbs, s0⟩ := rd1 (HS.out.grow HC.out.bel) j hlts
      rw [← gi_nat arcs j hlt] at r0
      rw [← gi_nat signs j hlts] at s0
      generalize har : gi arcs j = ar at *
      generalize hsg : gi signs j = sg at *
      have Har := Lib.hid har
      have Hsg := Lib.hid hsg
      clear har hsg
      by_cases g1 : ar < 0
      · have HNB := Lib.hid (cycB_no (T := T) (ne := ne) (acts := acts) (arcs := arcs) (signs := signs) (fun h => by have hok := h.arc j hlt; have := hok.a0; rw [Har.out] at this; omega))
        go_wp2_with fail
        go_ret
        exact ⟨by rw [HNB.out]; rfl, (by have hbelh := HC.out.bel; have hbels := hbelh.size; exact (by repeat (first | exact Below.refl _ _ | (with_reducible refine Below.drew ?_) | (with_reducible refine below_drewN ?_ _) | (with_reducible refine Below.alloc ?_ (by first | omega | (simp; done) | (simp; omega)) _) | (with_reducible refine Below.setCell ?_ (by first | omega | (simp; done) | (simp; omega)) _) | (refine Below.trans ?_ (Below.mono (by with_reducible assumption) (by first | omega | (simp; done) | (simp; omega)))))))⟩
      by_cases g2 : (acts.length : Int) ≤ ar
      · have HNB := Lib.hid (cycB_no (T := T) (ne := ne) (acts := acts) (arcs := arcs) (signs := signs) (fun h => by have hok := h.arc j hlt; have := hok.a1; rw [Har.out] at this; omega))
        go_wp2_with fail
        go_ret
        exact ⟨by rw [HNB.out]; rfl, (by have hbelh := HC.out.bel; have hbels := hbelh.size; exact (by repeat (first | exact Below.refl _ _ | (with_reducible refine Below.drew ?_) | (with_reducible refine below_drewN ?_ _) | (with_reducible refine Below.alloc ?_ (by first | omega | (simp; done) | (simp; omega)) _) | (with_reducible refine Below.setCell ?_ (by first | omega | (simp; done) | (simp; omega)) _) | (refine Below.trans ?_ (Below.mono (by with_reducible assumption) (by first | omega | (simp; done) | (simp; omega)))))))⟩
      obtain ⟨a, rfl⟩ := Int.eq_ofNat_of_zero_le (show 0 ≤ ar by omega)
      have hal : a < acts.length := by omega
      obtain ⟨p0, p1, hG1, hG2⟩ := own_seen HO.out Hpl.out a hal
      have hpa := Hps.out a (by omega) (by omega)
      cases g3 : gb ps a
      case true =>
        rw [g3] at p0 hpa
        obtain ⟨i, hij, hia⟩ := hpa.1 rfl
        have HI2 := Lib.hid (And.intro hij hia)
        clear hij hia hpa
        have HNB := Lib.hid (cycB_no (T := T) (ne := ne) (acts := acts) (arcs := arcs) (signs := signs) (fun h => by have hok := h.arc j hlt; exact hok.nd i HI2.out.1 (by rw [HI2.out.2, Har.out])))
        go_wp2_with fail
        go_ret
        exact ⟨by rw [HNB.out]; rfl, (by have hbelh := HC.out.bel; have hbels := hbelh.size; exact (by repeat (first | exact Below.refl _ _ | (with_reducible refine Below.drew ?_) | (with_reducible refine below_drewN ?_ _) | (with_reducible refine Below.alloc ?_ (by first | omega | (simp; done) | (simp; omega)) _) | (with_reducible refine Below.setCell ?_ (by first | omega | (simp; done) | (simp; omega)) _) | (refine Below.trans ?_ (Below.mono (by with_reducible assumption) (by first | omega | (simp; done) | (simp; omega)))))))⟩
      rw [g3] at p0 hpa
      have Hno := Lib.hid (show ∀ i, i < j → gi arcs i ≠ a from fun i hi e => by have := hpa.2 ⟨i, hi, e⟩; cases this)
      clear hpa
      have hsgc : ((sg != 1) = false) ∨ ((sg != 1) = true ∧ (sg != -1) = false) ∨ ((sg != 1) = true ∧ (sg != -1) = true) := by
        by_cases c1 : sg = 1
        · left; simp [c1]
        · by_cases c2 : sg = -1
          · right; left; simp [c2]
          · right; right; simp [c1, c2]
      have hset := seen_set (P := fun i => gi arcs i) Hpl.out Hps.out a hal Har.out
      have HSet := Lib.hid hset
      have HOs := Lib.hid (own1_set HO.out a true)
      have HCs := Lib.hid (show CBx w (wr.setCell ⟨G, a, none⟩ (.bool true)) X Y #[.int .i64 T, .slice AE ne ce, .slice AA acts.length ca] #[.slice (some ⟨br, orr, none⟩) arcs.length cr, .slice (some ⟨bs, os, none⟩) signs.length cs] from
        ⟨HC.out.x.far (by omega), HC.out.y.far (by omega), HC.out.bel.setCell (by simp; omega) _⟩)
      have Hnx := Lib.hid (show (sg = 1 ∨ sg = -1) → ∀ i, i < j + 1 → ArcOk acts arcs signs i from fun hs i hi => by
        rcases Nat.lt_or_ge i j with h | h
        · exact Hok.out i h
        · obtain rfl : i = j := by omega
          exact ⟨by rw [Har.out]; omega, by rw [Har.out]; omega, by rw [Hsg.out]; exact hs, fun i' hi' => by rw [Har.out]; exact Hno.out i' hi'⟩)
      clear hset
      rcases hsgc with c1 | ⟨c1, c2⟩ | ⟨c1, c2⟩
      · go_wp2_with fail
        go_roundg (arcs.length - j - 1)
        case measure => have := Hj.out; omega
        case rel => exact ⟨j + 1, _, by first | rfl | go_num, by omega, Hnx.out (by left; simpa using c1), HSet.out.1, HSet.out.2, HCs.out, HOs.out⟩
      · go_wp2_with fail
        go_roundg (arcs.length - j - 1)
        case measure => have := Hj.out; omega
        case rel => exact ⟨j + 1, _, by first | rfl | go_num, by omega, Hnx.out (by right; simpa using c2), HSet.out.1, HSet.out.2, HCs.out, HOs.out⟩
      · have HNB := Lib.hid (cycB_no (T := T) (ne := ne) (acts := acts) (arcs := arcs) (signs := signs) (fun h => by have hok := h.arc j hlt; have := hok.s; rw [Hsg.out] at this; simp at c1 c2; rcases this with e | e; exact c1 e; exact c2 e))
        go_wp2_with fail
        go_ret
        exact ⟨by rw [HNB.out]; rfl, (by have hbelh := HC.out.bel; have hbels := hbelh.size; exact (by repeat (first | exact Below.refl _ _ | (with_reducible refine Below.drew ?_) | (with_reducible refine below_drewN ?_ _) | (with_reducible refine Below.alloc ?_ (by first | omega | (simp; done) | (simp; omega)) _) | (with_reducible refine Below.setCell ?_ (by first | omega | (simp; done) | (simp; omega)) _) | (refine Below.trans ?_ (Below.mono (by with_reducible assumption) (by first | omega | (simp; done) | (simp; omega)))))))⟩
    · have HArc := Lib.hid (show ∀ i, i < arcs.length → ArcOk acts arcs signs i from fun i hi => Hok.out i (by omega))
      clear Hok Hps HO Hj x2 y1
      have x1 := HC.out.x.cell 1
      simp at x1
      have hw2 := HC.out.bel.size
      go_upto_region 12 with (at_make; refine wpList_make_full _ rfl _ _ 80 rfl (Y + 1) 4 j0 _ 1 Try.underlying80 HJ.out.1 HJ.out.2.1 HJ.out.2.2.1 .i64 .i64 _ _ ne rfl rfl rfl rfl ?m1 ?m2 ?m3 ?_; rotate_right; intro w3 hown3 hg3)
      case m1 => rw [HJ.out.2.2.2]; omega
      case m2 => simp only [maxLen]; omega
      case m3 => omega
      have hb3 : Below wr.heap.size wr w3 := (Below.refl _ _).grown hg3 (Nat.le_refl _) (by simp)
      have HC3 := Lib.hid (HC.out.grow hb3)
      have HO3 : Hid (w3.ownsRow (Y + 1) 4 1 (.slice (some ⟨wr.heap.size, 0, none⟩) ne ne) ne ((List.replicate ne false).map Value.bool)) := by
        have := madeCells_one Value.bool false ne
        rw [← this]
        exact hown3
      clear hown3 hg3 hb3 HC x1 hxl hyl hlt
      generalize wr.heap.size = G2 at *
      have x2 := HC3.out.x.cell 2
      have y0 := HC3.out.y.cell 0
      have y1 := HC3.out.y.cell 1
      simp at x2 y0 y1
      have hxl := HC3.out.x.lt
      have hyl := HC3.out.y.lt
      have hla : arcs.length - 1 < arcs.length := by omega
      have hlas : arcs.length - 1 < signs.length := by have := H2.out; omega
      obtain ⟨br, orr, rfl, hbr, r0⟩ := rd1 (HR.out.grow HC3.out.bel) (arcs.length - 1) hla
      obtain ⟨bs, os, rfl, hbs, s0⟩ := rd1 (HS.out.grow HC3.out.bel) (arcs.length - 1) hlas
      rw [← gi_nat arcs _ hla] at r0
      rw [← gi_nat signs _ hlas] at s0
      have hac := HArc.out (arcs.length - 1) hla
      have ha0 := hac.a0
      have ha1 := hac.a1
      have Hen : Hid (enC acts arcs signs (arcs.length - 1) = enE (ag acts (gi arcs (arcs.length - 1 : Nat))) (gi signs (arcs.length - 1 : Nat))) := rfl
      generalize gi arcs (arcs.length - 1 : Nat) = ar at *
      generalize gi signs (arcs.length - 1 : Nat) = sg at *
      obtain ⟨a, rfl⟩ := Int.eq_ofNat_of_zero_le ha0
      have hal : a < acts.length := by omega
      obtain ⟨ba, oa, rfl, hba, d0, d1, d2, d3, d4, d5⟩ := rdAct (HA.out.grow HC3.out.bel) rfl a hal
      rw [ag_nat acts a hal] at Hen
      clear hac
      have hbr' : br < w3.heap.size := World.block_lt_of_cell? _ _ r0
      have hbs' : bs < w3.heap.size := World.block_lt_of_cell? _ _ s0
      have hba' : ba < w3.heap.size := World.block_lt_of_cell? _ _ d0
      have hwr : ((arcs.length : Int) - 1).toNat = arcs.length - 1 := by omega
      have hw0 : 0 ≤ (arcs.length : Int) - 1 := by omega
      have hw1' : (arcs.length : Int) - 1 < arcs.length := by omega
      have hw2' : (arcs.length : Int) - 1 < signs.length := by omega
      go_upto_region 13 with fail
      refine wp_region_overL (by kernel_rfl) (by kernel_rfl) ?_
      repeat (go_big_quiet_step (first | (go_at_call 57; exact callsOver (ends_any _ _ _))))
      refine wpQuiet_nil ?_
      intro w4 hb4
      have HC4 := Lib.hid (HC3.out.grow hb4)
      have HO4 := Lib.hid (own_grow HO3.out hb4)
      rw [← Hen.out]
      clear hwr hw0 hw1' hw2' HC3 HO3 hb4 x2 y0 y1 r0 s0 d0 d1 d2 d3 d4 d5 hxl hyl hbr' hbs' hba' ha0 ha1 Hen
      have y0 := HC4.out.y.cell 0
      simp at y0
      go_wp2_with fail
      clear y0
      go_loopg [11, 12, 13, 14, 15, 110] arcs.length (fun k v11 _ _ _ _ v wr => CC2 w ne acts arcs signs X Y G2 #[.int .i64 T, .slice AE ne ce, .slice (some ⟨ba, oa, none⟩) acts.length ca] #[.slice (some ⟨br, orr, none⟩) arcs.length cr, .slice (some ⟨bs, os, none⟩) signs.length cs] k v11 v wr)
      case atStart => exact ⟨0, _, rfl, by omega, rfl, by simp, fun a _ _ => by rw [gb_rep]; simp, fun i hi => by omega, fun i i' _ hi => by omega, HC4.out, HO4.out⟩
      case round =>
        obtain ⟨j, ss, rfl, hj, rfl, hsl, hss, hcl, hsd, hcb, hos⟩ := hrel
        clear HC4 HO4
        have Hj := Lib.hid hj
        have Hsl := Lib.hid hsl
        have Hss := Lib.hid hss
        have Hcl := Lib.hid hcl
        have Hsd := Lib.hid hsd
        have HC := Lib.hid hcb
        have HO := Lib.hid hos
        clear hj hsl hss hcl hsd hcb hos
        by_cases hlt : j < arcs.length
        · have hlts : j < signs.length := by have := H2.out; omega
          obtain ⟨br', orr', e1, _, r0⟩ := rd1 (HR.out.grow HC.out.bel) j hlt
          injection e1 with e1
          injection e1 with e1 e2
          subst e1 e2
          obtain ⟨bs', os', e1, _, s0⟩ := rd1 (HS.out.grow HC.out.bel) j hlts
          injection e1 with e1
          injection e1 with e1 e2
          subst e1 e2
          rw [← gi_nat arcs j hlt] at r0
          rw [← gi_nat signs j hlts] at s0
          have hac := HArc.out j hlt
          have ha0 := hac.a0
          have ha1 := hac.a1
          have hrng := st_range HN.out hac
          have Hst : Hid (stC acts arcs signs j = stE (ag acts (gi arcs j)) (gi signs j)) := rfl
          have Hen : Hid (enC acts arcs signs j = enE (ag acts (gi arcs j)) (gi signs j)) := rfl
          generalize gi arcs j = ar at *
          generalize gi signs j = sg at *
          obtain ⟨a, rfl⟩ := Int.eq_ofNat_of_zero_le ha0
          have hal : a < acts.length := by omega
          obtain ⟨ba', oa', e1, _, d0, d1, d2, d3, d4, d5⟩ := rdAct (HA.out.grow HC.out.bel) rfl a hal
          injection e1 with e1
          injection e1 with e1 e2
          subst e1 e2
          rw [ag_nat acts a hal] at Hen Hst
          have x2 := HC.out.x.cell 2
          have y1 := HC.out.y.cell 1
          simp at x2 y1
          have hxl := HC.out.x.lt
          have hyl := HC.out.y.lt
          have hbr' : br < wr.heap.size := World.block_lt_of_cell? _ _ r0
          have hbs' : bs < wr.heap.size := World.block_lt_of_cell? _ _ s0
          have hba' : ba < wr.heap.size := World.block_lt_of_cell? _ _ d0
          clear hac
          go_upto_region 17 with fail
          refine wp_region_overL (by kernel_rfl) (by kernel_rfl) ?_
          repeat (go_big_quiet_step (first | (go_at_call 57; exact callsOver (ends_any _ _ _))))
          refine wpQuiet_nil ?_
          intro w6 hb6
          have HC6 := Lib.hid (HC.out.grow hb6)
          have HO6 := Lib.hid (own_grow HO.out hb6)
          rw [← Hen.out, ← Hst.out]
          clear HC HO hb6 x2 y1 r0 s0 d0 d1 d2 d3 d4 d5 hxl hyl hbr' hbs' hba' ha0 ha1 Hen Hst
          have Hen2 : Hid (enC acts arcs signs j = enC acts arcs signs (prevK arcs.length (j + 1))) := by unfold prevK; rw [if_neg (by omega)]; rfl
          generalize hst : stC acts arcs signs j = st at *
          generalize hen : enC acts arcs signs j = en at *
          generalize hat : enC acts arcs signs (prevK arcs.length j) = at' at *
          have Hst := Lib.hid hst
          have Hen := Lib.hid hen
          have Hat := Lib.hid hat
          clear hst hen hat
          obtain ⟨hst0, hst1, _, _⟩ := hrng
          obtain ⟨s, rfl⟩ := Int.eq_ofNat_of_zero_le hst0
          have hsn : s < ne := by omega
          obtain ⟨p0, p1, hG1, hG2⟩ := own_seen HO6.out Hsl.out s hsn
          by_cases g1 : (s : Int) = at'
          case neg =>
            have g1' : ((s : Int) != at') = true := by simpa using g1
            have HNB := Lib.hid (cycB_no (T := T) (ne := ne) (acts := acts) (arcs := arcs) (signs := signs) (fun h => g1 (by rw [← Hst.out, ← Hat.out]; exact h.prev j hlt)))
            go_wp2_with fail
            go_ret
            exact ⟨by rw [HNB.out]; rfl, HC6.out.bel⟩
          have g1' : ((s : Int) != at') = false := by simpa using g1
          have G1 := Lib.hid g1
          clear g1
          have hsa := Hss.out s (by omega) (by omega)
          cases g3 : gb ss s
          case true =>
            rw [g3] at p0 hsa
            obtain ⟨i, hij, hia⟩ := hsa.1 rfl
            have HI2 := Lib.hid (And.intro hij hia)
            clear hij hia hsa
            have HNB := Lib.hid (cycB_no (T := T) (ne := ne) (acts := acts) (arcs := arcs) (signs := signs) (fun h => h.sd i j HI2.out.1 hlt (by rw [HI2.out.2, Hst.out])))
            go_wp2_with fail
            go_ret
            exact ⟨by rw [HNB.out]; rfl, HC6.out.bel⟩
          rw [g3] at p0 hsa
          have Hno := Lib.hid (show ∀ i, i < j → stC acts arcs signs i ≠ s from fun i hi e => by have := hsa.2 ⟨i, hi, e⟩; cases this)
          clear hsa
          have HSet := Lib.hid (seen_set (P := fun i => stC acts arcs signs i) Hsl.out Hss.out s hsn Hst.out)
          have HOs := Lib.hid (own1_set HO6.out s true)
          have HCs := Lib.hid (show CBx w (w6.setCell ⟨G2, s, none⟩ (.bool true)) X Y #[.int .i64 T, .slice AE ne ce, .slice (some ⟨ba, oa, none⟩) acts.length ca] #[.slice (some ⟨br, orr, none⟩) arcs.length cr, .slice (some ⟨bs, os, none⟩) signs.length cs] from
            ⟨HC6.out.x.far (by omega), HC6.out.y.far (by omega), HC6.out.bel.setCell (by simp; omega) _⟩)
          go_wp2_with fail
          go_roundg (arcs.length - j - 1)
          case measure => have := Hj.out; omega
          case rel =>
            refine ⟨j + 1, _, by first | rfl | go_num, by omega, by rw [← Hen2.out], HSet.out.1, HSet.out.2, fun i hi => ?_, fun i i' hii hi => ?_, HCs.out, HOs.out⟩
            · rcases Nat.lt_or_ge i j with h | h
              · exact Hcl.out i h
              · obtain rfl : i = j := by omega
                rw [Hst.out, Hat.out]; exact G1.out
            · rcases Nat.lt_or_ge i' j with h | h
              · exact Hsd.out i i' hii h
              · obtain rfl : i' = j := by omega
                rw [Hst.out]; exact Hno.out i hii
        · have HNB := Lib.hid (cycB_yes (cyc_mk HN.out H2.out (by omega) HArc.out (fun k hk => Hcl.out k (by omega)) (fun i i' h h' => Hsd.out i i' h (by omega))))
          go_wp2_with fail
          go_ret
          exact ⟨by rw [HNB.out]; rfl, HC.out.bel⟩
end Go.Proofs.Ytcgamkldlmmdnaa
