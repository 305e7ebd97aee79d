import Derived.Test.YtcgamkldlmmdnaaIne4
namespace Go.Proofs.Ytcgamkldlmmdnaa
open Go.RowKit

/-- a network and a cycle that are read in a world -/
structure NCyc (w : World) (AA Ar As : Option Addr) (ne : Nat) (acts : List Act) (arcs signs : List Int) : Prop where
  a : Rd w w.heap.size 6 AA acts.length (acts.flatMap Act.cells)
  r : Rd w w.heap.size 1 Ar arcs.length (arcs.map (Value.int .i64))
  s : Rd w w.heap.size 1 As signs.length (signs.map (Value.int .i64))
  he : ne ≤ 4611686018427387904
  hl : acts.length ≤ 4611686018427387904
  hr : arcs.length ≤ 4611686018427387904
  hs : signs.length ≤ 4611686018427387904
theorem NCyc.grow {w w' : World} {AA Ar As : Option Addr} {ne : Nat} {acts : List Act} {arcs signs : List Int} (h : NCyc w AA Ar As ne acts arcs signs) (hb : Below w.heap.size w w') : NCyc w' AA Ar As ne acts arcs signs :=
  ⟨(h.a.grow hb).more hb.size, (h.r.grow hb).more hb.size, (h.s.grow hb).more hb.size, h.he, h.hl, h.hr, h.hs⟩
theorem NCyc.growW {w w' : World} {AA Ar As : Option Addr} {ne : Nat} {acts : List Act} {arcs signs : List Int} (h : NCyc w AA Ar As ne acts arcs signs) (hb : Below w.heap.size w w') : NCyc w' AA Ar As ne acts arcs signs := h.grow hb
theorem NCyc.chk {w : World} {AA Ar As : Option Addr} {ne : Nat} {acts : List Act} {arcs signs : List Int} (h : NCyc w AA Ar As ne acts arcs signs) (T : Int) (AE : Option Addr) (ce ca cr cs : Nat) :
    Calls Try.prog 36 #[.agg #[.int .i64 T, .slice AE ne ce, .slice AA acts.length ca], .agg #[.slice Ar arcs.length cr, .slice As signs.length cs]] w fun e w' => e = .returned (.bool (cycB T ne acts arcs signs)) ∧ Below w.heap.size w w' :=
  cycchk_any T AE AA Ar As ne ce ca cr cs acts arcs signs w h.a h.r h.s h.he h.hl h.hr h.hs
def Sm1 (w : World) (acts : List Act) (arcs signs : List Int) (X Y : Nat) (xs ys : Array Value) (k : Nat) (v4 v5 v6 v : Value) (wr : World) : Prop :=
  ∃ j : Nat, v = .int .i64 j ∧ j + k = arcs.length ∧ v4 = .int .i64 (sumN (bsT acts arcs signs) j) ∧ v5 = .int .i64 (sumN (fwT acts arcs signs) j) ∧ v6 = .int .i64 (sumN (bwT acts arcs signs) j) ∧ CBx w wr X Y xs ys

set_option maxRecDepth 100000 in
set_option maxHeartbeats 3200000 in
theorem sums_any (T : Int) (AE AA Ar As : Option Addr) (ne ce ca cr cs : Nat) (acts : List Act) (arcs signs : List Int) (w : World) (hN : NCyc w AA Ar As ne acts arcs signs) (hS : SumOk acts arcs signs) :
    Calls Try.prog 41 #[.agg #[.int .i64 T, .slice AE ne ce, .slice AA acts.length ca], .agg #[.slice Ar arcs.length cr, .slice As signs.length cs]] w fun e w' =>
      e = .returned (.tuple #[.int .i64 (sumN (bsT acts arcs signs) arcs.length), .int .i64 (sumN (fwT acts arcs signs) arcs.length), .int .i64 (sumN (bwT acts arcs signs) arcs.length)]) ∧ Below w.heap.size w w' := by
  have HN := Lib.hid hN
  have HS := Lib.hid hS
  have hl5 := hS.n
  have hlA := hN.hl
  clear hN hS
  have HC0 := Lib.hid (show CBx w ((w.alloc (.cells #[.int .i64 T, .slice AE ne ce, .slice AA acts.length ca] 26)).alloc (.cells #[.slice Ar arcs.length cr, .slice As signs.length cs] 32)) w.heap.size (w.heap.size + 1) #[.int .i64 T, .slice AE ne ce, .slice AA acts.length ca] #[.slice Ar arcs.length cr, .slice As signs.length cs] from
    ⟨(Blk.new _ _ _).al _, by have := Blk.new (w.alloc (.cells #[.int .i64 T, .slice AE ne ce, .slice AA acts.length ca] 26)) 32 #[.slice Ar arcs.length cr, .slice As signs.length cs]; simpa using this, (by repeat (first | exact Below.refl _ _ | (with_reducible refine Below.drew ?_) | (with_reducible refine below_drewN ?_ _) | (with_reducible refine Below.alloc ?_ (by first | omega | (simp; done) | (simp; omega)) _) | (with_reducible refine Below.setCell ?_ (by first | omega | (simp; done) | (simp; omega)) _) | (refine Below.trans ?_ (Below.mono (by with_reducible assumption) (by first | omega | (simp; done) | (simp; omega))))))⟩)
  go_enter Try.func41, Try.ntmps41
  go_upto_region 1 with fail
  refine world_gen (fun w' => CBx w w' w.heap.size (w.heap.size + 1) #[.int .i64 T, .slice AE ne ce, .slice AA acts.length ca] #[.slice Ar arcs.length cr, .slice As signs.length cs]) HC0.out ?_
  intro w0 hc0
  have HC := Lib.hid hc0
  clear hc0 HC0
  obtain ⟨X, hX⟩ : ∃ X, X = w.heap.size := ⟨_, rfl⟩
  obtain ⟨Y, hY⟩ : ∃ Y, Y = w.heap.size + 1 := ⟨_, rfl⟩
  rw [← hY, ← hX] at ⊢
  rw [← hY, ← hX] at HC
  have hXY : w.heap.size ≤ X ∧ w.heap.size ≤ Y ∧ X ≠ Y ∧ Y ≤ w.heap.size + 1 ∧ X < Y := by omega
  obtain ⟨hXw, hYw, hne, hYw1, hXltY⟩ := hXY
  clear hX hY
  have y0 := HC.out.y.cell 0
  simp at y0
  go_wp2_with fail
  clear y0
  go_loopg [4, 5, 6, 7, 8, 9, 13] arcs.length (fun k v4 v5 v6 _ _ _ v wr => Sm1 w acts arcs signs X Y #[.int .i64 T, .slice AE ne ce, .slice AA acts.length ca] #[.slice Ar arcs.length cr, .slice As signs.length cs] k v4 v5 v6 v wr)
  case atStart => exact ⟨0, rfl, by omega, rfl, rfl, rfl, HC.out⟩
  case round =>
    obtain ⟨j, rfl, hj, rfl, rfl, rfl, hcb⟩ := hrel
    clear HC
    have Hj := Lib.hid hj
    have HC := Lib.hid hcb
    clear hj hcb
    by_cases hlt : j < arcs.length
    · have hlts : j < signs.length := by have := HS.out.len; omega
      obtain ⟨br, orr, rfl, hbr, r0⟩ := rd1 (HN.out.r.grow HC.out.bel) j hlt
      obtain ⟨bs, os, rfl, hbs, s0⟩ := rd1 (HN.out.s.grow HC.out.bel) j hlts
      rw [← gi_nat arcs j hlt] at r0
      rw [← gi_nat signs j hlts] at s0
      have hrg := HS.out.rg j hlt
      have b1 := HS.out.bsB j (by omega)
      have b2 := HS.out.fwB j (by omega)
      have b3 := HS.out.bwB j (by omega)
      have Hb : Hid (sumN (bsT acts arcs signs) (j + 1) = sumN (bsT acts arcs signs) j + gi signs j * (ag acts (gi arcs j)).mn) := rfl
      have Hf : Hid (sumN (fwT acts arcs signs) (j + 1) = sumN (fwT acts arcs signs) j + if gi signs j = 1 then (ag acts (gi arcs j)).mx - (ag acts (gi arcs j)).mn else 0) := rfl
      have Hw : Hid (sumN (bwT acts arcs signs) (j + 1) = sumN (bwT acts arcs signs) j + if gi signs j = 1 then 0 else (ag acts (gi arcs j)).mx - (ag acts (gi arcs j)).mn) := rfl
      generalize sumN (bsT acts arcs signs) j = vb at *
      generalize sumN (fwT acts arcs signs) j = vf at *
      generalize sumN (bwT acts arcs signs) j = vw at *
      generalize gi arcs j = ar at *
      generalize hsgv : gi signs j = sg at *
      have Hsgv := Lib.hid hsgv
      clear hsgv
      obtain ⟨ha0, ha1, hsg⟩ := hrg
      obtain ⟨a, rfl⟩ := Int.eq_ofNat_of_zero_le ha0
      have hal : a < acts.length := by omega
      obtain ⟨ba, oa, rfl, hba, d0, d1, d2, d3, d4, d5⟩ := rdAct (HN.out.a.grow HC.out.bel) rfl a hal
      rw [ag_nat acts a hal] at Hb Hf Hw
      have hbd := HS.out.a acts[a] (List.getElem_mem hal)
      generalize acts[a] = aa at *
      obtain ⟨kd, fr, tt, mn, mx, wt⟩ := aa
      simp only at d0 d1 d2 d3 d4 d5 hbd Hb Hf Hw
      obtain ⟨hm0, hm1, hm2⟩ := hbd
      have x2 := HC.out.x.cell 2
      have y1 := HC.out.y.cell 1
      simp at x2 y1
      have hxl := HC.out.x.lt
      have hyl := HC.out.y.lt
      go_upto_region 5 with fail
      refine world_gen (fun w6 => CBx w w6 X Y #[.int .i64 T, .slice AE ne ce, .slice (some ⟨ba, oa, none⟩) acts.length ca] #[.slice (some ⟨br, orr, none⟩) arcs.length cr, .slice (some ⟨bs, os, none⟩) signs.length cs] ∧ Blk w6 wr.heap.size 62 #[.int .i64 kd, .int .i64 fr, .int .i64 tt, .int .i64 mn, .int .i64 mx, .int .i64 wt]) ⟨HC.out.grow ((Below.refl _ _).alloc (Nat.le_refl _) _), Blk.new _ _ _⟩ ?_
      rintro w6 ⟨hc6, ha6⟩
      have HC6 := Lib.hid hc6
      have HA6 := Lib.hid ha6
      clear hc6 ha6 HC x2 y1 hxl hyl d0 d1 d2 d3 d4 d5 r0 s0
      obtain ⟨bs', os', e1, _, s0⟩ := rd1 (HN.out.s.grow HC6.out.bel) j hlts
      injection e1 with e1
      injection e1 with e1 e2
      subst e1 e2
      rw [← gi_nat signs j hlts, Hsgv.out] at s0
      have y1 := HC6.out.y.cell 1
      have d3 := HA6.out.cell 3
      have d4 := HA6.out.cell 4
      simp at y1 d3 d4
      rcases hsg with rfl | rfl
      · rw [if_pos rfl] at Hf Hw
        rw [Int.one_mul] at Hb
        rw [Int.add_zero] at Hw
        have w1 : IntKind.i64.wrap (1 * mn) = mn := by rw [Int.one_mul, IntWalk.i64_in _ (by omega)]
        have w2 : IntKind.i64.wrap (vb + mn) = vb + mn := IntWalk.i64_in _ (by omega)
        have w3 : IntKind.i64.wrap mn = mn := IntWalk.i64_in _ (by omega)
        go_quiet (fail)
        clear w1 w2 w3
        go_wp2_with fail
        go_roundg (arcs.length - j - 1)
        case measure => have := Hj.out; omega
        case rel => exact ⟨j + 1, by first | rfl | go_num, by omega, by rw [Hb.out]; try (congr 1; omega), by rw [Hf.out], by rw [Hw.out], HC6.out.grow (below_drewN (Below.refl _ _) _)⟩
      · rw [if_neg (by omega)] at Hf Hw
        rw [Int.add_zero] at Hf
        have w1 : IntKind.i64.wrap (-1 * mn) = -1 * mn := by rw [IntWalk.i64_in _ (by omega)]
        have w2 : IntKind.i64.wrap (vb + -1 * mn) = vb + -1 * mn := IntWalk.i64_in _ (by omega)
        go_quiet (fail)
        clear w1 w2
        go_wp2_with fail
        go_roundg (arcs.length - j - 1)
        case measure => have := Hj.out; omega
        case rel => exact ⟨j + 1, by first | rfl | go_num, by omega, by rw [Hb.out]; try (congr 1; omega), by rw [Hf.out], by rw [Hw.out], HC6.out.grow (below_drewN (Below.refl _ _) _)⟩
    · obtain rfl : j = arcs.length := by have := Hj.out; omega
      go_wp2_with fail
      go_ret3
      exact ⟨rfl, HC.out.bel⟩
end Go.Proofs.Ytcgamkldlmmdnaa
