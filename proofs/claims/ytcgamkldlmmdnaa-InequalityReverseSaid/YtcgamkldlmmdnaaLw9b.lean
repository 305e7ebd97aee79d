import Derived.Test.YtcgamkldlmmdnaaLw2
import Derived.Test.YtcgamkldlmmdnaaApp2
import Derived.Test.YtcgamkldlmmdnaaBunM
import Derived.Test.YtcgamkldlmmdnaaCut2
namespace Go.Proofs.Ytcgamkldlmmdnaa
open Go.RowKit

/-- the law's network, its cycle y in block Y, the reversed one in block Z -/
structure LwZ (w wr : World) (X Y Z : Nat) (T : Int) (AE AA : Option Addr) (ne ce ca : Nat) (acts : List Act) (Ar : Option Addr) (cr : Nat) (As : Option Addr) (cs : Nat) (arcs signs : List Int) (v5 v6 : Value) (l5 l6 : List Int) : Prop where
  bel : Below w.heap.size w wr
  x : Blk wr X 26 #[.int .i64 T, .slice AE ne ce, .slice AA acts.length ca]
  y : Blk wr Y 32 #[.slice Ar arcs.length cr, .slice As signs.length cs]
  z : Blk wr Z 32 #[v5, v6]
  a : Rd wr Z 6 AA acts.length (acts.flatMap Act.cells)
  r : Rd wr Z 1 Ar arcs.length (arcs.map (Value.int .i64))
  s : Rd wr Z 1 As signs.length (signs.map (Value.int .i64))
  t : Two wr (Z + 1) v5 v6 l5 l6
  hX : X < Z
  hY : Y < Z
  hw : w.heap.size ≤ Z
section
variable {w wr w2 : World} {X Y Z : Nat} {T : Int} {AE AA Ar As : Option Addr} {ne ce ca cr cs : Nat} {acts : List Act} {arcs signs l5 l6 l5' l6' : List Int} {v5 v6 v5' v6' : Value}
theorem LwZ.new (h : LwC w wr X Y T AE AA ne ce ca acts Ar cr As cs arcs signs) (_hXY : X < Y) : LwZ w (wr.alloc (.cells #[.slice none 0 0, .slice none 0 0] 32)) X Y wr.heap.size T AE AA ne ce ca acts Ar cr As cs arcs signs (.slice none 0 0) (.slice none 0 0) [] [] :=
  have hb : Below wr.heap.size wr (wr.alloc (.cells #[.slice none 0 0, .slice none 0 0] 32)) := (Below.refl _ _).alloc (Nat.le_refl _) _
  ⟨h.n.bel.trans (hb.mono h.n.bel.size), h.n.x.bel hb, h.y.bel hb, Blk.new _ _ _, h.n.a.grow hb, h.c.r.grow hb, h.c.s.grow hb, Two.new _ _, h.n.x.lt, h.y.lt, h.n.bel.size⟩
theorem LwZ.next (h : LwZ w wr X Y Z T AE AA ne ce ca acts Ar cr As cs arcs signs v5 v6 l5 l6) (hb : Below (Z + 1) wr w2) (ht : Two w2 (Z + 1) v5' v6' l5' l6') : LwZ w ((w2.setCell ⟨Z, 0, none⟩ v5').setCell ⟨Z, 1, none⟩ v6') X Y Z T AE AA ne ce ca acts Ar cr As cs arcs signs v5' v6' l5' l6' := by
  have hX := h.hX
  have hY := h.hY
  have hw := h.hw
  have hk : ∀ k, k < Z → ((w2.setCell ⟨Z, 0, none⟩ v5').setCell ⟨Z, 1, none⟩ v6').heap[k]? = wr.heap[k]? := fun k hk => by
    rw [Below.heap_setCell _ _ _ _ (by simp; omega), Below.heap_setCell _ _ _ _ (by simp; omega), hb.block k (by omega)]
  have hf5 : v5'.ownBlock ≠ some Z := fun e => by have := (own_block ht.o5 _ e).1; omega
  have hf6 : v6'.ownBlock ≠ some Z := fun e => by have := (own_block ht.o6 _ e).1; omega
  refine ⟨((h.bel.trans (hb.mono (by omega))).setCell (by simp; omega) _).setCell (by simp; omega) _, h.x.same (hk X hX), h.y.same (hk Y hY), ?_, h.a.keep hk, h.r.keep hk, h.s.keep hk, ⟨own_far (own_far ht.o5 hf5) hf5, own_far (own_far ht.o6 hf6) hf6, ht.d⟩, hX, hY, hw⟩
  have := ((h.z.same (hb.block Z (by omega))).set_ 0 v5').set_ 1 v6'
  simpa using this
theorem LwZ.grow (h : LwZ w wr X Y Z T AE AA ne ce ca acts Ar cr As cs arcs signs v5 v6 l5 l6) (hb : Below wr.heap.size wr w2) : LwZ w w2 X Y Z T AE AA ne ce ca acts Ar cr As cs arcs signs v5 v6 l5 l6 := by
  have hz := h.z.lt
  have hk : ∀ k, k < Z → w2.heap[k]? = wr.heap[k]? := fun k hk => hb.block k (by omega)
  exact ⟨h.bel.trans (hb.mono h.bel.size), h.x.bel hb, h.y.bel hb, h.z.bel hb, h.a.keep hk, h.r.keep hk, h.s.keep hk, h.t.grow hb, h.hX, h.hY, h.hw⟩
theorem LwZ.ny (h : LwZ w wr X Y Z T AE AA ne ce ca acts Ar cr As cs arcs signs v5 v6 l5 l6) (he : ne ≤ 512) (ha : acts.length ≤ 512) (hr : arcs.length ≤ 512) (hs : signs.length ≤ 512) : NCyc wr AA Ar As ne acts arcs signs :=
  have hz := h.z.lt
  ⟨h.a.more (by omega), h.r.more (by omega), h.s.more (by omega), by omega, by omega, by omega, by omega⟩
theorem LwZ.nz {A5 A6 : Option Addr} {c5 c6 : Nat} (h : LwZ w wr X Y Z T AE AA ne ce ca acts Ar cr As cs arcs signs (.slice A5 l5.length c5) (.slice A6 l6.length c6) l5 l6) (he : ne ≤ 512) (ha : acts.length ≤ 512) (hr : l5.length ≤ 512) (hs : l6.length ≤ 512) : NCyc wr AA A5 A6 ne acts l5 l6 :=
  have hz := h.z.lt
  ⟨h.a.more (by omega), Rd.of_own h.t.o5, Rd.of_own h.t.o6, by omega, by omega, by omega, by omega⟩
end
def RvL (w : World) (X Y Z : Nat) (T : Int) (AE AA : Option Addr) (ne ce ca : Nat) (acts : List Act) (Ar : Option Addr) (cr : Nat) (As : Option Addr) (cs : Nat) (arcs signs : List Int) (k : Nat) (v : Value) (wr : World) : Prop :=
  ∃ (j : Nat) (v5 v6 : Value), v = .int .i64 ((j : Int) - 1) ∧ j = k ∧ j ≤ arcs.length ∧ LwZ w wr X Y Z T AE AA ne ce ca acts Ar cr As cs arcs signs v5 v6 ((revA arcs).take (arcs.length - j)) ((revS signs).take (arcs.length - j))
theorem revA_take {arcs : List Int} {j : Nat} (h : j + 1 ≤ arcs.length) : (revA arcs).take (arcs.length - j) = (revA arcs).take (arcs.length - (j + 1)) ++ [gi arcs j] := by
  have hl : (revA arcs).length = arcs.length := by simp [revA]
  rw [show arcs.length - j = arcs.length - (j + 1) + 1 by omega, List.take_succ_eq_append_getElem (by omega), gi_nat arcs j (by omega)]
  congr 2
  simp only [revA, List.getElem_reverse]
  congr 1
  omega
theorem revS_take {signs : List Int} {j : Nat} (h : j + 1 ≤ signs.length) : (revS signs).take (signs.length - j) = (revS signs).take (signs.length - (j + 1)) ++ [-gi signs j] := by
  have hl : (revS signs).length = signs.length := by simp [revS]
  rw [show signs.length - j = signs.length - (j + 1) + 1 by omega, List.take_succ_eq_append_getElem (by omega), gi_nat signs j (by omega)]
  congr 2
  simp only [revS, List.getElem_map, List.getElem_reverse]
  congr 2
  omega

theorem rev_facts {T : Int} {ne : Nat} {acts : List Act} {arcs signs : List Int} (hk : CycOk T ne acts arcs signs) : okW T ne acts arcs signs = okW T ne acts (revA arcs) (revS signs) ∧ winL T ne acts arcs signs = -winH T ne acts (revA arcs) (revS signs) ∧ winH T ne acts arcs signs = -winL T ne acts (revA arcs) (revS signs) ∧ gapV T ne acts arcs signs = gapV T ne acts (revA arcs) (revS signs) ∧ rightV T ne acts arcs signs = rightV T ne acts (revA arcs) (revS signs) ∧
    -200000000 ≤ winL T ne acts (revA arcs) (revS signs) ∧ winL T ne acts (revA arcs) (revS signs) ≤ 200000000 ∧ -200000000 ≤ winH T ne acts (revA arcs) (revS signs) ∧ winH T ne acts (revA arcs) (revS signs) ≤ 200000000 ∧ 0 ≤ resV T ne acts arcs signs ∧ resV T ne acts arcs signs ≤ 7200 ∧ 0 ≤ resV T ne acts (revA arcs) (revS signs) ∧ resV T ne acts (revA arcs) (revS signs) ≤ 7200 ∧ (resV T ne acts arcs signs + resV T ne acts (revA arcs) (revS signs)).tmod T = 0 := by
  have hk2 := rev_ok hk
  have h1 := res_bd hk
  have h2 := res_bd hk2
  have ht := hk.net.t1
  have hl := hk2.lohi
  have hw : -200000000 ≤ winL T ne acts (revA arcs) (revS signs) ∧ winL T ne acts (revA arcs) (revS signs) ≤ 200000000 ∧ -200000000 ≤ winH T ne acts (revA arcs) (revS signs) ∧ winH T ne acts (revA arcs) (revS signs) ≤ 200000000 := by
    unfold winL winH
    split <;> omega
  exact ⟨(rev_okW hk).symm, (rev_winLH hk).1, (rev_winLH hk).2, (rev_gap hk).symm, (rev_right hk).symm, hw.1, hw.2.1, hw.2.2.1, hw.2.2.2, h1.1, by omega, h2.1, by omega, rev_resmod hk⟩

set_option linter.unusedSimpArgs false in
set_option maxRecDepth 100000 in
set_option maxHeartbeats 3200000 in
theorem reverse_true (A0 : Option Addr) (n0 c0 : Nat) (z0 : List Int) (k : Int) (w : World) (h0 : Rd w w.heap.size 1 A0 n0 (z0.map (Value.int .i64))) (m0 : n0 ≤ c0 ∧ c0 ≤ maxLen ∧ c0 * 8 ≤ 140737488351232) (_hk : (Lit.int .i64 k).wf = true) :
    Calls Try.prog 8 #[.slice A0 n0 c0, .int .i64 k] w fun e w' => e = .returned (.bool true) ∧ Below w.heap.size w w' := by
  have H0 := Lib.hid h0
  have Hm0 := Lib.hid (show n0 ≤ maxLen by omega)
  clear h0 m0
  obtain ⟨i0, a1, a2, a3, a4⟩ := info_parts infoInt
  have HI := Lib.hid (And.intro a1 (And.intro a2 (And.intro a3 a4)))
  clear a1 a2 a3 a4
  go_enter Try.func8, Try.ntmps8
  go_wp2_with fail
  refine (mknet_any A0 n0 c0 z0 w H0.out Hm0.out).mono ?_
  rintro e w1 ⟨T, AE, AA, ne, ce, ca, acts, rfl, hsm, ho, hb1⟩
  have HN := Lib.hid hsm.ok
  have ht0 := hsm.t0
  have ht1 := hsm.t1
  have hne := hsm.e1
  have hna := hsm.n
  have Hb1 := Lib.hid hb1
  have HA1 := Lib.hid (Rd.of_own ho)
  clear hsm ho hb1
  go_upto_region 2 with fail
  refine world_gen (fun w2 => LwN w w2 w1.heap.size T AE AA ne ce ca acts) (LwN.mk' Hb1.out HA1.out) ?_
  intro w2 hl2
  generalize w1.heap.size = X at *
  have HL := Lib.hid hl2
  clear hl2 Hb1 HA1
  have x0 := HL.out.x.cell 0
  have x1 := HL.out.x.cell 1
  have x2 := HL.out.x.cell 2
  simp at x0 x1 x2
  go_wp2_with fail
  refine (lfund_any T AE AA ne ce ca acts _ HL.out.a HN.out).mono ?_
  rintro e w3 ⟨hb3, Ac, cc, l, rfl, hm, hc, hr⟩
  have hll : l.length ≤ 8 := by
    have h := congrArg List.length hm
    rw [List.length_map] at h
    unfold fundF at h
    split at h
    · have := fundL_len ne acts (treeF T ne acts) acts.length; omega
    · rw [List.length_nil] at h; omega
  have HL3 := Lib.hid (HL.out.grow hb3)
  have HCs := Lib.hid hr
  have HCk := Lib.hid hc
  skip
  clear hm hc hr hb3 x0 x1 x2 HL
  have HL := HL3
  clear HL3
  cases l with
  | nil =>
    go_wp2_with fail
    refine (awake_any w3).mono ?_
    rintro e w4 ⟨rfl, hb4⟩
    have HB4 := Lib.hid (HL.out.grow hb4).bel
    clear hb4
    go_wp2_with fail
    go_ret
    exact ⟨rfl, HB4.out⟩
  | cons cq lt =>
  generalize hl : cq :: lt = l at *
  have hl1 : 1 ≤ l.length := by rw [← hl]; simp
  have Hl := Lib.hid hl
  clear hl
  have hl0' : ¬ l = [] := fun h => by rw [h] at hl1; simp at hl1
  have hl0 : ((l.length : Int) == 0) = false := by rw [beq_eq_false_iff_ne]; omega
  have hpk := pick_bd k l.length (by omega) (by omega)
  obtain ⟨hp0, hp1⟩ := hpk
  generalize hpkv : pick k l.length = pk at *
  have Hpkv := Lib.hid hpkv
  clear hpkv
  obtain ⟨p, rfl⟩ := Int.eq_ofNat_of_zero_le hp0
  have hpl : p < l.length := by omega
  obtain ⟨bc, oc, rfl, hbc, d0, d1⟩ := rdCyc HCs.out.r rfl p hpl
  have HCy := Lib.hid (HCs.out.c l[p] (List.getElem_mem hpl))
  have HK := Lib.hid (HCk.out l[p] (List.getElem_mem hpl))
  generalize l[p] = cy at *
  obtain ⟨Ar, cr, As, cs, arcs, signs⟩ := cy
  simp only at d0 d1 HCy HK
  have hbc' : bc < (w3).heap.size := World.block_lt_of_cell? _ _ d0
  go_upto_region 6 with (go_at_call 15; refine (pick_any _ _ _ (by omega) (by omega)).mono ?_; rintro e w' ⟨rfl, rfl⟩; rw [Hpkv.out])
  refine world_gen (fun w4 => LwC w w4 X (w3).heap.size T AE AA ne ce ca acts Ar cr As cs arcs signs  ) (LwC.mk' HL.out HCy.out) ?_
  intro w4 hl4
  have hXY : X < (w3).heap.size := HL.out.x.lt
  generalize (w3).heap.size = Y at *
  have HC := Lib.hid hl4
  clear hl4 HL d0 d1 hbc hbc' HCs HCk Hpkv hl0 hl0' Hl HCy
  go_upto_region 7 with fail
  have HZ0 := Lib.hid (LwZ.new HC.out hXY)
  refine world_gen (fun w5 => LwZ w w5 X Y w4.heap.size T AE AA ne ce ca acts Ar cr As cs arcs signs (.slice none 0 0) (.slice none 0 0) [] []) HZ0.out ?_
  intro w5 hz5
  clear HZ0 HC
  generalize w4.heap.size = Z at *
  have HZ := Lib.hid hz5
  clear hz5
  have hal := HK.out.sum.n
  have y0 := HZ.out.y.cell 0
  simp at y0
  go_wp2_with fail
  clear y0
  go_loopg [9] arcs.length (fun k v wr => RvL w X Y Z T AE AA ne ce ca acts Ar cr As cs arcs signs k v wr)
  case atStart => exact ⟨arcs.length, _, _, by first | rfl | go_num, rfl, Nat.le_refl _, by simpa using HZ.out⟩
  case round =>
    obtain ⟨j, v5, v6, rfl, rfl, hj, hz⟩ := hrel
    clear HZ
    have HZ := Lib.hid hz
    clear hz
    obtain ⟨A5, c5, rfl, _, _⟩ := own_slice HZ.out.t.o5
    obtain ⟨A6, c6, rfl, _, _⟩ := own_slice HZ.out.t.o6
    cases j with
    | zero =>
      have hA : (revA arcs).take (arcs.length - 0) = revA arcs := List.take_of_length_le (by simp [revA])
      have hS : (revS signs).take (arcs.length - 0) = revS signs := List.take_of_length_le (by have := HK.out.len; simp [revS]; omega)
      rw [hA, hS] at HZ
      have HRv := Lib.hid (rev_facts HK.out)
      have hlz5 : (revA arcs).length ≤ 512 := by simp [revA]; omega
      have hlz6 : (revS signs).length ≤ 512 := by have := HK.out.len; simp [revS]; omega
      have hls : signs.length ≤ 512 := by have := HK.out.len; omega
      clear hA hS
      generalize revA arcs = l5 at *
      generalize revS signs = l6 at *
      have x0 := HZ.out.x.cell 0
      have x1 := HZ.out.x.cell 1
      have x2 := HZ.out.x.cell 2
      have y0 := HZ.out.y.cell 0
      have y1 := HZ.out.y.cell 1
      have z0 := HZ.out.z.cell 0
      have z1 := HZ.out.z.cell 1
      simp at x0 x1 x2 y0 y1 z0 z1
      go_wp2_with fail
      refine (wind_any T AE AA Ar As ne ce ca cr cs acts arcs signs _ (HZ.out.ny (by omega) (by omega) hal hls)).mono ?_
      rintro e wv ⟨rfl, hbv⟩
      have HZ1 := Lib.hid (HZ.out.grow hbv)
      clear HZ hbv x0 x1 x2 y0 y1 z0 z1
      have HZ := HZ1
      clear HZ1
      rw [HRv.out.2.1, HRv.out.2.2.1, HRv.out.1]
      have x0 := HZ.out.x.cell 0
      have x1 := HZ.out.x.cell 1
      have x2 := HZ.out.x.cell 2
      have y0 := HZ.out.y.cell 0
      have y1 := HZ.out.y.cell 1
      have z0 := HZ.out.z.cell 0
      have z1 := HZ.out.z.cell 1
      simp at x0 x1 x2 y0 y1 z0 z1
      go_wp2_with fail
      refine (wind_any T AE AA A5 A6 ne ce ca c5 c6 acts l5 l6 _ (HZ.out.nz (by omega) (by omega) hlz5 hlz6)).mono ?_
      rintro e wv ⟨rfl, hbv⟩
      have HZ1 := Lib.hid (HZ.out.grow hbv)
      clear HZ hbv x0 x1 x2 y0 y1 z0 z1
      have HZ := HZ1
      clear HZ1
      have x0 := HZ.out.x.cell 0
      have x1 := HZ.out.x.cell 1
      have x2 := HZ.out.x.cell 2
      have y0 := HZ.out.y.cell 0
      have y1 := HZ.out.y.cell 1
      have z0 := HZ.out.z.cell 0
      have z1 := HZ.out.z.cell 1
      simp at x0 x1 x2 y0 y1 z0 z1
      go_wp2_with fail
      refine (gap_any T AE AA Ar As ne ce ca cr cs acts arcs signs _ (HZ.out.ny (by omega) (by omega) hal hls)).mono ?_
      rintro e wv ⟨rfl, hbv⟩
      have HZ1 := Lib.hid (HZ.out.grow hbv)
      clear HZ hbv x0 x1 x2 y0 y1 z0 z1
      have HZ := HZ1
      clear HZ1
      rw [HRv.out.2.2.2.1, HRv.out.1]
      have x0 := HZ.out.x.cell 0
      have x1 := HZ.out.x.cell 1
      have x2 := HZ.out.x.cell 2
      have y0 := HZ.out.y.cell 0
      have y1 := HZ.out.y.cell 1
      have z0 := HZ.out.z.cell 0
      have z1 := HZ.out.z.cell 1
      simp at x0 x1 x2 y0 y1 z0 z1
      go_wp2_with fail
      refine (gap_any T AE AA A5 A6 ne ce ca c5 c6 acts l5 l6 _ (HZ.out.nz (by omega) (by omega) hlz5 hlz6)).mono ?_
      rintro e wv ⟨rfl, hbv⟩
      have HZ1 := Lib.hid (HZ.out.grow hbv)
      clear HZ hbv x0 x1 x2 y0 y1 z0 z1
      have HZ := HZ1
      clear HZ1
      have HRY : Hid (∀ w', Below wv.heap.size wv w' → Calls Try.prog 19 #[.agg #[.int .i64 T, .slice AE ne ce, .slice AA acts.length ca], .agg #[.slice Ar arcs.length cr, .slice As signs.length cs]] w' fun e w'' => e = .returned (.int .i64 (rightV T ne acts l5 l6)) ∧ Below w'.heap.size w' w'') := fun w' hb => by
        have := right_any T AE AA Ar As ne ce ca cr cs acts arcs signs w' ((HZ.out.grow hb).ny (by omega) (by omega) hal hls)
        rwa [HRv.out.2.2.2.2.1] at this
      have HRZ : Hid (∀ w', Below wv.heap.size wv w' → Calls Try.prog 19 #[.agg #[.int .i64 T, .slice AE ne ce, .slice AA acts.length ca], .agg #[.slice A5 l5.length c5, .slice A6 l6.length c6]] w' fun e w'' => e = .returned (.int .i64 (rightV T ne acts l5 l6)) ∧ Below w'.heap.size w' w'') := fun w' hb =>
        right_any T AE AA A5 A6 ne ce ca c5 c6 acts l5 l6 w' ((HZ.out.grow hb).nz (by omega) (by omega) hlz5 hlz6)
      have HSY : Hid (∀ w', Below wv.heap.size wv w' → Calls Try.prog 28 #[.agg #[.int .i64 T, .slice AE ne ce, .slice AA acts.length ca], .agg #[.slice Ar arcs.length cr, .slice As signs.length cs]] w' fun e w'' => e = .returned (.int .i64 (resV T ne acts arcs signs)) ∧ Below w'.heap.size w' w'') := fun w' hb =>
        resid_any T AE AA Ar As ne ce ca cr cs acts arcs signs w' ((HZ.out.grow hb).ny (by omega) (by omega) hal hls)
      have HSZ : Hid (∀ w', Below wv.heap.size wv w' → Calls Try.prog 28 #[.agg #[.int .i64 T, .slice AE ne ce, .slice AA acts.length ca], .agg #[.slice A5 l5.length c5, .slice A6 l6.length c6]] w' fun e w'' => e = .returned (.int .i64 (resV T ne acts l5 l6)) ∧ Below w'.heap.size w' w'') := fun w' hb =>
        resid_any T AE AA A5 A6 ne ce ca c5 c6 acts l5 l6 w' ((HZ.out.grow hb).nz (by omega) (by omega) hlz5 hlz6)
      obtain ⟨_, _, _, _, _, hb1, hb2, hb3, hb4, hr1, hr2, hr3, hr4, hm⟩ := HRv.out
      go_upto_region 15 with fail
      generalize okW T ne acts l5 l6 = okv at *
      generalize gapV T ne acts l5 l6 = gv at *
      generalize winL T ne acts l5 l6 = pv at *
      generalize winH T ne acts l5 l6 = qv at *
      generalize rightV T ne acts l5 l6 = rv at *
      generalize resV T ne acts l5 l6 = s2 at *
      generalize resV T ne acts arcs signs = s1 at *
      have x0 := HZ.out.x.cell 0
      have x1 := HZ.out.x.cell 1
      have x2 := HZ.out.x.cell 2
      have y0 := HZ.out.y.cell 0
      have y1 := HZ.out.y.cell 1
      have z0 := HZ.out.z.cell 0
      have z1 := HZ.out.z.cell 1
      simp at x0 x1 x2 y0 y1 z0 z1
      have hxl := HZ.out.x.lt
      have hyl := HZ.out.y.lt
      have hzl := HZ.out.z.lt
      have hT1 : ¬ (T = 0) := by omega
      have hT2 : (T == 0) = false := by rw [beq_eq_false_iff_ne]; exact hT1
      have e1 : IntKind.i64.wrap (-qv) = -qv := IntWalk.i64_in _ (by omega)
      have e2 : IntKind.i64.wrap (-pv) = -pv := IntWalk.i64_in _ (by omega)
      have e3 : IntKind.i64.wrap (s1 + s2) = s1 + s2 := IntWalk.i64_in _ (by omega)
      clear HRv hb1 hb2 hb3 hb4
      refine wp_region_overL (by kernel_rfl) (by kernel_rfl) ?_
      repeat (go_big_quiet_step (first | (go_at_call 14; exact callsOver (awake_any _)) | (go_at_call 19; with_reducible exact callsOver (HRY.out _ (over_below _ _))) | (go_at_call 19; with_reducible exact callsOver (HRZ.out _ (over_below _ _))) | (go_at_call 28; with_reducible exact callsOver (HSY.out _ (over_below _ _))) | (go_at_call 28; with_reducible exact callsOver (HSZ.out _ (over_below _ _)))))
      refine wpQuiet_nil ?_
      intro w9 hb9
      have HZ9 := Lib.hid (HZ.out.grow hb9)
      clear e1 e2 e3 x0 x1 x2 y0 y1 z0 z1
      go_wp2_with fail
      go_ret
      exact ⟨rfl, HZ9.out.bel⟩
    | succ j =>
      have hlt : j < arcs.length := by omega
      have hlts : j < signs.length := by have := HK.out.len; omega
      obtain ⟨br, orr, rfl, hbr, r0⟩ := rd1 HZ.out.r j hlt
      obtain ⟨bs, os, rfl, hbs, s0⟩ := rd1 HZ.out.s j hlts
      rw [← gi_nat arcs j hlt] at r0
      rw [← gi_nat signs j hlts] at s0
      have hsg := (HK.out.arc j hlt).s
      have HRa := Lib.hid (revA_take (arcs := arcs) (j := j) (by omega))
      have HRs := Lib.hid (show (revS signs).take (arcs.length - j) = (revS signs).take (arcs.length - (j + 1)) ++ [-gi signs j] by rw [HK.out.len]; exact revS_take (by omega))
      have hl5 : ((revA arcs).take (arcs.length - (j + 1))).length ≤ 512 := by simp [revA]; omega
      have hl6 : ((revS signs).take (arcs.length - (j + 1))).length ≤ 512 := by have := HK.out.len; simp [revS]; omega
      generalize (revA arcs).take (arcs.length - (j + 1)) = l5 at *
      generalize (revS signs).take (arcs.length - (j + 1)) = l6 at *
      generalize gi arcs j = ar at *
      generalize gi signs j = sg at *
      have y0 := HZ.out.y.cell 0
      have y1 := HZ.out.y.cell 1
      have z0 := HZ.out.z.cell 0
      have z1 := HZ.out.z.cell 1
      simp at y0 y1 z0 z1
      have hzl := HZ.out.z.lt
      have hyz := HZ.out.hY
      have HN5 : Hid (∀ g, g < Z + 1 → (Value.slice A5 l5.length c5).ownBlock ≠ some g) := fun g hg e => by have := (own_block HZ.out.t.o5 g e).1; omega
      have HN6 : Hid (∀ g, g < Z + 1 → (Value.slice A6 l6.length c6).ownBlock ≠ some g) := fun g hg e => by have := (own_block HZ.out.t.o6 g e).1; omega
      have hYn : Y ≠ Z := by omega
      have hYn' : Z ≠ Y := by omega
      have hbrn' : Z ≠ br := by omega
      have hbsn' : Z ≠ bs := by omega
      have hbrn : br ≠ Z := by omega
      have hbsn : bs ≠ Z := by omega
      have e0 : ((j + 1 : Nat) : Int) - 1 = (j : Int) := by omega
      rw [e0]
      clear e0
      go_upto_region 10 with fail
      have e1 : IntKind.i64.wrap (-sg) = -sg := IntWalk.i64_in _ (by omega)
      refine wp_region_noPanic ?_
      refine wp_region_cut2 20 (by kernel_rfl) (by kernel_rfl) ?_
      simp only [dulled, List.take_succ_cons, List.take_zero, List.drop_succ_cons, List.drop_zero, List.map_cons, List.map_nil, List.cons_append, List.nil_append, dull]
      refine wpAny_of_held (S := fun w' => w'.cell? ⟨Y, 0, none⟩ = some (.slice (some ⟨br, orr, none⟩) arcs.length cr) ∧ w'.cell? ⟨Y, 1, none⟩ = some (.slice (some ⟨bs, os, none⟩) signs.length cs) ∧ w'.cell? ⟨br, orr + j, none⟩ = some (.int .i64 ar) ∧ w'.cell? ⟨bs, os + j, none⟩ = some (.int .i64 sg) ∧ w'.cell? ⟨Z, 0, none⟩ = some (.slice A5 l5.length c5) ∧ w'.cell? ⟨Z, 1, none⟩ = some (.slice A6 l6.length c6)) _ _ _ _ ?_
      change wpAnyH _ _ _ _ _ 23 _ _ wr.drew
      have hHeld : (fun w' : World => w'.cell? ⟨Y, 0, none⟩ = some (.slice (some ⟨br, orr, none⟩) arcs.length cr) ∧ w'.cell? ⟨Y, 1, none⟩ = some (.slice (some ⟨bs, os, none⟩) signs.length cs) ∧ w'.cell? ⟨br, orr + j, none⟩ = some (.int .i64 ar) ∧ w'.cell? ⟨bs, os + j, none⟩ = some (.int .i64 sg) ∧ w'.cell? ⟨Z, 0, none⟩ = some (.slice A5 l5.length c5) ∧ w'.cell? ⟨Z, 1, none⟩ = some (.slice A6 l6.length c6)) wr.drew := ⟨y0, y1, r0, s0, z0, z1⟩
      refine wpAnyH_take (i := 0) (oi := ⟨some _, _, _, _, _, _⟩) (v := ?_) rfl (by kernel_rfl) (by kernel_rfl) (by kernel_rfl) (fun _ _ _ h => h) (Or.inl ⟨by rfl, ?_⟩) (by assumption) ?_
      rotate_left
      · (intro w hSw; (try dsimp only at hSw); go_simp; try with_reducible rfl)
      simp only [Act.put, List.setIfInBounds_toArray, List.set_cons_zero, List.set_cons_succ]
      refine wpAnyH_take (i := 1) (oi := ⟨some _, _, _, _, _, _⟩) (v := ?_) rfl (by kernel_rfl) (by kernel_rfl) (by kernel_rfl) (fun _ _ _ h => h) (Or.inl ⟨by rfl, ?_⟩) (by assumption) ?_
      rotate_left
      · (intro w hSw; (try dsimp only at hSw); go_simp; try with_reducible rfl)
      simp only [Act.put, List.setIfInBounds_toArray, List.set_cons_zero, List.set_cons_succ]
      refine wpAnyH_take (i := 2) (oi := ⟨some _, _, _, _, _, _⟩) (v := ?_) rfl (by kernel_rfl) (by kernel_rfl) (by kernel_rfl) (fun _ _ _ h => h) (Or.inl ⟨by rfl, ?_⟩) (by assumption) ?_
      rotate_left
      · (intro w hSw; (try dsimp only at hSw); go_simp; try with_reducible rfl)
      simp only [Act.put, List.setIfInBounds_toArray, List.set_cons_zero, List.set_cons_succ]
      refine wpAnyH_take (i := 3) (oi := ⟨some _, _, _, _, _, _⟩) (v := ?_) rfl (by kernel_rfl) (by kernel_rfl) (by kernel_rfl) (fun _ _ _ h => h) (Or.inl ⟨by rfl, ?_⟩) (by assumption) ?_
      rotate_left
      · (intro w hSw; (try dsimp only at hSw); go_simp; try with_reducible rfl)
      simp only [Act.put, List.setIfInBounds_toArray, List.set_cons_zero, List.set_cons_succ]
      refine wpAnyH_take (i := 4) (oi := ⟨some _, _, _, _, _, _⟩) (v := ?_) rfl (by kernel_rfl) (by kernel_rfl) (by kernel_rfl) (fun _ _ _ h => h) (Or.inl ⟨by rfl, ?_⟩) (by assumption) ?_
      rotate_left
      · (intro w hSw; (try dsimp only at hSw); go_simp; try with_reducible rfl)
      simp only [Act.put, List.setIfInBounds_toArray, List.set_cons_zero, List.set_cons_succ]
      refine wpAnyH_take (i := 5) (oi := ⟨some _, _, _, _, _, _⟩) (v := ?_) rfl (by kernel_rfl) (by kernel_rfl) (by kernel_rfl) (fun _ _ _ h => h) (Or.inl ⟨by rfl, ?_⟩) (by assumption) ?_
      rotate_left
      · (intro w hSw; (try dsimp only at hSw); go_simp; try with_reducible rfl)
      simp only [Act.put, List.setIfInBounds_toArray, List.set_cons_zero, List.set_cons_succ]
      refine wpAnyH_take (i := 6) (oi := ⟨some _, _, _, _, _, _⟩) (v := ?_) rfl (by kernel_rfl) (by kernel_rfl) (by kernel_rfl) (fun _ _ _ h => h) (Or.inl ⟨by rfl, ?_⟩) (by assumption) ?_
      rotate_left
      · (intro w hSw; (try dsimp only at hSw); go_simp; try with_reducible rfl)
      simp only [Act.put, List.setIfInBounds_toArray, List.set_cons_zero, List.set_cons_succ]
      refine wpAnyH_take (i := 9) (oi := ⟨some _, _, _, _, _, _⟩) (v := ?_) rfl (by kernel_rfl) (by kernel_rfl) (by kernel_rfl) (fun _ _ _ h => h) (Or.inl ⟨by rfl, ?_⟩) (by assumption) ?_
      rotate_left
      · (intro w hSw; (try dsimp only at hSw); go_simp; try with_reducible rfl)
      simp only [Act.put, List.setIfInBounds_toArray, List.set_cons_zero, List.set_cons_succ]
      refine wpAnyH_take (i := 10) (oi := ⟨some _, _, _, _, _, _⟩) (v := ?_) rfl (by kernel_rfl) (by kernel_rfl) (by kernel_rfl) (fun _ _ _ h => h) (Or.inl ⟨by rfl, ?_⟩) (by assumption) ?_
      rotate_left
      · (intro w hSw; (try dsimp only at hSw); go_simp; try with_reducible rfl)
      simp only [Act.put, List.setIfInBounds_toArray, List.set_cons_zero, List.set_cons_succ]
      refine wpAnyH_take (i := 11) (oi := ⟨some _, _, _, _, _, _⟩) (v := ?_) rfl (by kernel_rfl) (by kernel_rfl) (by kernel_rfl) (fun _ _ _ h => h) (Or.inl ⟨by rfl, ?_⟩) (by assumption) ?_
      rotate_left
      · (intro w hSw; (try dsimp only at hSw); go_simp; try with_reducible rfl)
      simp only [Act.put, List.setIfInBounds_toArray, List.set_cons_zero, List.set_cons_succ]
      refine wpAnyH_take (i := 12) (oi := ⟨some _, _, _, _, _, _⟩) (v := ?_) rfl (by kernel_rfl) (by kernel_rfl) (by kernel_rfl) (fun _ _ _ h => h) (Or.inl ⟨by rfl, ?_⟩) (by assumption) ?_
      rotate_left
      · (intro w hSw; (try dsimp only at hSw); go_simp; try with_reducible rfl)
      simp only [Act.put, List.setIfInBounds_toArray, List.set_cons_zero, List.set_cons_succ]
      refine wpAnyH_take (i := 13) (oi := ⟨some _, _, _, _, _, _⟩) (v := ?_) rfl (by kernel_rfl) (by kernel_rfl) (by kernel_rfl) (fun _ _ _ h => h) (Or.inl ⟨by rfl, ?_⟩) (by assumption) ?_
      rotate_left
      · (intro w hSw; (try dsimp only at hSw); go_simp; try with_reducible rfl)
      simp only [Act.put, List.setIfInBounds_toArray, List.set_cons_zero, List.set_cons_succ]
      refine wpAnyH_take (i := 14) (oi := ⟨some _, _, _, _, _, _⟩) (v := ?_) rfl (by kernel_rfl) (by kernel_rfl) (by kernel_rfl) (fun _ _ _ h => h) (Or.inl ⟨by rfl, ?_⟩) (by assumption) ?_
      rotate_left
      · (intro w hSw; (try dsimp only at hSw); go_simp; try with_reducible rfl)
      simp only [Act.put, List.setIfInBounds_toArray, List.set_cons_zero, List.set_cons_succ]
      refine wpAnyH_take (i := 15) (oi := ⟨some _, _, _, _, _, _⟩) (v := ?_) rfl (by kernel_rfl) (by kernel_rfl) (by kernel_rfl) (fun _ _ _ h => h) (Or.inl ⟨by rfl, ?_⟩) (by assumption) ?_
      rotate_left
      · (intro w hSw; (try dsimp only at hSw); go_simp; try with_reducible rfl)
      simp only [Act.put, List.setIfInBounds_toArray, List.set_cons_zero, List.set_cons_succ]
      refine wpAnyH_take (i := 16) (oi := ⟨some _, _, _, _, _, _⟩) (v := ?_) rfl (by kernel_rfl) (by kernel_rfl) (by kernel_rfl) (fun _ _ _ h => h) (Or.inl ⟨by rfl, ?_⟩) (by assumption) ?_
      rotate_left
      · (intro w hSw; (try dsimp only at hSw); go_simp; try with_reducible rfl)
      simp only [Act.put, List.setIfInBounds_toArray, List.set_cons_zero, List.set_cons_succ]
      (try rw [e1])
      refine wpAnyH_ready (rs := [7, 17]) (by kernel_rfl) (by simp) ?_
      refine AllReadyH.cons rfl (fun K hK => ?_) (AllReadyH.cons rfl (fun K hK => ?_) AllReadyH.nil)
      · go_simp
        refine hK.out _ _ ⟨cell_bel ((Below.refl _ _).alloc (Nat.le_refl _) _) hHeld.1, cell_bel ((Below.refl _ _).alloc (Nat.le_refl _) _) hHeld.2.1, cell_bel ((Below.refl _ _).alloc (Nat.le_refl _) _) hHeld.2.2.1, cell_bel ((Below.refl _ _).alloc (Nat.le_refl _) _) hHeld.2.2.2.1, cell_bel ((Below.refl _ _).alloc (Nat.le_refl _) _) hHeld.2.2.2.2.1, cell_bel ((Below.refl _ _).alloc (Nat.le_refl _) _) hHeld.2.2.2.2.2⟩ (fun hHeld => ?_)
        clear hK K
        try simp only [Act.put, List.setIfInBounds_toArray, List.set_cons_zero, List.set_cons_succ]
        refine wpAnyH_ready (rs := [8, 17]) (by kernel_rfl) (by simp) ?_
        refine AllReadyH.cons rfl (fun K hK => ?_) (AllReadyH.cons rfl (fun K hK => ?_) AllReadyH.nil)
        · refine step_append_lies _ (by rfl) _ _ _ (by rfl) (Z + 1) 3 i0 _ 1 8 Try.underlying22 HI.out.1 HI.out.2.1 HI.out.2.2.1 HI.out.2.2.2 rfl (by omega) (.slice A5 l5.length c5) l5.length (l5.map (Value.int .i64)) rfl (own_grow HZ.out.t.o5 (by repeat (first | exact Below.refl _ _ | (with_reducible refine Below.drew ?_) | (with_reducible refine below_drewN ?_ _) | (with_reducible refine Below.alloc ?_ (by first | omega | (simp; done) | (simp; omega)) _) | (with_reducible refine Below.setCell ?_ (by first | omega | (simp; done) | (simp; omega)) _) | (refine Below.trans ?_ (Below.mono (by with_reducible assumption) (by first | omega | (simp; done) | (simp; omega))))))) _ 1 1 [.int .i64 ar] (by rfl) (by rfl) (World.news_of_block (cs := #[.int .i64 ar]) (t := 3) (fr := (0, 0)) (by first | exact h_new1 _ _ | exact h_old2 _ _ _ | exact h_new2 _ _ _)) (by simp [Value.oneCell']) (by omega) (by simp only [maxLen]; omega) (by omega) (by simp; omega) _ rfl ?_
          intro g1 cp1 w1 hown1 hgrow1 hat1 hgl1
          have hbk1 := (HZ.out.z.bel (by repeat (first | exact Below.refl _ _ | (with_reducible refine Below.drew ?_) | (with_reducible refine below_drewN ?_ _) | (with_reducible refine Below.alloc ?_ (by first | omega | (simp; done) | (simp; omega)) _) | (with_reducible refine Below.setCell ?_ (by first | omega | (simp; done) | (simp; omega)) _) | (refine Below.trans ?_ (Below.mono (by with_reducible assumption) (by first | omega | (simp; done) | (simp; omega))))))).grown hgrow1 (HN5.out Z (by omega))
          have hzl1 := hbk1.lt
          refine hK.out _ _ ⟨cell_app hgrow1 hHeld.1 (HN5.out _ (by omega)), cell_app hgrow1 hHeld.2.1 (HN5.out _ (by omega)), cell_app hgrow1 hHeld.2.2.1 (HN5.out _ (by omega)), cell_app hgrow1 hHeld.2.2.2.1 (HN5.out _ (by omega)), cell_app hgrow1 hHeld.2.2.2.2.1 (HN5.out _ (by omega)), cell_app hgrow1 hHeld.2.2.2.2.2 (HN5.out _ (by omega))⟩ (fun hHeld => ?_)
          clear hK K
          try simp only [Act.put, List.setIfInBounds_toArray, List.set_cons_zero, List.set_cons_succ]
          refine wpAnyH_take (i := 19) (oi := ⟨some _, _, _, _, _, _⟩) (v := ?_) rfl (by kernel_rfl) (by kernel_rfl) (by kernel_rfl) (fun _ _ _ h => h) (Or.inl ⟨by rfl, ?_⟩) (by assumption) ?_
          rotate_left
          · (intro w hSw; (try dsimp only at hSw); go_simp; try with_reducible rfl)
          simp only [Act.put, List.setIfInBounds_toArray, List.set_cons_zero, List.set_cons_succ]
          refine wpAnyH_ready (rs := [17]) (by kernel_rfl) (by simp) ?_
          refine AllReadyH.cons rfl (fun K hK => ?_) AllReadyH.nil
          go_simp
          refine hK.out _ _ ⟨cell_bel ((Below.refl _ _).alloc (Nat.le_refl _) _) hHeld.1, cell_bel ((Below.refl _ _).alloc (Nat.le_refl _) _) hHeld.2.1, cell_bel ((Below.refl _ _).alloc (Nat.le_refl _) _) hHeld.2.2.1, cell_bel ((Below.refl _ _).alloc (Nat.le_refl _) _) hHeld.2.2.2.1, cell_bel ((Below.refl _ _).alloc (Nat.le_refl _) _) hHeld.2.2.2.2.1, cell_bel ((Below.refl _ _).alloc (Nat.le_refl _) _) hHeld.2.2.2.2.2⟩ (fun hHeld => ?_)
          clear hK K
          try simp only [Act.put, List.setIfInBounds_toArray, List.set_cons_zero, List.set_cons_succ]
          refine wpAnyH_ready (rs := [18]) (by kernel_rfl) (by simp) ?_
          refine AllReadyH.cons rfl (fun K hK => ?_) AllReadyH.nil
          refine step_append_lies _ (by rfl) _ _ _ (by rfl) (Z + 1) 3 i0 _ 1 8 Try.underlying22 HI.out.1 HI.out.2.1 HI.out.2.2.1 HI.out.2.2.2 rfl (by omega) (.slice A6 l6.length c6) l6.length (l6.map (Value.int .i64)) rfl (own_grow (HZ.out.t.mid (by repeat (first | exact Below.refl _ _ | (with_reducible refine Below.drew ?_) | (with_reducible refine below_drewN ?_ _) | (with_reducible refine Below.alloc ?_ (by first | omega | (simp; done) | (simp; omega)) _) | (with_reducible refine Below.setCell ?_ (by first | omega | (simp; done) | (simp; omega)) _) | (refine Below.trans ?_ (Below.mono (by with_reducible assumption) (by first | omega | (simp; done) | (simp; omega)))))) hgrow1) (by repeat (first | exact Below.refl _ _ | (with_reducible refine Below.drew ?_) | (with_reducible refine below_drewN ?_ _) | (with_reducible refine Below.alloc ?_ (by first | omega | (simp; done) | (simp; omega)) _) | (with_reducible refine Below.setCell ?_ (by first | omega | (simp; done) | (simp; omega)) _) | (refine Below.trans ?_ (Below.mono (by with_reducible assumption) (by first | omega | (simp; done) | (simp; omega))))))) _ 1 1 [.int .i64 (-sg)] (by rfl) (by rfl) (World.news_of_block (cs := #[.int .i64 (-sg)]) (t := 3) (fr := (0, 0)) (by first | exact h_new1 _ _ | exact heap_gr hgrow1 (h_new2 _ _ _) (fun e => absurd (own_block HZ.out.t.o5 _ e).2 (by omega)) | exact heap_gr hgrow1 (h_old2 _ _ _) (fun e => absurd (own_block HZ.out.t.o5 _ e).2 (by omega)))) (by simp [Value.oneCell']) (by omega) (by simp only [maxLen]; omega) (by omega) (by have := hgrow1.size; simp at this ⊢; omega) _ rfl ?_
          intro g2 cp2 w2 hown2 hgrow2 hat2 hgl2
          have hbk2 := (hbk1.bel (by repeat (first | exact Below.refl _ _ | (with_reducible refine Below.drew ?_) | (with_reducible refine below_drewN ?_ _) | (with_reducible refine Below.alloc ?_ (by first | omega | (simp; done) | (simp; omega)) _) | (with_reducible refine Below.setCell ?_ (by first | omega | (simp; done) | (simp; omega)) _) | (refine Below.trans ?_ (Below.mono (by with_reducible assumption) (by first | omega | (simp; done) | (simp; omega))))))).grown hgrow2 (HN6.out Z (by omega))
          have z0b := hbk2.cell 0
          have z1b := hbk2.cell 1
          have f0b := hbk2.frozen 0
          have f1b := hbk2.frozen 1
          simp at z0b z1b
          refine hK.out _ _ ⟨cell_app hgrow2 hHeld.1 (HN6.out _ (by omega)), cell_app hgrow2 hHeld.2.1 (HN6.out _ (by omega)), cell_app hgrow2 hHeld.2.2.1 (HN6.out _ (by omega)), cell_app hgrow2 hHeld.2.2.2.1 (HN6.out _ (by omega)), cell_app hgrow2 hHeld.2.2.2.2.1 (HN6.out _ (by omega)), cell_app hgrow2 hHeld.2.2.2.2.2 (HN6.out _ (by omega))⟩ (fun hHeld => ?_)
          clear hK K
          try simp only [Act.put, List.setIfInBounds_toArray, List.set_cons_zero, List.set_cons_succ]
          refine wpAnyH_ready (rs := [20]) (by kernel_rfl) (by simp) ?_
          refine AllReadyH.cons rfl (fun K hK => ?_) AllReadyH.nil
          go_simp
          refine hK.out _ _ hHeld (fun hHeld => ?_)
          clear hK K
          refine wpAnyH_ready (rs := [21]) (by kernel_rfl) (by simp) ?_
          refine AllReadyH.cons rfl (fun K hK => ?_) AllReadyH.nil
          go_simp
          refine hK.out _ _ hHeld (fun hHeld => ?_)
          clear hK K
          refine wpAnyH_ready (rs := [22]) (by kernel_rfl) (by simp) ?_
          refine AllReadyH.cons rfl (fun K hK => ?_) AllReadyH.nil
          go_simp
          refine hK.out _ _ hHeld (fun hHeld => ?_)
          clear hK K
          clear hHeld
          refine wpAnyH_done (by kernel_rfl) ?_ _
          simp only [cutQ, List.drop_succ_cons, List.drop_zero]
          have HD := Lib.hid (HZ.out.t.done (by omega) (by repeat (first | exact Below.refl _ _ | (with_reducible refine Below.drew ?_) | (with_reducible refine below_drewN ?_ _) | (with_reducible refine Below.alloc ?_ (by first | omega | (simp; done) | (simp; omega)) _) | (with_reducible refine Below.setCell ?_ (by first | omega | (simp; done) | (simp; omega)) _) | (refine Below.trans ?_ (Below.mono (by with_reducible assumption) (by first | omega | (simp; done) | (simp; omega)))))) hgrow1 hown1 hat1 (by repeat (first | exact Below.refl _ _ | (with_reducible refine Below.drew ?_) | (with_reducible refine below_drewN ?_ _) | (with_reducible refine Below.alloc ?_ (by first | omega | (simp; done) | (simp; omega)) _) | (with_reducible refine Below.setCell ?_ (by first | omega | (simp; done) | (simp; omega)) _) | (refine Below.trans ?_ (Below.mono (by with_reducible assumption) (by first | omega | (simp; done) | (simp; omega)))))) hgrow2 hown2 hat2)
          have HZ2 := Lib.hid (HZ.out.next HD.out.2 HD.out.1)
          go_upto_region 9 with fail
          clear hgrow1 hown1 hat1 hgl1 hgrow2 hown2 hat2 hgl2 hbk1 hbk2 hzl1 z0b z1b f0b f1b y0 y1 z0 z1 r0 s0 e1
          (try simp only [NoPanic])
          go_wp2_with fail
          go_roundg j
          case measure => omega
          case rel => exact ⟨j, _, _, by first | rfl | go_num, rfl, by omega, by rw [HRa.out, HRs.out]; exact HZ2.out⟩
        · go_simp
          refine hK.out _ _ ⟨cell_bel ((Below.refl _ _).alloc (Nat.le_refl _) _) hHeld.1, cell_bel ((Below.refl _ _).alloc (Nat.le_refl _) _) hHeld.2.1, cell_bel ((Below.refl _ _).alloc (Nat.le_refl _) _) hHeld.2.2.1, cell_bel ((Below.refl _ _).alloc (Nat.le_refl _) _) hHeld.2.2.2.1, cell_bel ((Below.refl _ _).alloc (Nat.le_refl _) _) hHeld.2.2.2.2.1, cell_bel ((Below.refl _ _).alloc (Nat.le_refl _) _) hHeld.2.2.2.2.2⟩ (fun hHeld => ?_)
          clear hK K
          try simp only [Act.put, List.setIfInBounds_toArray, List.set_cons_zero, List.set_cons_succ]
          refine wpAnyH_ready (rs := [8]) (by kernel_rfl) (by simp) ?_
          refine AllReadyH.cons rfl (fun K hK => ?_) AllReadyH.nil
          refine step_append_lies _ (by rfl) _ _ _ (by rfl) (Z + 1) 3 i0 _ 1 8 Try.underlying22 HI.out.1 HI.out.2.1 HI.out.2.2.1 HI.out.2.2.2 rfl (by omega) (.slice A5 l5.length c5) l5.length (l5.map (Value.int .i64)) rfl (own_grow HZ.out.t.o5 (by repeat (first | exact Below.refl _ _ | (with_reducible refine Below.drew ?_) | (with_reducible refine below_drewN ?_ _) | (with_reducible refine Below.alloc ?_ (by first | omega | (simp; done) | (simp; omega)) _) | (with_reducible refine Below.setCell ?_ (by first | omega | (simp; done) | (simp; omega)) _) | (refine Below.trans ?_ (Below.mono (by with_reducible assumption) (by first | omega | (simp; done) | (simp; omega))))))) _ 1 1 [.int .i64 ar] (by rfl) (by rfl) (World.news_of_block (cs := #[.int .i64 ar]) (t := 3) (fr := (0, 0)) (by first | exact h_new1 _ _ | exact h_old2 _ _ _ | exact h_new2 _ _ _)) (by simp [Value.oneCell']) (by omega) (by simp only [maxLen]; omega) (by omega) (by simp; omega) _ rfl ?_
          intro g1 cp1 w1 hown1 hgrow1 hat1 hgl1
          have hbk1 := (HZ.out.z.bel (by repeat (first | exact Below.refl _ _ | (with_reducible refine Below.drew ?_) | (with_reducible refine below_drewN ?_ _) | (with_reducible refine Below.alloc ?_ (by first | omega | (simp; done) | (simp; omega)) _) | (with_reducible refine Below.setCell ?_ (by first | omega | (simp; done) | (simp; omega)) _) | (refine Below.trans ?_ (Below.mono (by with_reducible assumption) (by first | omega | (simp; done) | (simp; omega))))))).grown hgrow1 (HN5.out Z (by omega))
          have hzl1 := hbk1.lt
          refine hK.out _ _ ⟨cell_app hgrow1 hHeld.1 (HN5.out _ (by omega)), cell_app hgrow1 hHeld.2.1 (HN5.out _ (by omega)), cell_app hgrow1 hHeld.2.2.1 (HN5.out _ (by omega)), cell_app hgrow1 hHeld.2.2.2.1 (HN5.out _ (by omega)), cell_app hgrow1 hHeld.2.2.2.2.1 (HN5.out _ (by omega)), cell_app hgrow1 hHeld.2.2.2.2.2 (HN5.out _ (by omega))⟩ (fun hHeld => ?_)
          clear hK K
          try simp only [Act.put, List.setIfInBounds_toArray, List.set_cons_zero, List.set_cons_succ]
          refine wpAnyH_take (i := 19) (oi := ⟨some _, _, _, _, _, _⟩) (v := ?_) rfl (by kernel_rfl) (by kernel_rfl) (by kernel_rfl) (fun _ _ _ h => h) (Or.inl ⟨by rfl, ?_⟩) (by assumption) ?_
          rotate_left
          · (intro w hSw; (try dsimp only at hSw); go_simp; try with_reducible rfl)
          simp only [Act.put, List.setIfInBounds_toArray, List.set_cons_zero, List.set_cons_succ]
          refine wpAnyH_ready (rs := [18]) (by kernel_rfl) (by simp) ?_
          refine AllReadyH.cons rfl (fun K hK => ?_) AllReadyH.nil
          refine step_append_lies _ (by rfl) _ _ _ (by rfl) (Z + 1) 3 i0 _ 1 8 Try.underlying22 HI.out.1 HI.out.2.1 HI.out.2.2.1 HI.out.2.2.2 rfl (by omega) (.slice A6 l6.length c6) l6.length (l6.map (Value.int .i64)) rfl (own_grow (HZ.out.t.mid (by repeat (first | exact Below.refl _ _ | (with_reducible refine Below.drew ?_) | (with_reducible refine below_drewN ?_ _) | (with_reducible refine Below.alloc ?_ (by first | omega | (simp; done) | (simp; omega)) _) | (with_reducible refine Below.setCell ?_ (by first | omega | (simp; done) | (simp; omega)) _) | (refine Below.trans ?_ (Below.mono (by with_reducible assumption) (by first | omega | (simp; done) | (simp; omega)))))) hgrow1) (by repeat (first | exact Below.refl _ _ | (with_reducible refine Below.drew ?_) | (with_reducible refine below_drewN ?_ _) | (with_reducible refine Below.alloc ?_ (by first | omega | (simp; done) | (simp; omega)) _) | (with_reducible refine Below.setCell ?_ (by first | omega | (simp; done) | (simp; omega)) _) | (refine Below.trans ?_ (Below.mono (by with_reducible assumption) (by first | omega | (simp; done) | (simp; omega))))))) _ 1 1 [.int .i64 (-sg)] (by rfl) (by rfl) (World.news_of_block (cs := #[.int .i64 (-sg)]) (t := 3) (fr := (0, 0)) (by first | exact h_new1 _ _ | exact heap_gr hgrow1 (h_new2 _ _ _) (fun e => absurd (own_block HZ.out.t.o5 _ e).2 (by omega)) | exact heap_gr hgrow1 (h_old2 _ _ _) (fun e => absurd (own_block HZ.out.t.o5 _ e).2 (by omega)))) (by simp [Value.oneCell']) (by omega) (by simp only [maxLen]; omega) (by omega) (by have := hgrow1.size; simp at this ⊢; omega) _ rfl ?_
          intro g2 cp2 w2 hown2 hgrow2 hat2 hgl2
          have hbk2 := (hbk1.bel (by repeat (first | exact Below.refl _ _ | (with_reducible refine Below.drew ?_) | (with_reducible refine below_drewN ?_ _) | (with_reducible refine Below.alloc ?_ (by first | omega | (simp; done) | (simp; omega)) _) | (with_reducible refine Below.setCell ?_ (by first | omega | (simp; done) | (simp; omega)) _) | (refine Below.trans ?_ (Below.mono (by with_reducible assumption) (by first | omega | (simp; done) | (simp; omega))))))).grown hgrow2 (HN6.out Z (by omega))
          have z0b := hbk2.cell 0
          have z1b := hbk2.cell 1
          have f0b := hbk2.frozen 0
          have f1b := hbk2.frozen 1
          simp at z0b z1b
          refine hK.out _ _ ⟨cell_app hgrow2 hHeld.1 (HN6.out _ (by omega)), cell_app hgrow2 hHeld.2.1 (HN6.out _ (by omega)), cell_app hgrow2 hHeld.2.2.1 (HN6.out _ (by omega)), cell_app hgrow2 hHeld.2.2.2.1 (HN6.out _ (by omega)), cell_app hgrow2 hHeld.2.2.2.2.1 (HN6.out _ (by omega)), cell_app hgrow2 hHeld.2.2.2.2.2 (HN6.out _ (by omega))⟩ (fun hHeld => ?_)
          clear hK K
          try simp only [Act.put, List.setIfInBounds_toArray, List.set_cons_zero, List.set_cons_succ]
          refine wpAnyH_ready (rs := [20]) (by kernel_rfl) (by simp) ?_
          refine AllReadyH.cons rfl (fun K hK => ?_) AllReadyH.nil
          go_simp
          refine hK.out _ _ hHeld (fun hHeld => ?_)
          clear hK K
          refine wpAnyH_ready (rs := [21]) (by kernel_rfl) (by simp) ?_
          refine AllReadyH.cons rfl (fun K hK => ?_) AllReadyH.nil
          go_simp
          refine hK.out _ _ hHeld (fun hHeld => ?_)
          clear hK K
          refine wpAnyH_ready (rs := [22]) (by kernel_rfl) (by simp) ?_
          refine AllReadyH.cons rfl (fun K hK => ?_) AllReadyH.nil
          go_simp
          refine hK.out _ _ hHeld (fun hHeld => ?_)
          clear hK K
          clear hHeld
          refine wpAnyH_done (by kernel_rfl) ?_ _
          simp only [cutQ, List.drop_succ_cons, List.drop_zero]
          have HD := Lib.hid (HZ.out.t.done (by omega) (by repeat (first | exact Below.refl _ _ | (with_reducible refine Below.drew ?_) | (with_reducible refine below_drewN ?_ _) | (with_reducible refine Below.alloc ?_ (by first | omega | (simp; done) | (simp; omega)) _) | (with_reducible refine Below.setCell ?_ (by first | omega | (simp; done) | (simp; omega)) _) | (refine Below.trans ?_ (Below.mono (by with_reducible assumption) (by first | omega | (simp; done) | (simp; omega)))))) hgrow1 hown1 hat1 (by repeat (first | exact Below.refl _ _ | (with_reducible refine Below.drew ?_) | (with_reducible refine below_drewN ?_ _) | (with_reducible refine Below.alloc ?_ (by first | omega | (simp; done) | (simp; omega)) _) | (with_reducible refine Below.setCell ?_ (by first | omega | (simp; done) | (simp; omega)) _) | (refine Below.trans ?_ (Below.mono (by with_reducible assumption) (by first | omega | (simp; done) | (simp; omega)))))) hgrow2 hown2 hat2)
          have HZ2 := Lib.hid (HZ.out.next HD.out.2 HD.out.1)
          go_upto_region 9 with fail
          clear hgrow1 hown1 hat1 hgl1 hgrow2 hown2 hat2 hgl2 hbk1 hbk2 hzl1 z0b z1b f0b f1b y0 y1 z0 z1 r0 s0 e1
          (try simp only [NoPanic])
          go_wp2_with fail
          go_roundg j
          case measure => omega
          case rel => exact ⟨j, _, _, by first | rfl | go_num, rfl, by omega, by rw [HRa.out, HRs.out]; exact HZ2.out⟩
      · go_simp
        refine hK.out _ _ ⟨cell_bel ((Below.refl _ _).alloc (Nat.le_refl _) _) hHeld.1, cell_bel ((Below.refl _ _).alloc (Nat.le_refl _) _) hHeld.2.1, cell_bel ((Below.refl _ _).alloc (Nat.le_refl _) _) hHeld.2.2.1, cell_bel ((Below.refl _ _).alloc (Nat.le_refl _) _) hHeld.2.2.2.1, cell_bel ((Below.refl _ _).alloc (Nat.le_refl _) _) hHeld.2.2.2.2.1, cell_bel ((Below.refl _ _).alloc (Nat.le_refl _) _) hHeld.2.2.2.2.2⟩ (fun hHeld => ?_)
        clear hK K
        try simp only [Act.put, List.setIfInBounds_toArray, List.set_cons_zero, List.set_cons_succ]
        refine wpAnyH_ready (rs := [7]) (by kernel_rfl) (by simp) ?_
        refine AllReadyH.cons rfl (fun K hK => ?_) AllReadyH.nil
        go_simp
        refine hK.out _ _ ⟨cell_bel ((Below.refl _ _).alloc (Nat.le_refl _) _) hHeld.1, cell_bel ((Below.refl _ _).alloc (Nat.le_refl _) _) hHeld.2.1, cell_bel ((Below.refl _ _).alloc (Nat.le_refl _) _) hHeld.2.2.1, cell_bel ((Below.refl _ _).alloc (Nat.le_refl _) _) hHeld.2.2.2.1, cell_bel ((Below.refl _ _).alloc (Nat.le_refl _) _) hHeld.2.2.2.2.1, cell_bel ((Below.refl _ _).alloc (Nat.le_refl _) _) hHeld.2.2.2.2.2⟩ (fun hHeld => ?_)
        clear hK K
        try simp only [Act.put, List.setIfInBounds_toArray, List.set_cons_zero, List.set_cons_succ]
        refine wpAnyH_ready (rs := [8]) (by kernel_rfl) (by simp) ?_
        refine AllReadyH.cons rfl (fun K hK => ?_) AllReadyH.nil
        refine step_append_lies _ (by rfl) _ _ _ (by rfl) (Z + 1) 3 i0 _ 1 8 Try.underlying22 HI.out.1 HI.out.2.1 HI.out.2.2.1 HI.out.2.2.2 rfl (by omega) (.slice A5 l5.length c5) l5.length (l5.map (Value.int .i64)) rfl (own_grow HZ.out.t.o5 (by repeat (first | exact Below.refl _ _ | (with_reducible refine Below.drew ?_) | (with_reducible refine below_drewN ?_ _) | (with_reducible refine Below.alloc ?_ (by first | omega | (simp; done) | (simp; omega)) _) | (with_reducible refine Below.setCell ?_ (by first | omega | (simp; done) | (simp; omega)) _) | (refine Below.trans ?_ (Below.mono (by with_reducible assumption) (by first | omega | (simp; done) | (simp; omega))))))) _ 1 1 [.int .i64 ar] (by rfl) (by rfl) (World.news_of_block (cs := #[.int .i64 ar]) (t := 3) (fr := (0, 0)) (by first | exact h_new1 _ _ | exact h_old2 _ _ _ | exact h_new2 _ _ _)) (by simp [Value.oneCell']) (by omega) (by simp only [maxLen]; omega) (by omega) (by simp; omega) _ rfl ?_
        intro g1 cp1 w1 hown1 hgrow1 hat1 hgl1
        have hbk1 := (HZ.out.z.bel (by repeat (first | exact Below.refl _ _ | (with_reducible refine Below.drew ?_) | (with_reducible refine below_drewN ?_ _) | (with_reducible refine Below.alloc ?_ (by first | omega | (simp; done) | (simp; omega)) _) | (with_reducible refine Below.setCell ?_ (by first | omega | (simp; done) | (simp; omega)) _) | (refine Below.trans ?_ (Below.mono (by with_reducible assumption) (by first | omega | (simp; done) | (simp; omega))))))).grown hgrow1 (HN5.out Z (by omega))
        have hzl1 := hbk1.lt
        refine hK.out _ _ ⟨cell_app hgrow1 hHeld.1 (HN5.out _ (by omega)), cell_app hgrow1 hHeld.2.1 (HN5.out _ (by omega)), cell_app hgrow1 hHeld.2.2.1 (HN5.out _ (by omega)), cell_app hgrow1 hHeld.2.2.2.1 (HN5.out _ (by omega)), cell_app hgrow1 hHeld.2.2.2.2.1 (HN5.out _ (by omega)), cell_app hgrow1 hHeld.2.2.2.2.2 (HN5.out _ (by omega))⟩ (fun hHeld => ?_)
        clear hK K
        try simp only [Act.put, List.setIfInBounds_toArray, List.set_cons_zero, List.set_cons_succ]
        refine wpAnyH_take (i := 19) (oi := ⟨some _, _, _, _, _, _⟩) (v := ?_) rfl (by kernel_rfl) (by kernel_rfl) (by kernel_rfl) (fun _ _ _ h => h) (Or.inl ⟨by rfl, ?_⟩) (by assumption) ?_
        rotate_left
        · (intro w hSw; (try dsimp only at hSw); go_simp; try with_reducible rfl)
        simp only [Act.put, List.setIfInBounds_toArray, List.set_cons_zero, List.set_cons_succ]
        refine wpAnyH_ready (rs := [18]) (by kernel_rfl) (by simp) ?_
        refine AllReadyH.cons rfl (fun K hK => ?_) AllReadyH.nil
        refine step_append_lies _ (by rfl) _ _ _ (by rfl) (Z + 1) 3 i0 _ 1 8 Try.underlying22 HI.out.1 HI.out.2.1 HI.out.2.2.1 HI.out.2.2.2 rfl (by omega) (.slice A6 l6.length c6) l6.length (l6.map (Value.int .i64)) rfl (own_grow (HZ.out.t.mid (by repeat (first | exact Below.refl _ _ | (with_reducible refine Below.drew ?_) | (with_reducible refine below_drewN ?_ _) | (with_reducible refine Below.alloc ?_ (by first | omega | (simp; done) | (simp; omega)) _) | (with_reducible refine Below.setCell ?_ (by first | omega | (simp; done) | (simp; omega)) _) | (refine Below.trans ?_ (Below.mono (by with_reducible assumption) (by first | omega | (simp; done) | (simp; omega)))))) hgrow1) (by repeat (first | exact Below.refl _ _ | (with_reducible refine Below.drew ?_) | (with_reducible refine below_drewN ?_ _) | (with_reducible refine Below.alloc ?_ (by first | omega | (simp; done) | (simp; omega)) _) | (with_reducible refine Below.setCell ?_ (by first | omega | (simp; done) | (simp; omega)) _) | (refine Below.trans ?_ (Below.mono (by with_reducible assumption) (by first | omega | (simp; done) | (simp; omega))))))) _ 1 1 [.int .i64 (-sg)] (by rfl) (by rfl) (World.news_of_block (cs := #[.int .i64 (-sg)]) (t := 3) (fr := (0, 0)) (by first | exact h_new1 _ _ | exact heap_gr hgrow1 (h_new2 _ _ _) (fun e => absurd (own_block HZ.out.t.o5 _ e).2 (by omega)) | exact heap_gr hgrow1 (h_old2 _ _ _) (fun e => absurd (own_block HZ.out.t.o5 _ e).2 (by omega)))) (by simp [Value.oneCell']) (by omega) (by simp only [maxLen]; omega) (by omega) (by have := hgrow1.size; simp at this ⊢; omega) _ rfl ?_
        intro g2 cp2 w2 hown2 hgrow2 hat2 hgl2
        have hbk2 := (hbk1.bel (by repeat (first | exact Below.refl _ _ | (with_reducible refine Below.drew ?_) | (with_reducible refine below_drewN ?_ _) | (with_reducible refine Below.alloc ?_ (by first | omega | (simp; done) | (simp; omega)) _) | (with_reducible refine Below.setCell ?_ (by first | omega | (simp; done) | (simp; omega)) _) | (refine Below.trans ?_ (Below.mono (by with_reducible assumption) (by first | omega | (simp; done) | (simp; omega))))))).grown hgrow2 (HN6.out Z (by omega))
        have z0b := hbk2.cell 0
        have z1b := hbk2.cell 1
        have f0b := hbk2.frozen 0
        have f1b := hbk2.frozen 1
        simp at z0b z1b
        refine hK.out _ _ ⟨cell_app hgrow2 hHeld.1 (HN6.out _ (by omega)), cell_app hgrow2 hHeld.2.1 (HN6.out _ (by omega)), cell_app hgrow2 hHeld.2.2.1 (HN6.out _ (by omega)), cell_app hgrow2 hHeld.2.2.2.1 (HN6.out _ (by omega)), cell_app hgrow2 hHeld.2.2.2.2.1 (HN6.out _ (by omega)), cell_app hgrow2 hHeld.2.2.2.2.2 (HN6.out _ (by omega))⟩ (fun hHeld => ?_)
        clear hK K
        try simp only [Act.put, List.setIfInBounds_toArray, List.set_cons_zero, List.set_cons_succ]
        refine wpAnyH_ready (rs := [20]) (by kernel_rfl) (by simp) ?_
        refine AllReadyH.cons rfl (fun K hK => ?_) AllReadyH.nil
        go_simp
        refine hK.out _ _ hHeld (fun hHeld => ?_)
        clear hK K
        refine wpAnyH_ready (rs := [21]) (by kernel_rfl) (by simp) ?_
        refine AllReadyH.cons rfl (fun K hK => ?_) AllReadyH.nil
        go_simp
        refine hK.out _ _ hHeld (fun hHeld => ?_)
        clear hK K
        refine wpAnyH_ready (rs := [22]) (by kernel_rfl) (by simp) ?_
        refine AllReadyH.cons rfl (fun K hK => ?_) AllReadyH.nil
        go_simp
        refine hK.out _ _ hHeld (fun hHeld => ?_)
        clear hK K
        clear hHeld
        refine wpAnyH_done (by kernel_rfl) ?_ _
        simp only [cutQ, List.drop_succ_cons, List.drop_zero]
        have HD := Lib.hid (HZ.out.t.done (by omega) (by repeat (first | exact Below.refl _ _ | (with_reducible refine Below.drew ?_) | (with_reducible refine below_drewN ?_ _) | (with_reducible refine Below.alloc ?_ (by first | omega | (simp; done) | (simp; omega)) _) | (with_reducible refine Below.setCell ?_ (by first | omega | (simp; done) | (simp; omega)) _) | (refine Below.trans ?_ (Below.mono (by with_reducible assumption) (by first | omega | (simp; done) | (simp; omega)))))) hgrow1 hown1 hat1 (by repeat (first | exact Below.refl _ _ | (with_reducible refine Below.drew ?_) | (with_reducible refine below_drewN ?_ _) | (with_reducible refine Below.alloc ?_ (by first | omega | (simp; done) | (simp; omega)) _) | (with_reducible refine Below.setCell ?_ (by first | omega | (simp; done) | (simp; omega)) _) | (refine Below.trans ?_ (Below.mono (by with_reducible assumption) (by first | omega | (simp; done) | (simp; omega)))))) hgrow2 hown2 hat2)
        have HZ2 := Lib.hid (HZ.out.next HD.out.2 HD.out.1)
        go_upto_region 9 with fail
        clear hgrow1 hown1 hat1 hgl1 hgrow2 hown2 hat2 hgl2 hbk1 hbk2 hzl1 z0b z1b f0b f1b y0 y1 z0 z1 r0 s0 e1
        (try simp only [NoPanic])
        go_wp2_with fail
        go_roundg j
        case measure => omega
        case rel => exact ⟨j, _, _, by first | rfl | go_num, rfl, by omega, by rw [HRa.out, HRs.out]; exact HZ2.out⟩
end Go.Proofs.Ytcgamkldlmmdnaa
