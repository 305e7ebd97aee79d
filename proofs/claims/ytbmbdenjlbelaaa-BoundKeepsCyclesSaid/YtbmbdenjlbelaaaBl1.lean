import Derived.Test.YtbmbdenjlbelaaaBdMath3
import Derived.Test.YtbmbdenjlbelaaaSlk2
namespace Go.Proofs.Ytbmbdenjlbelaaa
open Go.RowKit

/-- the network that a law holds in its block X -/
structure LwN (w wr : World) (X : Nat) (T : Int) (AE AA : Option Addr) (ne ce ca : Nat) (acts : List Act) : Prop where
  bel : Below w.heap.size w wr
  x : Blk wr X 26 #[.int .i64 T, .slice AE ne ce, .slice AA acts.length ca]
  a : Rd wr wr.heap.size 6 AA acts.length (acts.flatMap Act.cells)
section
variable {w wr w' : World} {X : Nat} {T : Int} {AE AA : Option Addr} {ne ce ca : Nat} {acts : List Act}
theorem LwN.grow (h : LwN w wr X T AE AA ne ce ca acts) (hb : Below wr.heap.size wr w') : LwN w w' X T AE AA ne ce ca acts :=
  ⟨h.bel.trans (hb.mono h.bel.size), h.x.bel hb, (h.a.grow hb).more hb.size⟩
theorem LwN.drew (h : LwN w wr X T AE AA ne ce ca acts) : LwN w wr.drew X T AE AA ne ce ca acts := h.grow (Below.refl _ _).drew
theorem LwN.mk' (hb : Below w.heap.size w wr) (ha : Rd wr wr.heap.size 6 AA acts.length (acts.flatMap Act.cells)) : LwN w (wr.alloc (.cells #[.int .i64 T, .slice AE ne ce, .slice AA acts.length ca] 26)) wr.heap.size T AE AA ne ce ca acts :=
  have hb' : Below wr.heap.size wr (wr.alloc (.cells #[.int .i64 T, .slice AE ne ce, .slice AA acts.length ca] 26)) := (Below.refl _ _).alloc (Nat.le_refl _) _
  ⟨hb.trans (hb'.mono hb.size), Blk.new _ _ _, (ha.grow hb').more hb'.size⟩
end

set_option maxRecDepth 100000 in
set_option maxHeartbeats 3200000 in
theorem isLower_true (A0 : Option Addr) (n0 c0 : Nat) (z0 : List Int) (A1 : Option Addr) (n1 c1 : Nat) (z1 : List Int) (A2 : Option Addr) (n2 c2 : Nat) (z2 : List Int) (w : World) (h0 : Rd w w.heap.size 1 A0 n0 (z0.map (Value.int .i64))) (m0 : n0 ≤ c0 ∧ c0 ≤ maxLen ∧ c0 * 8 ≤ 140737488351232) (h1 : Rd w w.heap.size 1 A1 n1 (z1.map (Value.int .i64))) (m1 : n1 ≤ c1 ∧ c1 ≤ maxLen ∧ c1 * 8 ≤ 140737488351232) (h2 : Rd w w.heap.size 1 A2 n2 (z2.map (Value.int .i64))) (m2 : n2 ≤ c2 ∧ c2 ≤ maxLen ∧ c2 * 8 ≤ 140737488351232) :
    Calls Try.prog 3 #[.slice A0 n0 c0, .slice A1 n1 c1, .slice A2 n2 c2] w fun e w' => e = .returned (.bool true) ∧ Below w.heap.size w w' := by
  have H0 := Lib.hid h0
  have H1 := Lib.hid h1
  have H2 := Lib.hid h2
  have Hm0 := Lib.hid (show n0 ≤ maxLen by omega)
  have Hm1 := Lib.hid (show n1 ≤ maxLen by omega)
  have Hm2 := Lib.hid (show n2 ≤ maxLen by omega)
  clear h0 h1 h2 m0 m1 m2
  go_enter Try.func3, Try.ntmps3
  go_wp2_with fail
  refine (mkslack_any A0 n0 c0 z0 w H0.out Hm0.out).mono ?_
  rintro e w1 ⟨T, AE, AA, ne, ce, ca, acts, rfl, hsm, ho, hb1⟩
  have HN := Lib.hid hsm.ok
  have ht0 := hsm.t0
  have ht1 := hsm.t1
  have hne := hsm.e1
  have hna := hsm.n
  have Hb1 := Lib.hid hb1
  have HA1 := Lib.hid (Rd.of_own ho)
  clear hsm ho hb1
  go_upto_region 2 with fail
  refine world_gen (fun w2 => LwN w w2 w1.heap.size T AE AA ne ce ca acts) (LwN.mk' Hb1.out HA1.out) ?_
  intro w2 hl2
  generalize w1.heap.size = X at *
  have HL := Lib.hid hl2
  clear hl2 Hb1 HA1
  have x0 := HL.out.x.cell 0
  have x1 := HL.out.x.cell 1
  have x2 := HL.out.x.cell 2
  simp at x0 x1 x2
  go_wp2_with fail
  refine (times_any T AE AA A1 ne ce acts.length ca n1 c1 z1 w2 ((H1.out.grow HL.out.bel).more HL.out.bel.size) Hm1.out (by omega) (by omega) (by omega)).mono ?_
  rintro e w5 ⟨At, ct, x, rfl, hxn, hxr, hrx, hb5⟩
  have HX5 := Lib.hid (show TmOk T ne x from ⟨hxn, hxr⟩)
  have HR5 := Lib.hid hrx
  have HL5 := Lib.hid (HL.out.grow hb5)
  clear hxn hxr hrx hb5 x0 x1 x2 HL
  have HL := HL5
  clear HL5
  go_upto_region 3 with fail
  have x0 := HL.out.x.cell 0
  have x1 := HL.out.x.cell 1
  have x2 := HL.out.x.cell 2
  simp at x0 x1 x2
  have hxl := HL.out.x.lt
  go_region_held3 (fun w' => w'.cell? ⟨X, 0, none⟩ = some (.int .i64 T) ∧ w'.cell? ⟨X, 1, none⟩ = some (.slice AE ne ce) ∧ w'.cell? ⟨X, 2, none⟩ = some (.slice AA acts.length ca))
    (first | go_keep | (go_split_ands; exact ⟨cell_bel hb7 (by assumption), cell_bel hb7 (by assumption), cell_bel hb7 (by assumption)⟩) | (go_split_ands; exact ⟨cell_bel hb6 (by assumption), cell_bel hb6 (by assumption), cell_bel hb6 (by assumption)⟩))
    (first | (go_at_call 16; refine (some_any T AE AA A2 ne ce ca n2 c2 acts z2 _ HL.out.drew.a HN.out ((H2.out.grow HL.out.drew.bel).more HL.out.drew.bel.size) Hm2.out).mono ?_; rintro e w6 ⟨Ap, cp, ps, rfl, hpr, hso, hp3, hpc, _, hb6⟩; have HPr := Lib.hid hpr; have HSo := Lib.hid hso; have HL6 := Lib.hid (HL.out.drew.grow hb6); have HR6 := Lib.hid ((HR5.out.grow ((Below.refl _ _).drew.trans hb6)).more ((Below.refl _ _).drew.trans hb6).size); clear hpr hso) | (go_at_call 15; refine (check_any T AE AA Ap ne ce ca cp acts ps _ HL6.out.a (by omega) (by omega) HPr.out).mono ?_; rintro e w7 ⟨rfl, hb7⟩; have HL7 := Lib.hid (HL6.out.grow hb7); have HR7 := Lib.hid ((HR6.out.grow hb7).more hb7.size)))
  have HEr := Lib.hid (some_err HN.out HSo.out)
  have HLw := Lib.hid (show feas T acts x → chkE T ne acts ps = 0 → chkV T ne acts ps ≤ sumN (coT T acts x) acts.length from lower_law)
  generalize chkE T ne acts ps = er at *
  generalize chkV T ne acts ps = bv at *
  clear x0 x1 x2 hxl HL HL6 HR5 HR6 hb6 hb7
  have HL := HL7
  clear HL7
  have x0 := HL.out.x.cell 0
  have x1 := HL.out.x.cell 1
  have x2 := HL.out.x.cell 2
  simp at x0 x1 x2
  go_wp2_with fail
  refine (feasible_any T AE AA At ne ce ca ct acts x w7 HL.out.a HN.out HR7.out HX5.out).mono ?_
  rintro e w8 ⟨rfl, hb8⟩
  have HL8 := Lib.hid (HL.out.grow hb8)
  have HR8 := Lib.hid ((HR7.out.grow hb8).more hb8.size)
  clear HL HR7 hb8 x0 x1 x2
  have HL := HL8
  clear HL8
  by_cases h0 : er = 0
  case neg =>
    have h0' : (er != 0) = true := by simpa using h0
    have h00 : (er == 0) = false := by simpa using h0
    have h4 : er = 4 ∨ er = 14 := by have := HEr.out; omega
    cases feasB T acts x
    all_goals
      rcases h4 with rfl | rfl
      all_goals
        go_wp2_with fail
        refine (awake_any w8).mono ?_
        rintro e w9 ⟨rfl, hb9⟩
        have HB9 := Lib.hid (HL.out.grow hb9).bel
        clear hb9
        go_wp2_with fail
        go_ret
        exact ⟨rfl, HB9.out⟩
  subst h0
  cases hfb : feasB T acts x
  case false =>
    clear hfb
    go_wp2_with fail
    refine (awake_any w8).mono ?_
    rintro e w9 ⟨rfl, hb9⟩
    have HB9 := Lib.hid (HL.out.grow hb9).bel
    clear hb9
    go_wp2_with fail
    go_ret
    exact ⟨rfl, HB9.out⟩
  have hlw := HLw.out (feasB_iff.1 hfb) rfl
  clear hfb
  have x0 := HL.out.x.cell 0
  have x1 := HL.out.x.cell 1
  have x2 := HL.out.x.cell 2
  simp at x0 x1 x2
  go_wp2_with fail
  refine (cost_any T AE AA At ne ce ca ct acts x w8 HL.out.a HN.out HR8.out HX5.out).mono ?_
  rintro e w9 ⟨rfl, hb9⟩
  have HL9 := Lib.hid (HL.out.grow hb9)
  clear HL hb9 x0 x1 x2
  generalize sumN (coT T acts x) acts.length = cv at *
  go_wp2_with fail
  refine (awake_any w9).mono ?_
  rintro e wa ⟨rfl, hba⟩
  have HBa := Lib.hid (HL9.out.grow hba).bel
  clear hba
  have hlw' : decide (bv ≤ cv) = true := by simpa using hlw
  go_wp2_with fail
  go_ret
  exact ⟨rfl, HBa.out⟩
end Go.Proofs.Ytbmbdenjlbelaaa
