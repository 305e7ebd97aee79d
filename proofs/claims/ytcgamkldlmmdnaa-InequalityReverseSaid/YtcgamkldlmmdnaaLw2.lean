import Derived.Test.YtcgamkldlmmdnaaLw1
namespace Go.Proofs.Ytcgamkldlmmdnaa
open Go.RowKit

theorem LwN.drew {w wr : World} {X : Nat} {T : Int} {AE AA : Option Addr} {ne ce ca : Nat} {acts : List Act} (h : LwN w wr X T AE AA ne ce ca acts) : LwN w wr.drew X T AE AA ne ce ca acts := h.grow (Below.refl _ _).drew
theorem sep_none {T : Int} {ne : Nat} {acts : List Act} {x : List Int} (hn : NetOk T ne acts) : ∀ (l : List Cyc) (i : Nat), (∀ c ∈ l, CycOk T ne acts c.arcs c.signs) → sepR T ne acts (slkL T acts x) l i (-1) 0 = (-1, 0, 0)
  | [], _, _ => rfl
  | c :: l, i, h => by
    have hk := h c List.mem_cons_self
    have hE := leftE_ok (cycB_yes hk) (slkL_ok (acts := acts) (x := x) hn.t0 hn.t1)
    have hr := nacht (x := x) hk
    unfold sepR
    rw [if_pos hE.1, hE.2, if_neg (by omega)]
    exact sep_none hn l (i + 1) (fun c hc => h c (List.mem_cons_of_mem _ hc))

set_option maxRecDepth 100000 in
set_option maxHeartbeats 6400000 in
theorem nothingSep_true (A0 : Option Addr) (n0 c0 : Nat) (z0 : List Int) (A1 : Option Addr) (n1 c1 : Nat) (z1 : List Int) (w : World) (h0 : Rd w w.heap.size 1 A0 n0 (z0.map (Value.int .i64))) (m0 : n0 ≤ c0 ∧ c0 ≤ maxLen ∧ c0 * 8 ≤ 140737488351232) (h1 : Rd w w.heap.size 1 A1 n1 (z1.map (Value.int .i64))) (m1 : n1 ≤ c1 ∧ c1 ≤ maxLen ∧ c1 * 8 ≤ 140737488351232) :
    Calls Try.prog 6 #[.slice A0 n0 c0, .slice A1 n1 c1] w fun e w' => e = .returned (.bool true) ∧ Below w.heap.size w w' := by
  have H0 := Lib.hid h0
  have H1 := Lib.hid h1
  have Hm0 := Lib.hid (show n0 ≤ maxLen by omega)
  have Hm1 := Lib.hid (show n1 ≤ maxLen by omega)
  clear h0 h1 m0 m1
  go_enter Try.func6, Try.ntmps6
  go_wp2_with fail
  refine (mknet_any A0 n0 c0 z0 w H0.out Hm0.out).mono ?_
  rintro e w1 ⟨T, AE, AA, ne, ce, ca, acts, rfl, hsm, ho, hb1⟩
  have HN := Lib.hid hsm.ok
  have ht0 := hsm.t0
  have ht1 := hsm.t1
  have hne := hsm.e1
  have hna := hsm.n
  have Hb1 := Lib.hid hb1
  have HA1 := Lib.hid (Rd.of_own ho)
  clear hsm ho hb1
  go_upto_region 2 with fail
  refine world_gen (fun w2 => LwN w w2 w1.heap.size T AE AA ne ce ca acts) (LwN.mk' Hb1.out HA1.out) ?_
  intro w2 hl2
  generalize w1.heap.size = X at *
  have HL := Lib.hid hl2
  clear hl2 Hb1 HA1
  have x0 := HL.out.x.cell 0
  have x1 := HL.out.x.cell 1
  have x2 := HL.out.x.cell 2
  simp at x0 x1 x2
  have hxl := HL.out.x.lt
  go_region_held3 (fun w' => w'.cell? ⟨X, 0, none⟩ = some (.int .i64 T) ∧ w'.cell? ⟨X, 1, none⟩ = some (.slice AE ne ce) ∧ w'.cell? ⟨X, 2, none⟩ = some (.slice AA acts.length ca))
    (first | go_keep | (go_split_ands; (repeat (refine And.intro (cell_bel hb7 (by assumption)) ?_)); exact cell_bel hb7 (by assumption)) | (go_split_ands; (repeat (refine And.intro (cell_bel hb6 (by assumption)) ?_)); exact cell_bel hb6 (by assumption)) | (go_split_ands; (repeat (refine And.intro (cell_bel hb5 (by assumption)) ?_)); exact cell_bel hb5 (by assumption)) | (go_split_ands; (repeat (refine And.intro (cell_bel hb4 (by assumption)) ?_)); exact cell_bel hb4 (by assumption)))
    (first | (go_at_call 13; refine (lfund_any T AE AA ne ce ca acts _ HL.out.drew.a HN.out).mono ?_; rintro e w4 ⟨hb4, Ac, cc, l, rfl, hm, hc, hr⟩; have HCk := Lib.hid hc; have HCs := Lib.hid hr; have HL4 := Lib.hid (HL.out.drew.grow hb4); clear hm hc hr) | (go_at_call 18; refine (times_any T AE AA A1 ne ce acts.length ca n1 c1 z1 _ ((H1.out.grow HL4.out.bel).more HL4.out.bel.size) Hm1.out (by omega) (by omega) (by omega)).mono ?_; rintro e w5 ⟨At, ct, x, rfl, hxn, hxr, hrx, hb5⟩; have HX5 := Lib.hid (show TmOk T ne x from ⟨hxn, hxr⟩); have HR5 := Lib.hid hrx; have HL5 := Lib.hid (HL4.out.grow hb5); have HCs5 := Lib.hid (HCs.out.grow hb5); clear hxn hxr hrx) | (go_at_call 17; refine (slacks_any T AE AA At ne ce ca ct acts x _ HL5.out.a HN.out HR5.out HX5.out).mono ?_; rintro e w6 ⟨As6, cs6, rfl, hrs6, hb6⟩; have HR6 := Lib.hid hrs6; have HL6 := Lib.hid (HL5.out.grow hb6); have HCs6 := Lib.hid (HCs5.out.grow hb6); clear hrs6) | (go_at_call 25; refine (separate_any T AE AA As6 Ac ne ce ca cs6 cc acts (slkL T acts x) l _ HL6.out.a (by omega) (by omega) HCs6.out HR6.out (by simp [slkL]; omega)).mono ?_; rintro e w7 ⟨rfl, hb7⟩))
  have hs : sepV T ne acts (slkL T acts x) l = (-1, 0, 0) := sep_none HN.out l 0 HCk.out
  rw [hs]
  have HL7 := Lib.hid (HL6.out.grow hb7)
  clear x0 x1 x2 hxl hs HL HL4 HL5 HL6 HCs HCs5 HCs6 hb4 hb5 hb6 hb7
  go_wp2_with fail
  refine (awake_any w7).mono ?_
  rintro e w8 ⟨rfl, hb8⟩
  have HL8 := Lib.hid (HL7.out.grow hb8)
  clear HL7 hb8
  go_wp2_with fail
  go_ret
  exact ⟨rfl, HL8.out.bel⟩
end Go.Proofs.Ytcgamkldlmmdnaa
