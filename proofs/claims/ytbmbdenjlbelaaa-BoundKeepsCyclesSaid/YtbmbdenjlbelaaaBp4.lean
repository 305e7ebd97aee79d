import Derived.Test.YtbmbdenjlbelaaaBp1
import Derived.Test.YtbmbdenjlbelaaaSmc
namespace Go.Proofs.Ytbmbdenjlbelaaa
open Go.RowKit
theorem own_ne2 {w : World} {base base' : Nat} {e e' : TypeId} {sz sz' n n' : Nat} {v v' : Value} {xs xs' : List Value} (h : w.ownsRow base e sz v n xs) (h' : w.ownsRow base' e' sz' v' n' xs') (hne : e ≠ e') {g : Nat} (hg : v'.ownBlock = some g) : v.ownBlock ≠ some g := by
  intro hv
  rcases h.2 with ⟨rfl, _⟩ | ⟨g1, cap, cur, rfl, _, hh, _⟩
  · simp [Value.ownBlock] at hv
  · rcases h'.2 with ⟨rfl, _⟩ | ⟨g2, cap', cur', rfl, _, hh', _⟩
    · simp [Value.ownBlock] at hg
    · simp [Value.ownBlock] at hv hg
      subst hv hg
      rw [hh] at hh'
      injection hh' with hh'
      injection hh' with _ h2
      exact hne h2
/-- a row of numbers, whatever they are -/
def AnyRow (w : World) (base : Nat) (A : Option Addr) (n c : Nat) : Prop := ∃ zs : List Int, w.ownsRow base 3 1 (.slice A n c) n (zs.map (Value.int .i64))
theorem AnyRow.set {w : World} {base n c g j : Nat} {A : Option Addr} {v : Int} (h : AnyRow w base A n c) : AnyRow (w.setCell ⟨g, j, none⟩ (.int .i64 v)) base A n c := by
  obtain ⟨zs, h⟩ := h
  by_cases hv : (Value.slice A n c).ownBlock = some g
  · cases A with
    | none => simp [Value.ownBlock] at hv
    | some a =>
      rcases h.2 with ⟨e, _⟩ | ⟨g', cap', cur, e, _⟩
      · injection e with e; cases e
      · injection e with e _ e3
        injection e with e
        subst e e3
        simp [Value.ownBlock] at hv
        subst hv
        exact ⟨zs.set j v, own1_set h j v⟩
  · exact ⟨zs, own_far h hv⟩
structure KcS (w3 wr : World) (B : Nat) (Ap : Option Addr) (cp : Nat) (ps : List Prt) : Prop where
  bel : Below B w3 wr
  o : wr.ownsRow B 47 3 (.slice Ap ps.length cp) ps.length (ps.flatMap Prt.cells)
  c : ∀ p ∈ ps, AnyRow wr B p.c.Ar p.c.arcs.length p.c.cr ∧ AnyRow wr B p.c.As p.c.signs.length p.c.cs
theorem KcS.set {w3 wr : World} {B : Nat} {Ap : Option Addr} {cp : Nat} {ps : List Prt} {A : Option Addr} {n c g j : Nat} {v : Int} (h : KcS w3 wr B Ap cp ps) (hr : AnyRow wr B A n c) (hg : (Value.slice A n c).ownBlock = some g) : KcS w3 (wr.setCell ⟨g, j, none⟩ (.int .i64 v)) B Ap cp ps := by
  obtain ⟨zs, hz⟩ := hr
  refine ⟨h.bel.setCell (own_block hz g hg).1 _, own_far h.o (own_ne2 h.o hz (by decide) hg), fun p hp => ⟨(h.c p hp).1.set, (h.c p hp).2.set⟩⟩
theorem any_form {w : World} {base n c : Nat} {A : Option Addr} (h : AnyRow w base A n c) (hn : 0 < n) : ∃ g, A = some ⟨g, 0, none⟩ ∧ g < w.heap.size ∧ n ≤ c ∧ ∀ j, j < n → ((∃ u, w.cell? ⟨g, j, none⟩ = some u) ∧ w.frozen? ⟨g, j, none⟩ = false) := by
  obtain ⟨zs, hz⟩ := h
  obtain ⟨g, cap, e, hb, hl⟩ := hz.form hn
  injection e with e1 _ e3
  subst e1 e3
  have hlen := own1_len hz
  obtain ⟨_, _, e, hnc, _⟩ := own_slice hz
  injection e with _ _ e
  exact ⟨g, rfl, hl, by omega, fun j hj => ⟨⟨_, own1 hz j (by omega)⟩, hz.frozenAt j⟩⟩
theorem rdPrt' {w : World} {B n : Nat} {A : Option Addr} {xs : List Prt} (h : Rd w B 3 A n (xs.flatMap Prt.cells)) (hn : n = xs.length) {j : Nat} {p : Prt} (hp : xs[j]? = some p) :
    ∃ b off, A = some ⟨b, off, none⟩ ∧ b < B ∧ w.cell? ⟨b, off + j * 3, none⟩ = some (.slice p.c.Ar p.c.arcs.length p.c.cr) ∧ w.cell? ⟨b, off + j * 3 + 1, none⟩ = some (.slice p.c.As p.c.signs.length p.c.cs) ∧ w.cell? ⟨b, off + j * 3 + 2, none⟩ = some (.int .i64 p.tm) := by
  obtain ⟨hj, rfl⟩ := List.getElem?_eq_some_iff.1 hp
  exact rdPrt h hn j hj
theorem cy_at {l l' : List Cyc} (h : l'.map cyP = l.map cyP) (i : Nat) (h1 : i < l.length) (h2 : i < l'.length) : l'[i].arcs = l[i].arcs ∧ l'[i].signs = l[i].signs := by
  have h3 := congrArg (fun l => l[i]?) h
  simp [h1, h2, cyP] at h3
  exact h3
def KL1 (w3 : World) (B : Nat) (Ap : Option Addr) (cp : Nat) (ps : List Prt) (k : Nat) (v : Value) (wr : World) : Prop :=
  ∃ j : Nat, v = .int .i64 j ∧ j + k = ps.length ∧ KcS w3 wr B Ap cp ps
def KL2 (w3 : World) (B : Nat) (Ap : Option Addr) (cp : Nat) (ps : List Prt) (n : Nat) (k : Nat) (v : Value) (wr : World) : Prop :=
  ∃ j : Nat, v = .int .i64 j ∧ j + k = n ∧ KcS w3 wr B Ap cp ps

set_option maxRecDepth 100000 in
set_option maxHeartbeats 3200000 in
theorem keepsCycles_true (A0 : Option Addr) (n0 c0 : Nat) (z0 : List Int) (w : World) (h0 : Rd w w.heap.size 1 A0 n0 (z0.map (Value.int .i64))) (m0 : n0 ≤ c0 ∧ c0 ≤ maxLen ∧ c0 * 8 ≤ 140737488351232) :
    Calls Try.prog 7 #[.slice A0 n0 c0] w fun e w' => e = .returned (.bool true) ∧ Below w.heap.size w w' := by
  have H0 := Lib.hid h0
  have Hm0 := Lib.hid (show n0 ≤ maxLen by omega)
  clear h0 m0
  go_enter Try.func7, Try.ntmps7
  go_wp2_with fail
  refine (mkslack_any A0 n0 c0 z0 w H0.out Hm0.out).mono ?_
  rintro e w1 ⟨T, AE, AA, ne, ce, ca, acts, rfl, hsm, ho, hb1⟩
  have HN := Lib.hid hsm.ok
  have ht0 := hsm.t0
  have ht1 := hsm.t1
  have hne := hsm.e1
  have hna := hsm.n
  have Hb1 := Lib.hid hb1
  have HA1 := Lib.hid (Rd.of_own ho)
  clear hsm ho hb1
  go_upto_region 2 with fail
  refine world_gen (fun w2 => LwN w w2 w1.heap.size T AE AA ne ce ca acts) (LwN.mk' Hb1.out HA1.out) ?_
  intro w2 hl2
  generalize w1.heap.size = X at *
  have HL := Lib.hid hl2
  clear hl2 Hb1 HA1
  have x0 := HL.out.x.cell 0
  have x1 := HL.out.x.cell 1
  have x2 := HL.out.x.cell 2
  simp at x0 x1 x2
  go_wp2_with fail
  refine (lfund_any3 T AE AA ne ce ca acts w2 HL.out.a HN.out).mono ?_
  rintro e w3 ⟨hb3, Ac, cc, l, rfl, hm, hc, hr, hcp, _, _⟩
  have hll := fund_len hm (by omega)
  have HCm := Lib.hid hm
  have HCk := Lib.hid hc
  have HCs := Lib.hid hr
  have HL3 := Lib.hid (HL.out.grow hb3)
  clear hm hc hr hcp hb3 x0 x1 x2 HL
  have HL := HL3
  clear HL3
  have x0 := HL.out.x.cell 0
  have x1 := HL.out.x.cell 1
  have x2 := HL.out.x.cell 2
  simp at x0 x1 x2
  go_wp2_with fail
  refine (pack_any T AE AA Ac ne ce ca cc acts l w3 HL.out.a (by omega) (by omega) HCs.out (by omega)).mono ?_
  rintro e w4 ⟨Ap, cp, ps, rfl, hps, hpo, hpc, hb4⟩
  have hpl : ps.length ≤ 512 := by
    have h1 := congrArg List.length hps
    rw [List.length_map] at h1
    have h2 := packO_len (T := T) (ne := ne) (acts := acts) (l := l)
    omega
  have HK := Lib.hid (show KcS w3 w4 w3.heap.size Ap cp ps from ⟨hb4, hpo, fun p hp => ⟨⟨_, (hpc p hp).r⟩, ⟨_, (hpc p hp).s⟩⟩⟩)
  have HSz := Lib.hid (show ∀ p ∈ ps, p.c.arcs.length ≤ 4611686018427387904 ∧ p.c.signs.length ≤ 4611686018427387904 from fun p hp => ⟨(hpc p hp).hr, (hpc p hp).hs⟩)
  have HEr := Lib.hid (packE_cyc HN.out HCk.out)
  generalize packE T ne acts l = er at *
  generalize packB T ne acts l = bv at *
  clear hps hpo hpc hb4 x0 x1 x2 HCk
  go_wp2_with fail
  go_loopg [8, 9, 10, 24] ps.length (fun k _ _ _ v wr => KL1 w3 w3.heap.size Ap cp ps k v wr)
  case atStart => exact ⟨0, rfl, by omega, HK.out⟩
  case round =>
    obtain ⟨i, rfl, hi, hk⟩ := hrel
    clear HK
    have Hi := Lib.hid hi
    have HK := Lib.hid hk
    clear hi hk
    by_cases hlt : i < ps.length
    · have HPi := Lib.hid (List.getElem?_eq_getElem hlt)
      have HMi := Lib.hid (List.getElem_mem hlt)
      generalize ps[i] = p at *
      obtain ⟨⟨Ar, cr, As, cs, arcs, signs⟩, tm⟩ := p
      obtain ⟨bp, op, rfl, hbp, d0, _, _⟩ := rdPrt' (Rd.of_own HK.out.o) rfl HPi.out
      have hsz := HSz.out _ HMi.out
      obtain ⟨hsr, hss⟩ := hsz
      simp only at d0 hsr hss
      go_wp2_with fail
      clear d0
      go_loopg [9, 34] arcs.length (fun k _ v wr => KL2 w3 w3.heap.size (some ⟨bp, op, none⟩) cp ps arcs.length k v wr)
      case atStart => exact ⟨0, rfl, by omega, HK.out⟩
      case round =>
        obtain ⟨j, rfl, hj, hk⟩ := hrel
        clear HK hbp
        have Hj := Lib.hid hj
        have HK := Lib.hid hk
        clear hj hk
        by_cases hjl : j < arcs.length
        · obtain ⟨b', o', e', hbp, d0, _, _⟩ := rdPrt' (Rd.of_own HK.out.o) rfl HPi.out
          injection e' with e'
          injection e' with e1 e2
          subst e1 e2
          have hrow := (HK.out.c _ HMi.out).1
          obtain ⟨g, hAr, hgl, hnc, hcell⟩ := any_form hrow (by simp only; omega)
          simp only at hAr hnc d0 hrow
          subst hAr
          obtain ⟨⟨u, hu⟩, hf⟩ := hcell j hjl
          have HK9 := Lib.hid (HK.out.set (j := j) (v := -1) hrow (g := g) rfl)
          clear hrow hcell
          go_wp2_with fail
          go_roundg (arcs.length - j - 1)
          case measure => have := Hj.out; omega
          case rel => exact ⟨j + 1, by first | rfl | go_num, by omega, HK9.out⟩
        · obtain ⟨b', o', e', hbp, _, d1, _⟩ := rdPrt' (Rd.of_own HK.out.o) rfl HPi.out
          injection e' with e'
          injection e' with e1 e2
          subst e1 e2
          simp only at d1
          go_wp2_with fail
          clear d1
          go_loopg [10, 53] signs.length (fun k _ v wr => KL2 w3 w3.heap.size (some ⟨bp, op, none⟩) cp ps signs.length k v wr)
          case atStart => exact ⟨0, rfl, by omega, HK.out⟩
          case round =>
            obtain ⟨j, rfl, hj, hk⟩ := hrel
            clear HK hbp
            have Hj := Lib.hid hj
            have HK := Lib.hid hk
            clear hj hk
            by_cases hjl : j < signs.length
            · obtain ⟨b', o', e', hbp, _, d1, _⟩ := rdPrt' (Rd.of_own HK.out.o) rfl HPi.out
              injection e' with e'
              injection e' with e1 e2
              subst e1 e2
              have hrow := (HK.out.c _ HMi.out).2
              obtain ⟨g, hAs, hgl, hnc, hcell⟩ := any_form hrow (by simp only; omega)
              simp only at hAs hnc d1 hrow
              subst hAs
              obtain ⟨⟨u, hu⟩, hf⟩ := hcell j hjl
              have HK9 := Lib.hid (HK.out.set (j := j) (v := 0) hrow (g := g) rfl)
              clear hrow hcell
              go_wp2_with fail
              go_roundg (signs.length - j - 1)
              case measure => have := Hj.out; omega
              case rel => exact ⟨j + 1, by first | rfl | go_num, by omega, HK9.out⟩
            · go_wp2_with fail
              go_roundg (ps.length - i - 1)
              case measure => have := Hi.out; omega
              case rel => exact ⟨i + 1, by first | rfl | go_num, by omega, HK.out⟩
    · have HL5 := Lib.hid (HL.out.grow HK.out.bel)
      have HC5 := Lib.hid (HCs.out.grow HK.out.bel)
      clear HK HL HCs Hi
      have HL := HL5
      clear HL5
      rcases HEr.out with rfl | rfl
      all_goals
        go_wp2_with fail
        refine (awake_any wr).mono ?_
        rintro e w6 ⟨rfl, hb6⟩
        have HL6 := Lib.hid (HL.out.grow hb6)
        have HC6 := Lib.hid (HC5.out.grow hb6)
        clear hb6 HL HC5
        have HL := HL6
        clear HL6
        have x0 := HL.out.x.cell 0
        have x1 := HL.out.x.cell 1
        have x2 := HL.out.x.cell 2
        simp at x0 x1 x2
        go_wp2_with fail
        refine (lfund_any3 T AE AA ne ce ca acts w6 HL.out.a HN.out).mono ?_
        rintro e w7 ⟨hb7, Ad, cd, l', rfl, hm', _, hr', _, _, _⟩
        have HL7 := Lib.hid (HL.out.grow hb7)
        have HC7 := Lib.hid (HC6.out.grow hb7)
        have HR7 := Lib.hid hr'
        have HEq := Lib.hid (show l'.map cyP = l.map cyP by rw [hm', HCm.out])
        clear hm' hr' hb7 x0 x1 x2 HL HC6
        go_wp2_with fail
        refine (samecycs_yes Ac Ad l'.length cc cd l l' w7 HC7.out HR7.out rfl (fun i h1 h2 => cy_at HEq.out i h1 h2) (by have := congrArg List.length HEq.out; simpa using this)).mono ?_
        rintro e w8 ⟨rfl, hb8⟩
        have HB8 := Lib.hid (HL7.out.grow hb8).bel
        clear hb8
        go_wp2_with fail
        go_ret
        exact ⟨rfl, HB8.out⟩
end Go.Proofs.Ytbmbdenjlbelaaa
