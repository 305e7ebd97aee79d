import Derived.Test.YtffgnfefejimnaaYr2
namespace Go.Proofs.Ytffgnfefejimnaa
open Go.RowKit
theorem own_nb {w : World} {base b : Nat} {e ty : TypeId} {sz n : Nat} {v : Value} {xs : List Value} {cs : Array Value} (h : w.ownsRow base e sz v n xs) (hz : Blk w b ty cs) (hne : e ≠ ty) : v.ownBlock ≠ some b := fun e' => by
  obtain ⟨c, hc⟩ := own_blk h e'
  exact ne_ty hc hz hne rfl
theorem RfO.snoc {base : Nat} {vO vU v1 v2 : Value} {us : List Mv} {rows : List (List Nat)} {r : List Nat} {vs : List Value} {w w1 w2 : World} (h : RfO base vO vU us rows vs w) (h1 : Below w.heap.size w w1) (ho : w1.ownsRow base 3 1 v1 r.length (r.map natV)) (hf : ∀ k, v1.ownBlock = some k → w.heap.size ≤ k)
    (hg : w1.grownBy w2 vO.ownBlock) (ho2 : w2.ownsRow base 22 1 v2 (rows.length + 1) (vs ++ [v1])) : RfO base v2 vU us (rows ++ [r]) (vs ++ [v1]) w2 := by
  have hl := h.vl
  have hO := own_grow h.o h1
  refine ⟨by simpa using ho2, fun t v r' hv hr => ?_, fun i j v v' hij hi hj => ?_, own_app (own_grow h.u h1) hO (by decide) hg⟩
  · rcases Nat.lt_or_ge t vs.length with ht | ht
    · rw [List.getElem?_append_left ht] at hv
      rw [List.getElem?_append_left (by omega)] at hr
      exact own_app (own_grow (h.r t v r' hv hr) h1) hO (by decide) hg
    · rw [List.getElem?_append_right ht] at hv
      rw [List.getElem?_append_right (by omega)] at hr
      have e : t = vs.length := by
        rcases Nat.eq_or_lt_of_le ht with e | e
        · exact e.symm
        · rw [List.getElem?_eq_none (by simp; omega)] at hv; cases hv
      subst e
      rw [Nat.sub_self] at hv
      rw [show vs.length - rows.length = 0 by omega] at hr
      injection hv with hv
      injection hr with hr
      subst hv hr
      exact own_app ho hO (by decide) hg
  · have old : ∀ i v, i < vs.length → (vs ++ [v1])[i]? = some v → v ≠ v ∨ (∀ k, v.ownBlock = some k → k < w.heap.size) := fun i v hi hv => by
      right
      rw [List.getElem?_append_left hi] at hv
      obtain ⟨r', hr'⟩ : ∃ r', rows[i]? = some r' := ⟨_, List.getElem?_eq_getElem (by omega)⟩
      exact fun k hk => (own_block (h.r i v r' hv hr') k hk).2
    have new : ∀ i v, ¬ i < vs.length → (vs ++ [v1])[i]? = some v → i = vs.length ∧ v = v1 := fun i v hi hv => by
      rw [List.getElem?_append_right (by omega)] at hv
      rcases Nat.eq_or_lt_of_le (Nat.ge_of_not_lt hi) with e | e
      · subst e; rw [Nat.sub_self] at hv; injection hv with hv; exact ⟨rfl, hv.symm⟩
      · rw [List.getElem?_eq_none (by simp; omega)] at hv; cases hv
    by_cases hi' : i < vs.length <;> by_cases hj' : j < vs.length
    · rw [List.getElem?_append_left hi'] at hi
      rw [List.getElem?_append_left hj'] at hj
      exact h.ap i j v v' hij hi hj
    · obtain ⟨_, rfl⟩ := new j v' hj' hj
      rcases Classical.em (v.ownBlock = none) with h0 | h0
      · exact .inl h0
      · right
        intro e
        obtain ⟨k, hk⟩ := Option.ne_none_iff_exists'.1 h0
        have a := ((old i v hi' hi).resolve_left (fun h => h rfl)) k hk
        have b := hf k (by rw [← e]; exact hk)
        omega
    · obtain ⟨_, rfl⟩ := new i v hi' hi
      rcases Classical.em (v.ownBlock = none) with h0 | h0
      · exact .inl h0
      · right
        intro e
        obtain ⟨k, hk⟩ := Option.ne_none_iff_exists'.1 h0
        have a := ((old j v' hj' hj).resolve_left (fun h => h rfl)) k (by rw [← e]; exact hk)
        have b := hf k hk
        omega
    · exact absurd ((new i v hi' hi).1.trans (new j v' hj' hj).1.symm) hij
theorem RfO.setz {base b o : Nat} {vO vU u : Value} {us : List Mv} {rows : List (List Nat)} {vs : List Value} {w : World} {cs : Array Value} (h : RfO base vO vU us rows vs w) (hz : Blk w b 67 cs) : RfO base vO vU us rows vs (w.setCell ⟨b, o, none⟩ u) :=
  ⟨own_far h.o (own_nb h.o hz (by decide)), fun t v r hv hr => own_far (h.r t v r hv hr) (own_nb (h.r t v r hv hr) hz (by decide)), h.ap, own_far h.u (own_nb h.u hz (by decide))⟩
theorem mv_one (us : List Mv) : ∀ v ∈ us.flatMap Mv.cells, v.oneCell' = true := by
  intro v hv
  obtain ⟨m, _, hm⟩ := List.mem_flatMap.1 hv
  simp [Mv.cells] at hm
  rcases hm with rfl | rfl | rfl <;> rfl
theorem nat_one (l : List Nat) : ∀ v ∈ l.map natV, v.oneCell' = true := by
  intro v hv
  obtain ⟨m, _, rfl⟩ := List.mem_map.1 hv
  rfl
def CpL (w : World) (AT AO AU : Option Addr) (cT cO cU n m : Nat) (us : List Mv) (rows : List (List Nat)) (bz : Nat) (k : Nat) (v : Value) (wr : World) : Prop :=
  ∃ (j : Nat) (vO vU : Value) (vs : List Value), v = .int .i64 j ∧ j + k = n ∧ RfO w.heap.size vO vU us (rows.take j) vs wr ∧ Blk wr bz 67 #[.slice AT n cT, vO, vU] ∧ Blk wr w.heap.size 67 #[.slice AT n cT, .slice AO n cO, .slice AU m cU] ∧
    Blk wr (w.heap.size + 1) 67 #[.slice none 0 0, .slice none 0 0, .slice none 0 0] ∧ Below w.heap.size w wr
set_option maxRecDepth 100000 in
set_option maxHeartbeats 3200000 in
theorem copied_any (AT AO AU : Option Addr) (cT cO cU : Nat) (T : List Tk) (us : List Mv) (s : Yst) (vs : List Value) (w : World) (h : RfR w.heap.size AO AU cU T us s vs w) (h8 : T.length ≤ 8) (hu : us.length ≤ 24) (hr : ∀ t, t < T.length → (rowY s t).length ≤ 24) (hn : s.on.length = T.length) :
    Calls Try.prog 34 #[rfV AT AO AU cT cO cU T.length us.length] w fun e w' => ∃ (AO' AU' : Option Addr) (cO' cU' : Nat) (vs' : List Value), e = .returned (rfV AT AO' AU' cT cO' cU' T.length us.length) ∧ RfO w.heap.size (.slice AO' T.length cO') (.slice AU' us.length cU') us (s.on.map fun r => r.map (·.num)) vs' w' ∧ Below w.heap.size w w' := by
  have H := Lib.hid h
  have HR := Lib.hid hr
  have HN := Lib.hid hn
  clear h hr hn
  obtain ⟨iM, b1, b2, b3, b4⟩ := info_parts infoMv
  have HIM := Lib.hid (And.intro b1 (And.intro b2 (And.intro b3 b4)))
  clear b1 b2 b3 b4
  obtain ⟨i0, b1, b2, b3, b4⟩ := info_parts infoInt
  have HI := Lib.hid (And.intro b1 (And.intro b2 (And.intro b3 b4)))
  clear b1 b2 b3 b4
  obtain ⟨iR, b1, b2, b3, b4⟩ := info_parts infoInts
  have HIR := Lib.hid (And.intro b1 (And.intro b2 (And.intro b3 b4)))
  clear b1 b2 b3 b4
  unfold rfV
  go_enter Try.func34, Try.ntmps34
  go_upto_region 1 with fail
  refine world_gen (fun w0 => Below w.heap.size w w0 ∧ w0.heap.size = w.heap.size + 2 ∧ Blk w0 w.heap.size 67 #[.slice AT T.length cT, .slice AO T.length cO, .slice AU us.length cU] ∧ Blk w0 (w.heap.size + 1) 67 #[.slice none 0 0, .slice none 0 0, .slice none 0 0]) ⟨(by repeat (first | exact Below.refl _ _ | (with_reducible refine Below.drew ?_) | (with_reducible refine below_drewN ?_ _) | (with_reducible refine Below.alloc ?_ (by first | omega | (simp; done) | (simp; omega)) _) | (with_reducible refine Below.setCell ?_ (by first | omega | (simp; done) | (simp; omega)) _) | (refine Below.trans ?_ (Below.mono (by with_reducible assumption) (by first | omega | (simp; done) | (simp; omega)))))), by simp, (Blk.new w _ _).al _, by simpa using Blk.new (w.alloc _) 67 _⟩ ?_
  rintro w0 ⟨hb0, hs0, hy0, hr0⟩
  have HS0 := Lib.hid hs0
  have hle0 : w.heap.size ≤ w0.heap.size := by omega
  have hne0 : w.heap.size ≠ w0.heap.size := by omega
  have hne1 : w0.heap.size ≠ w.heap.size := by omega
  have HB0 := Lib.hid hb0
  have HY0 := Lib.hid hy0
  have HR0 := Lib.hid hr0
  have y0 := hy0.cell 0
  have y2 := hy0.cell 2
  simp at y0 y2
  clear hb0 hy0 hr0 hs0
  go_region_held3 (fun w' => w'.cell? ⟨w.heap.size, 0, none⟩ = some (.slice AT T.length cT) ∧ w'.cell? ⟨w.heap.size, 2, none⟩ = some (.slice AU us.length cU))
    (first | exact ⟨x0, x2⟩ | exact ⟨y0, y2⟩ | go_keep)
    (first | (refine step_append_any (by rfl) _ _ _ (by rfl) w.heap.size 41 iM _ 3 24 Try.underlying24 HIM.out.1 HIM.out.2.1 HIM.out.2.2.1 HIM.out.2.2.2 rfl (by omega) (.slice none 0 0) 0 [] rfl (World.ownsRow_nil _ _ _ _) AU us.length cU w.heap.size (us.flatMap Mv.cells) rfl H.out.un ((H.out.u.grow HB0.out).grow (by repeat (first | exact Below.refl _ _ | (with_reducible refine Below.drew ?_) | (with_reducible refine below_drewN ?_ _) | (with_reducible refine Below.alloc ?_ (by first | omega | (simp; done) | (simp; omega)) _) | (with_reducible refine Below.setCell ?_ (by first | omega | (simp; done) | (simp; omega)) _) | (refine Below.trans ?_ (Below.mono (by with_reducible assumption) (by first | omega | (simp; done) | (simp; omega))))))) (mv_one _) (by simp only [maxLen]; omega) (by omega) (by have := HS0.out; simp; omega) ?_; intro vU w1 hoU hgU hatU; rw [Nat.zero_add, List.nil_append] at hoU; obtain ⟨A9, c9, rfl, _, _⟩ := own_slice hoU; have HoU := Lib.hid hoU; have hb1 : Below w0.heap.size w0 w1 := Below.grown (show Below w0.heap.size w0 _ from (by repeat (first | exact Below.refl _ _ | (with_reducible refine Below.drew ?_) | (with_reducible refine below_drewN ?_ _) | (with_reducible refine Below.alloc ?_ (by first | omega | (simp; done) | (simp; omega)) _) | (with_reducible refine Below.setCell ?_ (by first | omega | (simp; done) | (simp; omega)) _) | (refine Below.trans ?_ (Below.mono (by with_reducible assumption) (by first | omega | (simp; done) | (simp; omega))))))) hgU (by simp) (fun k hk => by simp [Value.ownBlock] at hk); have x0 := (HY0.out.bel hb1).cell 0; have x2 := (HY0.out.bel hb1).cell 2; simp only [List.getElem?_toArray, List.getElem?_cons_succ, List.getElem?_cons_zero] at x0 x2; have hz : Blk w1 w0.heap.size 67 #[.slice none 0 0, .slice none 0 0, .slice none 0 0] := (Blk.new w0.drew 67 #[.slice none 0 0, .slice none 0 0, .slice none 0 0]).same (hgU.block w0.heap.size (by simp) (by simp [Value.ownBlock])); have z0 := hz.cell 0; have z1 := hz.cell 1; have z2 := hz.cell 2; have g0 := hz.frozen 0; have g1 := hz.frozen 1; have g2 := hz.frozen 2; have hzl := hz.lt; simp only [List.getElem?_toArray, List.getElem?_cons_succ, List.getElem?_cons_zero] at z0 z1 z2) | (refine step_append_any (by rfl) _ _ _ (by rfl) w.heap.size 41 iM _ 3 24 Try.underlying24 HIM.out.1 HIM.out.2.1 HIM.out.2.2.1 HIM.out.2.2.2 rfl (by omega) (.slice none 0 0) 0 [] rfl (World.ownsRow_nil _ _ _ _) AU us.length cU w.heap.size (us.flatMap Mv.cells) rfl H.out.un ((H.out.u.grow HB0.out).grow (by repeat (first | exact Below.refl _ _ | (with_reducible refine Below.drew ?_) | (with_reducible refine below_drewN ?_ _) | (with_reducible refine Below.alloc ?_ (by first | omega | (simp; done) | (simp; omega)) _) | (with_reducible refine Below.setCell ?_ (by first | omega | (simp; done) | (simp; omega)) _) | (refine Below.trans ?_ (Below.mono (by with_reducible assumption) (by first | omega | (simp; done) | (simp; omega))))))) (mv_one _) (by simp only [maxLen]; omega) (by omega) (by have := HS0.out; simp; omega) ?_; intro vU w1 hoU hgU hatU; have hA : w0.drew.grownBy w1 none := hgU; clear hA; rw [Nat.zero_add, List.nil_append] at hoU; obtain ⟨A9, c9, rfl, _, _⟩ := own_slice hoU; have HoU := Lib.hid hoU; have hb1 : Below w0.heap.size w0 w1 := Below.grown (show Below w0.heap.size w0 _ from (by repeat (first | exact Below.refl _ _ | (with_reducible refine Below.drew ?_) | (with_reducible refine below_drewN ?_ _) | (with_reducible refine Below.alloc ?_ (by first | omega | (simp; done) | (simp; omega)) _) | (with_reducible refine Below.setCell ?_ (by first | omega | (simp; done) | (simp; omega)) _) | (refine Below.trans ?_ (Below.mono (by with_reducible assumption) (by first | omega | (simp; done) | (simp; omega))))))) hgU (by simp) (fun k hk => by simp [Value.ownBlock] at hk); have x0 := (HY0.out.bel hb1).cell 0; have x2 := (HY0.out.bel hb1).cell 2; simp only [List.getElem?_toArray, List.getElem?_cons_succ, List.getElem?_cons_zero] at x0 x2))
  · skip
    go_upto_region 2 with fail
    refine world_gen (fun w2 => Below w.heap.size w w2 ∧ RfO w.heap.size (.slice none 0 0) (.slice A9 us.length c9) us [] [] w2 ∧ Blk w2 (w1.heap.size) 67 #[.slice AT T.length cT, .slice none 0 0, .slice A9 us.length c9] ∧ Blk w2 w.heap.size 67 #[.slice AT T.length cT, .slice AO T.length cO, .slice AU us.length cU] ∧ Blk w2 (w.heap.size + 1) 67 #[.slice none 0 0, .slice none 0 0, .slice none 0 0]) ⟨(HB0.out.trans (hb1.mono hle0)).alloc (Nat.le_trans hle0 hb1.size) _, ⟨World.ownsRow_nil _ _ _ _, fun t v r hv => by simp at hv, fun i j v v' _ hi => by simp at hi, HoU.out.alloc _⟩, Blk.new w1 _ _, (HY0.out.bel hb1).al _, (HR0.out.bel hb1).al _⟩ ?_
    rintro w2 ⟨hb2, ho2, hz2, hy2, hr2⟩
    have HB2 := Lib.hid hb2
    have HO2 := Lib.hid ho2
    have HZ2 := Lib.hid hz2
    have HY2 := Lib.hid hy2
    have HR2 := Lib.hid hr2
    have y1 := hy2.cell 1
    simp at y1
    have hbz : w.heap.size + 1 < w1.heap.size := by have := HS0.out; have := hb1.size; omega
    generalize w1.heap.size = bz at *
    clear hb2 ho2 hz2 hy2 hr2 y0 y2 hb1 hgU hatU HoU HB0 HY0 HR0 x0 x2
    go_wp2_with fail
    clear y1
    go_loopg [14] T.length (fun k v wr => CpL w AT AO AU cT cO cU T.length us.length us (s.on.map fun r => r.map (·.num)) bz k v wr)
    case atStart => exact ⟨0, _, _, [], rfl, by omega, HO2.out, HZ2.out, HY2.out, HR2.out, HB2.out⟩
    case round =>
      clear HO2 HZ2 HY2 HR2 HB2
      obtain ⟨j, vO, vU, vs2, rfl, hj, ho, hz, hy, hr, hb⟩ := hrel
      have Hj := Lib.hid hj
      have HO := Lib.hid ho
      have HZ := Lib.hid hz
      have HY := Lib.hid hy
      have HRb := Lib.hid hr
      have HB := Lib.hid hb
      clear hj ho hz hy hr hb
      have hrl : (s.on.map fun r => r.map (·.num)).length = T.length := by simp [HN.out]
      have hjl : ((s.on.map fun r => r.map (·.num)).take j).length = j := by have := Hj.out; rw [List.length_take, hrl]; omega
      have HJl := Lib.hid hjl
      have HRl := Lib.hid hrl
      have ho := HO.out.o
      rw [hjl] at ho
      have HOo := Lib.hid ho
      obtain ⟨A3, c3, rfl, _, _⟩ := own_slice ho
      clear hjl hrl ho
      by_cases hlt : j < T.length
      · obtain ⟨A, c, hv, hrw, hnil⟩ := H.out.r j hlt
        obtain ⟨bo, oo, hAO, hbo, hcell⟩ := (H.out.o.grow HB.out).2 (by omega)
        have p0 := hcell j _ hv
        have HAO := Lib.hid hAO
        have HRw := Lib.hid hrw
        have HNil := Lib.hid hnil
        have h24 := HR.out j hlt
        clear hcell hv hrw hnil
        have y1 := HY.out.cell 1
        have z1 := HZ.out.cell 1
        have f1 := HZ.out.frozen 1
        have hzl := HZ.out.lt
        simp only [List.getElem?_toArray, List.getElem?_cons_succ, List.getElem?_cons_zero] at y1 z1
        rw [hAO] at y1
        clear hAO
        have hsz := HB.out.size
        have hj0 : (0 : Int) ≤ (j : Int) := by omega
        have hj1 : (j : Int) < (T.length : Int) := by omega
        go_upto_region 5 with fail
        go_region_law (first | (refine step_append_any (by rfl) _ _ _ (by rfl) w.heap.size 3 i0 _ 1 8 Try.underlying22 HI.out.1 HI.out.2.1 HI.out.2.2.1 HI.out.2.2.2 rfl (by omega) (.slice none 0 0) 0 [] rfl (World.ownsRow_nil _ _ _ _) A (rowY s j).length c w.heap.size ((rowY s j).map fun u => natV u.num) rfl HNil.out ((HRw.out.grow HB.out).grow (by repeat (first | exact Below.refl _ _ | (with_reducible refine Below.drew ?_) | (with_reducible refine below_drewN ?_ _) | (with_reducible refine Below.alloc ?_ (by first | omega | (simp; done) | (simp; omega)) _) | (with_reducible refine Below.setCell ?_ (by first | omega | (simp; done) | (simp; omega)) _) | (refine Below.trans ?_ (Below.mono (by with_reducible assumption) (by first | omega | (simp; done) | (simp; omega))))))) (fun u hu => by obtain ⟨x, _, rfl⟩ := List.mem_map.1 hu; rfl) (by simp only [maxLen]; omega) (by omega) (by simp; omega) ?_; intro v4 w4 ho4 hg4 ht4; rw [Nat.zero_add, List.nil_append] at ho4; obtain ⟨A4, c4, rfl, _, _⟩ := own_slice ho4; have Ho4 := Lib.hid ho4; have hb4 : Below wr.heap.size wr w4 := Below.grown (show Below wr.heap.size wr _ from (by repeat (first | exact Below.refl _ _ | (with_reducible refine Below.drew ?_) | (with_reducible refine below_drewN ?_ _) | (with_reducible refine Below.alloc ?_ (by first | omega | (simp; done) | (simp; omega)) _) | (with_reducible refine Below.setCell ?_ (by first | omega | (simp; done) | (simp; omega)) _) | (refine Below.trans ?_ (Below.mono (by with_reducible assumption) (by first | omega | (simp; done) | (simp; omega))))))) hg4 (by simp) (fun k hk => by simp [Value.ownBlock] at hk); have hs4 := hb4.size; have Ht4 := Lib.hid ht4; have z4 := (HZ.out.bel hb4).cell 1; have f4 := (HZ.out.bel hb4).frozen 1; have hzl4 := (HZ.out.bel hb4).lt; simp only [List.getElem?_toArray, List.getElem?_cons_succ, List.getElem?_cons_zero] at z4) | (refine step_append_any (by rfl) _ _ _ (by rfl) w.heap.size 22 iR _ 1 24 Try.underlying65 HIR.out.1 HIR.out.2.1 HIR.out.2.2.1 HIR.out.2.2.2 rfl (by omega) (.slice A3 j c3) j vs2 rfl (World.ownsRow.alloc (own_grow HOo.out hb4) _) (some ⟨w4.heap.size, 0, none⟩) 1 1 (w4.alloc (.cells #[.slice A4 (rowY s j).length c4] 22)).heap.size [.slice A4 (rowY s j).length c4] rfl (fun e => by cases e) (Rd.of_blk (cs := [.slice A4 (rowY s j).length c4]) (n := 1) (sz := 1) (Blk.new w4 22 _) rfl) (by intro u hu; simp at hu; subst hu; rfl) (by simp only [maxLen]; omega) (by omega) (by simp; omega) ?_; intro v5 w5 ho5 hg5 ht5; obtain ⟨A5, c5, rfl, _, _⟩ := own_slice ho5; have hnb := own_nb HOo.out HZ.out (by decide); have hz5 := ((HZ.out.bel hb4).al (.cells #[.slice A4 (rowY s j).length c4] 22)).grown hg5 hnb; have f5 := hz5.frozen 1; have z5 := hz5.cell 1; have hzl5 := hz5.lt; simp only [List.getElem?_toArray, List.getElem?_cons_succ, List.getElem?_cons_zero] at z5))
        all_goals
          have HB5 := Lib.hid (show Below w.heap.size w w5 from ((HB.out.trans (hb4.mono hsz)).alloc (by omega) _).grown hg5 (by simp; omega) (fun k hk => (own_block HOo.out k hk).1))
          have HY5 := Lib.hid ((((HY.out.bel hb4).al (.cells #[.slice A4 (rowY s j).length c4] 22)).grown hg5 (own_nb HOo.out HY.out (by decide))).far (b := bz) (o := 1) (u := .slice A5 (j + 1) c5) (by omega))
          have HR5 := Lib.hid ((((HRb.out.bel hb4).al (.cells #[.slice A4 (rowY s j).length c4] 22)).grown hg5 (own_nb HOo.out HRb.out (by decide))).far (b := bz) (o := 1) (u := .slice A5 (j + 1) c5) (by omega))
          have hsn := HO.out.snoc (r := (rowY s j).map (·.num)) (hb4.trans (show Below wr.heap.size w4 (w4.alloc (.cells #[.slice A4 (rowY s j).length c4] 22)) from Below.alloc (Below.refl _ _) hs4 _)) (by rw [List.length_map, List.map_map]; exact Ho4.out.alloc _) (fun k hk => by
            rcases Ht4.out with e | e
            · rw [e] at hk; simp [Value.ownBlock] at hk
            · rw [e] at hk; injection hk with hk; rw [← hk]; exact Nat.le_refl _) hg5 (by rw [HJl.out]; exact ho5)
          have hsn2 := hsn.setz (o := 1) (u := .slice A5 (j + 1) c5) hz5
          rw [show (s.on.map fun r => r.map (·.num)).take j ++ [(rowY s j).map (·.num)] = (s.on.map fun r => r.map (·.num)).take (j + 1) from by
            have hjs : j < s.on.length := by rw [HN.out]; exact hlt
            rw [List.take_succ_eq_append_getElem (by simpa using hjs), List.getElem_map, rowY_get hjs]] at hsn2
          have HO5 := Lib.hid hsn2
          have HZ5 := Lib.hid (show Blk (w5.setCell ⟨bz, 1, none⟩ (.slice A5 (j + 1) c5)) bz 67 #[.slice AT T.length cT, .slice A5 (j + 1) c5, vU] by simpa using hz5.set_ 1 (.slice A5 (j + 1) c5))
          have HB6 := Lib.hid (HB5.out.setCell (p := ⟨bz, 1, none⟩) (show w.heap.size ≤ bz by omega) (.slice A5 (j + 1) c5))
          clear HO HZ HY HRb HB HB5 hsn hsn2 hg5 ho5 ht5 hb4 hz5 Ho4 Ht4 HOo z1 y1 p0 f1 z4 f4 z5 f5
          go_wp2_with fail
          go_roundg (T.length - j - 1)
          case measure => have := Hj.out; omega
          case rel => exact ⟨j + 1, _, vU, _, by first | rfl | go_num, by omega, HO5.out, HZ5.out, HY5.out, HR5.out, HB6.out⟩
      · obtain ⟨hjn⟩ : Nonempty (j = T.length) := ⟨by have := Hj.out; omega⟩
        subst hjn
        obtain ⟨A6, c6, rfl, _, _⟩ := own_slice HO.out.u
        have z0 := HZ.out.cell 0
        have z1 := HZ.out.cell 1
        have z2 := HZ.out.cell 2
        have r0 := HRb.out.cell 0
        have r1 := HRb.out.cell 1
        have r2 := HRb.out.cell 2
        have f0 := HRb.out.frozen 0
        have f1 := HRb.out.frozen 1
        have f2 := HRb.out.frozen 2
        have hzl := HZ.out.lt
        have hrl := HRb.out.lt
        simp only [List.getElem?_toArray, List.getElem?_cons_succ, List.getElem?_cons_zero] at z0 z1 z2 r0 r1 r2
        have HO6 := Lib.hid (show RfO w.heap.size (.slice A3 T.length c3) (.slice A6 us.length c6) us (s.on.map fun r => r.map (·.num)) vs2 wr by
          have h := HO.out
          rwa [List.take_of_length_le (by rw [HRl.out]; exact Nat.le_refl _)] at h)
        have HR6 := Lib.hid (((HRb.out.set_ 0 (.slice AT T.length cT)).set_ 1 (.slice A3 T.length c3)).set_ 2 (.slice A6 us.length c6))
        have HO7 := Lib.hid (((HO6.out.setz (o := 0) (u := .slice AT T.length cT) HRb.out).setz (o := 1) (u := .slice A3 T.length c3) (HRb.out.set_ 0 (.slice AT T.length cT))).setz (o := 2) (u := .slice A6 us.length c6) ((HRb.out.set_ 0 (.slice AT T.length cT)).set_ 1 (.slice A3 T.length c3)))
        have HB6 := Lib.hid (((HB.out.setCell (p := ⟨w.heap.size + 1, 0, none⟩) (show w.heap.size ≤ w.heap.size + 1 by omega) (.slice AT T.length cT)).setCell (p := ⟨w.heap.size + 1, 1, none⟩) (show w.heap.size ≤ w.heap.size + 1 by omega) (.slice A3 T.length c3)).setCell (p := ⟨w.heap.size + 1, 2, none⟩) (show w.heap.size ≤ w.heap.size + 1 by omega) (.slice A6 us.length c6))
        clear HO HZ HY HRb HB HOo HO6
        go_wp2_with fail
        (try simp only [Exit.inBlock, Exit.then])
        refine bodyPost_ret (results_cell_row rfl _ _ (w.heap.size + 1) 67 #[.slice AT T.length cT, .slice A3 T.length c3, .slice A6 us.length c6] (0, 0) _ rfl (by have h := HR6.out; first | exact h | (simp at h; exact h)) Try.underlying67 rfl (by kernel_rfl)) rfl ?_
        exact ⟨A3, A6, c3, c6, vs2, rfl, HO7.out, HB6.out⟩
  · skip
    go_upto_region 2 with fail
    refine world_gen (fun w2 => Below w.heap.size w w2 ∧ RfO w.heap.size (.slice none 0 0) (.slice A9 us.length c9) us [] [] w2 ∧ Blk w2 (w0.heap.size) 67 #[.slice AT T.length cT, .slice none 0 0, .slice A9 us.length c9] ∧ Blk w2 w.heap.size 67 #[.slice AT T.length cT, .slice AO T.length cO, .slice AU us.length cU] ∧ Blk w2 (w.heap.size + 1) 67 #[.slice none 0 0, .slice none 0 0, .slice none 0 0]) ⟨(((HB0.out.trans (hb1.mono hle0)).setCell hle0 _).setCell hle0 _).setCell hle0 _, ⟨World.ownsRow_nil _ _ _ _, fun t v r hv => by simp at hv, fun i j v v' _ hi => by simp at hi, own_far (own_far (own_far HoU.out (own_nb HoU.out hz (by decide))) (by have := own_nb HoU.out hz (by decide); exact this)) (by have := own_nb HoU.out hz (by decide); exact this)⟩, by simpa using ((hz.set_ 0 (.slice AT T.length cT)).set_ 1 (.slice none 0 0)).set_ 2 (.slice A9 us.length c9), (((HY0.out.bel hb1).far hne1).far hne1).far hne1, (((HR0.out.bel hb1).far (by have := HS0.out; omega)).far (by have := HS0.out; omega)).far (by have := HS0.out; omega)⟩ ?_
    rintro w2 ⟨hb2, ho2, hz2, hy2, hr2⟩
    have HB2 := Lib.hid hb2
    have HO2 := Lib.hid ho2
    have HZ2 := Lib.hid hz2
    have HY2 := Lib.hid hy2
    have HR2 := Lib.hid hr2
    have y1 := hy2.cell 1
    simp at y1
    have hbz : w.heap.size + 1 < w0.heap.size := by have := HS0.out; omega
    generalize w0.heap.size = bz at *
    clear hb2 ho2 hz2 hy2 hr2 y0 y2 hb1 hgU hatU HoU HB0 HY0 HR0 x0 x2
    go_wp2_with fail
    clear y1
    go_loopg [14] T.length (fun k v wr => CpL w AT AO AU cT cO cU T.length us.length us (s.on.map fun r => r.map (·.num)) bz k v wr)
    case atStart => exact ⟨0, _, _, [], rfl, by omega, HO2.out, HZ2.out, HY2.out, HR2.out, HB2.out⟩
    case round =>
      clear HO2 HZ2 HY2 HR2 HB2
      obtain ⟨j, vO, vU, vs2, rfl, hj, ho, hz, hy, hr, hb⟩ := hrel
      have Hj := Lib.hid hj
      have HO := Lib.hid ho
      have HZ := Lib.hid hz
      have HY := Lib.hid hy
      have HRb := Lib.hid hr
      have HB := Lib.hid hb
      clear hj ho hz hy hr hb
      have hrl : (s.on.map fun r => r.map (·.num)).length = T.length := by simp [HN.out]
      have hjl : ((s.on.map fun r => r.map (·.num)).take j).length = j := by have := Hj.out; rw [List.length_take, hrl]; omega
      have HJl := Lib.hid hjl
      have HRl := Lib.hid hrl
      have ho := HO.out.o
      rw [hjl] at ho
      have HOo := Lib.hid ho
      obtain ⟨A3, c3, rfl, _, _⟩ := own_slice ho
      clear hjl hrl ho
      by_cases hlt : j < T.length
      · obtain ⟨A, c, hv, hrw, hnil⟩ := H.out.r j hlt
        obtain ⟨bo, oo, hAO, hbo, hcell⟩ := (H.out.o.grow HB.out).2 (by omega)
        have p0 := hcell j _ hv
        have HAO := Lib.hid hAO
        have HRw := Lib.hid hrw
        have HNil := Lib.hid hnil
        have h24 := HR.out j hlt
        clear hcell hv hrw hnil
        have y1 := HY.out.cell 1
        have z1 := HZ.out.cell 1
        have f1 := HZ.out.frozen 1
        have hzl := HZ.out.lt
        simp only [List.getElem?_toArray, List.getElem?_cons_succ, List.getElem?_cons_zero] at y1 z1
        rw [hAO] at y1
        clear hAO
        have hsz := HB.out.size
        have hj0 : (0 : Int) ≤ (j : Int) := by omega
        have hj1 : (j : Int) < (T.length : Int) := by omega
        go_upto_region 5 with fail
        go_region_law (first | (refine step_append_any (by rfl) _ _ _ (by rfl) w.heap.size 3 i0 _ 1 8 Try.underlying22 HI.out.1 HI.out.2.1 HI.out.2.2.1 HI.out.2.2.2 rfl (by omega) (.slice none 0 0) 0 [] rfl (World.ownsRow_nil _ _ _ _) A (rowY s j).length c w.heap.size ((rowY s j).map fun u => natV u.num) rfl HNil.out ((HRw.out.grow HB.out).grow (by repeat (first | exact Below.refl _ _ | (with_reducible refine Below.drew ?_) | (with_reducible refine below_drewN ?_ _) | (with_reducible refine Below.alloc ?_ (by first | omega | (simp; done) | (simp; omega)) _) | (with_reducible refine Below.setCell ?_ (by first | omega | (simp; done) | (simp; omega)) _) | (refine Below.trans ?_ (Below.mono (by with_reducible assumption) (by first | omega | (simp; done) | (simp; omega))))))) (fun u hu => by obtain ⟨x, _, rfl⟩ := List.mem_map.1 hu; rfl) (by simp only [maxLen]; omega) (by omega) (by simp; omega) ?_; intro v4 w4 ho4 hg4 ht4; rw [Nat.zero_add, List.nil_append] at ho4; obtain ⟨A4, c4, rfl, _, _⟩ := own_slice ho4; have Ho4 := Lib.hid ho4; have hb4 : Below wr.heap.size wr w4 := Below.grown (show Below wr.heap.size wr _ from (by repeat (first | exact Below.refl _ _ | (with_reducible refine Below.drew ?_) | (with_reducible refine below_drewN ?_ _) | (with_reducible refine Below.alloc ?_ (by first | omega | (simp; done) | (simp; omega)) _) | (with_reducible refine Below.setCell ?_ (by first | omega | (simp; done) | (simp; omega)) _) | (refine Below.trans ?_ (Below.mono (by with_reducible assumption) (by first | omega | (simp; done) | (simp; omega))))))) hg4 (by simp) (fun k hk => by simp [Value.ownBlock] at hk); have hs4 := hb4.size; have Ht4 := Lib.hid ht4; have z4 := (HZ.out.bel hb4).cell 1; have f4 := (HZ.out.bel hb4).frozen 1; have hzl4 := (HZ.out.bel hb4).lt; simp only [List.getElem?_toArray, List.getElem?_cons_succ, List.getElem?_cons_zero] at z4) | (refine step_append_any (by rfl) _ _ _ (by rfl) w.heap.size 22 iR _ 1 24 Try.underlying65 HIR.out.1 HIR.out.2.1 HIR.out.2.2.1 HIR.out.2.2.2 rfl (by omega) (.slice A3 j c3) j vs2 rfl (World.ownsRow.alloc (own_grow HOo.out hb4) _) (some ⟨w4.heap.size, 0, none⟩) 1 1 (w4.alloc (.cells #[.slice A4 (rowY s j).length c4] 22)).heap.size [.slice A4 (rowY s j).length c4] rfl (fun e => by cases e) (Rd.of_blk (cs := [.slice A4 (rowY s j).length c4]) (n := 1) (sz := 1) (Blk.new w4 22 _) rfl) (by intro u hu; simp at hu; subst hu; rfl) (by simp only [maxLen]; omega) (by omega) (by simp; omega) ?_; intro v5 w5 ho5 hg5 ht5; obtain ⟨A5, c5, rfl, _, _⟩ := own_slice ho5; have hnb := own_nb HOo.out HZ.out (by decide); have hz5 := ((HZ.out.bel hb4).al (.cells #[.slice A4 (rowY s j).length c4] 22)).grown hg5 hnb; have f5 := hz5.frozen 1; have z5 := hz5.cell 1; have hzl5 := hz5.lt; simp only [List.getElem?_toArray, List.getElem?_cons_succ, List.getElem?_cons_zero] at z5))
        all_goals
          have HB5 := Lib.hid (show Below w.heap.size w w5 from ((HB.out.trans (hb4.mono hsz)).alloc (by omega) _).grown hg5 (by simp; omega) (fun k hk => (own_block HOo.out k hk).1))
          have HY5 := Lib.hid ((((HY.out.bel hb4).al (.cells #[.slice A4 (rowY s j).length c4] 22)).grown hg5 (own_nb HOo.out HY.out (by decide))).far (b := bz) (o := 1) (u := .slice A5 (j + 1) c5) (by omega))
          have HR5 := Lib.hid ((((HRb.out.bel hb4).al (.cells #[.slice A4 (rowY s j).length c4] 22)).grown hg5 (own_nb HOo.out HRb.out (by decide))).far (b := bz) (o := 1) (u := .slice A5 (j + 1) c5) (by omega))
          have hsn := HO.out.snoc (r := (rowY s j).map (·.num)) (hb4.trans (show Below wr.heap.size w4 (w4.alloc (.cells #[.slice A4 (rowY s j).length c4] 22)) from Below.alloc (Below.refl _ _) hs4 _)) (by rw [List.length_map, List.map_map]; exact Ho4.out.alloc _) (fun k hk => by
            rcases Ht4.out with e | e
            · rw [e] at hk; simp [Value.ownBlock] at hk
            · rw [e] at hk; injection hk with hk; rw [← hk]; exact Nat.le_refl _) hg5 (by rw [HJl.out]; exact ho5)
          have hsn2 := hsn.setz (o := 1) (u := .slice A5 (j + 1) c5) hz5
          rw [show (s.on.map fun r => r.map (·.num)).take j ++ [(rowY s j).map (·.num)] = (s.on.map fun r => r.map (·.num)).take (j + 1) from by
            have hjs : j < s.on.length := by rw [HN.out]; exact hlt
            rw [List.take_succ_eq_append_getElem (by simpa using hjs), List.getElem_map, rowY_get hjs]] at hsn2
          have HO5 := Lib.hid hsn2
          have HZ5 := Lib.hid (show Blk (w5.setCell ⟨bz, 1, none⟩ (.slice A5 (j + 1) c5)) bz 67 #[.slice AT T.length cT, .slice A5 (j + 1) c5, vU] by simpa using hz5.set_ 1 (.slice A5 (j + 1) c5))
          have HB6 := Lib.hid (HB5.out.setCell (p := ⟨bz, 1, none⟩) (show w.heap.size ≤ bz by omega) (.slice A5 (j + 1) c5))
          clear HO HZ HY HRb HB HB5 hsn hsn2 hg5 ho5 ht5 hb4 hz5 Ho4 Ht4 HOo z1 y1 p0 f1 z4 f4 z5 f5
          go_wp2_with fail
          go_roundg (T.length - j - 1)
          case measure => have := Hj.out; omega
          case rel => exact ⟨j + 1, _, vU, _, by first | rfl | go_num, by omega, HO5.out, HZ5.out, HY5.out, HR5.out, HB6.out⟩
      · obtain ⟨hjn⟩ : Nonempty (j = T.length) := ⟨by have := Hj.out; omega⟩
        subst hjn
        obtain ⟨A6, c6, rfl, _, _⟩ := own_slice HO.out.u
        have z0 := HZ.out.cell 0
        have z1 := HZ.out.cell 1
        have z2 := HZ.out.cell 2
        have r0 := HRb.out.cell 0
        have r1 := HRb.out.cell 1
        have r2 := HRb.out.cell 2
        have f0 := HRb.out.frozen 0
        have f1 := HRb.out.frozen 1
        have f2 := HRb.out.frozen 2
        have hzl := HZ.out.lt
        have hrl := HRb.out.lt
        simp only [List.getElem?_toArray, List.getElem?_cons_succ, List.getElem?_cons_zero] at z0 z1 z2 r0 r1 r2
        have HO6 := Lib.hid (show RfO w.heap.size (.slice A3 T.length c3) (.slice A6 us.length c6) us (s.on.map fun r => r.map (·.num)) vs2 wr by
          have h := HO.out
          rwa [List.take_of_length_le (by rw [HRl.out]; exact Nat.le_refl _)] at h)
        have HR6 := Lib.hid (((HRb.out.set_ 0 (.slice AT T.length cT)).set_ 1 (.slice A3 T.length c3)).set_ 2 (.slice A6 us.length c6))
        have HO7 := Lib.hid (((HO6.out.setz (o := 0) (u := .slice AT T.length cT) HRb.out).setz (o := 1) (u := .slice A3 T.length c3) (HRb.out.set_ 0 (.slice AT T.length cT))).setz (o := 2) (u := .slice A6 us.length c6) ((HRb.out.set_ 0 (.slice AT T.length cT)).set_ 1 (.slice A3 T.length c3)))
        have HB6 := Lib.hid (((HB.out.setCell (p := ⟨w.heap.size + 1, 0, none⟩) (show w.heap.size ≤ w.heap.size + 1 by omega) (.slice AT T.length cT)).setCell (p := ⟨w.heap.size + 1, 1, none⟩) (show w.heap.size ≤ w.heap.size + 1 by omega) (.slice A3 T.length c3)).setCell (p := ⟨w.heap.size + 1, 2, none⟩) (show w.heap.size ≤ w.heap.size + 1 by omega) (.slice A6 us.length c6))
        clear HO HZ HY HRb HB HOo HO6
        go_wp2_with fail
        (try simp only [Exit.inBlock, Exit.then])
        refine bodyPost_ret (results_cell_row rfl _ _ (w.heap.size + 1) 67 #[.slice AT T.length cT, .slice A3 T.length c3, .slice A6 us.length c6] (0, 0) _ rfl (by have h := HR6.out; first | exact h | (simp at h; exact h)) Try.underlying67 rfl (by kernel_rfl)) rfl ?_
        exact ⟨A3, A6, c3, c6, vs2, rfl, HO7.out, HB6.out⟩
end Go.Proofs.Ytffgnfefejimnaa
