import Derived.Test.YtffgnfefejimnaaYr3
namespace Go.Proofs.Ytffgnfefejimnaa
open Go.RowKit
theorem results_cell_tmp2 {fn : Func} {p u x : Tmp} {ty : TypeId} (h : fn.results = #[.cell p ty, .tmp u, .tmp x]) (tmps : Array Value) (P : Program) (w : World) :
    (results fn tmps).run P w =
      ((asAddr (tmps.getD p undef)).run P w).andThen fun a w1 => ((loadVar ty a).run P w1).andThen fun v w2 => .ok (.tuple #[v, tmps.getD u undef, tmps.getD x undef]) w2 := by
  simp only [results, h]
  simp [Sem.run_bind, Result.andThen]
theorem results_cell_row_tmp2 {P : Program} {fn : Func} {p u x : Tmp} {ty : TypeId} (h : fn.results = #[.cell p ty, .tmp u, .tmp x]) (tmps : Array Value) (w : World) (g : Nat) (t : TypeId) (cs : Array Value) (fr : Nat × Nat) (d : TypeDesc)
    (hp : tmps.getD p undef = .pointer (some ⟨g, 0, none⟩)) (hg : w.heap[g]? = some (.cells cs t fr))
    (hu : P.underlying ty = some d) (hd : (match d with | .struct _ | .array _ _ => true | _ => false) = true) (hi : (P.info? ty).map (·.size) = some cs.size) :
    (results fn tmps).run P w = .ok (.tuple #[.agg cs, tmps.getD u undef, tmps.getD x undef]) w := by
  rw [results_cell_tmp2 h, hp]
  simp [asAddr, run_loadVar_row w g t ty cs fr d hg hu hd hi, Result.andThen]
/-- what the reference's act leaves -/
def RaOut (AT : Option Addr) (cT : Nat) (T : List Tk) (m : Mv) (us : List Mv) (yv : Value) (w : World) (e : Ending) (w' : World) : Option (Un × Yst) → Prop
  | none => e = .returned (.tuple #[yv, .int .i64 0, .bool false]) ∧ Below w.heap.size w w'
  | some (u, s') => ∃ (AO AU : Option Addr) (cO cU : Nat) (us' : List Mv) (vs : List Value), e = .returned (.tuple #[rfV AT AO AU cT cO cU T.length us'.length, .int .i64 u.num, .bool true]) ∧ us' = (if m.inn then us ++ [m] else us) ∧
      RfO w.heap.size (.slice AO T.length cO) (.slice AU us'.length cU) us' (s'.on.map fun r => r.map (·.num)) vs w' ∧ Below w.heap.size w w'
/-- the state behind the copy -/
structure RaS (w : World) (AT AO AU : Option Addr) (cT cO cU n q : Nat) (m : Mv) (us : List Mv) (rows : List (List Nat)) (bz : Nat) (vO vU : Value) (vs : List Value) (wr : World) : Prop where
  bel : Below w.heap.size w wr
  y : Blk wr w.heap.size 67 #[.slice AT n cT, .slice AO n cO, .slice AU q cU]
  m : Blk wr (w.heap.size + 1) 41 #[.bool m.inn, .int .i64 m.kind, .int .i64 m.ln]
  r : Blk wr (w.heap.size + 2) 67 #[.slice none 0 0, .slice none 0 0, .slice none 0 0]
  z : Blk wr bz 67 #[.slice AT n cT, vO, vU]
  hz : w.heap.size + 2 < bz
  o : RfO w.heap.size vO vU us rows vs wr
theorem RaS.grow {w : World} {AT AO AU : Option Addr} {cT cO cU n q : Nat} {m : Mv} {us : List Mv} {rows : List (List Nat)} {bz : Nat} {vO vU : Value} {vs : List Value} {wr w' : World} (h : RaS w AT AO AU cT cO cU n q m us rows bz vO vU vs wr) (hb : Below wr.heap.size wr w') : RaS w AT AO AU cT cO cU n q m us rows bz vO vU vs w' :=
  ⟨h.bel.trans (hb.mono h.bel.size), h.y.bel hb, h.m.bel hb, h.r.bel hb, h.z.bel hb, h.hz, h.o.grow hb⟩
theorem RfO.base' {base base' : Nat} {vO vU : Value} {us : List Mv} {rows : List (List Nat)} {vs : List Value} {w : World} (h : RfO base vO vU us rows vs w) (hb : base' ≤ base) : RfO base' vO vU us rows vs w :=
  ⟨own_base h.o hb, fun t v r hv hr => own_base (h.r t v r hv hr) hb, h.ap, own_base h.u hb⟩
theorem sumU_take (r : List Un) (j : Nat) (h : j < r.length) : sumU (r.take (j + 1)) = sumU (r.take j) + r[j].ln := by
  rw [List.take_succ_eq_append_getElem h, sumU_app]; simp [sumU]
theorem sumU_pre (r : List Un) (h : ∀ u ∈ r, 1 ≤ u.ln ∧ u.ln ≤ 1000) (j : Nat) (hr : r.length ≤ 24) : 0 ≤ sumU (r.take j) ∧ sumU (r.take j) ≤ 24000 := by
  have h1 := sumU_bd (r.take j) fun u hu => by have := h u (List.mem_of_mem_take hu); omega
  have h2 : (r.take j).length ≤ 24 := by rw [List.length_take]; omega
  omega
theorem RfO.appU {base : Nat} {vO vU vU' : Value} {us us' : List Mv} {rows : List (List Nat)} {vs : List Value} {w w' : World} (h : RfO base vO vU us rows vs w) (hg : w.grownBy w' vU.ownBlock) (ho : w'.ownsRow base 41 3 vU' us'.length (us'.flatMap Mv.cells)) : RfO base vO vU' us' rows vs w' :=
  ⟨own_app h.o h.u (by decide) hg, fun t v r hv hr => own_app (h.r t v r hv hr) h.u (by decide) hg, h.ap, ho⟩
/-- a row's memory has turned, and the row is laid anew -/
theorem RfO.row {base g n c : Nat} {vU : Value} {us : List Mv} {rows : List (List Nat)} {vs : List Value} {w w' : World} (h : RfO base (.slice (some ⟨g, 0, none⟩) n c) vU us rows vs w) (hn : rows.length = n) {t : Nat} {v v' : Value} {r r' : List Nat} (hv : vs[t]? = some v) (hr : rows[t]? = some r) (hg : w.grownBy w' v.ownBlock)
    (ho : w'.ownsRow base 3 1 v' r'.length (r'.map natV)) (hat : v'.ownBlock = v.ownBlock ∨ v'.ownBlock = none ∨ ∃ k, v'.ownBlock = some k ∧ w.heap.size ≤ k) :
    RfO base (.slice (some ⟨g, 0, none⟩) n c) vU us (rows.set t r') (vs.set t v') (w'.setCell ⟨g, t, none⟩ v') := by
  have hrv := h.r t v r hv hr
  have hO := h.o
  rw [hn] at hO
  obtain ⟨cO, hcO⟩ := own_at hO
  have hne : ∀ {v2 : Value} {n2 : Nat} {x2 : List Value} {w2 : World}, w2.heap[g]? = some (.cells cO 22 (0, 0)) → w2.ownsRow base 3 1 v2 n2 x2 → v2.ownBlock ≠ some g := fun hc h2 e => by
    obtain ⟨c2, hc2⟩ := own_blk h2 e
    exact ne_ty hc2 hc (by decide) rfl
  have hneU : vU.ownBlock ≠ some g := fun e => by
    obtain ⟨c2, hc2⟩ := own_blk h.u e
    exact ne_ty hc2 hcO (by decide) rfl
  have hO' := own_app hO hrv (by decide) hg
  obtain ⟨cO', hcO'⟩ := own_at hO'
  have hne' : v'.ownBlock ≠ some g := fun e => by
    obtain ⟨c2, hc2⟩ := own_blk ho e
    exact ne_ty hc2 hcO' (by decide) rfl
  have hap : ∀ j v2, t ≠ j → vs[j]? = some v2 → v'.ownBlock = none ∨ v'.ownBlock ≠ v2.ownBlock := fun j v2 hj hv2 => by
    rcases hat with e | e | ⟨k, e, hk⟩
    · rw [e]; exact h.ap t j v v2 hj hv hv2
    · exact .inl e
    · right
      intro e2
      have hjl : j < rows.length := by
        have := (List.getElem?_eq_some_iff.1 hv2).1
        have := h.vl
        omega
      have := own_block (h.r j v2 _ hv2 (List.getElem?_eq_getElem hjl)) k (by rw [← e2]; exact e)
      omega
  refine ⟨?_, fun j v2 r2 hv2 hr2 => ?_, fun i j v1 v2 hij hi hj => ?_, own_far (own_app h.u hrv (by decide) hg) hneU⟩
  · rw [List.length_set, hn]; exact (hO'.stored t v').1
  · rw [List.getElem?_set] at hv2 hr2
    by_cases e : t = j
    · subst e
      rw [if_pos rfl] at hv2 hr2
      split at hv2
      · split at hr2
        · injection hv2 with hv2; injection hr2 with hr2
          subst hv2; subst hr2
          exact own_far ho hne'
        · cases hr2
      · cases hv2
    · rw [if_neg e] at hv2 hr2
      have h2 := h.r j v2 r2 hv2 hr2
      exact own_far (h2.kept hg (h.ap j t v2 v (fun e' => e e'.symm) hv2 hv)) (hne hcO h2)
  · rw [List.getElem?_set] at hi hj
    by_cases e1 : t = i
    · subst e1
      rw [if_neg hij] at hj
      rw [if_pos rfl] at hi
      split at hi
      · injection hi with hi; subst hi; exact hap j v2 hij hj
      · cases hi
    · rw [if_neg e1] at hi
      by_cases e2 : t = j
      · subst e2
        rw [if_pos rfl] at hj
        split at hj
        · injection hj with hj; subst hj
          rcases hap i v1 e1 hi with h0 | h0
          · rcases Classical.em (v1.ownBlock = none) with h4 | h4
            · exact .inl h4
            · right; rw [h0]; exact h4
          · right; exact fun e => h0 e.symm
        · cases hj
      · rw [if_neg e2] at hj
        exact h.ap i j v1 v2 hij hi hj
def RaL (ln : Int) (r : List Un) (w : World) (k : Nat) (v11 v : Value) (wr : World) : Prop := ∃ j : Nat, v = .int .i64 j ∧ j + k = r.length ∧ v11 = .int .i64 (ln + sumU (r.take j)) ∧ wr = w
set_option maxRecDepth 100000 in
set_option maxHeartbeats 6400000 in
theorem ract_any (AT AO AU : Option Addr) (cT cO cU i t : Nat) (T : List Tk) (m : Mv) (us : List Mv) (s : Yst) (vs : List Value) (w : World) (h : RfR w.heap.size AO AU cU T us s vs w) (hT : TRd w AT T) (h8 : T.length ≤ 8) (hTk : ∀ k ∈ T, tkOk k = true) (ht : t < T.length) (hm : mvOk m = true) (hok : YOk T i s) (hi : i ≤ 23) (href : RefOk us s) :
    Calls Try.prog 33 #[rfV AT AO AU cT cO cU T.length us.length, mvV m, .int .i64 t] w fun e w' => RaOut AT cT T m us (rfV AT AO AU cT cO cU T.length us.length) w e w' (actY T m t s) := by
  have hus : us.length ≤ 23 := by have := href.x; have := hok.nx; omega
  have hts : t < s.on.length := by rw [hok.n]; exact ht
  obtain ⟨hr1, hr2, hr3, hr4⟩ := hok.row ht
  have hrr : ∀ j, j < T.length → (rowY s j).length ≤ 24 := fun j hj => by have := (hok.row hj).1; omega
  have HRr := Lib.hid hrr
  have HR2 := Lib.hid hr2
  have HRef := Lib.hid (ref_row href hts)
  have HNx0 := Lib.hid href.x
  have H := Lib.hid h
  have HT := Lib.hid hT
  have htk := hTk (trk T t) (by rw [trk_get ht]; simp)
  have HOk := Lib.hid hok
  obtain ⟨inn, kd, ln⟩ := m
  have HMv := Lib.hid hm
  clear h hT hr2 hrr href hok hTk hm
  obtain ⟨iM, b1, b2, b3, b4⟩ := info_parts infoMv
  have HIM := Lib.hid (And.intro b1 (And.intro b2 (And.intro b3 b4)))
  clear b1 b2 b3 b4
  obtain ⟨i0, b1, b2, b3, b4⟩ := info_parts infoInt
  have HI := Lib.hid (And.intro b1 (And.intro b2 (And.intro b3 b4)))
  clear b1 b2 b3 b4
  unfold mvV rfV
  go_enter Try.func33, Try.ntmps33
  go_upto_region 1 with fail
  refine world_gen (fun w0 => Below w.heap.size w w0 ∧ w0.heap.size = w.heap.size + 3 ∧ Blk w0 w.heap.size 67 #[.slice AT T.length cT, .slice AO T.length cO, .slice AU us.length cU] ∧ Blk w0 (w.heap.size + 1) 41 #[.bool inn, .int .i64 kd, .int .i64 ln] ∧ Blk w0 (w.heap.size + 2) 67 #[.slice none 0 0, .slice none 0 0, .slice none 0 0]) ⟨(by repeat (first | exact Below.refl _ _ | (with_reducible refine Below.drew ?_) | (with_reducible refine below_drewN ?_ _) | (with_reducible refine Below.alloc ?_ (by first | omega | (simp; done) | (simp; omega)) _) | (with_reducible refine Below.setCell ?_ (by first | omega | (simp; done) | (simp; omega)) _) | (refine Below.trans ?_ (Below.mono (by with_reducible assumption) (by first | omega | (simp; done) | (simp; omega)))))), by simp, ((Blk.new w _ _).al _).al _, by simpa using (Blk.new (w.alloc _) 41 _).al _, by simpa using Blk.new ((w.alloc _).alloc _) 67 _⟩ ?_
  rintro w0 ⟨hb0, hs0, hy0, hm0, hr0⟩
  have HS0 := Lib.hid hs0
  have hle0 : w.heap.size ≤ w0.heap.size := by omega
  have HB0 := Lib.hid hb0
  have HY0 := Lib.hid hy0
  have HM0 := Lib.hid hm0
  have HR0 := Lib.hid hr0
  have y0 := hy0.cell 0
  have y1 := hy0.cell 1
  have y2 := hy0.cell 2
  have HA0 := Lib.hid ((H.out.grow hb0).more hle0)
  simp only [List.getElem?_toArray, List.getElem?_cons_succ, List.getElem?_cons_zero] at y0 y1 y2
  clear hb0 hy0 hr0 hm0 hs0
  go_wp2_with fail
  refine (copied_any AT AO AU cT cO cU T us s vs w0 HA0.out h8 (by omega) HRr.out HOk.out.n).mono ?_
  rintro e w1 ⟨AO1, AU1, cO1, cU1, vs1, rfl, ho1, hb1⟩
  unfold rfV
  go_upto_region 2 with fail
  refine world_gen (fun w2 => RaS w AT AO AU cT cO cU T.length us.length ⟨inn, kd, ln⟩ us (s.on.map fun r => r.map (·.num)) w1.heap.size (.slice AO1 T.length cO1) (.slice AU1 us.length cU1) vs1 w2) ⟨(HB0.out.trans (hb1.mono hle0)).alloc (Nat.le_trans hle0 hb1.size) _, (HY0.out.bel hb1).al _, (HM0.out.bel hb1).al _, (HR0.out.bel hb1).al _, Blk.new w1 _ _, by have := HS0.out; have := hb1.size; omega, (ho1.base' hle0).grow (by repeat (first | exact Below.refl _ _ | (with_reducible refine Below.drew ?_) | (with_reducible refine below_drewN ?_ _) | (with_reducible refine Below.alloc ?_ (by first | omega | (simp; done) | (simp; omega)) _) | (with_reducible refine Below.setCell ?_ (by first | omega | (simp; done) | (simp; omega)) _) | (refine Below.trans ?_ (Below.mono (by with_reducible assumption) (by first | omega | (simp; done) | (simp; omega))))))⟩ ?_
  rintro w2 hs2
  generalize w1.heap.size = bz at *
  have HS := Lib.hid hs2
  clear hs2 ho1 hb1 HB0 HY0 HM0 HR0 HA0 HS0 hle0 y0 y1 y2
  have hbz := HS.out.hz
  have hsz := HS.out.bel.size
  have hrn : (s.on.map fun r => r.map (·.num)).length = T.length := by simp [HOk.out.n]
  have hO := HS.out.o.o
  rw [hrn] at hO
  have HO := Lib.hid hO
  obtain ⟨go, rfl⟩ : ∃ g, AO1 = some ⟨g, 0, none⟩ := by
    obtain ⟨g, c', e, _, _⟩ := hO.form (by omega)
    injection e with e
    exact ⟨g, e⟩
  have hvl := HS.out.o.vl
  rw [hrn] at hvl
  have htv : t < vs1.length := by omega
  have hvt := List.getElem?_eq_getElem htv
  have hrt : (s.on.map fun r => r.map (·.num))[t]? = some ((rowY s t).map (·.num)) := by
    rw [List.getElem?_map, List.getElem?_eq_getElem hts, rowY_get hts]; rfl
  have hrow := HS.out.o.r t _ _ hvt hrt
  rw [List.length_map, List.map_map] at hrow
  have l0 := hO.cellAt t (by omega)
  rw [hvt] at l0
  obtain ⟨Al, cl, el, hcl, _⟩ := own_slice hrow
  rw [el] at hrow l0
  have HVt := Lib.hid (hvt.trans (congrArg some el))
  have HRow := Lib.hid hrow
  have z0 := HS.out.z.cell 0
  have z1 := HS.out.z.cell 1
  have z2 := HS.out.z.cell 2
  have m0 := HS.out.m.cell 0
  have m1 := HS.out.m.cell 1
  have m2 := HS.out.m.cell 2
  simp only [List.getElem?_toArray, List.getElem?_cons_succ, List.getElem?_cons_zero] at z0 z1 z2 m0 m1 m2
  have hzl := HS.out.z.lt
  have HRn := Lib.hid hrn
  clear hvl hvt hrt el hO hrow htv hrn
  obtain ⟨tb, tof, rfl, htb, e0, e1⟩ := rdTk (HT.out.grow HS.out.bel).r rfl t ht
  rw [← trk_get ht] at e0 e1
  have htbl : tb < w2.heap.size := by omega
  have y0 := HS.out.y.cell 0
  have y1 := HS.out.y.cell 1
  have y2 := HS.out.y.cell 2
  have r0 := HS.out.r.cell 0
  have r1 := HS.out.r.cell 1
  have r2 := HS.out.r.cell 2
  have f0 := HS.out.r.frozen 0
  have f1 := HS.out.r.frozen 1
  have f2 := HS.out.r.frozen 2
  have hrl := HS.out.r.lt
  simp only [List.getElem?_toArray, List.getElem?_cons_succ, List.getElem?_cons_zero] at y0 y1 y2 r0 r1 r2
  have ht0 : (0 : Int) ≤ (t : Int) := by omega
  have ht1 : (t : Int) < (T.length : Int) := by omega
  generalize hrv : rowY s t = r at *
  have HRv := Lib.hid hrv
  clear hrv
  cases inn with
  | true =>
    have hmv := HMv.out
    simp [mvOk] at hmv
    obtain ⟨⟨hk0, hk1⟩, hl0, hl1⟩ := hmv
    have HSum := Lib.hid (sumU_pre r (fun u hu => (HR2.out u hu).2.2) · (by omega))
    go_wp2_with fail
    go_loopg [11, 29] r.length (fun k v11 v wr => RaL ln r w2 k v11 v wr)
    case atStart => exact ⟨0, rfl, by omega, by simp [sumU], rfl⟩
    case round =>
      obtain ⟨j, rfl, hj, rfl, rfl⟩ := hrel
      have Hj := Lib.hid hj
      clear hj
      have hsm := HSum.out j
      obtain ⟨hsm0, hsm1⟩ := hsm
      by_cases hlt : j < r.length
      · have hu := HRef.out r[j] (List.getElem_mem hlt)
        obtain ⟨hnl, hue⟩ := List.getElem?_eq_some_iff.1 hu
        obtain ⟨ub, uo, rfl, hub, d0, d1, d2⟩ := rdMv (Rd.of_own HS.out.o.u) rfl r[j].num hnl
        rw [hue] at d2
        obtain ⟨gl, rfl⟩ : ∃ g, Al = some ⟨g, 0, none⟩ := by
          obtain ⟨g, c', e, _, _⟩ := HRow.out.form (by omega)
          injection e with e
          exact ⟨g, e⟩
        have q1 := own1 HRow.out j hlt
        simp only [Function.comp, natV] at q1
        have HNx := Lib.hid (sumU_take r j hlt)
        have hul := HR2.out r[j] (List.getElem_mem hlt)
        obtain ⟨_, _, hul0, hul1⟩ := hul
        clear hu hue d0 d1
        generalize r[j] = u at *
        obtain ⟨num, k2, l2⟩ := u
        simp only at d2 q1 HNx hul0 hul1 hnl
        have hn0 : (0 : Int) ≤ (num : Int) := by omega
        have hn1 : (num : Int) < (us.length : Int) := by omega
        go_wp2_with fail
        go_roundg (r.length - j - 1)
        case measure => have := Hj.out; omega
        case rel => exact ⟨j + 1, by first | rfl | go_num, by omega, by rw [HNx.out, Int.add_assoc], rfl⟩
      · obtain rfl : j = r.length := by have := Hj.out; omega
        rw [List.take_length] at hsm0 hsm1 ⊢
        by_cases hfit : ln + sumU r ≤ (trk T t).ln
        · have HAct := Lib.hid (show actY T ⟨true, kd, ln⟩ t s = some (⟨s.nx, kd, ln⟩, ⟨s.on.set t (r ++ [⟨s.nx, kd, ln⟩]), s.nx + 1⟩) by rw [actY_in rfl, HRv.out]; exact if_pos hfit)
          have HX := Lib.hid HRef.out
          have hA := own_block HS.out.o.u
          have hbb : Below wr.heap.size wr (wr.alloc (.cells #[.bool true, .int .i64 kd, .int .i64 ln] 41)) := (by repeat (first | exact Below.refl _ _ | (with_reducible refine Below.drew ?_) | (with_reducible refine below_drewN ?_ _) | (with_reducible refine Below.alloc ?_ (by first | omega | (simp; done) | (simp; omega)) _) | (with_reducible refine Below.setCell ?_ (by first | omega | (simp; done) | (simp; omega)) _) | (refine Below.trans ?_ (Below.mono (by with_reducible assumption) (by first | omega | (simp; done) | (simp; omega))))))
          have HSu := Lib.hid (own_grow HS.out.o.u hbb)
          have HSz := Lib.hid (HS.out.z.bel hbb)
          have HSa := Lib.hid (HS.out.o.grow hbb)
          have hnb := own_nb HSu.out HSz.out (by decide)
          go_upto_region 13 with (at_builtin; refine wpList_append_any rfl _ _ 24 rfl w.heap.size 41 iM _ 3 24 Try.underlying24 HIM.out.1 HIM.out.2.1 HIM.out.2.2.1 HIM.out.2.2.2 rfl (by omega) _ us.length _ rfl HSu.out (some ⟨wr.heap.size, 0, none⟩) 1 1 (wr.alloc (.cells #[.bool true, .int .i64 kd, .int .i64 ln] 41)).heap.size [.bool true, .int .i64 kd, .int .i64 ln] rfl (fun e => by cases e) (Rd.of_blk (cs := [.bool true, .int .i64 kd, .int .i64 ln]) (n := 1) (sz := 3) (Blk.new wr 41 _) rfl) (by intro u hu; simp at hu; rcases hu with rfl | rfl | rfl <;> rfl) (by simp only [maxLen]; omega) (by omega) (by simp; omega) ?_; intro v3 w3 ho3 hg3 ht3; have hz3 := HSz.out.grown hg3 hnb; have f3 := hz3.frozen 2; have q3 := hz3.cell 2; have hzl3 := hz3.lt; obtain ⟨A3, c3, rfl, _, _⟩ := own_slice ho3; simp only [List.getElem?_toArray, List.getElem?_cons_succ, List.getElem?_cons_zero] at q3)
          refine world_gen (fun w4 => Below w.heap.size w w4 ∧ Blk w4 (w.heap.size + 2) 67 #[.slice none 0 0, .slice none 0 0, .slice none 0 0] ∧ Blk w4 bz 67 #[.slice (some ⟨tb, tof, none⟩) T.length cT, .slice (some ⟨go, 0, none⟩) T.length cO1, .slice A3 (us.length + 1) c3] ∧ RfO w.heap.size (.slice (some ⟨go, 0, none⟩) T.length cO1) (.slice A3 (us.length + 1) c3) (us ++ [⟨true, kd, ln⟩]) (s.on.map fun r => r.map (·.num)) vs1 w4)
            ⟨((HS.out.bel.trans (hbb.mono hsz)).grown hg3 (by simp; omega) (fun k hk => (own_block HSu.out k hk).1)).setCell (p := ⟨bz, 2, none⟩) (show w.heap.size ≤ bz by omega) _,
             ((HS.out.r.bel hbb).grown hg3 (own_nb HSu.out (HS.out.r.bel hbb) (by decide))).far (by omega),
             by simpa using hz3.set_ 2 (.slice A3 (us.length + 1) c3),
             (HSa.out.appU hg3 (by rw [List.length_append, List.flatMap_append]; exact ho3)).setz hz3⟩ ?_
          rintro w4 ⟨hb4, hr4, hz4, ho4⟩
          have HB4 := Lib.hid hb4
          have HR4 := Lib.hid hr4
          have HZ4 := Lib.hid hz4
          have HO4 := Lib.hid ho4
          have x1 := hz4.cell 1
          have x2 := hz4.cell 2
          simp only [List.getElem?_toArray, List.getElem?_cons_succ, List.getElem?_cons_zero] at x1 x2
          clear hb4 hr4 hz4 ho4 hz3 f3 q3 hzl3 ho3 hg3 ht3 hnb HSa HSz HSu hbb hA z0 z1 z2 m0 m1 m2 y0 y1 y2 r0 r1 r2 f0 f1 f2 hrl e0 e1 l0 hzl HS HO HX
          have hsz4 := HB4.out.size
          have hO4 := HO4.out.o
          rw [HRn.out] at hO4
          have hrt : (s.on.map fun r => r.map (·.num))[t]? = some (r.map (·.num)) := by
            rw [List.getElem?_map, List.getElem?_eq_getElem hts, ← rowY_get hts, HRv.out]; rfl
          have hrow4 := HO4.out.r t _ _ HVt.out hrt
          rw [List.length_map, List.map_map] at hrow4
          have HRow4 := Lib.hid hrow4
          have HOo4 := Lib.hid hO4
          have HRt := Lib.hid hrt
          have hgb : go ≠ bz := by obtain ⟨c, hc⟩ := own_at hO4; exact ne_ty hc HZ4.out (by decide)
          have hgb2 : bz ≠ go := fun e => hgb e.symm
          have hbz4 := HZ4.out.lt
          have hwr : IntKind.i64.wrap (us.length : Int) = (us.length : Int) := IntWalk.i64_in _ (by omega)
          clear hO4 hrt hrow4 HRow
          go_region_held3 (fun w' => w'.cell? ⟨bz, 1, none⟩ = some (.slice (some ⟨go, 0, none⟩) T.length cO1) ∧ w'.cell? ⟨bz, 2, none⟩ = some (.slice A3 (us.length + 1) c3))
            (first | exact ⟨v1, v2⟩ | exact ⟨x1, x2⟩ | go_keep)
            (first | (refine step_append_any (by rfl) _ _ _ (by rfl) w.heap.size 3 i0 _ 1 8 Try.underlying22 HI.out.1 HI.out.2.1 HI.out.2.2.1 HI.out.2.2.2 rfl (by omega) (.slice Al r.length cl) r.length (r.map (natV ∘ fun x => x.num)) rfl (own_grow HRow4.out (by repeat (first | exact Below.refl _ _ | (with_reducible refine Below.drew ?_) | (with_reducible refine below_drewN ?_ _) | (with_reducible refine Below.alloc ?_ (by first | omega | (simp; done) | (simp; omega)) _) | (with_reducible refine Below.setCell ?_ (by first | omega | (simp; done) | (simp; omega)) _) | (refine Below.trans ?_ (Below.mono (by with_reducible assumption) (by first | omega | (simp; done) | (simp; omega))))))) (some ⟨w4.heap.size, 0, none⟩) 1 1 (w4.alloc (.cells #[.int .i64 us.length] 3)).drew.heap.size [.int .i64 us.length] rfl (fun e => by cases e) (Rd.of_blk (cs := [.int .i64 us.length]) (n := 1) (sz := 1) (Blk.new w4 3 _).dr rfl) (by intro u hu; simp at hu; subst hu; rfl) (by simp only [maxLen]; omega) (by omega) (by simp; omega) ?_; intro v5 w5 ho5 hg5 ht5; obtain ⟨A5, c5, rfl, _, _⟩ := own_slice ho5; have hb5 : Below w4.heap.size w4 ((w4.alloc (.cells #[.int .i64 us.length] 3)).drew) := (by repeat (first | exact Below.refl _ _ | (with_reducible refine Below.drew ?_) | (with_reducible refine below_drewN ?_ _) | (with_reducible refine Below.alloc ?_ (by first | omega | (simp; done) | (simp; omega)) _) | (with_reducible refine Below.setCell ?_ (by first | omega | (simp; done) | (simp; omega)) _) | (refine Below.trans ?_ (Below.mono (by with_reducible assumption) (by first | omega | (simp; done) | (simp; omega)))))); have hz5 := (HZ4.out.bel hb5).grown hg5 (own_nb (own_grow HRow4.out hb5) (HZ4.out.bel hb5) (by decide)); have v1 := hz5.cell 1; have v2 := hz5.cell 2; have hob := own_app (own_grow HOo4.out hb5) (own_grow HRow4.out hb5) (by decide) hg5; have o1 := hob.cellAt t (by omega); have fo := own_frozen hob t; have hol := (own_block hob go rfl).2; simp only [List.getElem?_toArray, List.getElem?_cons_succ, List.getElem?_cons_zero] at v1 v2; rw [HVt.out] at o1))
          go_upto_region 14 with fail
          refine world_gen (fun w6 => Below w.heap.size w w6 ∧ Blk w6 (w.heap.size + 2) 67 #[.slice none 0 0, .slice none 0 0, .slice none 0 0] ∧ Blk w6 bz 67 #[.slice (some ⟨tb, tof, none⟩) T.length cT, .slice (some ⟨go, 0, none⟩) T.length cO1, .slice A3 (us.length + 1) c3] ∧ RfO w.heap.size (.slice (some ⟨go, 0, none⟩) T.length cO1) (.slice A3 (us.length + 1) c3) (us ++ [⟨true, kd, ln⟩]) ((s.on.map fun r => r.map (·.num)).set t (r.map (·.num) ++ [us.length])) (vs1.set t (.slice A5 (r.length + 1) c5)) w6)
            ⟨((HB4.out.trans (hb5.mono hsz4)).grown hg5 (by simp; omega) (fun k hk => (own_block HRow4.out k hk).1)).setCell (p := ⟨go, t, none⟩) (own_block HOo4.out go rfl).1 _,
             ((HR4.out.bel hb5).grown hg5 (own_nb (own_grow HRow4.out hb5) (HR4.out.bel hb5) (by decide))).far (by obtain ⟨c, hc⟩ := own_at HOo4.out; exact ne_ty hc HR4.out (by decide)),
             hz5.far hgb,
             (HO4.out.grow hb5).row HRn.out HVt.out HRt.out hg5 (by rw [List.length_append, List.length_map, List.map_append, List.map_map]; exact ho5) (by rcases ht5 with e | e; exact .inl e; exact .inr (.inr ⟨_, e, Nat.le_refl _⟩))⟩ ?_
          clear hb5 hz5 v1 v2 hob o1 fo hol ho5 hg5 ht5 HB4 HR4 HZ4 HO4 HRow4 HOo4 x1 x2 hgb2 hgb hbz4
          rintro w6 ⟨hb6, hr6, hz6, ho6⟩
          have HB6 := Lib.hid hb6
          have HR6 := Lib.hid hr6
          have HZ6 := Lib.hid hz6
          have HO6 := Lib.hid ho6
          have hr7 := hr6
          have ho7 := ho6
          have hb7 := hb6
          have z0 := hz6.cell 0
          have z1 := hz6.cell 1
          have z2 := hz6.cell 2
          have r0 := hr6.cell 0
          have r1 := hr6.cell 1
          have r2 := hr6.cell 2
          have f0 := hr6.frozen 0
          have f1 := hr6.frozen 1
          have f2 := hr6.frozen 2
          have hzl := hz6.lt
          have hrl := hr6.lt
          have hbr : w.heap.size + 2 ≠ bz := by omega
          have hbr2 : bz ≠ w.heap.size + 2 := by omega
          simp only [List.getElem?_toArray, List.getElem?_cons_succ, List.getElem?_cons_zero] at z0 z1 z2 r0 r1 r2
          have HR8 := Lib.hid (((hr7.set_ 0 (.slice (some ⟨tb, tof, none⟩) T.length cT)).set_ 1 (.slice (some ⟨go, 0, none⟩) T.length cO1)).set_ 2 (.slice A3 (us.length + 1) c3))
          have HO8 := Lib.hid (((ho7.setz (o := 0) (u := .slice (some ⟨tb, tof, none⟩) T.length cT) hr7).setz (o := 1) (u := .slice (some ⟨go, 0, none⟩) T.length cO1) (hr7.set_ 0 (.slice (some ⟨tb, tof, none⟩) T.length cT))).setz (o := 2) (u := .slice A3 (us.length + 1) c3) ((hr7.set_ 0 (.slice (some ⟨tb, tof, none⟩) T.length cT)).set_ 1 (.slice (some ⟨go, 0, none⟩) T.length cO1)))
          have HB8 := Lib.hid (((hb7.setCell (p := ⟨w.heap.size + 2, 0, none⟩) (show w.heap.size ≤ w.heap.size + 2 by omega) (.slice (some ⟨tb, tof, none⟩) T.length cT)).setCell (p := ⟨w.heap.size + 2, 1, none⟩) (show w.heap.size ≤ w.heap.size + 2 by omega) (.slice (some ⟨go, 0, none⟩) T.length cO1)).setCell (p := ⟨w.heap.size + 2, 2, none⟩) (show w.heap.size ≤ w.heap.size + 2 by omega) (.slice A3 (us.length + 1) c3))
          clear hb6 hr6 hz6 ho6 HB6 HR6 HZ6 HO6 hr7 ho7 hb7
          go_region
          go_wp2_with fail
          (try simp only [Exit.inBlock, Exit.then])
          refine bodyPost_ret (results_cell_row_tmp2 rfl _ _ (w.heap.size + 2) 67 #[.slice (some ⟨tb, tof, none⟩) T.length cT, .slice (some ⟨go, 0, none⟩) T.length cO1, .slice A3 (us.length + 1) c3] (0, 0) _ rfl (by have h := HR8.out; first | exact h | (simp at h; exact h)) Try.underlying67 rfl (by kernel_rfl)) rfl ?_
          rw [HAct.out]
          refine ⟨some ⟨go, 0, none⟩, A3, cO1, c3, us ++ [⟨true, kd, ln⟩], vs1.set t (.slice A5 (r.length + 1) c5), ?_, rfl, ?_, HB8.out.drew⟩
          · rw [HNx0.out]; simp [rfV]
          · have h := HO8.out.grow (Below.refl _ _).drew
            rw [List.map_set, List.map_append]
            simpa [HNx0.out] using h
        · have HNo := Lib.hid (show actY T ⟨true, kd, ln⟩ t s = none by rw [actY_in rfl, HRv.out]; exact if_neg hfit)
          have hgt : (trk T t).ln < ln + sumU r := by omega
          have HR6 := Lib.hid (((HS.out.r.set_ 0 (.slice (some ⟨tb, tof, none⟩) T.length cT)).set_ 1 (.slice AO T.length cO)).set_ 2 (.slice AU us.length cU))
          have HB6 := Lib.hid (((HS.out.bel.setCell (p := ⟨w.heap.size + 2, 0, none⟩) (show w.heap.size ≤ w.heap.size + 2 by omega) (.slice (some ⟨tb, tof, none⟩) T.length cT)).setCell (p := ⟨w.heap.size + 2, 1, none⟩) (show w.heap.size ≤ w.heap.size + 2 by omega) (.slice AO T.length cO)).setCell (p := ⟨w.heap.size + 2, 2, none⟩) (show w.heap.size ≤ w.heap.size + 2 by omega) (.slice AU us.length cU))
          go_wp2_with fail
          (try simp only [Exit.inBlock, Exit.then])
          refine bodyPost_ret (results_cell_row_tmp2 rfl _ _ (w.heap.size + 2) 67 #[.slice (some ⟨tb, tof, none⟩) T.length cT, .slice AO T.length cO, .slice AU us.length cU] (0, 0) _ rfl (by have h := HR6.out; first | exact h | (simp at h; exact h)) Try.underlying67 rfl (by kernel_rfl)) rfl ?_
          exact (by rw [HNo.out]; exact ⟨rfl, HB6.out⟩)
  | false =>
    have hmv := HMv.out
    simp [mvOk] at hmv
    obtain ⟨⟨hk0, hk1⟩, rfl⟩ := hmv
    by_cases h0 : r.length = 0
    · have hr0 : r = [] := List.eq_nil_of_length_eq_zero h0
      have HNo := Lib.hid (show actY T ⟨false, kd, 0⟩ t s = none from actY_nil rfl (by rw [HRv.out]; exact hr0))
      have HR6 := Lib.hid (((HS.out.r.set_ 0 (.slice (some ⟨tb, tof, none⟩) T.length cT)).set_ 1 (.slice AO T.length cO)).set_ 2 (.slice AU us.length cU))
      have HB6 := Lib.hid (((HS.out.bel.setCell (p := ⟨w.heap.size + 2, 0, none⟩) (show w.heap.size ≤ w.heap.size + 2 by omega) (.slice (some ⟨tb, tof, none⟩) T.length cT)).setCell (p := ⟨w.heap.size + 2, 1, none⟩) (show w.heap.size ≤ w.heap.size + 2 by omega) (.slice AO T.length cO)).setCell (p := ⟨w.heap.size + 2, 2, none⟩) (show w.heap.size ≤ w.heap.size + 2 by omega) (.slice AU us.length cU))
      go_wp2_with fail
      (try simp only [Exit.inBlock, Exit.then])
      refine bodyPost_ret (results_cell_row_tmp2 rfl _ _ (w.heap.size + 2) 67 #[.slice (some ⟨tb, tof, none⟩) T.length cT, .slice AO T.length cO, .slice AU us.length cU] (0, 0) _ rfl (by have h := HR6.out; first | exact h | (simp at h; exact h)) Try.underlying67 rfl (by kernel_rfl)) rfl ?_
      exact (by rw [HNo.out]; exact ⟨rfl, HB6.out⟩)
    have hpl := plc_lt (trk T t).thr (r := r) (fun e => h0 (by rw [e]; rfl))
    generalize hpp : plc (trk T t).thr r = p at *
    obtain ⟨gl, rfl, hglb, hgl⟩ : ∃ g, Al = some ⟨g, 0, none⟩ ∧ w.heap.size ≤ g ∧ g < w2.heap.size := by
      obtain ⟨g, cap, e, h1, h2⟩ := HRow.out.form (by omega)
      injection e with e
      exact ⟨g, e, h1, h2⟩
    have q1 := own1 HRow.out p hpl
    simp only [Function.comp, natV] at q1
    have hact := actY_out (T := T) (m := ⟨false, kd, 0⟩) (t := t) (s := s) rfl (by rw [HRv.out, hpp]; exact hpl)
    simp only [HRv.out, hpp] at hact
    have hu := HRef.out r[p] (List.getElem_mem hpl)
    obtain ⟨hnl, hue⟩ := List.getElem?_eq_some_iff.1 hu
    obtain ⟨ub, uo, rfl, hub, d0, d1, d2⟩ := rdMv (Rd.of_own HS.out.o.u) rfl r[p].num hnl
    rw [hue] at d1
    clear hu hue d0 d2
    generalize r[p] = u at *
    obtain ⟨num, k2, l2⟩ := u
    simp only at hact d1 q1 hnl
    have HAct := Lib.hid hact
    have HPp := Lib.hid (show (p = 0 ∨ p = r.length - 1) ∧ p < r.length from ⟨by rw [← hpp]; unfold plc; split <;> simp, hpl⟩)
    have hn0 : (0 : Int) ≤ (num : Int) := by omega
    have hn1 : (num : Int) < (us.length : Int) := by omega
    have hbm : w.heap.size + 1 ≠ bz := by omega
    clear hact
    cases hth : (trk T t).thr
    all_goals
      rw [hth] at e1 hpp
      simp only [plc, if_true, if_false, Bool.false_eq_true] at hpp
      rw [← hpp] at q1
      have HPi := Lib.hid hpp
      clear hpp hpl
      go_upto_region 21 with fail
      go_region_held3 (fun w' => w'.cell? ⟨bz, 2, none⟩ = some (.slice (some ⟨ub, uo, none⟩) us.length cU1) ∧ w'.cell? ⟨ub, uo + num * 3 + 1, none⟩ = some (.int .i64 k2) ∧ w'.cell? ⟨w.heap.size + 1, 1, none⟩ = some (.int .i64 kd)) (first | exact ⟨z2, d1, m1⟩ | go_keep) (fail)
      by_cases hk : k2 = kd
      · rw [if_pos hk] at HAct
        subst hk
        go_upto_region 23 with fail
        refine world_gen (fun w4 => RaS w (some ⟨tb, tof, none⟩) AO AU cT cO cU T.length us.length ⟨false, k2, 0⟩ us (s.on.map fun r => r.map (·.num)) bz (.slice (some ⟨go, 0, none⟩) T.length cO1) (.slice (some ⟨ub, uo, none⟩) us.length cU1) vs1 w4) (HS.out.grow (by repeat (first | exact Below.refl _ _ | (with_reducible refine Below.drew ?_) | (with_reducible refine below_drewN ?_ _) | (with_reducible refine Below.alloc ?_ (by first | omega | (simp; done) | (simp; omega)) _) | (with_reducible refine Below.setCell ?_ (by first | omega | (simp; done) | (simp; omega)) _) | (refine Below.trans ?_ (Below.mono (by with_reducible assumption) (by first | omega | (simp; done) | (simp; omega))))))) ?_
        clear z0 z1 z2 m0 m1 m2 y0 y1 y2 r0 r1 r2 f0 f1 f2 hrl e0 e1 l0 hzl d1 q1 hgl hsz HS HO HRow htbl htb hub
        rintro w4 hs4
        have HS4 := Lib.hid hs4
        clear hs4
        have hsz := HS4.out.bel.size
        have hO4 := HS4.out.o.o
        rw [HRn.out] at hO4
        have hrt : (s.on.map fun r => r.map (·.num))[t]? = some (r.map (·.num)) := by
          rw [List.getElem?_map, List.getElem?_eq_getElem hts, ← rowY_get hts, HRv.out]; rfl
        have hrow4 := HS4.out.o.r t _ _ HVt.out hrt
        rw [List.length_map, List.map_map] at hrow4
        have HRow4 := Lib.hid hrow4
        have HOo4 := Lib.hid hO4
        have HRt := Lib.hid hrt
        have hgb : go ≠ bz := by obtain ⟨c, hc⟩ := own_at hO4; exact ne_ty hc HS4.out.z (by decide)
        have hgb2 : bz ≠ go := fun e => hgb e.symm
        have hbz4 := HS4.out.z.lt
        have x1 := HS4.out.z.cell 1
        simp only [List.getElem?_toArray, List.getElem?_cons_succ, List.getElem?_cons_zero] at x1
        have hrd := Rd.of_own hrow4
        have R1 := Lib.hid (rd_pre hrd (Nat.le_of_lt HPp.out.2))
        have R2 := Lib.hid (rd_post (l := p + 1) hrd HPp.out.2 hcl)
        clear hrd hO4 hrt hrow4
        generalize hnr : r.length = nr at *
        have Hnr := Lib.hid hnr
        have hp1 := HPp.out.2
        clear hnr
        first
          | rw [show ((nr : Int) - 1) = (p : Int) by have := HPi.out; omega]
          | rw [show (Value.int .i64 0) = Value.int .i64 (p : Int) by rw [← HPi.out]; rfl]
        have s0 : (0 : Int) ≤ (p : Int) + 1 := by omega
        have s1 : (p : Int) ≤ (cl : Int) := by omega
        have s2 : (p : Int) + 1 ≤ (nr : Int) := by omega
        have s3 : IntKind.i64.wrap ((p : Int) + 1) = (p : Int) + 1 := IntWalk.i64_in _ (by omega)
        have s5 : (p : Int) ≤ (p : Int) + 1 := by omega
        have s4 : ¬ cl = 0 := by omega
        rcases (show cl = p + 1 ∨ ¬ cl = p + 1 by omega) with hcp | hcp
        all_goals
          first
            | rw [if_pos hcp] at R2
            | rw [if_neg hcp] at R2
          simp only [Nat.mul_one] at R1 R2
          go_region_held3 (fun w' => w'.cell? ⟨bz, 1, none⟩ = some (.slice (some ⟨go, 0, none⟩) T.length cO1))
            (first | exact v2 | exact v1 | exact x1 | exact ((HS4.out.z.bel hb2).far (b := go) (o := t) hgb).cell 1 | exact cell_bel (w := w4) (by repeat (first | exact Below.refl _ _ | (with_reducible refine Below.drew ?_) | (with_reducible refine below_drewN ?_ _) | (with_reducible refine Below.alloc ?_ (by first | omega | (simp; done) | (simp; omega)) _) | (with_reducible refine Below.setCell ?_ (by first | omega | (simp; done) | (simp; omega)) _) | (refine Below.trans ?_ (Below.mono (by with_reducible assumption) (by first | omega | (simp; done) | (simp; omega)))))) x1 | go_keep)
            (first | (refine step_append_any (by rfl) _ _ _ (by rfl) w.heap.size 3 i0 _ 1 8 Try.underlying22 HI.out.1 HI.out.2.1 HI.out.2.2.1 HI.out.2.2.2 rfl (by omega) (.slice A1 p c1) p ((r.map (natV ∘ fun x => x.num)).take p) rfl Ho1.out _ (nr - (p + 1)) _ _ ((r.map (natV ∘ fun x => x.num)).drop (p + 1)) (by rfl) (fun e => by cases e) (R2.out.grow hb1) (fun u hu => by obtain ⟨x, _, rfl⟩ := List.mem_map.1 (List.mem_of_mem_drop hu); rfl) (by simp only [maxLen]; omega) (by omega) (Nat.le_trans hsz hb1.size) ?_; intro v2 w2 ho2 hg2 hat2; obtain ⟨A2, c2, rfl, _, _⟩ := own_slice ho2; have hb2 : Below w4.heap.size w4 w2 := hb1.grown hg2 hb1.size n1; have v2 := cell_bel hb2 x1; have hob := own_grow HOo4.out hb2; have o1 := hob.cellAt t (by omega); have fo := own_frozen hob t; have hol := (own_block hob go rfl).2; rw [HVt.out] at o1) | (refine step_append_any (by rfl) _ _ _ (by rfl) w.heap.size 3 i0 _ 1 8 Try.underlying22 HI.out.1 HI.out.2.1 HI.out.2.2.1 HI.out.2.2.2 rfl (by omega) (.slice none 0 0) 0 [] rfl (World.ownsRow_nil _ _ _ _) _ p _ _ ((r.map (natV ∘ fun x => x.num)).take p) (by rfl) (fun e => by cases e) (R1.out.grow (Below.refl _ _).drew) (fun u hu => by obtain ⟨x, _, rfl⟩ := List.mem_map.1 (List.mem_of_mem_take hu); rfl) (by simp only [maxLen]; omega) (by omega) (by simp; omega) ?_; intro v1 w1 ho1 hg1 hat1; rw [Nat.zero_add, List.nil_append] at ho1; obtain ⟨A1, c1, rfl, _, _⟩ := own_slice ho1; have Ho1 := Lib.hid ho1; have hb1 : Below w4.heap.size w4 w1 := (Below.refl _ _).drew.grown hg1 (Nat.le_refl _) (fun k hk => by simp [Value.ownBlock] at hk); have v1 := cell_bel hb1 x1; have n1 : ∀ k, (Value.slice A1 p c1).ownBlock = some k → w4.heap.size ≤ k := fun k hk => by rcases hat1 with e | e <;> rw [e] at hk <;> first | (simp [Value.ownBlock] at hk; done) | (simp at hk; omega)))
          all_goals
            have hwd : Below w4.heap.size w4 w4.drew := (Below.refl _ _).drew
            have hg8 : w4.drew.grownBy w2 (Value.slice (some ⟨gl, 0, none⟩) nr cl).ownBlock := grown_two hg1 hg2 n1 _
            have hat8 : (Value.slice A2 (p + (nr - (p + 1))) c2).ownBlock = (Value.slice (some ⟨gl, 0, none⟩) nr cl).ownBlock ∨ (Value.slice A2 (p + (nr - (p + 1))) c2).ownBlock = none ∨ ∃ k, (Value.slice A2 (p + (nr - (p + 1))) c2).ownBlock = some k ∧ w4.drew.heap.size ≤ k := by
              right
              rcases hat2 with e | e
              · rcases hat1 with e1 | e1
                · exact .inl (e.trans (e1.trans rfl))
                · exact .inr ⟨_, e.trans e1, Nat.le_refl _⟩
              · exact .inr ⟨_, e, hb1.size⟩
            have HRl := Lib.hid (show (r.eraseIdx p).length = p + (nr - (p + 1)) by
              have := HPp.out.2
              rw [List.length_eraseIdx_of_lt (by rw [Hnr.out]; exact this), Hnr.out]; omega)
            have HO5 := Lib.hid ((HS4.out.o.grow hwd).row (r' := (r.eraseIdx p).map (·.num)) HRn.out HVt.out HRt.out hg8 (by rw [List.length_map, HRl.out, List.map_map, List.eraseIdx_eq_take_drop_succ, List.map_append, List.map_take, List.map_drop]; exact ho2) hat8)
            go_upto_region 24 with fail
            refine world_gen (fun w6 => Below w.heap.size w w6 ∧ Blk w6 (w.heap.size + 2) 67 #[.slice none 0 0, .slice none 0 0, .slice none 0 0] ∧ Blk w6 bz 67 #[.slice (some ⟨tb, tof, none⟩) T.length cT, .slice (some ⟨go, 0, none⟩) T.length cO1, .slice (some ⟨ub, uo, none⟩) us.length cU1] ∧ RfO w.heap.size (.slice (some ⟨go, 0, none⟩) T.length cO1) (.slice (some ⟨ub, uo, none⟩) us.length cU1) us ((s.on.map fun r => r.map (·.num)).set t ((r.eraseIdx p).map (·.num))) (vs1.set t (.slice A2 (p + (nr - (p + 1))) c2)) w6)
              ⟨(HS4.out.bel.trans (hb2.mono hsz)).setCell (p := ⟨go, t, none⟩) (own_block HOo4.out go rfl).1 _,
               (HS4.out.r.bel hb2).far (by obtain ⟨c, hc⟩ := own_at HOo4.out; exact ne_ty hc HS4.out.r (by decide)),
               (HS4.out.z.bel hb2).far hgb, HO5.out⟩ ?_
            clear hwd hg8 hat8 hg1 hg2 n1 hat1 hat2 ho1 ho2 hb1 hb2 v1 v2 hob o1 fo hol x1 HO5 R1 R2 s0 s1 s2 s3 s4 s5 hcp HS4 HRow4 HOo4 hgb2 hgb hbz4
            rintro w6 ⟨hb6, hr6, hz6, ho6⟩
            have HB6 := Lib.hid hb6
            have HR6 := Lib.hid hr6
            have HZ6 := Lib.hid hz6
            have HO6 := Lib.hid ho6
            have hr7 := hr6
            have ho7 := ho6
            have hb7 := hb6
            have z0 := hz6.cell 0
            have z1 := hz6.cell 1
            have z2 := hz6.cell 2
            have r0 := hr6.cell 0
            have r1 := hr6.cell 1
            have r2 := hr6.cell 2
            have f0 := hr6.frozen 0
            have f1 := hr6.frozen 1
            have f2 := hr6.frozen 2
            have hzl := hz6.lt
            have hrl := hr6.lt
            have hbr : w.heap.size + 2 ≠ bz := by omega
            have hbr2 : bz ≠ w.heap.size + 2 := by omega
            simp only [List.getElem?_toArray, List.getElem?_cons_succ, List.getElem?_cons_zero] at z0 z1 z2 r0 r1 r2
            have HR8 := Lib.hid (((hr7.set_ 0 (.slice (some ⟨tb, tof, none⟩) T.length cT)).set_ 1 (.slice (some ⟨go, 0, none⟩) T.length cO1)).set_ 2 (.slice (some ⟨ub, uo, none⟩) (us.length) cU1))
            have HO8 := Lib.hid (((ho7.setz (o := 0) (u := .slice (some ⟨tb, tof, none⟩) T.length cT) hr7).setz (o := 1) (u := .slice (some ⟨go, 0, none⟩) T.length cO1) (hr7.set_ 0 (.slice (some ⟨tb, tof, none⟩) T.length cT))).setz (o := 2) (u := .slice (some ⟨ub, uo, none⟩) (us.length) cU1) ((hr7.set_ 0 (.slice (some ⟨tb, tof, none⟩) T.length cT)).set_ 1 (.slice (some ⟨go, 0, none⟩) T.length cO1)))
            have HB8 := Lib.hid (((hb7.setCell (p := ⟨w.heap.size + 2, 0, none⟩) (show w.heap.size ≤ w.heap.size + 2 by omega) (.slice (some ⟨tb, tof, none⟩) T.length cT)).setCell (p := ⟨w.heap.size + 2, 1, none⟩) (show w.heap.size ≤ w.heap.size + 2 by omega) (.slice (some ⟨go, 0, none⟩) T.length cO1)).setCell (p := ⟨w.heap.size + 2, 2, none⟩) (show w.heap.size ≤ w.heap.size + 2 by omega) (.slice (some ⟨ub, uo, none⟩) (us.length) cU1))
            clear hb6 hr6 hz6 ho6 HB6 HR6 HZ6 HO6 hr7 ho7 hb7
            go_wp2_with fail
            (try simp only [Exit.inBlock, Exit.then])
            refine bodyPost_ret (results_cell_row_tmp2 rfl _ _ (w.heap.size + 2) 67 #[.slice (some ⟨tb, tof, none⟩) T.length cT, .slice (some ⟨go, 0, none⟩) T.length cO1, .slice (some ⟨ub, uo, none⟩) (us.length) cU1] (0, 0) _ rfl (by have h := HR8.out; first | exact h | (simp at h; exact h)) Try.underlying67 rfl (by kernel_rfl)) rfl ?_
            rw [HAct.out]
            refine ⟨some ⟨go, 0, none⟩, some ⟨ub, uo, none⟩, cO1, cU1, us, vs1.set t (.slice A2 (p + (nr - (p + 1))) c2), rfl, rfl, ?_, HB8.out⟩
            have h := HO8.out
            rw [List.map_set]
            exact h
      · rw [if_neg hk] at HAct
        have HNo := Lib.hid HAct.out
        have hk' : (k2 != kd) = true := by simpa using hk
        go_upto_region 22 with fail
        refine world_gen (fun w4 => RaS w (some ⟨tb, tof, none⟩) AO AU cT cO cU T.length us.length ⟨false, kd, 0⟩ us (s.on.map fun r => r.map (·.num)) bz (.slice (some ⟨go, 0, none⟩) T.length cO1) (.slice (some ⟨ub, uo, none⟩) us.length cU1) vs1 w4) (HS.out.grow (by repeat (first | exact Below.refl _ _ | (with_reducible refine Below.drew ?_) | (with_reducible refine below_drewN ?_ _) | (with_reducible refine Below.alloc ?_ (by first | omega | (simp; done) | (simp; omega)) _) | (with_reducible refine Below.setCell ?_ (by first | omega | (simp; done) | (simp; omega)) _) | (refine Below.trans ?_ (Below.mono (by with_reducible assumption) (by first | omega | (simp; done) | (simp; omega))))))) ?_
        clear z0 z1 z2 m0 m1 m2 y0 y1 y2 r0 r1 r2 f0 f1 f2 hrl e0 e1 l0 hzl d1 q1 hgl hsz HS HO HRow htbl htb hub
        rintro w4 hs4
        have HS := Lib.hid hs4
        clear hs4
        have y0 := HS.out.y.cell 0
        have y1 := HS.out.y.cell 1
        have y2 := HS.out.y.cell 2
        have r0 := HS.out.r.cell 0
        have r1 := HS.out.r.cell 1
        have r2 := HS.out.r.cell 2
        have f0 := HS.out.r.frozen 0
        have f1 := HS.out.r.frozen 1
        have f2 := HS.out.r.frozen 2
        have hrl := HS.out.r.lt
        simp only [List.getElem?_toArray, List.getElem?_cons_succ, List.getElem?_cons_zero] at y0 y1 y2 r0 r1 r2
        have HR6 := Lib.hid (((HS.out.r.set_ 0 (.slice (some ⟨tb, tof, none⟩) T.length cT)).set_ 1 (.slice AO T.length cO)).set_ 2 (.slice AU us.length cU))
        have HB6 := Lib.hid (((HS.out.bel.setCell (p := ⟨w.heap.size + 2, 0, none⟩) (show w.heap.size ≤ w.heap.size + 2 by omega) (.slice (some ⟨tb, tof, none⟩) T.length cT)).setCell (p := ⟨w.heap.size + 2, 1, none⟩) (show w.heap.size ≤ w.heap.size + 2 by omega) (.slice AO T.length cO)).setCell (p := ⟨w.heap.size + 2, 2, none⟩) (show w.heap.size ≤ w.heap.size + 2 by omega) (.slice AU us.length cU))
        go_wp2_with fail
        (try simp only [Exit.inBlock, Exit.then])
        refine bodyPost_ret (results_cell_row_tmp2 rfl _ _ (w.heap.size + 2) 67 #[.slice (some ⟨tb, tof, none⟩) T.length cT, .slice AO T.length cO, .slice AU us.length cU] (0, 0) _ rfl (by have h := HR6.out; first | exact h | (simp at h; exact h)) Try.underlying67 rfl (by kernel_rfl)) rfl ?_
        exact (by rw [HNo.out]; exact ⟨rfl, HB6.out⟩)
end Go.Proofs.Ytffgnfefejimnaa
