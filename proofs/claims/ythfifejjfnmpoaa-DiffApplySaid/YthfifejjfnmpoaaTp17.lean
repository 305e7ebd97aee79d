import Derived.Test.YthfifejjfnmpoaaTp16
namespace Go.Proofs.Ythfifejjfnmpoaa
open Go.RowKit
theorem own_nb {w : World} {base b : Nat} {e ty : TypeId} {sz n : Nat} {v : Value} {xs : List Value} {cs : Array Value} (h : w.ownsRow base e sz v n xs) (hz : Blk w b ty cs) (hne : e ≠ ty) : v.ownBlock ≠ some b := fun e' => by
  obtain ⟨c, hc⟩ := own_blk h e'
  unfold Blk at hz
  rw [hz] at hc
  injection hc with hc
  injection hc with _ hc
  exact hne hc.symm
def PfOut (ts : List CT) (e : CE) (w : World) (r : Ending) (w' : World) : Prop :=
  ∃ (A : Option Addr) (c : Nat) (ts' : List CT), r = .returned (.tuple #[.slice A ts'.length c, .int .i64 ((perR (ts.map CT.pt) e.pe).1 : Nat)]) ∧ TLO w' A c ts' ∧ ts'.map CT.pt = (perR (ts.map CT.pt) e.pe).2 ∧ (∀ t ∈ ts', t ∈ ts ∨ t = e.n) ∧ ts'.length ≤ ts.length + 1 ∧ Below w.heap.size w w'
theorem mem_insT {es : List CT} {x y : CT} {k : Nat} (h : y ∈ es.take k ++ x :: es.drop k) : y = x ∨ y ∈ es := by
  rcases List.mem_append.1 h with h | h
  · exact .inr (List.mem_of_mem_take h)
  · rcases List.mem_cons.1 h with h | h
    · exact .inl h
    · exact .inr (List.mem_of_mem_drop h)
theorem pf_fin {w w6 : World} {ts os : List CT} {e : CE} {j : Nat} (hj : j ≤ os.length) (hp : (os.take j ++ e.n :: os.drop j).map CT.pt = (perR (ts.map CT.pt) e.pe).2) (hc : (perR (ts.map CT.pt) e.pe).1 = 0) (hm : ∀ t ∈ os, TM w6 w6.heap.size t) (he : TM w6 w6.heap.size e.n) (hs : ∀ t ∈ os, t ∈ ts) (hn : os.length ≤ ts.length) (hn2 : ts.length ≤ 2199023255000) (hb0 : Below w.heap.size w w6) :
    ∀ (A3 : Option Addr) (c3 : Nat) (v : Value) (w3 : World), v = .tuple #[.slice A3 (os.length + 1) c3, .int .i64 0] → w3.ownsRow w6.heap.size 28 4 (.slice A3 (os.length + 1) c3) (os.length + 1) ((os.take j ++ e.n :: os.drop j).flatMap CT.cells) → Below w6.heap.size w6 w3 → PfOut ts e w (.returned v) w3 := by
  intro A3 c3 v w3 hv ho hb
  have hl : (os.take j ++ e.n :: os.drop j).length = os.length + 1 := by simp; omega
  refine ⟨A3, c3, os.take j ++ e.n :: os.drop j, by rw [hv, hl, hc]; rfl, ⟨⟨by rw [hl]; exact Rd.of_own ho, fun t ht => ?_, fun e' => ?_, by rw [hl]; exact (own_cap ho).1, by rw [hl]; omega, (own_cap ho).2⟩, own_at0 ho⟩, hp, fun t ht => ?_, by rw [hl]; omega, hb0.trans (hb.mono hb0.size)⟩
  · rcases mem_insT ht with rfl | ht
    · exact he.go hb
    · exact (hm t ht).go hb
  · subst e'
    have := own_nil ho
    rw [hl]
    exact this
  · rcases mem_insT ht with rfl | ht
    · exact .inr rfl
    · exact .inl (hs t ht)
def PfL (w : World) (e : CE) (ts : List CT) (k : Nat) (v7 v : Value) (wr : World) : Prop :=
  ∃ (j : Nat) (os : List CT), v = .int .i64 j ∧ j + k = ts.length ∧ os.map CT.pt = ((ts.map CT.pt).take j).filter (fun y => !decide (eqK y (keyE e.pe))) ∧ StT w wr v7 os j ∧ (∀ t ∈ os, t ∈ ts) ∧ Blk wr w.heap.size 40 #[.int .i64 (e).k, .int .i64 (e).o.ln, .int .i64 (e).o.dy, .slice (e).o.Ad (e).o.dep.length (e).o.cd, .slice (e).o.Aa (e).o.arr.length (e).o.ca, .int .i64 (e).n.ln, .int .i64 (e).n.dy, .slice (e).n.Ad (e).n.dep.length (e).n.cd, .slice (e).n.Aa (e).n.arr.length (e).n.ca]
def PfL2 (w wa : World) (e : CE) (os : List CT) (k : Nat) (v : Value) (wr : World) : Prop :=
  ∃ (j : Nat), v = .int .i64 j ∧ j = k ∧ j ≤ os.length ∧ posT (os.map CT.pt) e.n.pt j = posT (os.map CT.pt) e.n.pt os.length ∧ Blk wr w.heap.size 40 #[.int .i64 (e).k, .int .i64 (e).o.ln, .int .i64 (e).o.dy, .slice (e).o.Ad (e).o.dep.length (e).o.cd, .slice (e).o.Aa (e).o.arr.length (e).o.ca, .int .i64 (e).n.ln, .int .i64 (e).n.dy, .slice (e).n.Ad (e).n.dep.length (e).n.cd, .slice (e).n.Aa (e).n.arr.length (e).n.ca] ∧ Below wa.heap.size wa wr
theorem ptT_map (es : List CT) (p : Nat) (hp : p < es.length) : (es.map CT.pt)[p]? = some (es[p]).pt := by simp [hp]
set_option maxRecDepth 100000 in
set_option maxHeartbeats 6400000 in
theorem perf_any (A : Option Addr) (c : Nat) (ts : List CT) (e : CE) (w : World) (h : TL w A c ts) (he : EM w w.heap.size e) (hasc : Asc (ts.map CT.pt)) (h1 : ∀ x ∈ ts, 1 ≤ x.dep.length) (hok : okE e.pe = true) (hn : ts.length ≤ 2199023255000) :
    Calls Try.prog 43 #[.slice A ts.length c, .agg #[.int .i64 (e).k, .int .i64 (e).o.ln, .int .i64 (e).o.dy, .slice (e).o.Ad (e).o.dep.length (e).o.cd, .slice (e).o.Aa (e).o.arr.length (e).o.ca, .int .i64 (e).n.ln, .int .i64 (e).n.dy, .slice (e).n.Ad (e).n.dep.length (e).n.cd, .slice (e).n.Aa (e).n.arr.length (e).n.ca]] w (PfOut ts e w) := by
  have H := Lib.hid h
  have HEM := Lib.hid he
  have H1 := Lib.hid h1
  have hk1 : 1 ≤ (keyC e).dep.length := by have := okE_key hok; rw [← keyC_pt] at this; exact this
  have HN1 := Lib.hid (show e.k ≠ 2 → 1 ≤ e.n.dep.length from fun h2 => by
    have h := hok
    unfold okE at h
    split at h
    · simp only [Bool.and_eq_true] at h; exact (okT_iff.1 h.2).2.2.2.1
    · split at h
      · exact absurd ‹_› h2
      · split at h
        · simp only [Bool.and_eq_true] at h; exact (okT_iff.1 h.1.1.2).2.2.2.1
        · cases h)
  have HON := Lib.hid (findK_only (kk := keyE e.pe) hasc)
  clear h he h1
  obtain ⟨iT, b1, b2, b3, b4⟩ := info_parts infoTr
  have HIT := Lib.hid (And.intro b1 (And.intro b2 (And.intro b3 b4)))
  clear b1 b2 b3 b4
  go_enter Try.func43, Try.ntmps43
  go_upto_region 1 with fail
  refine world_gen (fun w0 => Below w.heap.size w w0 ∧ Blk w0 w.heap.size 40 #[.int .i64 (e).k, .int .i64 (e).o.ln, .int .i64 (e).o.dy, .slice (e).o.Ad (e).o.dep.length (e).o.cd, .slice (e).o.Aa (e).o.arr.length (e).o.ca, .int .i64 (e).n.ln, .int .i64 (e).n.dy, .slice (e).n.Ad (e).n.dep.length (e).n.cd, .slice (e).n.Aa (e).n.arr.length (e).n.ca]) ⟨(by repeat (first | exact Below.refl _ _ | (with_reducible refine Below.drew ?_) | (with_reducible refine below_drewN ?_ _) | (with_reducible refine Below.alloc ?_ (by first | omega | (simp; done) | (simp; omega)) _) | (with_reducible refine Below.setCell ?_ (by first | omega | (simp; done) | (simp; omega)) _) | (refine Below.trans ?_ (Below.mono (by with_reducible assumption) (by first | omega | (simp; done) | (simp; omega)))))), Blk.new w _ _⟩ ?_
  rintro w0 ⟨hb0, hx0⟩
  have HB0 := Lib.hid hb0
  have hxl := hx0.lt
  have x0 := hx0.cell 0
  have x1 := hx0.cell 1
  have x2 := hx0.cell 2
  have x3 := hx0.cell 3
  have x4 := hx0.cell 4
  have x5 := hx0.cell 5
  have x6 := hx0.cell 6
  have x7 := hx0.cell 7
  have x8 := hx0.cell 8
  simp at x0 x1 x2 x3 x4 x5 x6 x7 x8
  have HX0 := Lib.hid hx0
  clear hb0 hx0
  go_wp2_with fail
  refine (rkey_any e _).mono ?_
  rintro r w1 ⟨rfl, hb1⟩
  have HB1 := Lib.hid (HB0.out.trans (hb1.mono HB0.out.size))
  have HX1 := Lib.hid (HX0.out.bel hb1)
  clear hb1 x0 x1 x2 x3 x4 x5 x6 x7 x8 hxl HX0 HB0
  go_wp2_with fail
  refine (find_any A c ts (keyC e) _ (H.out.go HB1.out) (keyC_tm (HEM.out.go HB1.out)) H1.out hk1).mono ?_
  rintro r w2 ⟨rfl, hb2⟩
  have HB2 := Lib.hid (HB1.out.trans (hb2.mono HB1.out.size))
  have HX2 := Lib.hid (HX1.out.bel hb2)
  clear hb2 HX1 HB1
  rw [keyC_pt]
  have x0 := HX2.out.cell 0
  have x1 := HX2.out.cell 1
  have x2 := HX2.out.cell 2
  have x3 := HX2.out.cell 3
  have x4 := HX2.out.cell 4
  simp at x0 x1 x2 x3 x4
  have hxl := HX2.out.lt
  rcases findK_spec (ts.map CT.pt) (keyE e.pe) 0 with ⟨hf, hf2⟩ | ⟨i, hi, hf, hf2⟩
  · have HPR := Lib.hid (show perR (ts.map CT.pt) e.pe = if e.k = 1 then (0, insT (ts.map CT.pt) e.n.pt) else (6, []) by unfold perR; rw [hf2]; rfl)
    rw [hf] at HON ⊢
    by_cases hk : e.k = 1
    case neg =>
      have hk' : (e.k == 1) = false := by simpa using hk
      have hk'' : (e.k != 1) = true := by simpa using hk
      have hp := HPR.out
      rw [if_neg hk] at hp
      have HP := Lib.hid hp
      clear hp hk
      go_wp2_with fail
      go_ret2
      exact ⟨none, 0, [], by rw [HP.out]; rfl, ⟨⟨Rd.empty _ _ _, fun t ht => by simp at ht, fun _ => ⟨rfl, rfl⟩, by simp, by simp, by simp [maxLen]⟩, .inl rfl⟩, by rw [HP.out]; rfl, fun t ht => by simp at ht, by simp, (by have hbelh := HB2.out; have hbels := hbelh.size; exact (by repeat (first | exact Below.refl _ _ | (with_reducible refine Below.drew ?_) | (with_reducible refine below_drewN ?_ _) | (with_reducible refine Below.alloc ?_ (by first | omega | (simp; done) | (simp; omega)) _) | (with_reducible refine Below.setCell ?_ (by first | omega | (simp; done) | (simp; omega)) _) | (refine Below.trans ?_ (Below.mono (by with_reducible assumption) (by first | omega | (simp; done) | (simp; omega)))))))⟩
    have hk' : (e.k == 1) = true := by simpa using hk
    have hk'' : (e.k != 1) = false := by simpa using hk
    have hk2' : (e.k == 2) = false := by simp; omega
    have hp := HPR.out
    rw [if_pos hk] at hp
    have HP := Lib.hid hp
    have HF3 := Lib.hid (show e.k ≠ 2 → insT ((ts.map CT.pt).filter (fun y => !decide (eqK y (keyE e.pe)))) e.n.pt = (perR (ts.map CT.pt) e.pe).2 from fun _ => by
      rw [HP.out, filter_all (fun x hx => findT_none.1 hf2 x hx)])
    have HF2 := Lib.hid (show e.k = 2 → (ts.map CT.pt).filter (fun y => !decide (eqK y (keyE e.pe))) = (perR (ts.map CT.pt) e.pe).2 from fun h => by omega)
    have HC0 := Lib.hid (show (perR (ts.map CT.pt) e.pe).1 = 0 by rw [HP.out])
    have Hk := Lib.hid hk
    clear hp hk hk2' HPR HP hf hf2
    generalize hzz : (-1 : Int) = z at HON ⊢
    have HZZ := Lib.hid hzz
    have hz0 : z < 0 := by omega
    have hz1 : decide (z ≥ 0) = false := by simp; omega
    have hz2 : decide (0 ≤ z) = false := by simp; omega
    have hz3 : decide (z < 0) = true := by simp; omega
    clear hzz
    go_upto_region 6 with fail
    refine wp_region_overL (by kernel_rfl) (by kernel_rfl) ?_
    repeat (go_big_quiet_step (fail))
    refine wpQuiet_nil ?_
    intro w3 hb3
    have HB3 := Lib.hid (HB2.out.trans (hb3.mono HB2.out.size))
    have HX3 := Lib.hid (HX2.out.bel hb3)
    clear hb3 HB2 HX2 x0 x1 x2 x3 x4 hxl hz1 hz2 hz3 hz0 hk' hk''
    have HON2 := Lib.hid HON.out
    clear HON
    go_wp2_with fail
    go_loopg [7, 8, 9, 48] ts.length (fun k v7 _ _ v wr => PfL w e ts k v7 v wr)
    case atStart => exact ⟨0, [], rfl, by omega, rfl, ⟨TO.nil _ _, by simp, (by have hbelh := HB3.out; have hbels := hbelh.size; exact (by repeat (first | exact Below.refl _ _ | (with_reducible refine Below.drew ?_) | (with_reducible refine below_drewN ?_ _) | (with_reducible refine Below.alloc ?_ (by first | omega | (simp; done) | (simp; omega)) _) | (with_reducible refine Below.setCell ?_ (by first | omega | (simp; done) | (simp; omega)) _) | (refine Below.trans ?_ (Below.mono (by with_reducible assumption) (by first | omega | (simp; done) | (simp; omega)))))))⟩, fun t ht => by simp at ht, HX3.out⟩
    case round =>
      clear HB3 HX3
      obtain ⟨j, os, rfl, hj, hos, hs, hmem, hx⟩ := hrel
      have Hj := Lib.hid hj
      have HOS := Lib.hid hos
      have HS := Lib.hid hs
      have HMEM := Lib.hid hmem
      have HX := Lib.hid hx
      clear hj hos hs hmem hx
      obtain ⟨Ao, co, rfl⟩ := HS.out.o.sl
      by_cases hlt : j < ts.length
      · have hltm : j < (ts.map CT.pt).length := by simpa using hlt
        have HST := Lib.hid (filt_step (kk := keyE e.pe) hltm)
        have HIF := HON2.out j hltm
        rw [List.getElem_map] at HST HIF
        have HIF := Lib.hid HIF
        have HTIN := Lib.hid (List.getElem_mem hlt)
        obtain ⟨bb, off, hAe, hbb, d0, d1, d2, d3⟩ := rdT (H.out.r.grow HS.out.b) rfl j hlt
        cases hAe
        have HTM := Lib.hid ((H.out.m _ (List.getElem_mem hlt)).kp (Kp.bel HS.out.b))
        generalize ts[j] = t at *
        go_upto_region 12 with fail
        refine world_gen (fun w5 => Blk w5 wr.heap.size 28 #[.int .i64 (t).ln, .int .i64 (t).dy, .slice (t).Ad (t).dep.length (t).cd, .slice (t).Aa (t).arr.length (t).ca] ∧ Below wr.heap.size wr w5) ⟨Blk.new wr _ _, (by repeat (first | exact Below.refl _ _ | (with_reducible refine Below.drew ?_) | (with_reducible refine below_drewN ?_ _) | (with_reducible refine Below.alloc ?_ (by first | omega | (simp; done) | (simp; omega)) _) | (with_reducible refine Below.setCell ?_ (by first | omega | (simp; done) | (simp; omega)) _) | (refine Below.trans ?_ (Below.mono (by with_reducible assumption) (by first | omega | (simp; done) | (simp; omega))))))⟩ ?_
        rintro w5 ⟨hx5, hb5⟩
        have HX5 := Lib.hid (HX.out.bel hb5)
        have HS5 := Lib.hid (HS.out.bel hb5)
        have HTM5 := Lib.hid (HTM.out.kp (Kp.bel hb5))
        have x0 := hx5.cell 0
        have x1 := hx5.cell 1
        have x2 := hx5.cell 2
        have x3 := hx5.cell 3
        simp at x0 x1 x2 x3
        have hxl := hx5.lt
        clear d0 d1 d2 d3 hx5 hb5 HX HS HTM
        by_cases heq : eqK t.pt (keyE e.pe)
        · have hz := HIF.out.2 heq
          have hz' : ((j : Int) != z) = false := by simpa using hz
          have HOS2 := Lib.hid (show os.map CT.pt = ((ts.map CT.pt).take (j + 1)).filter (fun y => !decide (eqK y (keyE e.pe))) by rw [HST.out, if_pos heq, List.append_nil, HOS.out])
          clear hz heq HIF HST HOS x0 x1 x2 x3 hxl
          go_wp2_with fail
          go_roundg (ts.length - j - 1)
          case measure => have := Hj.out; omega
          case rel => exact ⟨j + 1, os, by first | rfl | go_num, by omega, HOS2.out, HS5.out.more (Nat.le_succ j), HMEM.out, HX5.out⟩
        · have hz : ¬ (j : Int) = z := fun h => heq (HIF.out.1 h)
          have hz' : ((j : Int) != z) = true := by simpa using hz
          have HOS2 := Lib.hid (show (os ++ [t]).map CT.pt = ((ts.map CT.pt).take (j + 1)).filter (fun y => !decide (eqK y (keyE e.pe))) by rw [HST.out, if_neg heq, List.map_append, HOS.out]; rfl)
          have hn5 := HS5.out.n
          have hl5 := HS5.out.b.size
          clear hz heq HIF HST HOS
          go_upto_region 14 with (at_builtin; refine wpList_append_own_at _ rfl _ _ 22 rfl (w.heap.size) 28 iT _ 4 64 Try.underlying22 HIT.out.1 HIT.out.2.1 HIT.out.2.2.1 HIT.out.2.2.2 rfl (by omega) _ (os.length) _ rfl (World.ownsRow.alloc HS5.out.o.o _) ⟨(w5).heap.size, 0, none⟩ 1 1 (CT.cells t) rfl rfl ?c0 ?c1 ?c2 ?c3 ?c4 ?_; rotate_right; intro v' w' hown' hg' _ hat')
          case c0 => first | exact news_new _ _ (CT.cells t) | exact fun _ _ h => h
          case c1 => exact CT.one _
          case c2 => simp only [maxLen]; omega
          case c3 => omega
          case c4 => first | omega | (simp; omega)
          have hb9 : ∀ k, k < w.heap.size + 1 → k ≠ w.heap.size → k < w.heap.size := fun k h1 h2 => by omega
          have HX9 := Lib.hid (show Blk w' w.heap.size 40 #[.int .i64 (e).k, .int .i64 (e).o.ln, .int .i64 (e).o.dy, .slice (e).o.Ad (e).o.dep.length (e).o.cd, .slice (e).o.Aa (e).o.arr.length (e).o.ca, .int .i64 (e).n.ln, .int .i64 (e).n.dy, .slice (e).n.Ad (e).n.dep.length (e).n.cd, .slice (e).n.Aa (e).n.arr.length (e).n.ca] from (HX5.out.al _).same (hg'.block w.heap.size (by have := HX5.out.lt; simp; omega) (fun h => (own_nb HS5.out.o.o HX5.out (by decide)) h.symm)))
          have HS9 := Lib.hid (HS5.out.app (x := t) HTM5.out hown' hg')
          have HMEM9 := Lib.hid (show ∀ x ∈ os ++ [t], x ∈ ts from fun x hx => by
            rcases List.mem_append.1 hx with hx | hx
            · exact HMEM.out x hx
            · simp at hx; subst hx; exact HTIN.out)
          clear hown' hg' hat' hb9 x0 x1 x2 x3 hxl HS5 HX5 HTM5
          go_wp2_with fail
          go_roundg (ts.length - j - 1)
          case measure => have := Hj.out; omega
          case rel => exact ⟨j + 1, os ++ [t], by first | rfl | go_num, by omega, HOS2.out, HS9.out, HMEM9.out, HX9.out⟩
      · have hje : j = ts.length := by have := Hj.out; omega
        subst hje
        have HOS2 := Lib.hid (show os.map CT.pt = (ts.map CT.pt).filter (fun y => !decide (eqK y (keyE e.pe))) by rw [HOS.out, List.take_of_length_le (by simp)])
        clear HOS
        have x0 := HX.out.cell 0
        simp at x0
        have hxl := HX.out.lt
        have hosn := HS.out.n
        by_cases hk2 : e.k = 2
        · have hk2' : (e.k == 2) = true := by simpa using hk2
          have HQ := Lib.hid (HF2.out hk2)
          clear hk2
          go_wp2_with fail
          go_ret2
          exact ⟨Ao, co, os, by rw [HC0.out]; rfl, HS.out.tlo (by omega), HOS2.out.trans HQ.out, fun t ht => .inl (HMEM.out t ht), by omega, HS.out.b⟩
        · have hk2' : (e.k == 2) = false := by simpa using hk2
          have HQ := Lib.hid (HF3.out hk2)
          have hn1 := HN1.out hk2
          clear hk2
          have HTS := Lib.hid (HS.out.tlo (by omega))
          have HBW := Lib.hid HS.out.b
          have hA := HTS.out.a
          have HEW := Lib.hid HTS.out.l
          have HENM := Lib.hid (show TM wr wr.heap.size e.n from (HEM.out.n.kp (Kp.bel HBW.out)).top)
          have HO1 := Lib.hid (show ∀ x ∈ os, 1 ≤ x.dep.length from fun x hx => H1.out x (HMEM.out x hx))
          clear HS HTS HON2 Hj
          go_wp2_with fail
          clear x0 hxl
          go_loopg [10] os.length (fun k v wx => PfL2 w wr e os k v wx)
          case atStart => exact ⟨os.length, rfl, rfl, Nat.le_refl _, rfl, HX.out, Below.refl _ _⟩
          case round =>
            have HBWR := HBW
            clear HX HBW
            rename World => wl
            obtain ⟨j, rfl, hj, hjl, hz, hx, hb⟩ := hrel
            have Hj := Lib.hid hj
            have HZ := Lib.hid hz
            have HXL := Lib.hid hx
            have HBR := Lib.hid hb
            clear hj hz hx hb
            have HE := Lib.hid (HEW.out.go HBR.out)
            have HENL := Lib.hid (HENM.out.go HBR.out)
            have x5 := HXL.out.cell 5
            have x6 := HXL.out.cell 6
            have x7 := HXL.out.cell 7
            have x8 := HXL.out.cell 8
            simp at x5 x6 x7 x8
            have hxl := HXL.out.lt
            have HELL := HE
            clear HE
            by_cases hgo : ∃ (p : Nat) (hp : p < os.length), p + 1 = j ∧ ltK e.n.pt (os[p]).pt
            · obtain ⟨p, hpl, hpj, hlk⟩ := hgo
              have hz := HZ.out
              rw [← hpj, posT_on (ptT_map os p hpl) hlk] at hz
              have HZ2 := Lib.hid hz
              clear hz HZ
              obtain ⟨bb9, off9, hAe, hbb9, q0, q1, q2, q3⟩ := rdT HELL.out.r rfl p hpl
              cases hAe
              have hbw : bb9 < wl.heap.size := World.block_lt_of_cell? _ _ q0
              have e0 : IntKind.i64.wrap ((j : Int) - 1) = (p : Int) := by rw [IntWalk.i64_in _ (by omega)]; omega
              have hpos : decide ((j : Int) > 0) = true := by simp; omega
              have hpos' : decide (0 < j) = true := by simp; omega
              have Hp := Lib.hid hpj
              have hu1 := HO1.out os[p] (List.getElem_mem hpl)
              have HUM := Lib.hid (HELL.out.m _ (List.getElem_mem hpl))
              clear hpj
              generalize os[p] = u at *
              have HCM : Hid (∀ W, Below wl.heap.size wl W → Calls Try.prog 36 #[.agg #[.int .i64 (u).ln, .int .i64 (u).dy, .slice (u).Ad (u).dep.length (u).cd, .slice (u).Aa (u).arr.length (u).ca], .agg #[.int .i64 (e.n).ln, .int .i64 (e.n).dy, .slice (e.n).Ad (e.n).dep.length (e.n).cd, .slice (e.n).Aa (e.n).arr.length (e.n).ca]] W fun r w' => r = .returned (.int .i64 (cmpV u.pt e.n.pt)) ∧ Below W.heap.size W w') := fun W hW => ord_any u e.n W (HUM.out.go hW) (HENL.out.go hW) hu1 hn1
              have hcv := cmpV_gt.2 hlk
              clear hlk
              generalize cmpV u.pt e.n.pt = cv at *
              have hc : decide (cv > 0) = true := by simp; omega
              have hc' : decide (0 < cv) = true := by simp; omega
              go_upto_region 18 with fail
              refine wp_region_overL (by kernel_rfl) (by kernel_rfl) ?_
              repeat (go_big_quiet_step ((go_at_call 36; exact callsOver (HCM.out _ (over_below _ _)))))
              refine wpQuiet_nil ?_
              intro w7 hb7
              have HB7 := Lib.hid (HBR.out.trans (hb7.mono HBR.out.size))
              have HX7 := Lib.hid (HXL.out.bel hb7)
              clear hb7 x5 x6 x7 x8 q0 q1 q2 q3 hpos hpos'
              go_wp2_with fail
              go_roundg p
              case measure => have := Hj.out; have := Hp.out; omega
              case rel => exact ⟨p, by first | rfl | go_num, rfl, by omega, HZ2.out, HX7.out, HB7.out⟩
            · have HPOS := Lib.hid (show posT (os.map CT.pt) e.n.pt os.length = j by
                rw [← HZ.out]
                cases j with
                | zero => rfl
                | succ p => exact posT_at (ptT_map os p (by omega)) (fun h => hgo ⟨p, by omega, rfl, h⟩))
              clear HZ
              have HOUT := Lib.hid (show (os.take j ++ e.n :: os.drop j).map CT.pt = (perR (ts.map CT.pt) e.pe).2 by
                rw [← HQ.out, ← HOS2.out]
                unfold insT
                rw [List.length_map, HPOS.out]
                simp)
              clear HPOS
              have HBWL := Lib.hid (HBWR.out.trans (HBR.out.mono HBWR.out.size))
              by_cases hj0 : j = 0
              · subst hj0
                clear hgo
                go_upto_region 18 with fail
                refine wp_region_overL (by kernel_rfl) (by kernel_rfl) ?_
                repeat (go_big_quiet_step (fail))
                refine wpQuiet_nil ?_
                intro w6 hb6
                have HFIN := Lib.hid (pf_fin (w := w) (w6 := w6) hjl HOUT.out HC0.out (fun t ht => (HELL.out.m t ht).go hb6) (HENL.out.go hb6) HMEM.out hosn hn (HBWL.out.trans (hb6.mono HBWL.out.size)))
                have HX6 := Lib.hid (HXL.out.bel hb6)
                have HE := Lib.hid (HELL.out.go hb6)
                clear hb6 x5 x6 x7 x8 hxl HELL
                rcases hA with rfl | ⟨bb, rfl⟩
                · obtain ⟨hn0, rfl⟩ := HE.out.nl rfl
                  have hes : os = [] := List.eq_nil_of_length_eq_zero hn0
                  subst hes
                  clear hn0
                  have HRD1 : Hid (Rd w6 w6.heap.size 4 (none) 0 (((([] : List CT)).take 0).flatMap CT.cells)) := by
                    have := rd_take HE.out.r (show 0 ≤ (([] : List CT)).length by omega)
                    rwa [flat_take CT.cells 4 CT.len] at this
                  have HRD2 : Hid (∀ W, Below w6.heap.size w6 W → Rd W w6.heap.size 4 (none) (0) (((([] : List CT)).drop 0).flatMap CT.cells)) := fun W hW => by
                    rw [← flat_drop CT.cells 4 CT.len]
                    exact Rd.empty _ _ _
                  go_upto_region 20 with fail
                  go_upto_region 21 with (at_builtin; refine wpList_append_any rfl _ _ 22 rfl w6.heap.size 28 iT _ 4 64 Try.underlying22 HIT.out.1 HIT.out.2.1 HIT.out.2.2.1 HIT.out.2.2.2 rfl (by omega) (.slice none 0 0) 0 [] rfl (World.ownsRow_nil _ _ _ _) (none) 0 _ w6.heap.size (((([] : List CT)).take 0).flatMap CT.cells) rfl (fun _ => ⟨rfl, rfl⟩) HRD1.out (ts_one _) ?r1 ?r2 (Nat.le_refl _) ?_; rotate_right; intro v1 w1 ho1 hg1 hat1)
                  case r1 => simp only [maxLen]; omega
                  case r2 => omega
                  rw [Nat.zero_add, List.nil_append] at ho1
                  have hb1 : Below w6.heap.size w6 w1 := Below.grown (Below.refl _ _) hg1 (Nat.le_refl _) (fun k hk => by simp [Value.ownBlock] at hk)
                  have HB1 := Lib.hid hb1
                  have hx1 := HX6.out.bel hb1
                  have x5 := hx1.cell 5
                  have x6 := hx1.cell 6
                  have x7 := hx1.cell 7
                  have x8 := hx1.cell 8
                  simp at x5 x6 x7 x8
                  have hxl := hx1.lt
                  obtain ⟨A1, c1, rfl, _, _⟩ := own_slice ho1
                  have Ho1 := Lib.hid ho1
                  have hle1 := HB1.out.size
                  clear ho1 hg1 hat1 hb1 hx1 HRD1
                  go_upto_region 22 with (at_builtin; refine wpList_append_own_at _ rfl _ _ 22 rfl (w6.heap.size) 28 iT _ 4 64 Try.underlying22 HIT.out.1 HIT.out.2.1 HIT.out.2.2.1 HIT.out.2.2.2 rfl (by omega) _ (0) _ rfl (World.ownsRow.alloc Ho1.out _) ⟨(w1).heap.size, 0, none⟩ 1 1 (CT.cells e.n) rfl rfl ?c0 ?c1 ?c2 ?c3 ?c4 ?_; rotate_right; intro v' w' hown' hg' _ hat')
                  case c0 => first | exact news_new _ _ (CT.cells e.n) | exact fun _ _ h => h
                  case c1 => exact CT.one _
                  case c2 => simp only [maxLen]; omega
                  case c3 => omega
                  case c4 => first | omega | (simp; omega)
                  have HB2 := Lib.hid (show Below w6.heap.size w6 w' from (HB1.out.alloc hle1 _).grown hg' (by simp; omega) (fun k hk => (own_block Ho1.out k hk).1))
                  obtain ⟨A2, c2, rfl, _, _⟩ := own_slice hown'
                  have Ho2 := Lib.hid hown'
                  have hle2 := HB2.out.size
                  clear hown' hg' hat' x5 x6 x7 x8 hxl Ho1 HB1
                  go_wp2_with (at_builtin; refine wpList_append_any rfl _ _ 22 rfl w6.heap.size 28 iT _ 4 64 Try.underlying22 HIT.out.1 HIT.out.2.1 HIT.out.2.2.1 HIT.out.2.2.2 rfl (by omega) (.slice A2 (0 + 1) c2) (0 + 1) _ rfl Ho2.out (none) (0) _ w6.heap.size (((([] : List CT)).drop 0).flatMap CT.cells) rfl (fun _ => ⟨rfl, rfl⟩) (HRD2.out _ HB2.out) (ts_one _) ?s1 ?s2 HB2.out.size ?_; rotate_right; intro v3 w3 ho3 hg3 hat3)
                  case s1 => simp only [maxLen]; omega
                  case s2 => omega
                  have HB3 := Lib.hid (show Below w6.heap.size w6 w3 from HB2.out.grown hg3 hle2 (fun k hk => (own_block Ho2.out k hk).1))
                  rw [show 0 + 1 + (0) = (([] : List CT)).length + 1 by first | omega | rfl] at ho3
                  obtain ⟨A3, c3, rfl, _, _⟩ := own_slice ho3
                  have Ho3 := Lib.hid (show w3.ownsRow w6.heap.size 28 4 (.slice A3 ((([] : List CT)).length + 1) c3) ((([] : List CT)).length + 1) (((([] : List CT)).take 0 ++ e.n :: (([] : List CT)).drop 0).flatMap CT.cells) by
                    rw [List.flatMap_append, List.flatMap_cons]
                    simpa using ho3)
                  clear ho3 hg3 hat3
                  go_ret2
                  exact HFIN.out A3 c3 _ _ rfl Ho3.out HB3.out
                · by_cases hc0 : co = 0
                  · subst hc0
                    have hn0 : os.length = 0 := by have := HE.out.le; omega
                    have hes : os = [] := List.eq_nil_of_length_eq_zero hn0
                    subst hes
                    clear hn0
                    have HRD1 : Hid (Rd w6 w6.heap.size 4 (some ⟨bb, 0, none⟩) 0 (((([] : List CT)).take 0).flatMap CT.cells)) := by
                      have := rd_take HE.out.r (show 0 ≤ (([] : List CT)).length by omega)
                      rwa [flat_take CT.cells 4 CT.len] at this
                    have HRD2 : Hid (∀ W, Below w6.heap.size w6 W → Rd W w6.heap.size 4 (some ⟨bb, 0, none⟩) (0) (((([] : List CT)).drop 0).flatMap CT.cells)) := fun W hW => by
                      rw [← flat_drop CT.cells 4 CT.len]
                      exact Rd.empty _ _ _
                    go_upto_region 20 with fail
                    go_upto_region 21 with (at_builtin; refine wpList_append_any rfl _ _ 22 rfl w6.heap.size 28 iT _ 4 64 Try.underlying22 HIT.out.1 HIT.out.2.1 HIT.out.2.2.1 HIT.out.2.2.2 rfl (by omega) (.slice none 0 0) 0 [] rfl (World.ownsRow_nil _ _ _ _) (some ⟨bb, 0, none⟩) 0 _ w6.heap.size (((([] : List CT)).take 0).flatMap CT.cells) rfl (fun h => by cases h) HRD1.out (ts_one _) ?r1 ?r2 (Nat.le_refl _) ?_; rotate_right; intro v1 w1 ho1 hg1 hat1)
                    case r1 => simp only [maxLen]; omega
                    case r2 => omega
                    rw [Nat.zero_add, List.nil_append] at ho1
                    have hb1 : Below w6.heap.size w6 w1 := Below.grown (Below.refl _ _) hg1 (Nat.le_refl _) (fun k hk => by simp [Value.ownBlock] at hk)
                    have HB1 := Lib.hid hb1
                    have hx1 := HX6.out.bel hb1
                    have x5 := hx1.cell 5
                    have x6 := hx1.cell 6
                    have x7 := hx1.cell 7
                    have x8 := hx1.cell 8
                    simp at x5 x6 x7 x8
                    have hxl := hx1.lt
                    obtain ⟨A1, c1, rfl, _, _⟩ := own_slice ho1
                    have Ho1 := Lib.hid ho1
                    have hle1 := HB1.out.size
                    clear ho1 hg1 hat1 hb1 hx1 HRD1
                    go_upto_region 22 with (at_builtin; refine wpList_append_own_at _ rfl _ _ 22 rfl (w6.heap.size) 28 iT _ 4 64 Try.underlying22 HIT.out.1 HIT.out.2.1 HIT.out.2.2.1 HIT.out.2.2.2 rfl (by omega) _ (0) _ rfl (World.ownsRow.alloc Ho1.out _) ⟨(w1).heap.size, 0, none⟩ 1 1 (CT.cells e.n) rfl rfl ?c0 ?c1 ?c2 ?c3 ?c4 ?_; rotate_right; intro v' w' hown' hg' _ hat')
                    case c0 => first | exact news_new _ _ (CT.cells e.n) | exact fun _ _ h => h
                    case c1 => exact CT.one _
                    case c2 => simp only [maxLen]; omega
                    case c3 => omega
                    case c4 => first | omega | (simp; omega)
                    have HB2 := Lib.hid (show Below w6.heap.size w6 w' from (HB1.out.alloc hle1 _).grown hg' (by simp; omega) (fun k hk => (own_block Ho1.out k hk).1))
                    obtain ⟨A2, c2, rfl, _, _⟩ := own_slice hown'
                    have Ho2 := Lib.hid hown'
                    have hle2 := HB2.out.size
                    clear hown' hg' hat' x5 x6 x7 x8 hxl Ho1 HB1
                    go_wp2_with (at_builtin; refine wpList_append_any rfl _ _ 22 rfl w6.heap.size 28 iT _ 4 64 Try.underlying22 HIT.out.1 HIT.out.2.1 HIT.out.2.2.1 HIT.out.2.2.2 rfl (by omega) (.slice A2 (0 + 1) c2) (0 + 1) _ rfl Ho2.out (some ⟨bb, 0, none⟩) (0) _ w6.heap.size (((([] : List CT)).drop 0).flatMap CT.cells) rfl (fun h => by cases h) (HRD2.out _ HB2.out) (ts_one _) ?s1 ?s2 HB2.out.size ?_; rotate_right; intro v3 w3 ho3 hg3 hat3)
                    case s1 => simp only [maxLen]; omega
                    case s2 => omega
                    have HB3 := Lib.hid (show Below w6.heap.size w6 w3 from HB2.out.grown hg3 hle2 (fun k hk => (own_block Ho2.out k hk).1))
                    rw [show 0 + 1 + (0) = (([] : List CT)).length + 1 by first | omega | rfl] at ho3
                    obtain ⟨A3, c3, rfl, _, _⟩ := own_slice ho3
                    have Ho3 := Lib.hid (show w3.ownsRow w6.heap.size 28 4 (.slice A3 ((([] : List CT)).length + 1) c3) ((([] : List CT)).length + 1) (((([] : List CT)).take 0 ++ e.n :: (([] : List CT)).drop 0).flatMap CT.cells) by
                      rw [List.flatMap_append, List.flatMap_cons]
                      simpa using ho3)
                    clear ho3 hg3 hat3
                    go_ret2
                    exact HFIN.out A3 c3 _ _ rfl Ho3.out HB3.out
                  · have hcl := HE.out.le
                    have hnc : (os.length : Int) ≤ (co : Int) := by omega
                    have HRD1 : Hid (Rd w6 w6.heap.size 4 (some ⟨bb, 0, none⟩) 0 (((os).take 0).flatMap CT.cells)) := by
                      have := rd_take HE.out.r (show 0 ≤ (os).length by omega)
                      rwa [flat_take CT.cells 4 CT.len] at this
                    have HRD2 : Hid (∀ W, Below w6.heap.size w6 W → Rd W w6.heap.size 4 (some ⟨bb, 0, none⟩) (os.length - 0) (((os).drop 0).flatMap CT.cells)) := fun W hW => by
                      rw [← flat_drop CT.cells 4 CT.len]
                      (have h := rd_drop (HE.out.r.grow hW) (Nat.zero_le os.length); simpa using h)
                    go_upto_region 20 with fail
                    go_upto_region 21 with (at_builtin; refine wpList_append_any rfl _ _ 22 rfl w6.heap.size 28 iT _ 4 64 Try.underlying22 HIT.out.1 HIT.out.2.1 HIT.out.2.2.1 HIT.out.2.2.2 rfl (by omega) (.slice none 0 0) 0 [] rfl (World.ownsRow_nil _ _ _ _) (some ⟨bb, 0, none⟩) 0 _ w6.heap.size (((os).take 0).flatMap CT.cells) rfl (fun h => by cases h) HRD1.out (ts_one _) ?r1 ?r2 (Nat.le_refl _) ?_; rotate_right; intro v1 w1 ho1 hg1 hat1)
                    case r1 => simp only [maxLen]; omega
                    case r2 => omega
                    rw [Nat.zero_add, List.nil_append] at ho1
                    have hb1 : Below w6.heap.size w6 w1 := Below.grown (Below.refl _ _) hg1 (Nat.le_refl _) (fun k hk => by simp [Value.ownBlock] at hk)
                    have HB1 := Lib.hid hb1
                    have hx1 := HX6.out.bel hb1
                    have x5 := hx1.cell 5
                    have x6 := hx1.cell 6
                    have x7 := hx1.cell 7
                    have x8 := hx1.cell 8
                    simp at x5 x6 x7 x8
                    have hxl := hx1.lt
                    obtain ⟨A1, c1, rfl, _, _⟩ := own_slice ho1
                    have Ho1 := Lib.hid ho1
                    have hle1 := HB1.out.size
                    clear ho1 hg1 hat1 hb1 hx1 HRD1
                    go_upto_region 22 with (at_builtin; refine wpList_append_own_at _ rfl _ _ 22 rfl (w6.heap.size) 28 iT _ 4 64 Try.underlying22 HIT.out.1 HIT.out.2.1 HIT.out.2.2.1 HIT.out.2.2.2 rfl (by omega) _ (0) _ rfl (World.ownsRow.alloc Ho1.out _) ⟨(w1).heap.size, 0, none⟩ 1 1 (CT.cells e.n) rfl rfl ?c0 ?c1 ?c2 ?c3 ?c4 ?_; rotate_right; intro v' w' hown' hg' _ hat')
                    case c0 => first | exact news_new _ _ (CT.cells e.n) | exact fun _ _ h => h
                    case c1 => exact CT.one _
                    case c2 => simp only [maxLen]; omega
                    case c3 => omega
                    case c4 => first | omega | (simp; omega)
                    have HB2 := Lib.hid (show Below w6.heap.size w6 w' from (HB1.out.alloc hle1 _).grown hg' (by simp; omega) (fun k hk => (own_block Ho1.out k hk).1))
                    obtain ⟨A2, c2, rfl, _, _⟩ := own_slice hown'
                    have Ho2 := Lib.hid hown'
                    have hle2 := HB2.out.size
                    clear hown' hg' hat' x5 x6 x7 x8 hxl Ho1 HB1
                    go_wp2_with (at_builtin; refine wpList_append_any rfl _ _ 22 rfl w6.heap.size 28 iT _ 4 64 Try.underlying22 HIT.out.1 HIT.out.2.1 HIT.out.2.2.1 HIT.out.2.2.2 rfl (by omega) (.slice A2 (0 + 1) c2) (0 + 1) _ rfl Ho2.out (some ⟨bb, 0, none⟩) (os.length - 0) _ w6.heap.size (((os).drop 0).flatMap CT.cells) rfl (fun h => by cases h) (HRD2.out _ HB2.out) (ts_one _) ?s1 ?s2 HB2.out.size ?_; rotate_right; intro v3 w3 ho3 hg3 hat3)
                    case s1 => simp only [maxLen]; omega
                    case s2 => omega
                    have HB3 := Lib.hid (show Below w6.heap.size w6 w3 from HB2.out.grown hg3 hle2 (fun k hk => (own_block Ho2.out k hk).1))
                    rw [show 0 + 1 + (os.length - 0) = (os).length + 1 by first | omega | rfl] at ho3
                    obtain ⟨A3, c3, rfl, _, _⟩ := own_slice ho3
                    have Ho3 := Lib.hid (show w3.ownsRow w6.heap.size 28 4 (.slice A3 ((os).length + 1) c3) ((os).length + 1) (((os).take 0 ++ e.n :: (os).drop 0).flatMap CT.cells) by
                      rw [List.flatMap_append, List.flatMap_cons]
                      simpa using ho3)
                    clear ho3 hg3 hat3
                    go_ret2
                    exact HFIN.out A3 c3 _ _ rfl Ho3.out HB3.out
              · obtain ⟨p, hpj⟩ : ∃ p, p + 1 = j := ⟨j - 1, by omega⟩
                have hpl : p < os.length := by omega
                have hlk : ¬ ltK e.n.pt (os[p]).pt := fun h => hgo ⟨p, hpl, hpj, h⟩
                clear hgo
                obtain ⟨bb, off, hAe, hbb9, q0, q1, q2, q3⟩ := rdT HELL.out.r rfl p hpl
                cases hAe
                have hbw : bb < wl.heap.size := World.block_lt_of_cell? _ _ q0
                have e0 : IntKind.i64.wrap ((j : Int) - 1) = (p : Int) := by rw [IntWalk.i64_in _ (by omega)]; omega
                have hpos : decide ((j : Int) > 0) = true := by simp; omega
                have hpos' : decide (0 < j) = true := by simp; omega
                have Hp := Lib.hid hpj
                have hu1 := HO1.out os[p] (List.getElem_mem hpl)
                have HUM := Lib.hid (HELL.out.m _ (List.getElem_mem hpl))
                clear hpj
                generalize os[p] = u at *
                have HCM : Hid (∀ W, Below wl.heap.size wl W → Calls Try.prog 36 #[.agg #[.int .i64 (u).ln, .int .i64 (u).dy, .slice (u).Ad (u).dep.length (u).cd, .slice (u).Aa (u).arr.length (u).ca], .agg #[.int .i64 (e.n).ln, .int .i64 (e.n).dy, .slice (e.n).Ad (e.n).dep.length (e.n).cd, .slice (e.n).Aa (e.n).arr.length (e.n).ca]] W fun r w' => r = .returned (.int .i64 (cmpV u.pt e.n.pt)) ∧ Below W.heap.size W w') := fun W hW => ord_any u e.n W (HUM.out.go hW) (HENL.out.go hW) hu1 hn1
                have hcv := fun h => hlk (cmpV_gt.1 h)
                clear hlk
                generalize cmpV u.pt e.n.pt = cv at *
                have hc : decide (cv > 0) = false := by simpa using hcv
                have hc' : decide (0 < cv) = false := by simpa using hcv
                clear hcv
                go_upto_region 18 with fail
                refine wp_region_overL (by kernel_rfl) (by kernel_rfl) ?_
                repeat (go_big_quiet_step ((go_at_call 36; exact callsOver (HCM.out _ (over_below _ _)))))
                refine wpQuiet_nil ?_
                intro w6 hb6
                have HFIN := Lib.hid (pf_fin (w := w) (w6 := w6) hjl HOUT.out HC0.out (fun t ht => (HELL.out.m t ht).go hb6) (HENL.out.go hb6) HMEM.out hosn hn (HBWL.out.trans (hb6.mono HBWL.out.size)))
                have HX6 := Lib.hid (HXL.out.bel hb6)
                have HE := Lib.hid (HELL.out.go hb6)
                clear hb6 x5 x6 x7 x8 hxl HELL q0 q1 q2 q3 hpos hpos' hc hc' HCM HUM
                rcases hA with hA | ⟨b', hA⟩
                · cases hA
                · cases hA
                  have hcl := HE.out.le
                  have hcj : (j : Int) ≤ (co : Int) := by omega
                  have hnj : (j : Int) ≤ (os.length : Int) := by omega
                  have hnc : (os.length : Int) ≤ (co : Int) := by omega
                  have hc0 : ¬ co = 0 := by omega
                  by_cases hce : co = j
                  · subst hce
                    have HRD1 : Hid (Rd w6 w6.heap.size 4 (some ⟨bb, 0, none⟩) co (((os).take co).flatMap CT.cells)) := by
                      have := rd_take HE.out.r (show co ≤ (os).length by omega)
                      rwa [flat_take CT.cells 4 CT.len] at this
                    have HRD2 : Hid (∀ W, Below w6.heap.size w6 W → Rd W w6.heap.size 4 (some ⟨bb, 0, none⟩) (0) (((os).drop co).flatMap CT.cells)) := fun W hW => by
                      rw [← flat_drop CT.cells 4 CT.len]
                      (have h0 : (os.drop co) = [] := List.drop_of_length_le (by omega); rw [flat_drop CT.cells 4 CT.len, h0]; exact Rd.empty _ _ _)
                    go_upto_region 20 with fail
                    go_upto_region 21 with (at_builtin; refine wpList_append_any rfl _ _ 22 rfl w6.heap.size 28 iT _ 4 64 Try.underlying22 HIT.out.1 HIT.out.2.1 HIT.out.2.2.1 HIT.out.2.2.2 rfl (by omega) (.slice none 0 0) 0 [] rfl (World.ownsRow_nil _ _ _ _) (some ⟨bb, 0, none⟩) co _ w6.heap.size (((os).take co).flatMap CT.cells) rfl (fun h => by cases h) HRD1.out (ts_one _) ?r1 ?r2 (Nat.le_refl _) ?_; rotate_right; intro v1 w1 ho1 hg1 hat1)
                    case r1 => simp only [maxLen]; omega
                    case r2 => omega
                    rw [Nat.zero_add, List.nil_append] at ho1
                    have hb1 : Below w6.heap.size w6 w1 := Below.grown (Below.refl _ _) hg1 (Nat.le_refl _) (fun k hk => by simp [Value.ownBlock] at hk)
                    have HB1 := Lib.hid hb1
                    have hx1 := HX6.out.bel hb1
                    have x5 := hx1.cell 5
                    have x6 := hx1.cell 6
                    have x7 := hx1.cell 7
                    have x8 := hx1.cell 8
                    simp at x5 x6 x7 x8
                    have hxl := hx1.lt
                    obtain ⟨A1, c1, rfl, _, _⟩ := own_slice ho1
                    have Ho1 := Lib.hid ho1
                    have hle1 := HB1.out.size
                    clear ho1 hg1 hat1 hb1 hx1 HRD1
                    go_upto_region 22 with (at_builtin; refine wpList_append_own_at _ rfl _ _ 22 rfl (w6.heap.size) 28 iT _ 4 64 Try.underlying22 HIT.out.1 HIT.out.2.1 HIT.out.2.2.1 HIT.out.2.2.2 rfl (by omega) _ (co) _ rfl (World.ownsRow.alloc Ho1.out _) ⟨(w1).heap.size, 0, none⟩ 1 1 (CT.cells e.n) rfl rfl ?c0 ?c1 ?c2 ?c3 ?c4 ?_; rotate_right; intro v' w' hown' hg' _ hat')
                    case c0 => first | exact news_new _ _ (CT.cells e.n) | exact fun _ _ h => h
                    case c1 => exact CT.one _
                    case c2 => simp only [maxLen]; omega
                    case c3 => omega
                    case c4 => first | omega | (simp; omega)
                    have HB2 := Lib.hid (show Below w6.heap.size w6 w' from (HB1.out.alloc hle1 _).grown hg' (by simp; omega) (fun k hk => (own_block Ho1.out k hk).1))
                    obtain ⟨A2, c2, rfl, _, _⟩ := own_slice hown'
                    have Ho2 := Lib.hid hown'
                    have hle2 := HB2.out.size
                    clear hown' hg' hat' x5 x6 x7 x8 hxl Ho1 HB1
                    go_wp2_with (at_builtin; refine wpList_append_any rfl _ _ 22 rfl w6.heap.size 28 iT _ 4 64 Try.underlying22 HIT.out.1 HIT.out.2.1 HIT.out.2.2.1 HIT.out.2.2.2 rfl (by omega) (.slice A2 (co + 1) c2) (co + 1) _ rfl Ho2.out (some ⟨bb, 0, none⟩) (0) _ w6.heap.size (((os).drop co).flatMap CT.cells) rfl (fun h => by cases h) (HRD2.out _ HB2.out) (ts_one _) ?s1 ?s2 HB2.out.size ?_; rotate_right; intro v3 w3 ho3 hg3 hat3)
                    case s1 => simp only [maxLen]; omega
                    case s2 => omega
                    have HB3 := Lib.hid (show Below w6.heap.size w6 w3 from HB2.out.grown hg3 hle2 (fun k hk => (own_block Ho2.out k hk).1))
                    rw [show co + 1 + (0) = (os).length + 1 by first | omega | rfl] at ho3
                    obtain ⟨A3, c3, rfl, _, _⟩ := own_slice ho3
                    have Ho3 := Lib.hid (show w3.ownsRow w6.heap.size 28 4 (.slice A3 ((os).length + 1) c3) ((os).length + 1) (((os).take co ++ e.n :: (os).drop co).flatMap CT.cells) by
                      rw [List.flatMap_append, List.flatMap_cons]
                      simpa using ho3)
                    clear ho3 hg3 hat3
                    go_ret2
                    exact HFIN.out A3 c3 _ _ rfl Ho3.out HB3.out
                  · skip
                    have HRD1 : Hid (Rd w6 w6.heap.size 4 (some ⟨bb, 0, none⟩) j (((os).take j).flatMap CT.cells)) := by
                      have := rd_take HE.out.r (show j ≤ (os).length by omega)
                      rwa [flat_take CT.cells 4 CT.len] at this
                    have HRD2 : Hid (∀ W, Below w6.heap.size w6 W → Rd W w6.heap.size 4 (some ⟨bb, j * 4, none⟩) (os.length - j) (((os).drop j).flatMap CT.cells)) := fun W hW => by
                      rw [← flat_drop CT.cells 4 CT.len]
                      (have h := rd_drop (HE.out.r.grow hW) (show j ≤ os.length by omega); rwa [Nat.zero_add] at h)
                    go_upto_region 20 with fail
                    go_upto_region 21 with (at_builtin; refine wpList_append_any rfl _ _ 22 rfl w6.heap.size 28 iT _ 4 64 Try.underlying22 HIT.out.1 HIT.out.2.1 HIT.out.2.2.1 HIT.out.2.2.2 rfl (by omega) (.slice none 0 0) 0 [] rfl (World.ownsRow_nil _ _ _ _) (some ⟨bb, 0, none⟩) j _ w6.heap.size (((os).take j).flatMap CT.cells) rfl (fun h => by cases h) HRD1.out (ts_one _) ?r1 ?r2 (Nat.le_refl _) ?_; rotate_right; intro v1 w1 ho1 hg1 hat1)
                    case r1 => simp only [maxLen]; omega
                    case r2 => omega
                    rw [Nat.zero_add, List.nil_append] at ho1
                    have hb1 : Below w6.heap.size w6 w1 := Below.grown (Below.refl _ _) hg1 (Nat.le_refl _) (fun k hk => by simp [Value.ownBlock] at hk)
                    have HB1 := Lib.hid hb1
                    have hx1 := HX6.out.bel hb1
                    have x5 := hx1.cell 5
                    have x6 := hx1.cell 6
                    have x7 := hx1.cell 7
                    have x8 := hx1.cell 8
                    simp at x5 x6 x7 x8
                    have hxl := hx1.lt
                    obtain ⟨A1, c1, rfl, _, _⟩ := own_slice ho1
                    have Ho1 := Lib.hid ho1
                    have hle1 := HB1.out.size
                    clear ho1 hg1 hat1 hb1 hx1 HRD1
                    go_upto_region 22 with (at_builtin; refine wpList_append_own_at _ rfl _ _ 22 rfl (w6.heap.size) 28 iT _ 4 64 Try.underlying22 HIT.out.1 HIT.out.2.1 HIT.out.2.2.1 HIT.out.2.2.2 rfl (by omega) _ (j) _ rfl (World.ownsRow.alloc Ho1.out _) ⟨(w1).heap.size, 0, none⟩ 1 1 (CT.cells e.n) rfl rfl ?c0 ?c1 ?c2 ?c3 ?c4 ?_; rotate_right; intro v' w' hown' hg' _ hat')
                    case c0 => first | exact news_new _ _ (CT.cells e.n) | exact fun _ _ h => h
                    case c1 => exact CT.one _
                    case c2 => simp only [maxLen]; omega
                    case c3 => omega
                    case c4 => first | omega | (simp; omega)
                    have HB2 := Lib.hid (show Below w6.heap.size w6 w' from (HB1.out.alloc hle1 _).grown hg' (by simp; omega) (fun k hk => (own_block Ho1.out k hk).1))
                    obtain ⟨A2, c2, rfl, _, _⟩ := own_slice hown'
                    have Ho2 := Lib.hid hown'
                    have hle2 := HB2.out.size
                    clear hown' hg' hat' x5 x6 x7 x8 hxl Ho1 HB1
                    go_wp2_with (at_builtin; refine wpList_append_any rfl _ _ 22 rfl w6.heap.size 28 iT _ 4 64 Try.underlying22 HIT.out.1 HIT.out.2.1 HIT.out.2.2.1 HIT.out.2.2.2 rfl (by omega) (.slice A2 (j + 1) c2) (j + 1) _ rfl Ho2.out (some ⟨bb, j * 4, none⟩) (os.length - j) _ w6.heap.size (((os).drop j).flatMap CT.cells) rfl (fun h => by cases h) (HRD2.out _ HB2.out) (ts_one _) ?s1 ?s2 HB2.out.size ?_; rotate_right; intro v3 w3 ho3 hg3 hat3)
                    case s1 => simp only [maxLen]; omega
                    case s2 => omega
                    have HB3 := Lib.hid (show Below w6.heap.size w6 w3 from HB2.out.grown hg3 hle2 (fun k hk => (own_block Ho2.out k hk).1))
                    rw [show j + 1 + (os.length - j) = (os).length + 1 by first | omega | rfl] at ho3
                    obtain ⟨A3, c3, rfl, _, _⟩ := own_slice ho3
                    have Ho3 := Lib.hid (show w3.ownsRow w6.heap.size 28 4 (.slice A3 ((os).length + 1) c3) ((os).length + 1) (((os).take j ++ e.n :: (os).drop j).flatMap CT.cells) by
                      rw [List.flatMap_append, List.flatMap_cons]
                      simpa using ho3)
                    clear ho3 hg3 hat3
                    go_ret2
                    exact HFIN.out A3 c3 _ _ rfl Ho3.out HB3.out
  · simp only [List.length_map] at hi
    rw [List.getElem_map] at hf2
    rw [Nat.zero_add] at hf
    have HPR := Lib.hid (show perR (ts.map CT.pt) e.pe = if e.k = 1 then (5, []) else if eqT (ts[i]).pt e.o.pt = true then (0, if e.k = 2 then (ts.map CT.pt).filter (fun y => !decide (eqK y (keyE e.pe))) else insT ((ts.map CT.pt).filter fun y => !decide (eqK y (keyE e.pe))) e.n.pt) else (20, []) by unfold perR; rw [hf2]; rfl)
    rw [hf] at HON ⊢
    by_cases hk : e.k = 1
    case pos =>
      have hk' : (e.k == 1) = true := by simpa using hk
      have hp := HPR.out
      rw [if_pos hk] at hp
      have HP := Lib.hid hp
      clear hp hk
      go_wp2_with fail
      go_ret2
      exact ⟨none, 0, [], by rw [HP.out]; rfl, ⟨⟨Rd.empty _ _ _, fun t ht => by simp at ht, fun _ => ⟨rfl, rfl⟩, by simp, by simp, by simp [maxLen]⟩, .inl rfl⟩, by rw [HP.out]; rfl, fun t ht => by simp at ht, by simp, (by have hbelh := HB2.out; have hbels := hbelh.size; exact (by repeat (first | exact Below.refl _ _ | (with_reducible refine Below.drew ?_) | (with_reducible refine below_drewN ?_ _) | (with_reducible refine Below.alloc ?_ (by first | omega | (simp; done) | (simp; omega)) _) | (with_reducible refine Below.setCell ?_ (by first | omega | (simp; done) | (simp; omega)) _) | (refine Below.trans ?_ (Below.mono (by with_reducible assumption) (by first | omega | (simp; done) | (simp; omega)))))))⟩
    have hk' : (e.k == 1) = false := by simpa using hk
    have hk'' : (e.k != 1) = true := by simpa using hk
    have hp := HPR.out
    rw [if_neg hk] at hp
    have HPR2 := Lib.hid hp
    clear hp HPR hf hf2
    obtain ⟨bb, off, rfl, hbb, q0, q1, q2, q3⟩ := rdT (H.out.r.grow HB2.out) rfl i hi
    have HUM := Lib.hid ((H.out.m _ (List.getElem_mem hi)).kp (Kp.bel HB2.out))
    generalize ts[i] = u at *
    have hbw2 : bb < w2.heap.size := World.block_lt_of_cell? _ _ q0
    have HCM : Hid (∀ W, Below w2.heap.size w2 W → Calls Try.prog 25 #[.agg #[.int .i64 (u).ln, .int .i64 (u).dy, .slice (u).Ad (u).dep.length (u).cd, .slice (u).Aa (u).arr.length (u).ca], .agg #[.int .i64 (e.o).ln, .int .i64 (e.o).dy, .slice (e.o).Ad (e.o).dep.length (e.o).cd, .slice (e.o).Aa (e.o).arr.length (e.o).ca]] W fun r w' => r = .returned (.bool (eqT u.pt e.o.pt)) ∧ Below W.heap.size W w') := fun W hW => req_any u e.o W (HUM.out.go hW) (HEM.out.o.go (HB2.out.trans (hW.mono HB2.out.size)))
    go_upto_region 6 with fail
    by_cases hq : eqT u.pt e.o.pt = true
    case neg =>
      have hq' : eqT u.pt e.o.pt = false := by simpa using hq
      have hp := HPR2.out
      rw [if_neg hq] at hp
      have HP := Lib.hid hp
      rw [hq'] at HCM
      clear hp hk hq hq' HPR2
      refine wp_region_overL (by kernel_rfl) (by kernel_rfl) ?_
      repeat (go_big_quiet_step ((go_at_call 25; exact callsOver (HCM.out _ (over_below _ _)))))
      refine wpQuiet_nil ?_
      intro w3 hb3
      have HB3 := Lib.hid (HB2.out.trans (hb3.mono HB2.out.size))
      clear hb3
      go_wp2_with fail
      go_ret2
      exact ⟨none, 0, [], by rw [HP.out]; rfl, ⟨⟨Rd.empty _ _ _, fun t ht => by simp at ht, fun _ => ⟨rfl, rfl⟩, by simp, by simp, by simp [maxLen]⟩, .inl rfl⟩, by rw [HP.out]; rfl, fun t ht => by simp at ht, by simp, (by have hbelh := HB3.out; have hbels := hbelh.size; exact (by repeat (first | exact Below.refl _ _ | (with_reducible refine Below.drew ?_) | (with_reducible refine below_drewN ?_ _) | (with_reducible refine Below.alloc ?_ (by first | omega | (simp; done) | (simp; omega)) _) | (with_reducible refine Below.setCell ?_ (by first | omega | (simp; done) | (simp; omega)) _) | (refine Below.trans ?_ (Below.mono (by with_reducible assumption) (by first | omega | (simp; done) | (simp; omega)))))))⟩
    have hp := HPR2.out
    rw [if_pos hq] at hp
    have HP := Lib.hid hp
    rw [hq] at HCM
    have HF3 := Lib.hid (show e.k ≠ 2 → insT ((ts.map CT.pt).filter (fun y => !decide (eqK y (keyE e.pe)))) e.n.pt = (perR (ts.map CT.pt) e.pe).2 from fun h => by
      rw [HP.out, if_neg h])
    have HF2 := Lib.hid (show e.k = 2 → (ts.map CT.pt).filter (fun y => !decide (eqK y (keyE e.pe))) = (perR (ts.map CT.pt) e.pe).2 from fun h => by rw [HP.out, if_pos h])
    have HC0 := Lib.hid (show (perR (ts.map CT.pt) e.pe).1 = 0 by rw [HP.out])
    clear hp hk hq HPR2 HP
    refine wp_region_overL (by kernel_rfl) (by kernel_rfl) ?_
    repeat (go_big_quiet_step ((go_at_call 25; exact callsOver (HCM.out _ (over_below _ _)))))
    refine wpQuiet_nil ?_
    intro w3 hb3
    have HB3 := Lib.hid (HB2.out.trans (hb3.mono HB2.out.size))
    have HX3 := Lib.hid (HX2.out.bel hb3)
    clear hb3 HB2 HX2 x0 x1 x2 x3 x4 hxl q0 q1 q2 q3 HCM HUM hbw2 hk' hk''
    generalize hzz : (i : Int) = z at HON ⊢
    clear hzz
    have HON2 := Lib.hid HON.out
    clear HON
    go_wp2_with fail
    go_loopg [7, 8, 9, 48] ts.length (fun k v7 _ _ v wr => PfL w e ts k v7 v wr)
    case atStart => exact ⟨0, [], rfl, by omega, rfl, ⟨TO.nil _ _, by simp, (by have hbelh := HB3.out; have hbels := hbelh.size; exact (by repeat (first | exact Below.refl _ _ | (with_reducible refine Below.drew ?_) | (with_reducible refine below_drewN ?_ _) | (with_reducible refine Below.alloc ?_ (by first | omega | (simp; done) | (simp; omega)) _) | (with_reducible refine Below.setCell ?_ (by first | omega | (simp; done) | (simp; omega)) _) | (refine Below.trans ?_ (Below.mono (by with_reducible assumption) (by first | omega | (simp; done) | (simp; omega)))))))⟩, fun t ht => by simp at ht, HX3.out⟩
    case round =>
      clear HB3 HX3
      obtain ⟨j, os, rfl, hj, hos, hs, hmem, hx⟩ := hrel
      have Hj := Lib.hid hj
      have HOS := Lib.hid hos
      have HS := Lib.hid hs
      have HMEM := Lib.hid hmem
      have HX := Lib.hid hx
      clear hj hos hs hmem hx
      obtain ⟨Ao, co, rfl⟩ := HS.out.o.sl
      by_cases hlt : j < ts.length
      · have hltm : j < (ts.map CT.pt).length := by simpa using hlt
        have HST := Lib.hid (filt_step (kk := keyE e.pe) hltm)
        have HIF := HON2.out j hltm
        rw [List.getElem_map] at HST HIF
        have HIF := Lib.hid HIF
        have HTIN := Lib.hid (List.getElem_mem hlt)
        obtain ⟨bb, off, hAe, hbb, d0, d1, d2, d3⟩ := rdT (H.out.r.grow HS.out.b) rfl j hlt
        cases hAe
        have HTM := Lib.hid ((H.out.m _ (List.getElem_mem hlt)).kp (Kp.bel HS.out.b))
        generalize ts[j] = t at *
        go_upto_region 12 with fail
        refine world_gen (fun w5 => Blk w5 wr.heap.size 28 #[.int .i64 (t).ln, .int .i64 (t).dy, .slice (t).Ad (t).dep.length (t).cd, .slice (t).Aa (t).arr.length (t).ca] ∧ Below wr.heap.size wr w5) ⟨Blk.new wr _ _, (by repeat (first | exact Below.refl _ _ | (with_reducible refine Below.drew ?_) | (with_reducible refine below_drewN ?_ _) | (with_reducible refine Below.alloc ?_ (by first | omega | (simp; done) | (simp; omega)) _) | (with_reducible refine Below.setCell ?_ (by first | omega | (simp; done) | (simp; omega)) _) | (refine Below.trans ?_ (Below.mono (by with_reducible assumption) (by first | omega | (simp; done) | (simp; omega))))))⟩ ?_
        rintro w5 ⟨hx5, hb5⟩
        have HX5 := Lib.hid (HX.out.bel hb5)
        have HS5 := Lib.hid (HS.out.bel hb5)
        have HTM5 := Lib.hid (HTM.out.kp (Kp.bel hb5))
        have x0 := hx5.cell 0
        have x1 := hx5.cell 1
        have x2 := hx5.cell 2
        have x3 := hx5.cell 3
        simp at x0 x1 x2 x3
        have hxl := hx5.lt
        clear d0 d1 d2 d3 hx5 hb5 HX HS HTM
        by_cases heq : eqK t.pt (keyE e.pe)
        · have hz := HIF.out.2 heq
          have hz' : ((j : Int) != z) = false := by simpa using hz
          have HOS2 := Lib.hid (show os.map CT.pt = ((ts.map CT.pt).take (j + 1)).filter (fun y => !decide (eqK y (keyE e.pe))) by rw [HST.out, if_pos heq, List.append_nil, HOS.out])
          clear hz heq HIF HST HOS x0 x1 x2 x3 hxl
          go_wp2_with fail
          go_roundg (ts.length - j - 1)
          case measure => have := Hj.out; omega
          case rel => exact ⟨j + 1, os, by first | rfl | go_num, by omega, HOS2.out, HS5.out.more (Nat.le_succ j), HMEM.out, HX5.out⟩
        · have hz : ¬ (j : Int) = z := fun h => heq (HIF.out.1 h)
          have hz' : ((j : Int) != z) = true := by simpa using hz
          have HOS2 := Lib.hid (show (os ++ [t]).map CT.pt = ((ts.map CT.pt).take (j + 1)).filter (fun y => !decide (eqK y (keyE e.pe))) by rw [HST.out, if_neg heq, List.map_append, HOS.out]; rfl)
          have hn5 := HS5.out.n
          have hl5 := HS5.out.b.size
          clear hz heq HIF HST HOS
          go_upto_region 14 with (at_builtin; refine wpList_append_own_at _ rfl _ _ 22 rfl (w.heap.size) 28 iT _ 4 64 Try.underlying22 HIT.out.1 HIT.out.2.1 HIT.out.2.2.1 HIT.out.2.2.2 rfl (by omega) _ (os.length) _ rfl (World.ownsRow.alloc HS5.out.o.o _) ⟨(w5).heap.size, 0, none⟩ 1 1 (CT.cells t) rfl rfl ?c0 ?c1 ?c2 ?c3 ?c4 ?_; rotate_right; intro v' w' hown' hg' _ hat')
          case c0 => first | exact news_new _ _ (CT.cells t) | exact fun _ _ h => h
          case c1 => exact CT.one _
          case c2 => simp only [maxLen]; omega
          case c3 => omega
          case c4 => first | omega | (simp; omega)
          have hb9 : ∀ k, k < w.heap.size + 1 → k ≠ w.heap.size → k < w.heap.size := fun k h1 h2 => by omega
          have HX9 := Lib.hid (show Blk w' w.heap.size 40 #[.int .i64 (e).k, .int .i64 (e).o.ln, .int .i64 (e).o.dy, .slice (e).o.Ad (e).o.dep.length (e).o.cd, .slice (e).o.Aa (e).o.arr.length (e).o.ca, .int .i64 (e).n.ln, .int .i64 (e).n.dy, .slice (e).n.Ad (e).n.dep.length (e).n.cd, .slice (e).n.Aa (e).n.arr.length (e).n.ca] from (HX5.out.al _).same (hg'.block w.heap.size (by have := HX5.out.lt; simp; omega) (fun h => (own_nb HS5.out.o.o HX5.out (by decide)) h.symm)))
          have HS9 := Lib.hid (HS5.out.app (x := t) HTM5.out hown' hg')
          have HMEM9 := Lib.hid (show ∀ x ∈ os ++ [t], x ∈ ts from fun x hx => by
            rcases List.mem_append.1 hx with hx | hx
            · exact HMEM.out x hx
            · simp at hx; subst hx; exact HTIN.out)
          clear hown' hg' hat' hb9 x0 x1 x2 x3 hxl HS5 HX5 HTM5
          go_wp2_with fail
          go_roundg (ts.length - j - 1)
          case measure => have := Hj.out; omega
          case rel => exact ⟨j + 1, os ++ [t], by first | rfl | go_num, by omega, HOS2.out, HS9.out, HMEM9.out, HX9.out⟩
      · have hje : j = ts.length := by have := Hj.out; omega
        subst hje
        have HOS2 := Lib.hid (show os.map CT.pt = (ts.map CT.pt).filter (fun y => !decide (eqK y (keyE e.pe))) by rw [HOS.out, List.take_of_length_le (by simp)])
        clear HOS
        have x0 := HX.out.cell 0
        simp at x0
        have hxl := HX.out.lt
        have hosn := HS.out.n
        by_cases hk2 : e.k = 2
        · have hk2' : (e.k == 2) = true := by simpa using hk2
          have HQ := Lib.hid (HF2.out hk2)
          clear hk2
          go_wp2_with fail
          go_ret2
          exact ⟨Ao, co, os, by rw [HC0.out]; rfl, HS.out.tlo (by omega), HOS2.out.trans HQ.out, fun t ht => .inl (HMEM.out t ht), by omega, HS.out.b⟩
        · have hk2' : (e.k == 2) = false := by simpa using hk2
          have HQ := Lib.hid (HF3.out hk2)
          have hn1 := HN1.out hk2
          clear hk2
          have HTS := Lib.hid (HS.out.tlo (by omega))
          have HBW := Lib.hid HS.out.b
          have hA := HTS.out.a
          have HEW := Lib.hid HTS.out.l
          have HENM := Lib.hid (show TM wr wr.heap.size e.n from (HEM.out.n.kp (Kp.bel HBW.out)).top)
          have HO1 := Lib.hid (show ∀ x ∈ os, 1 ≤ x.dep.length from fun x hx => H1.out x (HMEM.out x hx))
          clear HS HTS HON2 Hj
          go_wp2_with fail
          clear x0 hxl
          go_loopg [10] os.length (fun k v wx => PfL2 w wr e os k v wx)
          case atStart => exact ⟨os.length, rfl, rfl, Nat.le_refl _, rfl, HX.out, Below.refl _ _⟩
          case round =>
            have HBWR := HBW
            clear HX HBW
            rename World => wl
            obtain ⟨j, rfl, hj, hjl, hz, hx, hb⟩ := hrel
            have Hj := Lib.hid hj
            have HZ := Lib.hid hz
            have HXL := Lib.hid hx
            have HBR := Lib.hid hb
            clear hj hz hx hb
            have HE := Lib.hid (HEW.out.go HBR.out)
            have HENL := Lib.hid (HENM.out.go HBR.out)
            have x5 := HXL.out.cell 5
            have x6 := HXL.out.cell 6
            have x7 := HXL.out.cell 7
            have x8 := HXL.out.cell 8
            simp at x5 x6 x7 x8
            have hxl := HXL.out.lt
            have HELL := HE
            clear HE
            by_cases hgo : ∃ (p : Nat) (hp : p < os.length), p + 1 = j ∧ ltK e.n.pt (os[p]).pt
            · obtain ⟨p, hpl, hpj, hlk⟩ := hgo
              have hz := HZ.out
              rw [← hpj, posT_on (ptT_map os p hpl) hlk] at hz
              have HZ2 := Lib.hid hz
              clear hz HZ
              obtain ⟨bb9, off9, hAe, hbb9, q0, q1, q2, q3⟩ := rdT HELL.out.r rfl p hpl
              cases hAe
              have hbw : bb9 < wl.heap.size := World.block_lt_of_cell? _ _ q0
              have e0 : IntKind.i64.wrap ((j : Int) - 1) = (p : Int) := by rw [IntWalk.i64_in _ (by omega)]; omega
              have hpos : decide ((j : Int) > 0) = true := by simp; omega
              have hpos' : decide (0 < j) = true := by simp; omega
              have Hp := Lib.hid hpj
              have hu1 := HO1.out os[p] (List.getElem_mem hpl)
              have HUM := Lib.hid (HELL.out.m _ (List.getElem_mem hpl))
              clear hpj
              generalize os[p] = u at *
              have HCM : Hid (∀ W, Below wl.heap.size wl W → Calls Try.prog 36 #[.agg #[.int .i64 (u).ln, .int .i64 (u).dy, .slice (u).Ad (u).dep.length (u).cd, .slice (u).Aa (u).arr.length (u).ca], .agg #[.int .i64 (e.n).ln, .int .i64 (e.n).dy, .slice (e.n).Ad (e.n).dep.length (e.n).cd, .slice (e.n).Aa (e.n).arr.length (e.n).ca]] W fun r w' => r = .returned (.int .i64 (cmpV u.pt e.n.pt)) ∧ Below W.heap.size W w') := fun W hW => ord_any u e.n W (HUM.out.go hW) (HENL.out.go hW) hu1 hn1
              have hcv := cmpV_gt.2 hlk
              clear hlk
              generalize cmpV u.pt e.n.pt = cv at *
              have hc : decide (cv > 0) = true := by simp; omega
              have hc' : decide (0 < cv) = true := by simp; omega
              go_upto_region 18 with fail
              refine wp_region_overL (by kernel_rfl) (by kernel_rfl) ?_
              repeat (go_big_quiet_step ((go_at_call 36; exact callsOver (HCM.out _ (over_below _ _)))))
              refine wpQuiet_nil ?_
              intro w7 hb7
              have HB7 := Lib.hid (HBR.out.trans (hb7.mono HBR.out.size))
              have HX7 := Lib.hid (HXL.out.bel hb7)
              clear hb7 x5 x6 x7 x8 q0 q1 q2 q3 hpos hpos'
              go_wp2_with fail
              go_roundg p
              case measure => have := Hj.out; have := Hp.out; omega
              case rel => exact ⟨p, by first | rfl | go_num, rfl, by omega, HZ2.out, HX7.out, HB7.out⟩
            · have HPOS := Lib.hid (show posT (os.map CT.pt) e.n.pt os.length = j by
                rw [← HZ.out]
                cases j with
                | zero => rfl
                | succ p => exact posT_at (ptT_map os p (by omega)) (fun h => hgo ⟨p, by omega, rfl, h⟩))
              clear HZ
              have HOUT := Lib.hid (show (os.take j ++ e.n :: os.drop j).map CT.pt = (perR (ts.map CT.pt) e.pe).2 by
                rw [← HQ.out, ← HOS2.out]
                unfold insT
                rw [List.length_map, HPOS.out]
                simp)
              clear HPOS
              have HBWL := Lib.hid (HBWR.out.trans (HBR.out.mono HBWR.out.size))
              by_cases hj0 : j = 0
              · subst hj0
                clear hgo
                go_upto_region 18 with fail
                refine wp_region_overL (by kernel_rfl) (by kernel_rfl) ?_
                repeat (go_big_quiet_step (fail))
                refine wpQuiet_nil ?_
                intro w6 hb6
                have HFIN := Lib.hid (pf_fin (w := w) (w6 := w6) hjl HOUT.out HC0.out (fun t ht => (HELL.out.m t ht).go hb6) (HENL.out.go hb6) HMEM.out hosn hn (HBWL.out.trans (hb6.mono HBWL.out.size)))
                have HX6 := Lib.hid (HXL.out.bel hb6)
                have HE := Lib.hid (HELL.out.go hb6)
                clear hb6 x5 x6 x7 x8 hxl HELL
                rcases hA with rfl | ⟨bb, rfl⟩
                · obtain ⟨hn0, rfl⟩ := HE.out.nl rfl
                  have hes : os = [] := List.eq_nil_of_length_eq_zero hn0
                  subst hes
                  clear hn0
                  have HRD1 : Hid (Rd w6 w6.heap.size 4 (none) 0 (((([] : List CT)).take 0).flatMap CT.cells)) := by
                    have := rd_take HE.out.r (show 0 ≤ (([] : List CT)).length by omega)
                    rwa [flat_take CT.cells 4 CT.len] at this
                  have HRD2 : Hid (∀ W, Below w6.heap.size w6 W → Rd W w6.heap.size 4 (none) (0) (((([] : List CT)).drop 0).flatMap CT.cells)) := fun W hW => by
                    rw [← flat_drop CT.cells 4 CT.len]
                    exact Rd.empty _ _ _
                  go_upto_region 20 with fail
                  go_upto_region 21 with (at_builtin; refine wpList_append_any rfl _ _ 22 rfl w6.heap.size 28 iT _ 4 64 Try.underlying22 HIT.out.1 HIT.out.2.1 HIT.out.2.2.1 HIT.out.2.2.2 rfl (by omega) (.slice none 0 0) 0 [] rfl (World.ownsRow_nil _ _ _ _) (none) 0 _ w6.heap.size (((([] : List CT)).take 0).flatMap CT.cells) rfl (fun _ => ⟨rfl, rfl⟩) HRD1.out (ts_one _) ?r1 ?r2 (Nat.le_refl _) ?_; rotate_right; intro v1 w1 ho1 hg1 hat1)
                  case r1 => simp only [maxLen]; omega
                  case r2 => omega
                  rw [Nat.zero_add, List.nil_append] at ho1
                  have hb1 : Below w6.heap.size w6 w1 := Below.grown (Below.refl _ _) hg1 (Nat.le_refl _) (fun k hk => by simp [Value.ownBlock] at hk)
                  have HB1 := Lib.hid hb1
                  have hx1 := HX6.out.bel hb1
                  have x5 := hx1.cell 5
                  have x6 := hx1.cell 6
                  have x7 := hx1.cell 7
                  have x8 := hx1.cell 8
                  simp at x5 x6 x7 x8
                  have hxl := hx1.lt
                  obtain ⟨A1, c1, rfl, _, _⟩ := own_slice ho1
                  have Ho1 := Lib.hid ho1
                  have hle1 := HB1.out.size
                  clear ho1 hg1 hat1 hb1 hx1 HRD1
                  go_upto_region 22 with (at_builtin; refine wpList_append_own_at _ rfl _ _ 22 rfl (w6.heap.size) 28 iT _ 4 64 Try.underlying22 HIT.out.1 HIT.out.2.1 HIT.out.2.2.1 HIT.out.2.2.2 rfl (by omega) _ (0) _ rfl (World.ownsRow.alloc Ho1.out _) ⟨(w1).heap.size, 0, none⟩ 1 1 (CT.cells e.n) rfl rfl ?c0 ?c1 ?c2 ?c3 ?c4 ?_; rotate_right; intro v' w' hown' hg' _ hat')
                  case c0 => first | exact news_new _ _ (CT.cells e.n) | exact fun _ _ h => h
                  case c1 => exact CT.one _
                  case c2 => simp only [maxLen]; omega
                  case c3 => omega
                  case c4 => first | omega | (simp; omega)
                  have HB2 := Lib.hid (show Below w6.heap.size w6 w' from (HB1.out.alloc hle1 _).grown hg' (by simp; omega) (fun k hk => (own_block Ho1.out k hk).1))
                  obtain ⟨A2, c2, rfl, _, _⟩ := own_slice hown'
                  have Ho2 := Lib.hid hown'
                  have hle2 := HB2.out.size
                  clear hown' hg' hat' x5 x6 x7 x8 hxl Ho1 HB1
                  go_wp2_with (at_builtin; refine wpList_append_any rfl _ _ 22 rfl w6.heap.size 28 iT _ 4 64 Try.underlying22 HIT.out.1 HIT.out.2.1 HIT.out.2.2.1 HIT.out.2.2.2 rfl (by omega) (.slice A2 (0 + 1) c2) (0 + 1) _ rfl Ho2.out (none) (0) _ w6.heap.size (((([] : List CT)).drop 0).flatMap CT.cells) rfl (fun _ => ⟨rfl, rfl⟩) (HRD2.out _ HB2.out) (ts_one _) ?s1 ?s2 HB2.out.size ?_; rotate_right; intro v3 w3 ho3 hg3 hat3)
                  case s1 => simp only [maxLen]; omega
                  case s2 => omega
                  have HB3 := Lib.hid (show Below w6.heap.size w6 w3 from HB2.out.grown hg3 hle2 (fun k hk => (own_block Ho2.out k hk).1))
                  rw [show 0 + 1 + (0) = (([] : List CT)).length + 1 by first | omega | rfl] at ho3
                  obtain ⟨A3, c3, rfl, _, _⟩ := own_slice ho3
                  have Ho3 := Lib.hid (show w3.ownsRow w6.heap.size 28 4 (.slice A3 ((([] : List CT)).length + 1) c3) ((([] : List CT)).length + 1) (((([] : List CT)).take 0 ++ e.n :: (([] : List CT)).drop 0).flatMap CT.cells) by
                    rw [List.flatMap_append, List.flatMap_cons]
                    simpa using ho3)
                  clear ho3 hg3 hat3
                  go_ret2
                  exact HFIN.out A3 c3 _ _ rfl Ho3.out HB3.out
                · by_cases hc0 : co = 0
                  · subst hc0
                    have hn0 : os.length = 0 := by have := HE.out.le; omega
                    have hes : os = [] := List.eq_nil_of_length_eq_zero hn0
                    subst hes
                    clear hn0
                    have HRD1 : Hid (Rd w6 w6.heap.size 4 (some ⟨bb, 0, none⟩) 0 (((([] : List CT)).take 0).flatMap CT.cells)) := by
                      have := rd_take HE.out.r (show 0 ≤ (([] : List CT)).length by omega)
                      rwa [flat_take CT.cells 4 CT.len] at this
                    have HRD2 : Hid (∀ W, Below w6.heap.size w6 W → Rd W w6.heap.size 4 (some ⟨bb, 0, none⟩) (0) (((([] : List CT)).drop 0).flatMap CT.cells)) := fun W hW => by
                      rw [← flat_drop CT.cells 4 CT.len]
                      exact Rd.empty _ _ _
                    go_upto_region 20 with fail
                    go_upto_region 21 with (at_builtin; refine wpList_append_any rfl _ _ 22 rfl w6.heap.size 28 iT _ 4 64 Try.underlying22 HIT.out.1 HIT.out.2.1 HIT.out.2.2.1 HIT.out.2.2.2 rfl (by omega) (.slice none 0 0) 0 [] rfl (World.ownsRow_nil _ _ _ _) (some ⟨bb, 0, none⟩) 0 _ w6.heap.size (((([] : List CT)).take 0).flatMap CT.cells) rfl (fun h => by cases h) HRD1.out (ts_one _) ?r1 ?r2 (Nat.le_refl _) ?_; rotate_right; intro v1 w1 ho1 hg1 hat1)
                    case r1 => simp only [maxLen]; omega
                    case r2 => omega
                    rw [Nat.zero_add, List.nil_append] at ho1
                    have hb1 : Below w6.heap.size w6 w1 := Below.grown (Below.refl _ _) hg1 (Nat.le_refl _) (fun k hk => by simp [Value.ownBlock] at hk)
                    have HB1 := Lib.hid hb1
                    have hx1 := HX6.out.bel hb1
                    have x5 := hx1.cell 5
                    have x6 := hx1.cell 6
                    have x7 := hx1.cell 7
                    have x8 := hx1.cell 8
                    simp at x5 x6 x7 x8
                    have hxl := hx1.lt
                    obtain ⟨A1, c1, rfl, _, _⟩ := own_slice ho1
                    have Ho1 := Lib.hid ho1
                    have hle1 := HB1.out.size
                    clear ho1 hg1 hat1 hb1 hx1 HRD1
                    go_upto_region 22 with (at_builtin; refine wpList_append_own_at _ rfl _ _ 22 rfl (w6.heap.size) 28 iT _ 4 64 Try.underlying22 HIT.out.1 HIT.out.2.1 HIT.out.2.2.1 HIT.out.2.2.2 rfl (by omega) _ (0) _ rfl (World.ownsRow.alloc Ho1.out _) ⟨(w1).heap.size, 0, none⟩ 1 1 (CT.cells e.n) rfl rfl ?c0 ?c1 ?c2 ?c3 ?c4 ?_; rotate_right; intro v' w' hown' hg' _ hat')
                    case c0 => first | exact news_new _ _ (CT.cells e.n) | exact fun _ _ h => h
                    case c1 => exact CT.one _
                    case c2 => simp only [maxLen]; omega
                    case c3 => omega
                    case c4 => first | omega | (simp; omega)
                    have HB2 := Lib.hid (show Below w6.heap.size w6 w' from (HB1.out.alloc hle1 _).grown hg' (by simp; omega) (fun k hk => (own_block Ho1.out k hk).1))
                    obtain ⟨A2, c2, rfl, _, _⟩ := own_slice hown'
                    have Ho2 := Lib.hid hown'
                    have hle2 := HB2.out.size
                    clear hown' hg' hat' x5 x6 x7 x8 hxl Ho1 HB1
                    go_wp2_with (at_builtin; refine wpList_append_any rfl _ _ 22 rfl w6.heap.size 28 iT _ 4 64 Try.underlying22 HIT.out.1 HIT.out.2.1 HIT.out.2.2.1 HIT.out.2.2.2 rfl (by omega) (.slice A2 (0 + 1) c2) (0 + 1) _ rfl Ho2.out (some ⟨bb, 0, none⟩) (0) _ w6.heap.size (((([] : List CT)).drop 0).flatMap CT.cells) rfl (fun h => by cases h) (HRD2.out _ HB2.out) (ts_one _) ?s1 ?s2 HB2.out.size ?_; rotate_right; intro v3 w3 ho3 hg3 hat3)
                    case s1 => simp only [maxLen]; omega
                    case s2 => omega
                    have HB3 := Lib.hid (show Below w6.heap.size w6 w3 from HB2.out.grown hg3 hle2 (fun k hk => (own_block Ho2.out k hk).1))
                    rw [show 0 + 1 + (0) = (([] : List CT)).length + 1 by first | omega | rfl] at ho3
                    obtain ⟨A3, c3, rfl, _, _⟩ := own_slice ho3
                    have Ho3 := Lib.hid (show w3.ownsRow w6.heap.size 28 4 (.slice A3 ((([] : List CT)).length + 1) c3) ((([] : List CT)).length + 1) (((([] : List CT)).take 0 ++ e.n :: (([] : List CT)).drop 0).flatMap CT.cells) by
                      rw [List.flatMap_append, List.flatMap_cons]
                      simpa using ho3)
                    clear ho3 hg3 hat3
                    go_ret2
                    exact HFIN.out A3 c3 _ _ rfl Ho3.out HB3.out
                  · have hcl := HE.out.le
                    have hnc : (os.length : Int) ≤ (co : Int) := by omega
                    have HRD1 : Hid (Rd w6 w6.heap.size 4 (some ⟨bb, 0, none⟩) 0 (((os).take 0).flatMap CT.cells)) := by
                      have := rd_take HE.out.r (show 0 ≤ (os).length by omega)
                      rwa [flat_take CT.cells 4 CT.len] at this
                    have HRD2 : Hid (∀ W, Below w6.heap.size w6 W → Rd W w6.heap.size 4 (some ⟨bb, 0, none⟩) (os.length - 0) (((os).drop 0).flatMap CT.cells)) := fun W hW => by
                      rw [← flat_drop CT.cells 4 CT.len]
                      (have h := rd_drop (HE.out.r.grow hW) (Nat.zero_le os.length); simpa using h)
                    go_upto_region 20 with fail
                    go_upto_region 21 with (at_builtin; refine wpList_append_any rfl _ _ 22 rfl w6.heap.size 28 iT _ 4 64 Try.underlying22 HIT.out.1 HIT.out.2.1 HIT.out.2.2.1 HIT.out.2.2.2 rfl (by omega) (.slice none 0 0) 0 [] rfl (World.ownsRow_nil _ _ _ _) (some ⟨bb, 0, none⟩) 0 _ w6.heap.size (((os).take 0).flatMap CT.cells) rfl (fun h => by cases h) HRD1.out (ts_one _) ?r1 ?r2 (Nat.le_refl _) ?_; rotate_right; intro v1 w1 ho1 hg1 hat1)
                    case r1 => simp only [maxLen]; omega
                    case r2 => omega
                    rw [Nat.zero_add, List.nil_append] at ho1
                    have hb1 : Below w6.heap.size w6 w1 := Below.grown (Below.refl _ _) hg1 (Nat.le_refl _) (fun k hk => by simp [Value.ownBlock] at hk)
                    have HB1 := Lib.hid hb1
                    have hx1 := HX6.out.bel hb1
                    have x5 := hx1.cell 5
                    have x6 := hx1.cell 6
                    have x7 := hx1.cell 7
                    have x8 := hx1.cell 8
                    simp at x5 x6 x7 x8
                    have hxl := hx1.lt
                    obtain ⟨A1, c1, rfl, _, _⟩ := own_slice ho1
                    have Ho1 := Lib.hid ho1
                    have hle1 := HB1.out.size
                    clear ho1 hg1 hat1 hb1 hx1 HRD1
                    go_upto_region 22 with (at_builtin; refine wpList_append_own_at _ rfl _ _ 22 rfl (w6.heap.size) 28 iT _ 4 64 Try.underlying22 HIT.out.1 HIT.out.2.1 HIT.out.2.2.1 HIT.out.2.2.2 rfl (by omega) _ (0) _ rfl (World.ownsRow.alloc Ho1.out _) ⟨(w1).heap.size, 0, none⟩ 1 1 (CT.cells e.n) rfl rfl ?c0 ?c1 ?c2 ?c3 ?c4 ?_; rotate_right; intro v' w' hown' hg' _ hat')
                    case c0 => first | exact news_new _ _ (CT.cells e.n) | exact fun _ _ h => h
                    case c1 => exact CT.one _
                    case c2 => simp only [maxLen]; omega
                    case c3 => omega
                    case c4 => first | omega | (simp; omega)
                    have HB2 := Lib.hid (show Below w6.heap.size w6 w' from (HB1.out.alloc hle1 _).grown hg' (by simp; omega) (fun k hk => (own_block Ho1.out k hk).1))
                    obtain ⟨A2, c2, rfl, _, _⟩ := own_slice hown'
                    have Ho2 := Lib.hid hown'
                    have hle2 := HB2.out.size
                    clear hown' hg' hat' x5 x6 x7 x8 hxl Ho1 HB1
                    go_wp2_with (at_builtin; refine wpList_append_any rfl _ _ 22 rfl w6.heap.size 28 iT _ 4 64 Try.underlying22 HIT.out.1 HIT.out.2.1 HIT.out.2.2.1 HIT.out.2.2.2 rfl (by omega) (.slice A2 (0 + 1) c2) (0 + 1) _ rfl Ho2.out (some ⟨bb, 0, none⟩) (os.length - 0) _ w6.heap.size (((os).drop 0).flatMap CT.cells) rfl (fun h => by cases h) (HRD2.out _ HB2.out) (ts_one _) ?s1 ?s2 HB2.out.size ?_; rotate_right; intro v3 w3 ho3 hg3 hat3)
                    case s1 => simp only [maxLen]; omega
                    case s2 => omega
                    have HB3 := Lib.hid (show Below w6.heap.size w6 w3 from HB2.out.grown hg3 hle2 (fun k hk => (own_block Ho2.out k hk).1))
                    rw [show 0 + 1 + (os.length - 0) = (os).length + 1 by first | omega | rfl] at ho3
                    obtain ⟨A3, c3, rfl, _, _⟩ := own_slice ho3
                    have Ho3 := Lib.hid (show w3.ownsRow w6.heap.size 28 4 (.slice A3 ((os).length + 1) c3) ((os).length + 1) (((os).take 0 ++ e.n :: (os).drop 0).flatMap CT.cells) by
                      rw [List.flatMap_append, List.flatMap_cons]
                      simpa using ho3)
                    clear ho3 hg3 hat3
                    go_ret2
                    exact HFIN.out A3 c3 _ _ rfl Ho3.out HB3.out
              · obtain ⟨p, hpj⟩ : ∃ p, p + 1 = j := ⟨j - 1, by omega⟩
                have hpl : p < os.length := by omega
                have hlk : ¬ ltK e.n.pt (os[p]).pt := fun h => hgo ⟨p, hpl, hpj, h⟩
                clear hgo
                obtain ⟨bb, off, hAe, hbb9, q0, q1, q2, q3⟩ := rdT HELL.out.r rfl p hpl
                cases hAe
                have hbw : bb < wl.heap.size := World.block_lt_of_cell? _ _ q0
                have e0 : IntKind.i64.wrap ((j : Int) - 1) = (p : Int) := by rw [IntWalk.i64_in _ (by omega)]; omega
                have hpos : decide ((j : Int) > 0) = true := by simp; omega
                have hpos' : decide (0 < j) = true := by simp; omega
                have Hp := Lib.hid hpj
                have hu1 := HO1.out os[p] (List.getElem_mem hpl)
                have HUM := Lib.hid (HELL.out.m _ (List.getElem_mem hpl))
                clear hpj
                generalize os[p] = u at *
                have HCM : Hid (∀ W, Below wl.heap.size wl W → Calls Try.prog 36 #[.agg #[.int .i64 (u).ln, .int .i64 (u).dy, .slice (u).Ad (u).dep.length (u).cd, .slice (u).Aa (u).arr.length (u).ca], .agg #[.int .i64 (e.n).ln, .int .i64 (e.n).dy, .slice (e.n).Ad (e.n).dep.length (e.n).cd, .slice (e.n).Aa (e.n).arr.length (e.n).ca]] W fun r w' => r = .returned (.int .i64 (cmpV u.pt e.n.pt)) ∧ Below W.heap.size W w') := fun W hW => ord_any u e.n W (HUM.out.go hW) (HENL.out.go hW) hu1 hn1
                have hcv := fun h => hlk (cmpV_gt.1 h)
                clear hlk
                generalize cmpV u.pt e.n.pt = cv at *
                have hc : decide (cv > 0) = false := by simpa using hcv
                have hc' : decide (0 < cv) = false := by simpa using hcv
                clear hcv
                go_upto_region 18 with fail
                refine wp_region_overL (by kernel_rfl) (by kernel_rfl) ?_
                repeat (go_big_quiet_step ((go_at_call 36; exact callsOver (HCM.out _ (over_below _ _)))))
                refine wpQuiet_nil ?_
                intro w6 hb6
                have HFIN := Lib.hid (pf_fin (w := w) (w6 := w6) hjl HOUT.out HC0.out (fun t ht => (HELL.out.m t ht).go hb6) (HENL.out.go hb6) HMEM.out hosn hn (HBWL.out.trans (hb6.mono HBWL.out.size)))
                have HX6 := Lib.hid (HXL.out.bel hb6)
                have HE := Lib.hid (HELL.out.go hb6)
                clear hb6 x5 x6 x7 x8 hxl HELL q0 q1 q2 q3 hpos hpos' hc hc' HCM HUM
                rcases hA with hA | ⟨b', hA⟩
                · cases hA
                · cases hA
                  have hcl := HE.out.le
                  have hcj : (j : Int) ≤ (co : Int) := by omega
                  have hnj : (j : Int) ≤ (os.length : Int) := by omega
                  have hnc : (os.length : Int) ≤ (co : Int) := by omega
                  have hc0 : ¬ co = 0 := by omega
                  by_cases hce : co = j
                  · subst hce
                    have HRD1 : Hid (Rd w6 w6.heap.size 4 (some ⟨bb, 0, none⟩) co (((os).take co).flatMap CT.cells)) := by
                      have := rd_take HE.out.r (show co ≤ (os).length by omega)
                      rwa [flat_take CT.cells 4 CT.len] at this
                    have HRD2 : Hid (∀ W, Below w6.heap.size w6 W → Rd W w6.heap.size 4 (some ⟨bb, 0, none⟩) (0) (((os).drop co).flatMap CT.cells)) := fun W hW => by
                      rw [← flat_drop CT.cells 4 CT.len]
                      (have h0 : (os.drop co) = [] := List.drop_of_length_le (by omega); rw [flat_drop CT.cells 4 CT.len, h0]; exact Rd.empty _ _ _)
                    go_upto_region 20 with fail
                    go_upto_region 21 with (at_builtin; refine wpList_append_any rfl _ _ 22 rfl w6.heap.size 28 iT _ 4 64 Try.underlying22 HIT.out.1 HIT.out.2.1 HIT.out.2.2.1 HIT.out.2.2.2 rfl (by omega) (.slice none 0 0) 0 [] rfl (World.ownsRow_nil _ _ _ _) (some ⟨bb, 0, none⟩) co _ w6.heap.size (((os).take co).flatMap CT.cells) rfl (fun h => by cases h) HRD1.out (ts_one _) ?r1 ?r2 (Nat.le_refl _) ?_; rotate_right; intro v1 w1 ho1 hg1 hat1)
                    case r1 => simp only [maxLen]; omega
                    case r2 => omega
                    rw [Nat.zero_add, List.nil_append] at ho1
                    have hb1 : Below w6.heap.size w6 w1 := Below.grown (Below.refl _ _) hg1 (Nat.le_refl _) (fun k hk => by simp [Value.ownBlock] at hk)
                    have HB1 := Lib.hid hb1
                    have hx1 := HX6.out.bel hb1
                    have x5 := hx1.cell 5
                    have x6 := hx1.cell 6
                    have x7 := hx1.cell 7
                    have x8 := hx1.cell 8
                    simp at x5 x6 x7 x8
                    have hxl := hx1.lt
                    obtain ⟨A1, c1, rfl, _, _⟩ := own_slice ho1
                    have Ho1 := Lib.hid ho1
                    have hle1 := HB1.out.size
                    clear ho1 hg1 hat1 hb1 hx1 HRD1
                    go_upto_region 22 with (at_builtin; refine wpList_append_own_at _ rfl _ _ 22 rfl (w6.heap.size) 28 iT _ 4 64 Try.underlying22 HIT.out.1 HIT.out.2.1 HIT.out.2.2.1 HIT.out.2.2.2 rfl (by omega) _ (co) _ rfl (World.ownsRow.alloc Ho1.out _) ⟨(w1).heap.size, 0, none⟩ 1 1 (CT.cells e.n) rfl rfl ?c0 ?c1 ?c2 ?c3 ?c4 ?_; rotate_right; intro v' w' hown' hg' _ hat')
                    case c0 => first | exact news_new _ _ (CT.cells e.n) | exact fun _ _ h => h
                    case c1 => exact CT.one _
                    case c2 => simp only [maxLen]; omega
                    case c3 => omega
                    case c4 => first | omega | (simp; omega)
                    have HB2 := Lib.hid (show Below w6.heap.size w6 w' from (HB1.out.alloc hle1 _).grown hg' (by simp; omega) (fun k hk => (own_block Ho1.out k hk).1))
                    obtain ⟨A2, c2, rfl, _, _⟩ := own_slice hown'
                    have Ho2 := Lib.hid hown'
                    have hle2 := HB2.out.size
                    clear hown' hg' hat' x5 x6 x7 x8 hxl Ho1 HB1
                    go_wp2_with (at_builtin; refine wpList_append_any rfl _ _ 22 rfl w6.heap.size 28 iT _ 4 64 Try.underlying22 HIT.out.1 HIT.out.2.1 HIT.out.2.2.1 HIT.out.2.2.2 rfl (by omega) (.slice A2 (co + 1) c2) (co + 1) _ rfl Ho2.out (some ⟨bb, 0, none⟩) (0) _ w6.heap.size (((os).drop co).flatMap CT.cells) rfl (fun h => by cases h) (HRD2.out _ HB2.out) (ts_one _) ?s1 ?s2 HB2.out.size ?_; rotate_right; intro v3 w3 ho3 hg3 hat3)
                    case s1 => simp only [maxLen]; omega
                    case s2 => omega
                    have HB3 := Lib.hid (show Below w6.heap.size w6 w3 from HB2.out.grown hg3 hle2 (fun k hk => (own_block Ho2.out k hk).1))
                    rw [show co + 1 + (0) = (os).length + 1 by first | omega | rfl] at ho3
                    obtain ⟨A3, c3, rfl, _, _⟩ := own_slice ho3
                    have Ho3 := Lib.hid (show w3.ownsRow w6.heap.size 28 4 (.slice A3 ((os).length + 1) c3) ((os).length + 1) (((os).take co ++ e.n :: (os).drop co).flatMap CT.cells) by
                      rw [List.flatMap_append, List.flatMap_cons]
                      simpa using ho3)
                    clear ho3 hg3 hat3
                    go_ret2
                    exact HFIN.out A3 c3 _ _ rfl Ho3.out HB3.out
                  · skip
                    have HRD1 : Hid (Rd w6 w6.heap.size 4 (some ⟨bb, 0, none⟩) j (((os).take j).flatMap CT.cells)) := by
                      have := rd_take HE.out.r (show j ≤ (os).length by omega)
                      rwa [flat_take CT.cells 4 CT.len] at this
                    have HRD2 : Hid (∀ W, Below w6.heap.size w6 W → Rd W w6.heap.size 4 (some ⟨bb, j * 4, none⟩) (os.length - j) (((os).drop j).flatMap CT.cells)) := fun W hW => by
                      rw [← flat_drop CT.cells 4 CT.len]
                      (have h := rd_drop (HE.out.r.grow hW) (show j ≤ os.length by omega); rwa [Nat.zero_add] at h)
                    go_upto_region 20 with fail
                    go_upto_region 21 with (at_builtin; refine wpList_append_any rfl _ _ 22 rfl w6.heap.size 28 iT _ 4 64 Try.underlying22 HIT.out.1 HIT.out.2.1 HIT.out.2.2.1 HIT.out.2.2.2 rfl (by omega) (.slice none 0 0) 0 [] rfl (World.ownsRow_nil _ _ _ _) (some ⟨bb, 0, none⟩) j _ w6.heap.size (((os).take j).flatMap CT.cells) rfl (fun h => by cases h) HRD1.out (ts_one _) ?r1 ?r2 (Nat.le_refl _) ?_; rotate_right; intro v1 w1 ho1 hg1 hat1)
                    case r1 => simp only [maxLen]; omega
                    case r2 => omega
                    rw [Nat.zero_add, List.nil_append] at ho1
                    have hb1 : Below w6.heap.size w6 w1 := Below.grown (Below.refl _ _) hg1 (Nat.le_refl _) (fun k hk => by simp [Value.ownBlock] at hk)
                    have HB1 := Lib.hid hb1
                    have hx1 := HX6.out.bel hb1
                    have x5 := hx1.cell 5
                    have x6 := hx1.cell 6
                    have x7 := hx1.cell 7
                    have x8 := hx1.cell 8
                    simp at x5 x6 x7 x8
                    have hxl := hx1.lt
                    obtain ⟨A1, c1, rfl, _, _⟩ := own_slice ho1
                    have Ho1 := Lib.hid ho1
                    have hle1 := HB1.out.size
                    clear ho1 hg1 hat1 hb1 hx1 HRD1
                    go_upto_region 22 with (at_builtin; refine wpList_append_own_at _ rfl _ _ 22 rfl (w6.heap.size) 28 iT _ 4 64 Try.underlying22 HIT.out.1 HIT.out.2.1 HIT.out.2.2.1 HIT.out.2.2.2 rfl (by omega) _ (j) _ rfl (World.ownsRow.alloc Ho1.out _) ⟨(w1).heap.size, 0, none⟩ 1 1 (CT.cells e.n) rfl rfl ?c0 ?c1 ?c2 ?c3 ?c4 ?_; rotate_right; intro v' w' hown' hg' _ hat')
                    case c0 => first | exact news_new _ _ (CT.cells e.n) | exact fun _ _ h => h
                    case c1 => exact CT.one _
                    case c2 => simp only [maxLen]; omega
                    case c3 => omega
                    case c4 => first | omega | (simp; omega)
                    have HB2 := Lib.hid (show Below w6.heap.size w6 w' from (HB1.out.alloc hle1 _).grown hg' (by simp; omega) (fun k hk => (own_block Ho1.out k hk).1))
                    obtain ⟨A2, c2, rfl, _, _⟩ := own_slice hown'
                    have Ho2 := Lib.hid hown'
                    have hle2 := HB2.out.size
                    clear hown' hg' hat' x5 x6 x7 x8 hxl Ho1 HB1
                    go_wp2_with (at_builtin; refine wpList_append_any rfl _ _ 22 rfl w6.heap.size 28 iT _ 4 64 Try.underlying22 HIT.out.1 HIT.out.2.1 HIT.out.2.2.1 HIT.out.2.2.2 rfl (by omega) (.slice A2 (j + 1) c2) (j + 1) _ rfl Ho2.out (some ⟨bb, j * 4, none⟩) (os.length - j) _ w6.heap.size (((os).drop j).flatMap CT.cells) rfl (fun h => by cases h) (HRD2.out _ HB2.out) (ts_one _) ?s1 ?s2 HB2.out.size ?_; rotate_right; intro v3 w3 ho3 hg3 hat3)
                    case s1 => simp only [maxLen]; omega
                    case s2 => omega
                    have HB3 := Lib.hid (show Below w6.heap.size w6 w3 from HB2.out.grown hg3 hle2 (fun k hk => (own_block Ho2.out k hk).1))
                    rw [show j + 1 + (os.length - j) = (os).length + 1 by first | omega | rfl] at ho3
                    obtain ⟨A3, c3, rfl, _, _⟩ := own_slice ho3
                    have Ho3 := Lib.hid (show w3.ownsRow w6.heap.size 28 4 (.slice A3 ((os).length + 1) c3) ((os).length + 1) (((os).take j ++ e.n :: (os).drop j).flatMap CT.cells) by
                      rw [List.flatMap_append, List.flatMap_cons]
                      simpa using ho3)
                    clear ho3 hg3 hat3
                    go_ret2
                    exact HFIN.out A3 c3 _ _ rfl Ho3.out HB3.out
end Go.Proofs.Ythfifejjfnmpoaa
