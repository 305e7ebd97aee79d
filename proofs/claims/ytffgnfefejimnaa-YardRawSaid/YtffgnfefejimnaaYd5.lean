import Derived.Test.YtffgnfefejimnaaYd4
namespace Go.Proofs.Ytffgnfefejimnaa
open Go.RowKit
def undoY (T : List Tk) (m : Mv) (t : Nat) (u : Un) (s : Yst) : Yst :=
  if m.inn then ⟨s.on.set t (rowY s t).dropLast, s.nx - 1⟩ else ⟨s.on.set t (if (trk T t).thr then u :: rowY s t else rowY s t ++ [u]), s.nx⟩
theorem rowY_set_self {on : List (List Un)} {t nx : Nat} {r : List Un} (h : t < on.length) : rowY ⟨on.set t r, nx⟩ t = r := by simp [rowY, h]
theorem back_row (b : Bool) (q : List Un) (u : Un) (h : q[plc b q]? = some u) : (if b = true then u :: q.eraseIdx (plc b q) else q.eraseIdx (plc b q) ++ [u]) = q := by
  obtain ⟨hp, hu⟩ := List.getElem?_eq_some_iff.1 h
  cases b with
  | true =>
    simp only [plc, if_true] at hu hp ⊢
    cases q with
    | nil => simp at hp
    | cons a l => simp at hu; subst hu; simp
  | false =>
    simp only [plc, Bool.false_eq_true, if_false] at hu hp ⊢
    have h0 : q ≠ [] := by rintro rfl; simp at hp
    subst hu
    rw [List.eraseIdx_length_sub_one, ← List.getLast_eq_getElem h0, List.dropLast_concat_getLast]
theorem undo_act {T : List Tk} {m : Mv} {t : Nat} {u : Un} {s s' : Yst} (ht : t < s.on.length) (h : actY T m t s = some (u, s')) : undoY T m t u s' = s := by
  obtain ⟨on, nx⟩ := s
  have ht' : t < on.length := ht
  have hself : on.set t (rowY ⟨on, nx⟩ t) = on := by
    rw [rowY_get ht]; exact List.set_getElem_self ht
  cases hin : m.inn with
  | true =>
    rw [actY_in hin] at h
    split at h
    · injection h with h
      injection h with hu hs
      subst hu hs
      simp only [undoY, hin, if_true, List.set_set, Nat.add_sub_cancel]
      rw [rowY_set_self ht', List.dropLast_concat, hself]
    · cases h
  | false =>
    unfold actY at h
    rw [if_neg (by simp [hin])] at h
    split at h
    · cases h
    · rename_i v hv
      split at h
      · injection h with h
        injection h with hu hs
        subst hu hs
        simp only [undoY, hin, Bool.false_eq_true, if_false, List.set_set]
        rw [rowY_set_self ht', back_row _ _ _ hv, hself]
      · cases h
theorem act_in_row {T : List Tk} {m : Mv} {t : Nat} {u : Un} {s s' : Yst} (ht : t < s.on.length) (h : actY T m t s = some (u, s')) (hin : m.inn = true) : ∃ r nx, rowY s' t = r ++ [u] ∧ s'.nx = nx + 1 := by
  rw [actY_in hin] at h
  split at h
  · injection h with h
    injection h with hu hs
    subst hu hs
    exact ⟨rowY s t, s.nx, by rw [rowY_set, if_pos ⟨rfl, ht⟩], rfl⟩
  · cases h
theorem act_un {T : List Tk} {m : Mv} {i t : Nat} {u : Un} {s s' : Yst} (hok : YOk T i s) (ht : t < T.length) (hm : mvOk m = true) (h : actY T m t s = some (u, s')) : u.num < s'.nx ∧ (0 ≤ u.kind ∧ u.kind ≤ 1048576) ∧ (1 ≤ u.ln ∧ u.ln ≤ 1000) := by
  obtain ⟨_, hr, _⟩ := hok.row ht
  cases hin : m.inn with
  | true =>
    rw [actY_in hin] at h
    split at h
    · injection h with h
      injection h with hu hs
      subst hu hs
      simp [mvOk, hin] at hm
      simp only
      omega
    · cases h
  | false =>
    by_cases h0 : rowY s t = []
    · rw [actY_nil hin h0] at h; cases h
    · rw [actY_out hin (plc_lt _ h0)] at h
      split at h
      · injection h with h
        injection h with hu hs
        subst hu hs
        exact hr _ (List.getElem_mem _)
      · cases h
theorem own_front {w : World} {base : Nat} {e : TypeId} {sz n c g p : Nat} {xs ys : List Value} (h : w.ownsRow base e sz (.slice (some ⟨g, 0, none⟩) n c) n xs) (hp : p ≤ n) (hy : ys = xs.take (p * sz)) : w.ownsRow base e sz (.slice (some ⟨g, 0, none⟩) p c) p ys := by
  subst hy
  obtain ⟨h1, h2⟩ := h
  have hps : p * sz ≤ n * sz := Nat.mul_le_mul_right _ hp
  rcases h2 with ⟨hv, _⟩ | ⟨g', cap, cur, hv, hb, hh, hc, hm, hs, ht⟩
  · cases hv
  · injection hv with e1 _ e3
    injection e1 with e1
    injection e1 with e1
    subst e1 e3
    refine ⟨by rw [List.length_take, h1, Nat.min_eq_left hps], .inr ⟨g, c, cur, rfl, hb, hh, by omega, hm, hs, ?_⟩⟩
    rw [← ht, List.take_take, Nat.min_eq_left hps]
theorem un_snoc (r : List Un) (u : Un) : r.flatMap Un.cells = ((r ++ [u]).flatMap Un.cells).take (r.length * 3) := by
  rw [un_take, List.take_left']
  rfl

set_option maxRecDepth 100000 in
set_option maxHeartbeats 3200000 in
theorem undo_any (base Y bO bF cF cT i t : Nat) (AT : Option Addr) (T : List Tk) (M : Mv) (u : Un) (s : Yst) (vs : List Value) (w : World) (hm : YMem base Y bO bF cF AT cT T.length s.on (freeY T s) s.nx vs w) (hok : YOk T i s) (hi : i ≤ 25)
    (hT : Rd w base 2 AT T.length (T.flatMap Tk.cells)) (hTk : ∀ k ∈ T, tkOk k = true) (ht : t < T.length) (hin : M.inn = true → ∃ r nx, rowY s t = r ++ [u] ∧ s.nx = nx + 1) (hu : 0 ≤ u.ln ∧ u.ln ≤ 1000) (hb : base ≤ w.heap.size) :
    Calls Try.prog 30 #[.pointer (some ⟨Y, 0, none⟩), mvV M, .int .i64 t, unV u] w fun e w' => e = .returned (.tuple #[]) ∧ ∃ vs', YAt base Y bO bF cF AT cT T (undoY T M t u s) (DY Y bO bF vs) w vs' w' := by
  obtain ⟨inn, kd, ln⟩ := M
  have hts : t < s.on.length := by rw [hok.n]; exact ht
  obtain ⟨A, c, hv, hown, o1, o2⟩ := hm.at_ ht (List.getElem?_eq_getElem hts) (freeY_get ht)
  rw [← rowY_get hts] at hv hown o1
  obtain ⟨hr1, hr2, hr3, hr4⟩ := hok.row ht
  obtain ⟨tb, tof, rfl, htb, e0, e1⟩ := rdTk hT rfl t ht
  rw [← trk_get ht] at e0 e1
  have htk := hTk (trk T t) (by rw [trk_get ht]; simp)
  have hnx := hok.nx
  have HM := Lib.hid hm
  have HOk := Lib.hid hok
  have HV := Lib.hid hv
  have HOw := Lib.hid hown
  have HIn := Lib.hid hin
  clear hm hok hv hown hT hTk hr2 hin
  simp only [tkOk, Bool.and_eq_true, decide_eq_true_eq] at htk
  have hyl := HM.out.y.lt
  obtain ⟨hbO, hbOl⟩ := HM.out.bO_
  obtain ⟨hbF, hbFl⟩ := HM.out.bF_
  have x0 := HM.out.y.cell 0
  have x1 := HM.out.y.cell 1
  simp at x0 x1
  have htbl : tb < w.heap.size := by omega
  generalize hrw : rowY s t = r at *
  generalize hfr : (trk T t).ln - sumU r = fr at *
  have HRow := Lib.hid (show s.on[t]? = some r by rw [← hrw, rowY_get hts]; exact List.getElem?_eq_getElem hts)
  have HOb := Lib.hid (own_block HOw.out)
  obtain ⟨num, kn, ul⟩ := u
  simp only at hu
  obtain ⟨i0, a1, a2, a3, a4⟩ := info_parts infoUn
  have HI := Lib.hid (And.intro a1 (And.intro a2 (And.intro a3 a4)))
  clear a1 a2 a3 a4
  unfold mvV unV
  cases inn with
  | true =>
    obtain ⟨r', nx, hr, hsn⟩ := HIn.out rfl
    subst hr
    simp only [List.length_append, List.length_cons, List.length_nil, Nat.zero_add] at o1 hr1
    have hlen : (r' ++ [(⟨num, kn, ul⟩ : Un)]).length = r'.length + 1 := by simp
    rw [hlen] at HV HOw
    have HUn := Lib.hid (show undoY T ⟨true, kd, ln⟩ t ⟨num, kn, ul⟩ s = ⟨s.on.set t r', nx⟩ by
      simp only [undoY, if_true, hrw, List.dropLast_concat, hsn, Nat.add_sub_cancel])
    obtain ⟨g, rfl, hgb, hgl⟩ : ∃ g, A = some ⟨g, 0, none⟩ ∧ base ≤ g ∧ g < w.heap.size := by
      obtain ⟨g, cap, e, h1, h2⟩ := HOw.out.form (by omega)
      injection e with e
      exact ⟨g, e, h1, h2⟩
    have hcap : r'.length + 1 ≤ c := by
      rcases HOw.out.2 with ⟨hv, _⟩ | ⟨_, cap, cur, hv, _, _, h5⟩
      · cases hv
      · injection hv with _ _ h3; rw [h3]; exact h5.1
    have HFr := Lib.hid (show freeY T ⟨s.on.set t r', nx⟩ = (freeY T s).set t (fr + ul) by
      rw [freeY_set hts, ← hfr, sumU_app]; congr 1; simp [sumU]; omega)
    have HSr := Lib.hid (un_snoc r' ⟨num, kn, ul⟩)
    generalize hk : r'.length = k at *
    have Hk := Lib.hid hk
    clear hk hlen
    simp only
    go_enter Try.func30, Try.ntmps30
    go_upto_region 5 with fail
    refine world_gen (fun w3 => YMem base Y bO bF cF (some ⟨tb, tof, none⟩) cT T.length s.on (freeY T s) s.nx vs w3 ∧ FrY base (DY Y bO bF vs) (DY Y bO bF vs) w w3 ∧
      Blk w3 (w.heap.size + 1) 57 #[.int .i64 num, .int .i64 kn, .int .i64 ul]) ⟨?g1, ?g2, ?g3⟩ ?_
    case g1 => exact HM.out.grow (by repeat (first | exact Below.refl _ _ | (with_reducible refine Below.drew ?_) | (with_reducible refine below_drewN ?_ _) | (with_reducible refine Below.alloc ?_ (by first | omega | (simp; done) | (simp; omega)) _) | (with_reducible refine Below.setCell ?_ (by first | omega | (simp; done) | (simp; omega)) _) | (refine Below.trans ?_ (Below.mono (by with_reducible assumption) (by first | omega | (simp; done) | (simp; omega))))))
    case g2 => exact FrY.grow (by repeat (first | exact Below.refl _ _ | (with_reducible refine Below.drew ?_) | (with_reducible refine below_drewN ?_ _) | (with_reducible refine Below.alloc ?_ (by first | omega | (simp; done) | (simp; omega)) _) | (with_reducible refine Below.setCell ?_ (by first | omega | (simp; done) | (simp; omega)) _) | (refine Below.trans ?_ (Below.mono (by with_reducible assumption) (by first | omega | (simp; done) | (simp; omega)))))) hb
    case g3 => simpa using Blk.new (w.alloc (.cells #[.bool true, .int .i64 kd, .int .i64 ln] 41)) 57 #[.int .i64 num, .int .i64 kn, .int .i64 ul]
    clear x0 x1 o1 o2 e0 e1
    rintro w3 ⟨hm3, hf3, hu3⟩
    have HM3 := Lib.hid hm3
    have HF3 := Lib.hid hf3
    have HU3 := Lib.hid hu3
    clear hm3 hf3 hu3
    have x1 := HM3.out.y.cell 1
    simp at x1
    have hyl3 := HM3.out.y.lt
    have s1 : (k : Int) ≤ (c : Int) := by omega
    have s4 : ¬ c = 0 := by omega
    have f1 := own_frozen HM3.out.o t
    refine wp_region_overT 11 (by kernel_rfl) (by kernel_rfl) ?_
    simp only [List.take_succ_cons, List.take_zero, List.drop_succ_cons, List.drop_zero]
    repeat (go_big_quiet_step ((fail)))
    refine wpQuiet_nil ?_
    intro w4 hb4
    have HM4 := Lib.hid (HM3.out.grow hb4)
    have HF4 := Lib.hid (HF3.out.trans (FrY.grow hb4 (Nat.le_trans hb HF3.out.bel.size)))
    have HU4 := Lib.hid (HU3.out.bel hb4)
    clear hb4 x1 f1 hyl3 HM3 HF3 HU3
    have f1 := own_frozen HM4.out.o t
    have hbOl4 := HM4.out.bO_.2
    obtain ⟨_, _, hv', _, o1, _⟩ := HM4.out.at_ ht HRow.out (freeY_get ht)
    rw [HV.out] at hv'
    injection hv' with hv'
    injection hv' with e1 e2 e3
    subst e1 e3
    clear e2
    go_upto_region 6 with fail
    have ho4 := HM4.out.r t _ _ HV.out HRow.out
    simp only [List.length_append, List.length_cons, List.length_nil, Nat.zero_add, Hk.out] at ho4
    have hof := own_front (ys := r'.flatMap Un.cells) ho4 (Nat.le_succ k) HSr.out
    rw [← Hk.out] at hof
    have HM5 := Lib.hid (HM4.out.sRow (r' := r') (v' := .slice (some ⟨g, 0, none⟩) r'.length c) HV.out (grownBy_refl _ _) hof (.inl rfl))
    have HF5 := Lib.hid (HF4.out.trans (FrY.row (v' := .slice (some ⟨g, 0, none⟩) r'.length c) HM4.out HV.out (grownBy_refl _ _) (Nat.le_trans hb HF4.out.bel.size) (.inl rfl)))
    have HU5 := Lib.hid (HU4.out.far (b := bO) (o := t) (u := .slice (some ⟨g, 0, none⟩) r'.length c) (by omega))
    rw [Hk.out] at HM5 HF5 HU5
    clear f1 hbOl4 o1 ho4 hof HM4 HF4 HU4
    generalize w4.setCell ⟨bO, t, none⟩ (.slice (some ⟨g, 0, none⟩) k c) = w5 at *
    generalize vs.set t (.slice (some ⟨g, 0, none⟩) k c) = vs5 at *
    have x2 := HM5.out.y.cell 2
    have u2 := HU5.out.cell 2
    have o2 := HM5.out.f.cellAt t (by omega)
    simp only [List.getElem?_map, freeY_get ht, Option.map_some, hrw, hfr] at o2
    simp at x2 u2
    have hyl5 := HM5.out.y.lt
    have hul5 := HU5.out.lt
    have hbFl5 := HM5.out.bF_.2
    refine wp_region_overT 11 (by kernel_rfl) (by kernel_rfl) ?_
    simp only [List.take_succ_cons, List.take_zero, List.drop_succ_cons, List.drop_zero]
    repeat (go_big_quiet_step ((fail)))
    refine wpQuiet_nil ?_
    intro w6 hb6
    have HM6 := Lib.hid (HM5.out.grow hb6)
    have HF6 := Lib.hid (HF5.out.trans (FrY.grow hb6 (Nat.le_trans hb HF5.out.bel.size)))
    have HU6 := Lib.hid (HU5.out.bel hb6)
    clear hb6 x2 u2 o2 hyl5 hul5 hbFl5 HM5 HF5 HU5
    have o2 := HM6.out.f.cellAt t (by omega)
    simp only [List.getElem?_map, freeY_get ht, Option.map_some, hrw, hfr] at o2
    have f2 := own_frozen HM6.out.f t
    have hbFl6 := HM6.out.bF_.2
    go_upto_region 7 with fail
    have HM7 := Lib.hid (HM6.out.sFree t (fr + ul))
    have HF7 := Lib.hid (HF6.out.trans (FrY.set (o := t) (u := .int .i64 (fr + ul)) (.inr (.inr (.inl rfl))) hbF))
    clear o2 f2 HM6 HF6 HU6 hbFl6
    generalize w6.setCell ⟨bF, t, none⟩ (.int .i64 (fr + ul)) = w7 at *
    have x3 := HM7.out.y.cell 3
    have f3 := HM7.out.y.frozen 3
    have hyl7 := HM7.out.y.lt
    rw [hsn] at x3 HM7
    simp at x3
    go_wp2_with fail
    refine bodyPost_end (results_none rfl _ _ _) rfl ⟨rfl, vs5, ?_, ?_⟩
    · rw [HUn.out, HFr.out]
      exact HM7.out.sNext nx
    · exact HF7.out.trans (FrY.set (o := 3) (u := .int .i64 nx) (.inl rfl) HM.out.hy)
  | false =>
    have HNo := Lib.hid (show A = none → r.length = 0 ∧ c = 0 by rintro rfl; exact own_nil HOw.out)
    generalize hk : r.length = k at *
    have Hk := Lib.hid hk
    clear hk
    simp only
    cases hth : (trk T t).thr with
    | true =>
      have HUn := Lib.hid (show undoY T ⟨false, kd, ln⟩ t ⟨num, kn, ul⟩ s = ⟨s.on.set t (⟨num, kn, ul⟩ :: r), s.nx⟩ by
        simp only [undoY, Bool.false_eq_true, if_false, if_true, hrw, hth])
      have HFr := Lib.hid (show freeY T ⟨s.on.set t (⟨num, kn, ul⟩ :: r), s.nx⟩ = (freeY T s).set t (fr - ul) by
        rw [freeY_set hts, ← hfr]; congr 1; simp [sumU]; omega)
      rw [hth] at e1
      go_enter Try.func30, Try.ntmps30
      go_upto_region 9 with fail
      refine world_gen (fun w3 => YMem base Y bO bF cF (some ⟨tb, tof, none⟩) cT T.length s.on (freeY T s) s.nx vs w3 ∧ FrY base (DY Y bO bF vs) (DY Y bO bF vs) w w3 ∧
        Blk w3 (w.heap.size + 1) 57 #[.int .i64 num, .int .i64 kn, .int .i64 ul]) ⟨?g1, ?g2, ?g3⟩ ?_
      case g1 => exact HM.out.grow (by repeat (first | exact Below.refl _ _ | (with_reducible refine Below.drew ?_) | (with_reducible refine below_drewN ?_ _) | (with_reducible refine Below.alloc ?_ (by first | omega | (simp; done) | (simp; omega)) _) | (with_reducible refine Below.setCell ?_ (by first | omega | (simp; done) | (simp; omega)) _) | (refine Below.trans ?_ (Below.mono (by with_reducible assumption) (by first | omega | (simp; done) | (simp; omega))))))
      case g2 => exact FrY.grow (by repeat (first | exact Below.refl _ _ | (with_reducible refine Below.drew ?_) | (with_reducible refine below_drewN ?_ _) | (with_reducible refine Below.alloc ?_ (by first | omega | (simp; done) | (simp; omega)) _) | (with_reducible refine Below.setCell ?_ (by first | omega | (simp; done) | (simp; omega)) _) | (refine Below.trans ?_ (Below.mono (by with_reducible assumption) (by first | omega | (simp; done) | (simp; omega)))))) hb
      case g3 => simpa using Blk.new (w.alloc (.cells #[.bool false, .int .i64 kd, .int .i64 ln] 41)) 57 #[.int .i64 num, .int .i64 kn, .int .i64 ul]
      clear x0 x1 o1 o2 e0 e1
      rintro w3 ⟨hm3, hf3, hu3⟩
      have HM3 := Lib.hid hm3
      have HF3 := Lib.hid hf3
      have HU3 := Lib.hid hu3
      clear hm3 hf3 hu3
      have x1 := HM3.out.y.cell 1
      have u0 := HU3.out.cell 0
      have u1 := HU3.out.cell 1
      have u2 := HU3.out.cell 2
      simp at x1 u0 u1 u2
      have ho3 := HM3.out.r t _ r HV.out HRow.out
      rw [Hk.out] at ho3
      have HO3 := Lib.hid ho3
      clear ho3
      have HRn := Lib.hid (HM3.out.rne (List.mem_of_getElem? HV.out))
      have HNe := Lib.hid HM3.out.ne
      have hbs3 := Nat.le_trans hb HF3.out.bel.size
      have hw3 : w.heap.size + 1 < w3.heap.size := HU3.out.lt
      go_region_held3 (fun w' => w'.cell? ⟨Y, 1, none⟩ = some (.slice (some ⟨bO, 0, none⟩) T.length T.length) ∧ w'.cell? ⟨w.heap.size + 1, 0, none⟩ = some (.int .i64 num) ∧ w'.cell? ⟨w.heap.size + 1, 1, none⟩ = some (.int .i64 kn) ∧ w'.cell? ⟨w.heap.size + 1, 2, none⟩ = some (.int .i64 ul))
        (first | exact ⟨y1, v0, v1, v2⟩ | exact ⟨((hyb.far (b := bO) (o := t) (u := .slice A4 (1 + k) c4) (fun e => HNe.out.1 e.symm)).cell 1).trans rfl, ((hub.far (b := bO) (o := t) (u := .slice A4 (1 + k) c4) (by omega)).cell 0).trans rfl, ((hub.far (b := bO) (o := t) (u := .slice A4 (1 + k) c4) (by omega)).cell 1).trans rfl, ((hub.far (b := bO) (o := t) (u := .slice A4 (1 + k) c4) (by omega)).cell 2).trans rfl⟩ | exact ⟨cell_bel (w := w3) (by repeat (first | exact Below.refl _ _ | (with_reducible refine Below.drew ?_) | (with_reducible refine below_drewN ?_ _) | (with_reducible refine Below.alloc ?_ (by first | omega | (simp; done) | (simp; omega)) _) | (with_reducible refine Below.setCell ?_ (by first | omega | (simp; done) | (simp; omega)) _) | (refine Below.trans ?_ (Below.mono (by with_reducible assumption) (by first | omega | (simp; done) | (simp; omega)))))) x1, cell_bel (w := w3) (by repeat (first | exact Below.refl _ _ | (with_reducible refine Below.drew ?_) | (with_reducible refine below_drewN ?_ _) | (with_reducible refine Below.alloc ?_ (by first | omega | (simp; done) | (simp; omega)) _) | (with_reducible refine Below.setCell ?_ (by first | omega | (simp; done) | (simp; omega)) _) | (refine Below.trans ?_ (Below.mono (by with_reducible assumption) (by first | omega | (simp; done) | (simp; omega)))))) u0, cell_bel (w := w3) (by repeat (first | exact Below.refl _ _ | (with_reducible refine Below.drew ?_) | (with_reducible refine below_drewN ?_ _) | (with_reducible refine Below.alloc ?_ (by first | omega | (simp; done) | (simp; omega)) _) | (with_reducible refine Below.setCell ?_ (by first | omega | (simp; done) | (simp; omega)) _) | (refine Below.trans ?_ (Below.mono (by with_reducible assumption) (by first | omega | (simp; done) | (simp; omega)))))) u1, cell_bel (w := w3) (by repeat (first | exact Below.refl _ _ | (with_reducible refine Below.drew ?_) | (with_reducible refine below_drewN ?_ _) | (with_reducible refine Below.alloc ?_ (by first | omega | (simp; done) | (simp; omega)) _) | (with_reducible refine Below.setCell ?_ (by first | omega | (simp; done) | (simp; omega)) _) | (refine Below.trans ?_ (Below.mono (by with_reducible assumption) (by first | omega | (simp; done) | (simp; omega)))))) u2⟩ | go_keep)
        (first | (refine step_append_any (by rfl) _ _ _ (by rfl) base 57 i0 _ 3 24 Try.underlying76 HI.out.1 HI.out.2.1 HI.out.2.2.1 HI.out.2.2.2 rfl (by omega) (.slice (some ⟨w3.heap.size, 0, none⟩) 1 1) 1 [.int .i64 num, .int .i64 kn, .int .i64 ul] rfl (World.ownsRow_lit w3 #[.int .i64 num, .int .i64 kn, .int .i64 ul] 1 hbs3 (by simp [maxLen]) rfl).drew A k c _ (r.flatMap Un.cells) rfl HNo.out ((Rd.of_own HO3.out).grow (by repeat (first | exact Below.refl _ _ | (with_reducible refine Below.drew ?_) | (with_reducible refine below_drewN ?_ _) | (with_reducible refine Below.alloc ?_ (by first | omega | (simp; done) | (simp; omega)) _) | (with_reducible refine Below.setCell ?_ (by first | omega | (simp; done) | (simp; omega)) _) | (refine Below.trans ?_ (Below.mono (by with_reducible assumption) (by first | omega | (simp; done) | (simp; omega))))))) (fun v hv => by obtain ⟨x, _, hx⟩ := List.mem_flatMap.1 hv; exact Un.one' x v hx) (by simp only [maxLen]; omega) (by omega) (by simp; omega) ?_; intro v4 w4 ho4 hg4 hat4; obtain ⟨A4, c4, rfl, _, _⟩ := own_slice ho4; have hb4 : Below w3.heap.size w3 w4 := (show Below w3.heap.size w3 ((w3.alloc (.cells #[.int .i64 num, .int .i64 kn, .int .i64 ul] 57)).drew) from (by repeat (first | exact Below.refl _ _ | (with_reducible refine Below.drew ?_) | (with_reducible refine below_drewN ?_ _) | (with_reducible refine Below.alloc ?_ (by first | omega | (simp; done) | (simp; omega)) _) | (with_reducible refine Below.setCell ?_ (by first | omega | (simp; done) | (simp; omega)) _) | (refine Below.trans ?_ (Below.mono (by with_reducible assumption) (by first | omega | (simp; done) | (simp; omega))))))).grown hg4 (by simp) (fun k hk => by simp [Value.ownBlock] at hk; omega); have hyb := HM3.out.y.bel hb4; have hub := HU3.out.bel hb4; have hob := own_grow HM3.out.o hb4; have y1 := (hyb.cell 1).trans (by rfl : _ = some (.slice (some ⟨bO, 0, none⟩) T.length T.length)); have v0 := (hub.cell 0).trans (by rfl : _ = some (.int .i64 num)); have v1 := (hub.cell 1).trans (by rfl : _ = some (.int .i64 kn)); have v2 := (hub.cell 2).trans (by rfl : _ = some (.int .i64 ul)); have o1 := (hob.cellAt t (by omega)).trans HV.out; have fo := own_frozen hob t; have hol := (own_block hob bO rfl).2))
      have hat5 : (Value.slice A4 (1 + k) c4).ownBlock = (Value.slice A k c).ownBlock ∨ (Value.slice A4 (1 + k) c4).ownBlock = none ∨ ∃ j, (Value.slice A4 (1 + k) c4).ownBlock = some j ∧ w3.heap.size ≤ j := by
        right; right
        rcases hat4 with e | e
        · exact ⟨_, e.trans rfl, Nat.le_refl _⟩
        · exact ⟨_, e, by simp⟩
      have hg5 : w3.grownBy w4 (Value.slice A k c).ownBlock := ⟨hb4.os, hb4.tape, hb4.output, hb4.size, fun j hj _ => hb4.block j hj⟩
      have ho5 : w4.ownsRow base 57 3 (.slice A4 (1 + k) c4) ((⟨num, kn, ul⟩ : Un) :: r).length (((⟨num, kn, ul⟩ : Un) :: r).flatMap Un.cells) := by
        have : ((⟨num, kn, ul⟩ : Un) :: r).length = 1 + k := by simp [Hk.out]; omega
        rw [this]; simpa [Un.cells] using ho4
      have HM5 := Lib.hid (HM3.out.sRow HV.out hg5 ho5 hat5)
      have HF5 := Lib.hid (HF3.out.trans (FrY.row HM3.out HV.out hg5 hbs3 hat5))
      have HU5 := Lib.hid (hub.far (b := bO) (o := t) (u := .slice A4 (1 + k) c4) (by omega))
      clear hat5 hg5 ho5 ho4 hg4 hat4 hb4 hyb hub hob y1 v0 v1 v2 o1 fo hol x1 u0 u1 u2 HM3 HF3 HU3 HO3 HRn HNe
      generalize w4.setCell ⟨bO, t, none⟩ (.slice A4 (1 + k) c4) = w5 at *
      generalize vs.set t (.slice A4 (1 + k) c4) = vs5 at *
      go_upto_region 10 with fail
      have x2 := HM5.out.y.cell 2
      have u2 := HU5.out.cell 2
      have o2 := HM5.out.f.cellAt t (by omega)
      simp only [List.getElem?_map, freeY_get ht, Option.map_some, hrw, hfr] at o2
      simp at x2 u2
      have hyl5 := HM5.out.y.lt
      have hul5 := HU5.out.lt
      have hbFl5 := HM5.out.bF_.2
      refine wp_region_overT 11 (by kernel_rfl) (by kernel_rfl) ?_
      simp only [List.take_succ_cons, List.take_zero, List.drop_succ_cons, List.drop_zero]
      repeat (go_big_quiet_step ((fail)))
      refine wpQuiet_nil ?_
      intro w6 hb6
      have HM6 := Lib.hid (HM5.out.grow hb6)
      have HF6 := Lib.hid (HF5.out.trans (FrY.grow hb6 (Nat.le_trans hb HF5.out.bel.size)))
      have HU6 := Lib.hid (HU5.out.bel hb6)
      clear hb6 x2 u2 o2 hyl5 hul5 hbFl5 HM5 HF5 HU5
      have o2 := HM6.out.f.cellAt t (by omega)
      simp only [List.getElem?_map, freeY_get ht, Option.map_some, hrw, hfr] at o2
      have f2 := own_frozen HM6.out.f t
      have hbFl6 := HM6.out.bF_.2
      go_wp2_with fail
      have HM7 := Lib.hid (HM6.out.sFree t (fr - ul))
      have HF7 := Lib.hid (HF6.out.trans (FrY.set (o := t) (u := .int .i64 (fr - ul)) (.inr (.inr (.inl rfl))) hbF))
      clear o2 f2 HM6 HF6 HU6 hbFl6
      generalize w6.setCell ⟨bF, t, none⟩ (.int .i64 (fr - ul)) = w7 at *
      (try simp only [Exit.inBlock, Exit.then])
      refine bodyPost_end (results_none rfl _ _ _) rfl ⟨rfl, vs5, ?_, HF7.out⟩
      rw [HUn.out, HFr.out]
      exact HM7.out
    | false =>
      have HUn := Lib.hid (show undoY T ⟨false, kd, ln⟩ t ⟨num, kn, ul⟩ s = ⟨s.on.set t (r ++ [⟨num, kn, ul⟩]), s.nx⟩ by
        simp only [undoY, Bool.false_eq_true, if_false, hrw, hth])
      have HFr := Lib.hid (show freeY T ⟨s.on.set t (r ++ [⟨num, kn, ul⟩]), s.nx⟩ = (freeY T s).set t (fr - ul) by
        rw [freeY_set hts, ← hfr]; congr 1; rw [sumU_app]; simp [sumU]; omega)
      rw [hth] at e1
      go_enter Try.func30, Try.ntmps30
      go_upto_region 2 with fail
      refine world_gen (fun w3 => YMem base Y bO bF cF (some ⟨tb, tof, none⟩) cT T.length s.on (freeY T s) s.nx vs w3 ∧ FrY base (DY Y bO bF vs) (DY Y bO bF vs) w w3 ∧
        Blk w3 (w.heap.size + 1) 57 #[.int .i64 num, .int .i64 kn, .int .i64 ul]) ⟨?g1, ?g2, ?g3⟩ ?_
      case g1 => exact HM.out.grow (by repeat (first | exact Below.refl _ _ | (with_reducible refine Below.drew ?_) | (with_reducible refine below_drewN ?_ _) | (with_reducible refine Below.alloc ?_ (by first | omega | (simp; done) | (simp; omega)) _) | (with_reducible refine Below.setCell ?_ (by first | omega | (simp; done) | (simp; omega)) _) | (refine Below.trans ?_ (Below.mono (by with_reducible assumption) (by first | omega | (simp; done) | (simp; omega))))))
      case g2 => exact FrY.grow (by repeat (first | exact Below.refl _ _ | (with_reducible refine Below.drew ?_) | (with_reducible refine below_drewN ?_ _) | (with_reducible refine Below.alloc ?_ (by first | omega | (simp; done) | (simp; omega)) _) | (with_reducible refine Below.setCell ?_ (by first | omega | (simp; done) | (simp; omega)) _) | (refine Below.trans ?_ (Below.mono (by with_reducible assumption) (by first | omega | (simp; done) | (simp; omega)))))) hb
      case g3 => simpa using Blk.new (w.alloc (.cells #[.bool false, .int .i64 kd, .int .i64 ln] 41)) 57 #[.int .i64 num, .int .i64 kn, .int .i64 ul]
      clear x0 x1 o1 o2 e0 e1
      rintro w3 ⟨hm3, hf3, hu3⟩
      have HM3 := Lib.hid hm3
      have HF3 := Lib.hid hf3
      have HU3 := Lib.hid hu3
      clear hm3 hf3 hu3
      have x1 := HM3.out.y.cell 1
      have u0 := HU3.out.cell 0
      have u1 := HU3.out.cell 1
      have u2 := HU3.out.cell 2
      simp at x1 u0 u1 u2
      have ho3 := HM3.out.r t _ r HV.out HRow.out
      rw [Hk.out] at ho3
      have HO3 := Lib.hid ho3
      clear ho3
      have HRn := Lib.hid (HM3.out.rne (List.mem_of_getElem? HV.out))
      have HNe := Lib.hid HM3.out.ne
      have hbs3 := Nat.le_trans hb HF3.out.bel.size
      have hw3 : w.heap.size + 1 < w3.heap.size := HU3.out.lt
      go_region_held3 (fun w' => w'.cell? ⟨Y, 1, none⟩ = some (.slice (some ⟨bO, 0, none⟩) T.length T.length) ∧ w'.cell? ⟨w.heap.size + 1, 0, none⟩ = some (.int .i64 num) ∧ w'.cell? ⟨w.heap.size + 1, 1, none⟩ = some (.int .i64 kn) ∧ w'.cell? ⟨w.heap.size + 1, 2, none⟩ = some (.int .i64 ul))
        (first | exact ⟨y1, v0, v1, v2⟩ | exact ⟨((hyb.far (b := bO) (o := t) (u := .slice (some ⟨gg, 0, none⟩) (k + 1) gcap) (fun e => HNe.out.1 e.symm)).cell 1).trans rfl, ((hub.far (b := bO) (o := t) (u := .slice (some ⟨gg, 0, none⟩) (k + 1) gcap) (by omega)).cell 0).trans rfl, ((hub.far (b := bO) (o := t) (u := .slice (some ⟨gg, 0, none⟩) (k + 1) gcap) (by omega)).cell 1).trans rfl, ((hub.far (b := bO) (o := t) (u := .slice (some ⟨gg, 0, none⟩) (k + 1) gcap) (by omega)).cell 2).trans rfl⟩ | exact ⟨cell_bel (w := w3) (by repeat (first | exact Below.refl _ _ | (with_reducible refine Below.drew ?_) | (with_reducible refine below_drewN ?_ _) | (with_reducible refine Below.alloc ?_ (by first | omega | (simp; done) | (simp; omega)) _) | (with_reducible refine Below.setCell ?_ (by first | omega | (simp; done) | (simp; omega)) _) | (refine Below.trans ?_ (Below.mono (by with_reducible assumption) (by first | omega | (simp; done) | (simp; omega)))))) x1, cell_bel (w := w3) (by repeat (first | exact Below.refl _ _ | (with_reducible refine Below.drew ?_) | (with_reducible refine below_drewN ?_ _) | (with_reducible refine Below.alloc ?_ (by first | omega | (simp; done) | (simp; omega)) _) | (with_reducible refine Below.setCell ?_ (by first | omega | (simp; done) | (simp; omega)) _) | (refine Below.trans ?_ (Below.mono (by with_reducible assumption) (by first | omega | (simp; done) | (simp; omega)))))) u0, cell_bel (w := w3) (by repeat (first | exact Below.refl _ _ | (with_reducible refine Below.drew ?_) | (with_reducible refine below_drewN ?_ _) | (with_reducible refine Below.alloc ?_ (by first | omega | (simp; done) | (simp; omega)) _) | (with_reducible refine Below.setCell ?_ (by first | omega | (simp; done) | (simp; omega)) _) | (refine Below.trans ?_ (Below.mono (by with_reducible assumption) (by first | omega | (simp; done) | (simp; omega)))))) u1, cell_bel (w := w3) (by repeat (first | exact Below.refl _ _ | (with_reducible refine Below.drew ?_) | (with_reducible refine below_drewN ?_ _) | (with_reducible refine Below.alloc ?_ (by first | omega | (simp; done) | (simp; omega)) _) | (with_reducible refine Below.setCell ?_ (by first | omega | (simp; done) | (simp; omega)) _) | (refine Below.trans ?_ (Below.mono (by with_reducible assumption) (by first | omega | (simp; done) | (simp; omega)))))) u2⟩ | go_keep)
        (first | (refine step_append_lies _ (by rfl) _ _ _ (by rfl) base 57 i0 _ 3 24 Try.underlying76 HI.out.1 HI.out.2.1 HI.out.2.2.1 HI.out.2.2.2 rfl (by omega) _ k _ (by rfl) ((World.ownsRow.alloc HO3.out _).drew) ⟨w3.heap.size, 0, none⟩ 1 1 [.int .i64 num, .int .i64 kn, .int .i64 ul] (by rfl) (by rfl) (World.news_of_block (cs := #[.int .i64 num, .int .i64 kn, .int .i64 ul]) (t := 57) (fr := (0, 0)) (hnew _ _ _ (by simp))) (by simp [Value.oneCell']) (by omega) (by simp only [maxLen]; omega) (by omega) (by simp; omega) (w3.heap.size + 1) (by simp) ?_; intro gg gcap w4 hown4 hgrow hat hgl; have hyb := (HM3.out.y.bel (w' := (w3.alloc (.cells #[.int .i64 num, .int .i64 kn, .int .i64 ul] 57)).drew) (by repeat (first | exact Below.refl _ _ | (with_reducible refine Below.drew ?_) | (with_reducible refine below_drewN ?_ _) | (with_reducible refine Below.alloc ?_ (by first | omega | (simp; done) | (simp; omega)) _) | (with_reducible refine Below.setCell ?_ (by first | omega | (simp; done) | (simp; omega)) _) | (refine Below.trans ?_ (Below.mono (by with_reducible assumption) (by first | omega | (simp; done) | (simp; omega))))))).grown hgrow HRn.out.1; have hub := (HU3.out.bel (w' := (w3.alloc (.cells #[.int .i64 num, .int .i64 kn, .int .i64 ul] 57)).drew) (by repeat (first | exact Below.refl _ _ | (with_reducible refine Below.drew ?_) | (with_reducible refine below_drewN ?_ _) | (with_reducible refine Below.alloc ?_ (by first | omega | (simp; done) | (simp; omega)) _) | (with_reducible refine Below.setCell ?_ (by first | omega | (simp; done) | (simp; omega)) _) | (refine Below.trans ?_ (Below.mono (by with_reducible assumption) (by first | omega | (simp; done) | (simp; omega))))))).grown hgrow (fun e => by have := (HOb.out _ e).2; omega); have hob := ((HM3.out.o.alloc (.cells #[.int .i64 num, .int .i64 kn, .int .i64 ul] 57)).drew).kept hgrow (.inr (fun e => HRn.out.2.1 e.symm)); have y1 := (hyb.cell 1).trans (by rfl : _ = some (.slice (some ⟨bO, 0, none⟩) T.length T.length)); have v0 := (hub.cell 0).trans (by rfl : _ = some (.int .i64 num)); have v1 := (hub.cell 1).trans (by rfl : _ = some (.int .i64 kn)); have v2 := (hub.cell 2).trans (by rfl : _ = some (.int .i64 ul)); have o1 := (hob.cellAt t (by omega)).trans HV.out; have fo := own_frozen hob t; have hol := (own_block hob bO rfl).2))
      have hat5 : (Value.slice (some ⟨gg, 0, none⟩) (k + 1) gcap).ownBlock = (Value.slice A k c).ownBlock ∨ (Value.slice (some ⟨gg, 0, none⟩) (k + 1) gcap).ownBlock = none ∨ ∃ j, (Value.slice (some ⟨gg, 0, none⟩) (k + 1) gcap).ownBlock = some j ∧ w3.heap.size ≤ j := by
        rcases hat with h | h
        · exact .inl h.symm
        · exact .inr (.inr ⟨gg, rfl, by omega⟩)
      have hw3a : Below w3.heap.size w3 ((w3.alloc (.cells #[.int .i64 num, .int .i64 kn, .int .i64 ul] 57)).drew) := (by repeat (first | exact Below.refl _ _ | (with_reducible refine Below.drew ?_) | (with_reducible refine below_drewN ?_ _) | (with_reducible refine Below.alloc ?_ (by first | omega | (simp; done) | (simp; omega)) _) | (with_reducible refine Below.setCell ?_ (by first | omega | (simp; done) | (simp; omega)) _) | (refine Below.trans ?_ (Below.mono (by with_reducible assumption) (by first | omega | (simp; done) | (simp; omega))))))
      have hg5 : w3.grownBy w4 (Value.slice A k c).ownBlock := ⟨hgrow.os.trans hw3a.os, hgrow.tape.trans hw3a.tape, hgrow.output.trans hw3a.output, Nat.le_trans hw3a.size hgrow.size, fun j hj hne => (hgrow.block j (Nat.lt_of_lt_of_le hj hw3a.size) hne).trans (hw3a.block j hj)⟩
      have ho5 : w4.ownsRow base 57 3 (.slice (some ⟨gg, 0, none⟩) (k + 1) gcap) (r ++ [(⟨num, kn, ul⟩ : Un)]).length ((r ++ [(⟨num, kn, ul⟩ : Un)]).flatMap Un.cells) := by
        have : (r ++ [(⟨num, kn, ul⟩ : Un)]).length = k + 1 := by simp [Hk.out]
        rw [this]; simpa [List.flatMap_append, Un.cells] using hown4
      have HM5 := Lib.hid (HM3.out.sRow HV.out hg5 ho5 hat5)
      have HF5 := Lib.hid (HF3.out.trans (FrY.row HM3.out HV.out hg5 hbs3 hat5))
      have HU5 := Lib.hid (hub.far (b := bO) (o := t) (u := .slice (some ⟨gg, 0, none⟩) (k + 1) gcap) (by omega))
      clear hat5 hg5 ho5 hw3a hown4 hgrow hat hgl hyb hub hob y1 v0 v1 v2 o1 fo hol x1 u0 u1 u2 HM3 HF3 HU3 HO3 HRn HNe
      generalize w4.setCell ⟨bO, t, none⟩ (.slice (some ⟨gg, 0, none⟩) (k + 1) gcap) = w5 at *
      generalize vs.set t (.slice (some ⟨gg, 0, none⟩) (k + 1) gcap) = vs5 at *
      go_upto_region 3 with fail
      have x2 := HM5.out.y.cell 2
      have u2 := HU5.out.cell 2
      have o2 := HM5.out.f.cellAt t (by omega)
      simp only [List.getElem?_map, freeY_get ht, Option.map_some, hrw, hfr] at o2
      simp at x2 u2
      have hyl5 := HM5.out.y.lt
      have hul5 := HU5.out.lt
      have hbFl5 := HM5.out.bF_.2
      refine wp_region_overT 11 (by kernel_rfl) (by kernel_rfl) ?_
      simp only [List.take_succ_cons, List.take_zero, List.drop_succ_cons, List.drop_zero]
      repeat (go_big_quiet_step ((fail)))
      refine wpQuiet_nil ?_
      intro w6 hb6
      have HM6 := Lib.hid (HM5.out.grow hb6)
      have HF6 := Lib.hid (HF5.out.trans (FrY.grow hb6 (Nat.le_trans hb HF5.out.bel.size)))
      have HU6 := Lib.hid (HU5.out.bel hb6)
      clear hb6 x2 u2 o2 hyl5 hul5 hbFl5 HM5 HF5 HU5
      have o2 := HM6.out.f.cellAt t (by omega)
      simp only [List.getElem?_map, freeY_get ht, Option.map_some, hrw, hfr] at o2
      have f2 := own_frozen HM6.out.f t
      have hbFl6 := HM6.out.bF_.2
      go_wp2_with fail
      have HM7 := Lib.hid (HM6.out.sFree t (fr - ul))
      have HF7 := Lib.hid (HF6.out.trans (FrY.set (o := t) (u := .int .i64 (fr - ul)) (.inr (.inr (.inl rfl))) hbF))
      clear o2 f2 HM6 HF6 HU6 hbFl6
      generalize w6.setCell ⟨bF, t, none⟩ (.int .i64 (fr - ul)) = w7 at *
      (try simp only [Exit.inBlock, Exit.then])
      refine bodyPost_end (results_none rfl _ _ _) rfl ⟨rfl, vs5, ?_, HF7.out⟩
      rw [HUn.out, HFr.out]
      exact HM7.out
end Go.Proofs.Ytffgnfefejimnaa
