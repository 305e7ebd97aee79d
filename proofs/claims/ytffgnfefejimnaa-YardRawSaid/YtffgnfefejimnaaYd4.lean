import Derived.Test.YtffgnfefejimnaaStApp
import Derived.Laws.ResultCell
namespace Go.Proofs.Ytffgnfefejimnaa
open Go.RowKit
theorem freeY_len (T : List Tk) (s : Yst) : (freeY T s).length = T.length := by simp [freeY]
theorem freeY_get {T : List Tk} {s : Yst} {t : Nat} (h : t < T.length) : (freeY T s)[t]? = some ((trk T t).ln - sumU (rowY s t)) := by simp [freeY, h]
theorem rowY_set {s : Yst} {t i nx : Nat} {r : List Un} : rowY ⟨s.on.set t r, nx⟩ i = if t = i ∧ i < s.on.length then r else rowY s i := by
  unfold rowY
  simp only [List.getElem?_set]
  by_cases h : t = i
  · subst h
    rw [if_pos rfl]
    by_cases h2 : t < s.on.length
    · rw [if_pos h2, if_pos ⟨rfl, h2⟩]; rfl
    · rw [if_neg h2, if_neg (fun h => h2 h.2)]; simp [h2]
  · rw [if_neg h, if_neg (fun h' => h h'.1)]
theorem freeY_set {T : List Tk} {s : Yst} {t nx : Nat} (h : t < s.on.length) (r : List Un) : freeY T ⟨s.on.set t r, nx⟩ = (freeY T s).set t ((trk T t).ln - sumU r) := by
  apply List.ext_getElem
  · simp [freeY]
  · intro i h1 h2
    simp [freeY] at h1
    rw [List.getElem_set]
    simp only [freeY, List.getElem_map, List.getElem_range, rowY_set]
    by_cases e : t = i
    · subst e; rw [if_pos rfl, if_pos ⟨rfl, h⟩]
    · rw [if_neg e, if_neg (fun h' => e h'.1)]
theorem cell_bel {w w' : World} (hb : Below w.heap.size w w') {b o : Nat} {u : Value} (h : w.cell? ⟨b, o, none⟩ = some u) : w'.cell? ⟨b, o, none⟩ = some u := (hb.cell (World.block_lt_of_cell? _ _ h)).trans h
def unV (u : Un) : Value := .agg #[.int .i64 u.num, .int .i64 u.kind, .int .i64 u.ln]
def mvV (m : Mv) : Value := .agg #[.bool m.inn, .int .i64 m.kind, .int .i64 m.ln]
/-- the yard of a state, and the world from which it came -/
structure YAt (base Y bO bF cF : Nat) (AT : Option Addr) (cT : Nat) (T : List Tk) (s : Yst) (D : Nat → Prop) (w0 : World) (vs : List Value) (w : World) : Prop where
  m : YMem base Y bO bF cF AT cT T.length s.on (freeY T s) s.nx vs w
  f : FrY base D (DY Y bO bF vs) w0 w
/-- what do leaves -/
def DoOut (base Y bO bF cF : Nat) (AT : Option Addr) (cT : Nat) (T : List Tk) (vs : List Value) (w : World) (e : Ending) (w' : World) : Option (Un × Yst) → Prop
  | none => e = .returned (.tuple #[.agg #[.int .i64 0, .int .i64 0, .int .i64 0], .bool false]) ∧ Below w.heap.size w w'
  | some (u, s') => ∃ vs', e = .returned (.tuple #[unV u, .bool true]) ∧ YAt base Y bO bF cF AT cT T s' (DY Y bO bF vs) w vs' w'
theorem YMem.at_ {base Y bO bF cF cT n nx : Nat} {AT : Option Addr} {rows : List (List Un)} {fs : List Int} {vs : List Value} {w : World} (h : YMem base Y bO bF cF AT cT n rows fs nx vs w) {t : Nat} (ht : t < n) {r : List Un} (hr : rows[t]? = some r) {x : Int} (hx : fs[t]? = some x) :
    ∃ A c, vs[t]? = some (.slice A r.length c) ∧ w.ownsRow base 57 3 (.slice A r.length c) r.length (r.flatMap Un.cells) ∧ w.cell? ⟨bO, t, none⟩ = some (.slice A r.length c) ∧ w.cell? ⟨bF, t, none⟩ = some (.int .i64 x) := by
  have hl := h.vl
  have hv := List.getElem?_eq_getElem (show t < vs.length by omega)
  have ho := h.r t _ r hv hr
  obtain ⟨A, c, e, _, _⟩ := own_slice ho
  rw [e] at hv ho
  refine ⟨A, c, hv, ho, ?_, ?_⟩
  · rw [h.o.cellAt t (by omega)]; exact hv
  · rw [h.f.cellAt t (by omega)]; simp [hx]
theorem own_frozen {w : World} {base : Nat} {e : TypeId} {sz n c g : Nat} {xs : List Value} (h : w.ownsRow base e sz (.slice (some ⟨g, 0, none⟩) n c) n xs) (i : Nat) : w.frozen? ⟨g, i, none⟩ = false := by
  obtain ⟨cur, hc⟩ := own_at h
  exact Blk.frozen (t := e) (cs := cur) hc i

theorem results_cell_row_tmp {P : Program} {fn : Func} {p u : Tmp} {ty : TypeId} (h : fn.results = #[.cell p ty, .tmp u]) (tmps : Array Value) (w : World) (g : Nat) (t : TypeId) (cs : Array Value) (fr : Nat × Nat) (d : TypeDesc)
    (hp : tmps.getD p undef = .pointer (some ⟨g, 0, none⟩)) (hg : w.heap[g]? = some (.cells cs t fr))
    (hu : P.underlying ty = some d) (hd : (match d with | .struct _ | .array _ _ => true | _ => false) = true) (hi : (P.info? ty).map (·.size) = some cs.size) :
    (results fn tmps).run P w = .ok (.tuple #[.agg cs, tmps.getD u undef]) w := by
  rw [results_cell_tmp h, hp]
  simp [asAddr, run_loadVar_row w g t ty cs fr d hg hu hd hi, Result.andThen]

set_option maxRecDepth 100000 in
set_option maxHeartbeats 3200000 in
theorem do_any (base Y bO bF cF cT i t : Nat) (AT : Option Addr) (T : List Tk) (M : Mv) (s : Yst) (vs : List Value) (w : World) (hm : YMem base Y bO bF cF AT cT T.length s.on (freeY T s) s.nx vs w) (hok : YOk T i s) (hi : i ≤ 24)
    (hT : Rd w base 2 AT T.length (T.flatMap Tk.cells)) (_hn8 : T.length ≤ 8) (hTk : ∀ k ∈ T, tkOk k = true) (ht : t < T.length) (hmv : mvOk M = true) (hb : base ≤ w.heap.size) :
    Calls Try.prog 29 #[.pointer (some ⟨Y, 0, none⟩), mvV M, .int .i64 t] w fun e w' => DoOut base Y bO bF cF AT cT T vs w e w' (actY T M t s) := by
  obtain ⟨inn, kd, ln⟩ := M
  have hts : t < s.on.length := by rw [hok.n]; exact ht
  obtain ⟨A, c, hv, hown, o1, o2⟩ := hm.at_ ht (List.getElem?_eq_getElem hts) (freeY_get ht)
  rw [← rowY_get hts] at hv hown o1
  obtain ⟨hr1, hr2, hr3, hr4⟩ := hok.row ht
  obtain ⟨tb, tof, rfl, htb, e0, e1⟩ := rdTk hT rfl t ht
  rw [← trk_get ht] at e0 e1
  have htk := hTk (trk T t) (by rw [trk_get ht]; simp)
  have hnx := hok.nx
  have HM := Lib.hid hm
  have HOk := Lib.hid hok
  have HV := Lib.hid hv
  have HOw := Lib.hid hown
  have HR2 := Lib.hid hr2
  clear hm hok hv hown hT hTk hr2
  simp only [tkOk, Bool.and_eq_true, decide_eq_true_eq] at htk
  have hml : 0 ≤ ln ∧ ln ≤ 1000 := by
    cases inn
    · simp [mvOk] at hmv; omega
    · simp [mvOk] at hmv; omega
  have hyl := HM.out.y.lt
  obtain ⟨hbO, hbOl⟩ := HM.out.bO_
  obtain ⟨hbF, hbFl⟩ := HM.out.bF_
  have x0 := HM.out.y.cell 0
  have x1 := HM.out.y.cell 1
  have x2 := HM.out.y.cell 2
  have x3 := HM.out.y.cell 3
  simp at x0 x1 x2 x3
  have htbl : tb < w.heap.size := by omega
  generalize hrw : rowY s t = r at *
  generalize hfr : (trk T t).ln - sumU r = fr at *
  have HRow := Lib.hid (show s.on[t]? = some r by rw [← hrw, rowY_get hts]; exact List.getElem?_eq_getElem hts)
  have HOb := Lib.hid (own_block HOw.out)
  obtain ⟨i0, a1, a2, a3, a4⟩ := info_parts infoUn
  have HI := Lib.hid (And.intro a1 (And.intro a2 (And.intro a3 a4)))
  clear a1 a2 a3 a4
  cases inn with
  | true =>
    unfold mvV
    simp only
    go_enter Try.func29, Try.ntmps29
    go_upto_region 3 with fail
    go_quiet (fail)
    by_cases hle : fr < ln
    · have HAct := Lib.hid (show actY T ⟨true, kd, ln⟩ t s = none by rw [actY_in rfl, hrw]; exact if_neg (by simp only; omega))
      go_wp2_with fail
      (try simp only [Exit.inBlock, Exit.then])
      refine bodyPost_ret (results_cell_row_tmp rfl _ _ _ 57 #[.int .i64 0, .int .i64 0, .int .i64 0] (0, 0) _ rfl (by have hrow := (((((Blk.new (w.alloc (.cells #[.bool true, .int .i64 kd, .int .i64 ln] 41)) 57 #[.int .i64 0, .int .i64 0, .int .i64 0]).drN nq).set_ 0 (.int .i64 0)).set_ 1 (.int .i64 0)).set_ 2 (.int .i64 0)); first | exact hrow | (simp at hrow; exact hrow)) Try.underlying57 rfl (by kernel_rfl)) rfl ?_
      rw [HAct.out]
      exact ⟨rfl, (by repeat (first | exact Below.refl _ _ | (with_reducible refine Below.drew ?_) | (with_reducible refine below_drewN ?_ _) | (with_reducible refine Below.alloc ?_ (by first | omega | (simp; done) | (simp; omega)) _) | (with_reducible refine Below.setCell ?_ (by first | omega | (simp; done) | (simp; omega)) _) | (refine Below.trans ?_ (Below.mono (by with_reducible assumption) (by first | omega | (simp; done) | (simp; omega))))))⟩
    have HAct := Lib.hid (show actY T ⟨true, kd, ln⟩ t s = some (⟨s.nx, kd, ln⟩, ⟨s.on.set t (r ++ [⟨s.nx, kd, ln⟩]), s.nx + 1⟩) by rw [actY_in rfl, hrw]; exact if_pos (by simp only; omega))
    have z1 := (Blk.new w 41 #[.bool true, .int .i64 kd, .int .i64 ln]).cell 1
    have z2 := (Blk.new w 41 #[.bool true, .int .i64 kd, .int .i64 ln]).cell 2
    simp only [List.getElem?_toArray, List.getElem?_cons_succ, List.getElem?_cons_zero] at z1 z2
    have f3 := HM.out.y.frozen 3
    go_upto_region 5 with fail
    go_region_held3 (fun w' => w'.cell? ⟨Y, 3, none⟩ = some (.int .i64 s.nx) ∧ w'.cell? ⟨w.heap.size, 1, none⟩ = some (.int .i64 kd) ∧ w'.cell? ⟨w.heap.size, 2, none⟩ = some (.int .i64 ln)) (first | exact ⟨cell_bel (w := w) (by repeat (first | exact Below.refl _ _ | (with_reducible refine Below.drew ?_) | (with_reducible refine below_drewN ?_ _) | (with_reducible refine Below.alloc ?_ (by first | omega | (simp; done) | (simp; omega)) _) | (with_reducible refine Below.setCell ?_ (by first | omega | (simp; done) | (simp; omega)) _) | (refine Below.trans ?_ (Below.mono (by with_reducible assumption) (by first | omega | (simp; done) | (simp; omega)))))) x3, cell_bel (w := w.alloc (.cells #[.bool true, .int .i64 kd, .int .i64 ln] 41)) (by repeat (first | exact Below.refl _ _ | (with_reducible refine Below.drew ?_) | (with_reducible refine below_drewN ?_ _) | (with_reducible refine Below.alloc ?_ (by first | omega | (simp; done) | (simp; omega)) _) | (with_reducible refine Below.setCell ?_ (by first | omega | (simp; done) | (simp; omega)) _) | (refine Below.trans ?_ (Below.mono (by with_reducible assumption) (by first | omega | (simp; done) | (simp; omega)))))) z1, cell_bel (w := w.alloc (.cells #[.bool true, .int .i64 kd, .int .i64 ln] 41)) (by repeat (first | exact Below.refl _ _ | (with_reducible refine Below.drew ?_) | (with_reducible refine below_drewN ?_ _) | (with_reducible refine Below.alloc ?_ (by first | omega | (simp; done) | (simp; omega)) _) | (with_reducible refine Below.setCell ?_ (by first | omega | (simp; done) | (simp; omega)) _) | (refine Below.trans ?_ (Below.mono (by with_reducible assumption) (by first | omega | (simp; done) | (simp; omega)))))) z2⟩ | go_keep) (first | fail)
    go_upto_region 6 with fail
    refine world_gen (fun w3 => YMem base Y bO bF cF (some ⟨tb, tof, none⟩) cT T.length s.on (freeY T s) s.nx vs w3 ∧ FrY base (DY Y bO bF vs) (DY Y bO bF vs) w w3 ∧
      Blk w3 (w.heap.size + 1) 57 #[.int .i64 0, .int .i64 0, .int .i64 0] ∧ Blk w3 (w.heap.size + 1 + 1) 57 #[.int .i64 s.nx, .int .i64 kd, .int .i64 ln]) ⟨?g1, ?g2, ?g3, ?g4⟩ ?_
    case g1 => exact HM.out.grow (by repeat (first | exact Below.refl _ _ | (with_reducible refine Below.drew ?_) | (with_reducible refine below_drewN ?_ _) | (with_reducible refine Below.alloc ?_ (by first | omega | (simp; done) | (simp; omega)) _) | (with_reducible refine Below.setCell ?_ (by first | omega | (simp; done) | (simp; omega)) _) | (refine Below.trans ?_ (Below.mono (by with_reducible assumption) (by first | omega | (simp; done) | (simp; omega))))))
    case g2 => exact FrY.grow (by repeat (first | exact Below.refl _ _ | (with_reducible refine Below.drew ?_) | (with_reducible refine below_drewN ?_ _) | (with_reducible refine Below.alloc ?_ (by first | omega | (simp; done) | (simp; omega)) _) | (with_reducible refine Below.setCell ?_ (by first | omega | (simp; done) | (simp; omega)) _) | (refine Below.trans ?_ (Below.mono (by with_reducible assumption) (by first | omega | (simp; done) | (simp; omega)))))) hb
    case g3 =>
      have hq := ((Blk.new (w.alloc (.cells #[.bool true, .int .i64 kd, .int .i64 ln] 41)) 57 #[.int .i64 0, .int .i64 0, .int .i64 0]).drN (nq + 1)).al (.cells #[.int .i64 s.nx, .int .i64 kd, .int .i64 ln] 57)
      simpa using hq
    case g4 =>
      have hq := Blk.new (((w.alloc (.cells #[.bool true, .int .i64 kd, .int .i64 ln] 41)).alloc (.cells #[.int .i64 0, .int .i64 0, .int .i64 0] 57)).drewN (nq + 1)) 57 #[.int .i64 s.nx, .int .i64 kd, .int .i64 ln]
      simpa using hq
    clear x0 x1 x2 x3 z1 z2 f3 o1 o2 e0 e1
    rintro w3 ⟨hm3, hf3, hz3, hu3⟩
    have HM3 := Lib.hid hm3
    have HF3 := Lib.hid hf3
    have HZ3 := Lib.hid hz3
    have HU3 := Lib.hid hu3
    clear hm3 hf3 hz3 hu3
    have x3 := HM3.out.y.cell 3
    have f3 := HM3.out.y.frozen 3
    have hyl3 := HM3.out.y.lt
    simp at x3
    go_upto_region 7 with fail
    have ex : ((s.nx : Int) + 1) = ((s.nx + 1 : Nat) : Int) := by omega
    rw [ex]
    clear ex
    have HM4 := Lib.hid (HM3.out.sNext (s.nx + 1))
    have HF4 := Lib.hid (HF3.out.trans (FrY.set (o := 3) (u := .int .i64 ((s.nx + 1 : Nat) : Int)) (.inl rfl) HM.out.hy))
    have HZ4 := Lib.hid (HZ3.out.far (b := Y) (o := 3) (u := .int .i64 ((s.nx + 1 : Nat) : Int)) (by omega))
    have HU4 := Lib.hid (HU3.out.far (b := Y) (o := 3) (u := .int .i64 ((s.nx + 1 : Nat) : Int)) (by omega))
    clear x3 f3 HM3 HF3 HZ3 HU3 hyl3
    generalize w3.setCell ⟨Y, 3, none⟩ (.int .i64 ((s.nx + 1 : Nat) : Int)) = w4 at *
    have x2 := HM4.out.y.cell 2
    have u2 := HU4.out.cell 2
    obtain ⟨_, _, _, _, _, o2⟩ := HM4.out.at_ ht (List.getElem?_eq_getElem hts) (freeY_get ht)
    rw [hrw, hfr] at o2
    simp at x2 u2
    have hyl4 := HM4.out.y.lt
    have hul4 := HU4.out.lt
    have hbFl4 := HM4.out.bF_.2
    refine wp_region_overT 11 (by kernel_rfl) (by kernel_rfl) ?_
    simp only [List.take_succ_cons, List.take_zero, List.drop_succ_cons, List.drop_zero]
    repeat (go_big_quiet_step ((fail)))
    refine wpQuiet_nil ?_
    intro w5 hb5
    have HM5 := Lib.hid (HM4.out.grow hb5)
    have HF5 := Lib.hid (HF4.out.trans (FrY.grow hb5 (Nat.le_trans hb HF4.out.bel.size)))
    have HZ5 := Lib.hid (HZ4.out.bel hb5)
    have HU5 := Lib.hid (HU4.out.bel hb5)
    clear hb5 x2 u2 o2 hyl4 hul4 hbFl4 HM4 HF4 HZ4 HU4
    obtain ⟨_, _, _, _, _, o2⟩ := HM5.out.at_ ht (List.getElem?_eq_getElem hts) (freeY_get ht)
    rw [hrw, hfr] at o2
    have f2 := own_frozen HM5.out.f t
    have hbFl5 := HM5.out.bF_.2
    go_upto_region 8 with fail
    have HM6 := Lib.hid (HM5.out.sFree t (fr - ln))
    have HF6 := Lib.hid (HF5.out.trans (FrY.set (o := t) (u := .int .i64 (fr - ln)) (.inr (.inr (.inl rfl))) hbF))
    have HZ6 := Lib.hid (HZ5.out.far (b := bF) (o := t) (u := .int .i64 (fr - ln)) (by omega))
    have HU6 := Lib.hid (HU5.out.far (b := bF) (o := t) (u := .int .i64 (fr - ln)) (by omega))
    clear o2 f2 HM5 HF5 HZ5 HU5 hbFl5
    generalize w5.setCell ⟨bF, t, none⟩ (.int .i64 (fr - ln)) = w6 at *
    have x1 := HM6.out.y.cell 1
    have u0 := HU6.out.cell 0
    have u1 := HU6.out.cell 1
    have u2 := HU6.out.cell 2
    simp at x1 u0 u1 u2
    have HO6 := Lib.hid (HM6.out.r t _ r HV.out HRow.out)
    have HRn := Lib.hid (HM6.out.rne (List.mem_of_getElem? HV.out))
    have hbs6 := Nat.le_trans hb HF6.out.bel.size
    have HUx := Lib.hid (show w.heap.size + 1 + 1 < w6.heap.size from HU6.out.lt)
    go_region_held3 (fun w' => w'.cell? ⟨Y, 1, none⟩ = some (.slice (some ⟨bO, 0, none⟩) T.length T.length) ∧ w'.cell? ⟨w.heap.size + 1 + 1, 0, none⟩ = some (.int .i64 s.nx) ∧ w'.cell? ⟨w.heap.size + 1 + 1, 1, none⟩ = some (.int .i64 kd) ∧ w'.cell? ⟨w.heap.size + 1 + 1, 2, none⟩ = some (.int .i64 ln))
      (first | exact ⟨y1, v0, v1, v2⟩ | exact ⟨((hyb.far (b := bO) (o := t) (u := .slice (some ⟨gg, 0, none⟩) (r.length + 1) gcap) (fun e => HM6.out.ne.1 e.symm)).cell 1).trans rfl, ((hub.far (b := bO) (o := t) (u := .slice (some ⟨gg, 0, none⟩) (r.length + 1) gcap) (by omega)).cell 0).trans rfl, ((hub.far (b := bO) (o := t) (u := .slice (some ⟨gg, 0, none⟩) (r.length + 1) gcap) (by omega)).cell 1).trans rfl, ((hub.far (b := bO) (o := t) (u := .slice (some ⟨gg, 0, none⟩) (r.length + 1) gcap) (by omega)).cell 2).trans rfl⟩ | exact ⟨cell_bel (w := w6) (by repeat (first | exact Below.refl _ _ | (with_reducible refine Below.drew ?_) | (with_reducible refine below_drewN ?_ _) | (with_reducible refine Below.alloc ?_ (by first | omega | (simp; done) | (simp; omega)) _) | (with_reducible refine Below.setCell ?_ (by first | omega | (simp; done) | (simp; omega)) _) | (refine Below.trans ?_ (Below.mono (by with_reducible assumption) (by first | omega | (simp; done) | (simp; omega)))))) x1, cell_bel (w := w6) (by repeat (first | exact Below.refl _ _ | (with_reducible refine Below.drew ?_) | (with_reducible refine below_drewN ?_ _) | (with_reducible refine Below.alloc ?_ (by first | omega | (simp; done) | (simp; omega)) _) | (with_reducible refine Below.setCell ?_ (by first | omega | (simp; done) | (simp; omega)) _) | (refine Below.trans ?_ (Below.mono (by with_reducible assumption) (by first | omega | (simp; done) | (simp; omega)))))) u0, cell_bel (w := w6) (by repeat (first | exact Below.refl _ _ | (with_reducible refine Below.drew ?_) | (with_reducible refine below_drewN ?_ _) | (with_reducible refine Below.alloc ?_ (by first | omega | (simp; done) | (simp; omega)) _) | (with_reducible refine Below.setCell ?_ (by first | omega | (simp; done) | (simp; omega)) _) | (refine Below.trans ?_ (Below.mono (by with_reducible assumption) (by first | omega | (simp; done) | (simp; omega)))))) u1, cell_bel (w := w6) (by repeat (first | exact Below.refl _ _ | (with_reducible refine Below.drew ?_) | (with_reducible refine below_drewN ?_ _) | (with_reducible refine Below.alloc ?_ (by first | omega | (simp; done) | (simp; omega)) _) | (with_reducible refine Below.setCell ?_ (by first | omega | (simp; done) | (simp; omega)) _) | (refine Below.trans ?_ (Below.mono (by with_reducible assumption) (by first | omega | (simp; done) | (simp; omega)))))) u2⟩ | go_keep)
      (first | (refine step_append_lies _ (by rfl) _ _ _ (by rfl) base 57 i0 _ 3 24 Try.underlying76 HI.out.1 HI.out.2.1 HI.out.2.2.1 HI.out.2.2.2 rfl (by omega) _ r.length _ (by rfl) ((World.ownsRow.alloc HO6.out _).drew) ⟨w6.heap.size, 0, none⟩ 1 1 [.int .i64 s.nx, .int .i64 kd, .int .i64 ln] (by rfl) (by rfl) (World.news_of_block (cs := #[.int .i64 s.nx, .int .i64 kd, .int .i64 ln]) (t := 57) (fr := (0, 0)) (hnew _ _ _ (by simp))) (by simp [Value.oneCell']) (by omega) (by simp only [maxLen]; omega) (by omega) (by simp; omega) (w6.heap.size + 1) (by simp) ?_; intro gg gcap w7 hown7 hgrow hat hgl; have hyb := (HM6.out.y.bel (w' := (w6.alloc (.cells #[.int .i64 s.nx, .int .i64 kd, .int .i64 ln] 57)).drew) (by repeat (first | exact Below.refl _ _ | (with_reducible refine Below.drew ?_) | (with_reducible refine below_drewN ?_ _) | (with_reducible refine Below.alloc ?_ (by first | omega | (simp; done) | (simp; omega)) _) | (with_reducible refine Below.setCell ?_ (by first | omega | (simp; done) | (simp; omega)) _) | (refine Below.trans ?_ (Below.mono (by with_reducible assumption) (by first | omega | (simp; done) | (simp; omega))))))).grown hgrow HRn.out.1; have hub := (HU6.out.bel (w' := (w6.alloc (.cells #[.int .i64 s.nx, .int .i64 kd, .int .i64 ln] 57)).drew) (by repeat (first | exact Below.refl _ _ | (with_reducible refine Below.drew ?_) | (with_reducible refine below_drewN ?_ _) | (with_reducible refine Below.alloc ?_ (by first | omega | (simp; done) | (simp; omega)) _) | (with_reducible refine Below.setCell ?_ (by first | omega | (simp; done) | (simp; omega)) _) | (refine Below.trans ?_ (Below.mono (by with_reducible assumption) (by first | omega | (simp; done) | (simp; omega))))))).grown hgrow (fun e => by have := (HOb.out _ e).2; omega); have hzb := (HZ6.out.bel (w' := (w6.alloc (.cells #[.int .i64 s.nx, .int .i64 kd, .int .i64 ln] 57)).drew) (by repeat (first | exact Below.refl _ _ | (with_reducible refine Below.drew ?_) | (with_reducible refine below_drewN ?_ _) | (with_reducible refine Below.alloc ?_ (by first | omega | (simp; done) | (simp; omega)) _) | (with_reducible refine Below.setCell ?_ (by first | omega | (simp; done) | (simp; omega)) _) | (refine Below.trans ?_ (Below.mono (by with_reducible assumption) (by first | omega | (simp; done) | (simp; omega))))))).grown hgrow (fun e => by have := (HOb.out _ e).2; omega); have y1 := (hyb.cell 1).trans (by rfl : _ = some (.slice (some ⟨bO, 0, none⟩) T.length T.length)); have v0 := (hub.cell 0).trans (by rfl : _ = some (.int .i64 s.nx)); have v1 := (hub.cell 1).trans (by rfl : _ = some (.int .i64 kd)); have v2 := (hub.cell 2).trans (by rfl : _ = some (.int .i64 ln)); have hob := ((HM6.out.o.alloc (.cells #[.int .i64 s.nx, .int .i64 kd, .int .i64 ln] 57)).drew).kept hgrow (.inr (fun e => HRn.out.2.1 e.symm)); have o1 := hob.cellAt t (by omega); have fo := own_frozen hob t; have hol := (own_block hob bO rfl).2))
    have hat8 : (Value.slice (some ⟨gg, 0, none⟩) (r.length + 1) gcap).ownBlock = (Value.slice A r.length c).ownBlock ∨ (Value.slice (some ⟨gg, 0, none⟩) (r.length + 1) gcap).ownBlock = none ∨ ∃ k, (Value.slice (some ⟨gg, 0, none⟩) (r.length + 1) gcap).ownBlock = some k ∧ ((w6.alloc (.cells #[.int .i64 s.nx, .int .i64 kd, .int .i64 ln] 57)).drew).heap.size ≤ k := by
      rcases hat with h | h
      · exact .inl h.symm
      · exact .inr (.inr ⟨gg, rfl, by simp; omega⟩)
    have hw6 : Below w6.heap.size w6 ((w6.alloc (.cells #[.int .i64 s.nx, .int .i64 kd, .int .i64 ln] 57)).drew) := (by repeat (first | exact Below.refl _ _ | (with_reducible refine Below.drew ?_) | (with_reducible refine below_drewN ?_ _) | (with_reducible refine Below.alloc ?_ (by first | omega | (simp; done) | (simp; omega)) _) | (with_reducible refine Below.setCell ?_ (by first | omega | (simp; done) | (simp; omega)) _) | (refine Below.trans ?_ (Below.mono (by with_reducible assumption) (by first | omega | (simp; done) | (simp; omega))))))
    have HM8 := Lib.hid ((HM6.out.grow hw6).sRow (r' := r ++ [⟨s.nx, kd, ln⟩]) HV.out hgrow (by simpa [List.flatMap_append, Un.cells] using hown7) hat8)
    have HF8 := Lib.hid ((HF6.out.trans (FrY.grow hw6 hbs6)).trans (FrY.row (HM6.out.grow hw6) HV.out hgrow (by simp; omega) hat8))
    have HZ8 := Lib.hid (hzb.far (b := bO) (o := t) (u := .slice (some ⟨gg, 0, none⟩) (r.length + 1) gcap) (by omega))
    have HU8 := Lib.hid (hub.far (b := bO) (o := t) (u := .slice (some ⟨gg, 0, none⟩) (r.length + 1) gcap) (by omega))
    have HG := Lib.hid (show ¬ DY Y bO bF (vs.set t (.slice (some ⟨gg, 0, none⟩) (r.length + 1) gcap)) (w.heap.size + 1) from fun h => by
      rcases DY.set h with h | h
      · have := (HM.out.D_base h).2; omega
      · injection h with h
        rcases hat with e | e
        · have := (HOb.out _ e).2; simp only at h; omega
        · have := HUx.out; simp only at h; omega)
    clear hat8 hw6 hown7 hgrow hat hgl hyb hub hzb y1 v0 v1 v2 hob o1 fo hol x1 u0 u1 u2 HO6 HM6 HF6 HZ6 HU6
    generalize w7.setCell ⟨bO, t, none⟩ (.slice (some ⟨gg, 0, none⟩) (r.length + 1) gcap) = w8 at *
    have u0 := HU8.out.cell 0
    have u1 := HU8.out.cell 1
    have u2 := HU8.out.cell 2
    have q0 := HZ8.out.frozen 0
    have q1 := HZ8.out.frozen 1
    have q2 := HZ8.out.frozen 2
    have z0 := HZ8.out.cell 0
    have z1 := HZ8.out.cell 1
    have z2 := HZ8.out.cell 2
    simp at u0 u1 u2 z0 z1 z2
    go_wp2_with fail
    (try simp only [Exit.inBlock, Exit.then])
    refine bodyPost_ret (results_cell_row_tmp rfl _ _ _ 57 #[.int .i64 s.nx, .int .i64 kd, .int .i64 ln] (0, 0) _ rfl (by have hrow := (((HZ8.out.set_ 0 (.int .i64 s.nx)).set_ 1 (.int .i64 kd)).set_ 2 (.int .i64 ln)); first | exact hrow | (simp at hrow; exact hrow)) Try.underlying57 rfl (by kernel_rfl)) rfl ?_
    rw [HAct.out]
    have hfs : freeY T ⟨s.on.set t (r ++ [⟨s.nx, kd, ln⟩]), s.nx + 1⟩ = (freeY T s).set t (fr - ln) := by
      rw [freeY_set hts, sumU_app, ← hfr]
      congr 1
      simp [sumU]
      omega
    refine ⟨vs.set t (.slice (some ⟨gg, 0, none⟩) (r.length + 1) gcap), rfl, ⟨?_, ?_⟩⟩
    · rw [hfs]
      exact ((HM8.out.far HG.out).far HG.out).far HG.out
    · exact ((HF8.out.far (by omega) (by omega)).far (by omega) (by omega)).far (by omega) (by omega)
  | false =>
    unfold mvV
    simp only
    go_enter Try.func29, Try.ntmps29
    by_cases h0 : r.length = 0
    · have hr0 : r = [] := List.eq_nil_of_length_eq_zero h0
      have HAct := Lib.hid (show actY T ⟨false, kd, ln⟩ t s = none from actY_nil rfl (by rw [hrw]; exact hr0))
      go_wp2_with fail
      (try simp only [Exit.inBlock, Exit.then])
      refine bodyPost_ret (results_cell_row_tmp rfl _ _ _ 57 #[.int .i64 0, .int .i64 0, .int .i64 0] (0, 0) _ rfl (by have hrow := (Blk.new (w.alloc (.cells #[.bool false, .int .i64 kd, .int .i64 ln] 41)) 57 #[.int .i64 0, .int .i64 0, .int .i64 0]); first | exact hrow | (simp at hrow; exact hrow)) Try.underlying57 rfl (by kernel_rfl)) rfl ?_
      rw [HAct.out]
      exact ⟨rfl, (by repeat (first | exact Below.refl _ _ | (with_reducible refine Below.drew ?_) | (with_reducible refine below_drewN ?_ _) | (with_reducible refine Below.alloc ?_ (by first | omega | (simp; done) | (simp; omega)) _) | (with_reducible refine Below.setCell ?_ (by first | omega | (simp; done) | (simp; omega)) _) | (refine Below.trans ?_ (Below.mono (by with_reducible assumption) (by first | omega | (simp; done) | (simp; omega))))))⟩
    have hpl := plc_lt (trk T t).thr (r := r) (fun e => h0 (by rw [e]; rfl))
    generalize hpp : plc (trk T t).thr r = p at *
    obtain ⟨g, rfl, hgb, hgl⟩ : ∃ g, A = some ⟨g, 0, none⟩ ∧ base ≤ g ∧ g < w.heap.size := by
      obtain ⟨g, cap, e, h1, h2⟩ := HOw.out.form (by omega)
      injection e with e
      exact ⟨g, e, h1, h2⟩
    have c0 := HOw.out.cellAt (p * 3 + 0) (by omega)
    have c1 := HOw.out.cellAt (p * 3 + 1) (by omega)
    have c2 := HOw.out.cellAt (p * 3 + 2) (by omega)
    rw [flat_get Un.cells 3 (fun _ => rfl) r p hpl 0 (by omega)] at c0
    rw [flat_get Un.cells 3 (fun _ => rfl) r p hpl 1 (by omega)] at c1
    rw [flat_get Un.cells 3 (fun _ => rfl) r p hpl 2 (by omega)] at c2
    simp only [Un.cells, List.getElem?_cons_succ, List.getElem?_cons_zero] at c0 c1 c2
    have hact := actY_out (T := T) (m := ⟨false, kd, ln⟩) (t := t) (s := s) rfl (by rw [hrw, hpp]; exact hpl)
    simp only [hrw, hpp] at hact
    have hum := HR2.out r[p] (List.getElem_mem hpl)
    have hse := sumU_erase r p hpl
    generalize r[p] = u at *
    obtain ⟨num, k2, l2⟩ := u
    simp only at hact hum hse c0 c1 c2
    have HAct := Lib.hid hact
    clear hact
    have hcap : r.length ≤ c := by
      rcases HOw.out.2 with ⟨hv, _⟩ | ⟨_, cap, cur, hv, _, _, h5⟩
      · cases hv
      · injection hv with _ _ h3; rw [h3]; exact h5.1
    have HSe := Lib.hid hse
    have HPp := Lib.hid (show (p = 0 ∨ p = r.length - 1) ∧ p < r.length from ⟨by rw [← hpp]; unfold plc; split <;> simp, hpl⟩)
    cases hth : (trk T t).thr
    all_goals
      rw [hth] at e1 hpp
      simp only [plc, if_true, if_false, Bool.false_eq_true] at hpp
      have d0 := c0
      have d1 := c1
      have d2 := c2
      rw [← hpp] at d0 d1 d2
      simp only [Nat.zero_mul, Nat.zero_add, Nat.add_zero] at d0 d1 d2
      clear c0 c1 c2
      have HPi := Lib.hid hpp
      clear hpp hpl hse
      by_cases hk : k2 = kd
      · rw [if_pos hk] at HAct
        subst hk
        go_upto_region 18 with fail
        refine world_gen (fun w4 => YMem base Y bO bF cF (some ⟨tb, tof, none⟩) cT T.length s.on (freeY T s) s.nx vs w4 ∧ FrY base (DY Y bO bF vs) (DY Y bO bF vs) w w4 ∧
          Blk w4 (w.heap.size + 1) 57 #[.int .i64 0, .int .i64 0, .int .i64 0] ∧ Blk w4 (w.heap.size + 1 + 1) 57 #[.int .i64 num, .int .i64 k2, .int .i64 l2]) ⟨?g1, ?g2, ?g3, ?g4⟩ ?_
        case g1 => exact HM.out.grow (by repeat (first | exact Below.refl _ _ | (with_reducible refine Below.drew ?_) | (with_reducible refine below_drewN ?_ _) | (with_reducible refine Below.alloc ?_ (by first | omega | (simp; done) | (simp; omega)) _) | (with_reducible refine Below.setCell ?_ (by first | omega | (simp; done) | (simp; omega)) _) | (refine Below.trans ?_ (Below.mono (by with_reducible assumption) (by first | omega | (simp; done) | (simp; omega))))))
        case g2 => exact FrY.grow (by repeat (first | exact Below.refl _ _ | (with_reducible refine Below.drew ?_) | (with_reducible refine below_drewN ?_ _) | (with_reducible refine Below.alloc ?_ (by first | omega | (simp; done) | (simp; omega)) _) | (with_reducible refine Below.setCell ?_ (by first | omega | (simp; done) | (simp; omega)) _) | (refine Below.trans ?_ (Below.mono (by with_reducible assumption) (by first | omega | (simp; done) | (simp; omega)))))) hb
        case g3 => simpa using (Blk.new (w.alloc (.cells #[.bool false, .int .i64 k2, .int .i64 ln] 41)) 57 #[.int .i64 0, .int .i64 0, .int .i64 0]).al (.cells #[.int .i64 num, .int .i64 k2, .int .i64 l2] 57)
        case g4 => simpa using Blk.new ((w.alloc (.cells #[.bool false, .int .i64 k2, .int .i64 ln] 41)).alloc (.cells #[.int .i64 0, .int .i64 0, .int .i64 0] 57)) 57 #[.int .i64 num, .int .i64 k2, .int .i64 l2]
        clear x0 x1 x2 x3 o1 o2 e0 e1 d0 d1 d2
        rintro w4 ⟨hm4, hf4, hz4, hu4⟩
        have HM4 := Lib.hid hm4
        have HF4 := Lib.hid hf4
        have HZ4 := Lib.hid hz4
        have HU4 := Lib.hid hu4
        clear hm4 hf4 hz4 hu4
        have x2 := HM4.out.y.cell 2
        have u2 := HU4.out.cell 2
        obtain ⟨_, _, _, _, _, o2⟩ := HM4.out.at_ ht (List.getElem?_eq_getElem hts) (freeY_get ht)
        rw [hrw, hfr] at o2
        simp at x2 u2
        have hyl4 := HM4.out.y.lt
        have hul4 := HU4.out.lt
        have hbFl4 := HM4.out.bF_.2
        refine wp_region_overT 11 (by kernel_rfl) (by kernel_rfl) ?_
        simp only [List.take_succ_cons, List.take_zero, List.drop_succ_cons, List.drop_zero]
        repeat (go_big_quiet_step ((fail)))
        refine wpQuiet_nil ?_
        intro w5 hb5
        have HM5 := Lib.hid (HM4.out.grow hb5)
        have HF5 := Lib.hid (HF4.out.trans (FrY.grow hb5 (Nat.le_trans hb HF4.out.bel.size)))
        have HZ5 := Lib.hid (HZ4.out.bel hb5)
        have HU5 := Lib.hid (HU4.out.bel hb5)
        clear hb5 x2 u2 o2 hyl4 hul4 hbFl4 HM4 HF4 HZ4 HU4
        obtain ⟨_, _, _, _, _, o2⟩ := HM5.out.at_ ht (List.getElem?_eq_getElem hts) (freeY_get ht)
        rw [hrw, hfr] at o2
        have f2 := own_frozen HM5.out.f t
        have hbFl5 := HM5.out.bF_.2
        go_upto_region 19 with fail
        have HM6 := Lib.hid (HM5.out.sFree t (fr + l2))
        have HF6 := Lib.hid (HF5.out.trans (FrY.set (o := t) (u := .int .i64 (fr + l2)) (.inr (.inr (.inl rfl))) hbF))
        have HZ6 := Lib.hid (HZ5.out.far (b := bF) (o := t) (u := .int .i64 (fr + l2)) (by omega))
        have HU6 := Lib.hid (HU5.out.far (b := bF) (o := t) (u := .int .i64 (fr + l2)) (by omega))
        clear o2 f2 HM5 HF5 HZ5 HU5 hbFl5
        generalize w5.setCell ⟨bF, t, none⟩ (.int .i64 (fr + l2)) = w6 at *
        have x1 := HM6.out.y.cell 1
        simp at x1
        have HO6 := Lib.hid (HM6.out.r t _ r HV.out HRow.out)
        have HRn := Lib.hid (HM6.out.rne (List.mem_of_getElem? HV.out))
        have hbs6 := Nat.le_trans hb HF6.out.bel.size
        have HUx := Lib.hid (show w.heap.size + 1 + 1 < w6.heap.size from HU6.out.lt)
        have hrd := Rd.of_own HO6.out
        have R1 := Lib.hid (rd_pre hrd (Nat.le_of_lt HPp.out.2))
        have R2 := Lib.hid (rd_post (l := p + 1) hrd HPp.out.2 hcap)
        clear hrd
        have HNe := Lib.hid HM6.out.ne
        generalize hnr : r.length = nr at *
        have Hnr := Lib.hid hnr
        have hp1 := HPp.out.2
        clear hnr
        first
          | rw [show ((nr : Int) - 1) = (p : Int) by have := HPi.out; omega]
          | rw [show (Value.int .i64 0) = Value.int .i64 (p : Int) by rw [← HPi.out]; rfl]
        have s0 : (0 : Int) ≤ (p : Int) + 1 := by omega
        have s1 : (p : Int) ≤ (c : Int) := by omega
        have s2 : (p : Int) + 1 ≤ (nr : Int) := by omega
        have s3 : IntKind.i64.wrap ((p : Int) + 1) = (p : Int) + 1 := IntWalk.i64_in _ (by omega)
        have s5 : (p : Int) ≤ (p : Int) + 1 := by omega
        have s4 : ¬ c = 0 := by omega
        rcases (show c = p + 1 ∨ ¬ c = p + 1 by omega) with hcp | hcp
        all_goals
          first
            | rw [if_pos hcp] at R2
            | rw [if_neg hcp] at R2
          go_region_held3 (fun w' => w'.cell? ⟨Y, 1, none⟩ = some (.slice (some ⟨bO, 0, none⟩) T.length T.length))
            (first | exact y2 | exact y1 | exact ((hyb.far (b := bO) (o := t) (u := .slice A2 (p + (nr - (p + 1))) c2) (fun e => HNe.out.1 e.symm)).cell 1).trans rfl | exact cell_bel (w := w6) (by repeat (first | exact Below.refl _ _ | (with_reducible refine Below.drew ?_) | (with_reducible refine below_drewN ?_ _) | (with_reducible refine Below.alloc ?_ (by first | omega | (simp; done) | (simp; omega)) _) | (with_reducible refine Below.setCell ?_ (by first | omega | (simp; done) | (simp; omega)) _) | (refine Below.trans ?_ (Below.mono (by with_reducible assumption) (by first | omega | (simp; done) | (simp; omega)))))) x1 | go_keep)
            (first | (refine step_append_any (by rfl) _ _ _ (by rfl) base 57 i0 _ 3 24 Try.underlying76 HI.out.1 HI.out.2.1 HI.out.2.2.1 HI.out.2.2.2 rfl (by omega) (.slice A1 p c1) p ((r.flatMap Un.cells).take (p * 3)) rfl Ho1.out _ (nr - (p + 1)) _ _ ((r.flatMap Un.cells).drop ((p + 1) * 3)) (by rfl) (fun e => by first | (cases e; done) | (split at e <;> cases e; done)) (R2.out.grow hb1) (fun u hu => by obtain ⟨x, _, hx⟩ := List.mem_flatMap.1 (List.mem_of_mem_drop hu); exact Un.one' x u hx) (by simp only [maxLen]; omega) (by omega) (Nat.le_trans hbs6 hb1.size) ?_; intro v2 w2 ho2 hg2 hat2; obtain ⟨A2, c2, rfl, _, _⟩ := own_slice ho2; have hb2 : Below w6.heap.size w6 w2 := hb1.grown hg2 hb1.size n1; have hyb := HM6.out.y.bel hb2; have y2 := cell_bel hb2 x1; have hob := own_grow HM6.out.o hb2; have o1 := hob.cellAt t (by omega); have fo := own_frozen hob t; have hol := (own_block hob bO rfl).2) | (refine step_append_any (by rfl) _ _ _ (by rfl) base 57 i0 _ 3 24 Try.underlying76 HI.out.1 HI.out.2.1 HI.out.2.2.1 HI.out.2.2.2 rfl (by omega) (.slice none 0 0) 0 [] rfl (World.ownsRow_nil _ _ _ _) _ p _ _ ((r.flatMap Un.cells).take (p * 3)) (by rfl) (fun e => by first | (cases e; done) | (split at e <;> cases e; done)) (R1.out.grow (Below.refl _ _).drew) (fun u hu => by obtain ⟨x, _, hx⟩ := List.mem_flatMap.1 (List.mem_of_mem_take hu); exact Un.one' x u hx) (by simp only [maxLen]; omega) (by omega) (by simp; omega) ?_; intro v1 w1 ho1 hg1 hat1; rw [Nat.zero_add, List.nil_append] at ho1; obtain ⟨A1, c1, rfl, _, _⟩ := own_slice ho1; have Ho1 := Lib.hid ho1; have hb1 : Below w6.heap.size w6 w1 := (Below.refl _ _).drew.grown hg1 (Nat.le_refl _) (fun k hk => by simp [Value.ownBlock] at hk); have y1 := cell_bel hb1 x1; have n1 : ∀ k, (Value.slice A1 p c1).ownBlock = some k → w6.heap.size ≤ k := fun k hk => by rcases hat1 with e | e <;> rw [e] at hk <;> first | (simp [Value.ownBlock] at hk; done) | (simp at hk; omega)))
          all_goals
            have hwd : Below w6.heap.size w6 w6.drew := (Below.refl _ _).drew
            have hg8 : w6.drew.grownBy w2 (Value.slice (some ⟨g, 0, none⟩) nr c).ownBlock := grown_two hg1 hg2 n1 _
            have hat8 : (Value.slice A2 (p + (nr - (p + 1))) c2).ownBlock = (Value.slice (some ⟨g, 0, none⟩) nr c).ownBlock ∨ (Value.slice A2 (p + (nr - (p + 1))) c2).ownBlock = none ∨ ∃ k, (Value.slice A2 (p + (nr - (p + 1))) c2).ownBlock = some k ∧ w6.drew.heap.size ≤ k := by
              right
              rcases hat2 with e | e
              · rcases hat1 with e1 | e1
                · exact .inl (e.trans (e1.trans rfl))
                · exact .inr ⟨_, e.trans e1, Nat.le_refl _⟩
              · exact .inr ⟨_, e, hb1.size⟩
            have HRl := Lib.hid (show (r.eraseIdx p).length = p + (nr - (p + 1)) by
              have := HPp.out.2
              rw [List.length_eraseIdx_of_lt (by rw [Hnr.out]; exact this), Hnr.out]; omega)
            have HM8 := Lib.hid ((HM6.out.grow hwd).sRow (r' := r.eraseIdx p) HV.out hg8 (by rw [un_erase, HRl.out]; exact ho2) hat8)
            have HF8 := Lib.hid ((HF6.out.trans (FrY.grow hwd hbs6)).trans (FrY.row (HM6.out.grow hwd) HV.out hg8 hbs6 hat8))
            have HZ8 := Lib.hid ((HZ6.out.bel hb2).far (b := bO) (o := t) (u := .slice A2 (p + (nr - (p + 1))) c2) (by omega))
            have HU8 := Lib.hid ((HU6.out.bel hb2).far (b := bO) (o := t) (u := .slice A2 (p + (nr - (p + 1))) c2) (by omega))
            have HG := Lib.hid (show ¬ DY Y bO bF (vs.set t (.slice A2 (p + (nr - (p + 1))) c2)) (w.heap.size + 1) from fun h => by
              have hx := HUx.out
              rcases DY.set h with h | h
              · have := (HM.out.D_base h).2; omega
              · rcases hat8 with e | e | ⟨k, e, hk⟩
                · rw [e] at h; simp [Value.ownBlock] at h; omega
                · rw [e] at h; cases h
                · rw [e] at h; injection h with h; simp at hk; omega)
            clear hwd hg8 hat8 hg1 hg2 n1 hat1 hat2 ho1 ho2 hb1 hb2 hyb y1 y2 hob o1 fo hol x1 HO6 HM6 HF6 HZ6 HU6 R1 R2 HNe s0 s1 s2 s3 s4 s5 hcp
            generalize w2.setCell ⟨bO, t, none⟩ (.slice A2 (p + (nr - (p + 1))) c2) = w8 at *
            have u0 := HU8.out.cell 0
            have u1 := HU8.out.cell 1
            have u2 := HU8.out.cell 2
            have q0 := HZ8.out.frozen 0
            have q1 := HZ8.out.frozen 1
            have q2 := HZ8.out.frozen 2
            have z0 := HZ8.out.cell 0
            have z1 := HZ8.out.cell 1
            have z2 := HZ8.out.cell 2
            simp at u0 u1 u2 z0 z1 z2
            go_wp2_with fail
            (try simp only [Exit.inBlock, Exit.then])
            refine bodyPost_ret (results_cell_row_tmp rfl _ _ _ 57 #[.int .i64 num, .int .i64 k2, .int .i64 l2] (0, 0) _ rfl (by have hrow := (((HZ8.out.set_ 0 (.int .i64 num)).set_ 1 (.int .i64 k2)).set_ 2 (.int .i64 l2)); first | exact hrow | (simp at hrow; exact hrow)) Try.underlying57 rfl (by kernel_rfl)) rfl ?_
            rw [HAct.out]
            have hfs : freeY T ⟨s.on.set t (r.eraseIdx p), s.nx⟩ = (freeY T s).set t (fr + l2) := by
              rw [freeY_set hts, HSe.out, ← hfr]
              congr 1
              omega
            refine ⟨vs.set t (.slice A2 (p + (nr - (p + 1))) c2), rfl, ⟨?_, ?_⟩⟩
            · rw [hfs]
              exact ((HM8.out.far HG.out).far HG.out).far HG.out
            · exact ((HF8.out.far (by omega) (by omega)).far (by omega) (by omega)).far (by omega) (by omega)
      · rw [if_neg hk] at HAct
        have hk' : (k2 != kd) = true := by simpa using hk
        go_wp2_with fail
        (try simp only [Exit.inBlock, Exit.then])
        refine bodyPost_ret (results_cell_row_tmp rfl _ _ _ 57 #[.int .i64 0, .int .i64 0, .int .i64 0] (0, 0) _ rfl (by have hrow := ((Blk.new (w.alloc (.cells #[.bool false, .int .i64 kd, .int .i64 ln] 41)) 57 #[.int .i64 0, .int .i64 0, .int .i64 0]).al (.cells #[.int .i64 num, .int .i64 k2, .int .i64 l2] 57)); first | exact hrow | (simp at hrow; exact hrow)) Try.underlying57 rfl (by kernel_rfl)) rfl ?_
        rw [HAct.out]
        exact ⟨rfl, (by repeat (first | exact Below.refl _ _ | (with_reducible refine Below.drew ?_) | (with_reducible refine below_drewN ?_ _) | (with_reducible refine Below.alloc ?_ (by first | omega | (simp; done) | (simp; omega)) _) | (with_reducible refine Below.setCell ?_ (by first | omega | (simp; done) | (simp; omega)) _) | (refine Below.trans ?_ (Below.mono (by with_reducible assumption) (by first | omega | (simp; done) | (simp; omega))))))⟩
end Go.Proofs.Ytffgnfefejimnaa
