import Derived.Test.YtffgnfefejimnaaYd6
namespace Go.Proofs.Ytffgnfefejimnaa
open Go.RowKit
theorem triesY_succ (T : List Tk) (b : Nat) (m : Mv) (s : Yst) (f : Yst → Nat → Rs) (k used : Nat) : triesY T b m s f (k + 1) used = if used = b then ⟨15, used, []⟩ else match actY T m (T.length - (k + 1)) s with
      | none => triesY T b m s f k (used + 1)
      | some (_, s') => if (f s' (used + 1)).c = 14 then triesY T b m s f k (f s' (used + 1)).used else ⟨(f s' (used + 1)).c, (f s' (used + 1)).used, (T.length - (k + 1)) :: (f s' (used + 1)).plan⟩ := rfl
theorem CM.far {L : PLoc} {T : List Tk} {M : List Mv} {b : Nat} {fv : Value} {s : Yst} {used : Nat} {plan : List Nat} {vs : List Value} {w : World} (h : CM L T M b fv s used plan vs w) {U o : Nat} {x : Value} (h1 : L.base ≤ U) (h2 : ¬ L.box U) (h3 : ¬ DY L.Y L.bO L.bR vs U) : CM L T M b fv s used plan vs (w.setCell ⟨U, o, none⟩ x) := by
  simp only [PLoc.box, not_or] at h2
  obtain ⟨a1, a2, a3, a4, a5, a6, a7, a8⟩ := h2
  exact ⟨h.t.far a1, h.m.far a2, h.b.far a3, h.y.far a4, h.p.far a6, h.u.far a7, h.f.far a8, own_far h.pl (by simp [Value.ownBlock]; omega), h.ym.far h3, h.ne, h.hT.far h1, h.hM.far h1, by simpa using h.hb⟩
theorem CM.far3 {L : PLoc} {T : List Tk} {M : List Mv} {b : Nat} {fv : Value} {s : Yst} {used : Nat} {plan : List Nat} {vs : List Value} {w : World} (h : CM L T M b fv s used plan vs w) {U : Nat} (x0 x1 x2 : Value) (h1 : L.base ≤ U) (h2 : ¬ L.box U) (h3 : ¬ DY L.Y L.bO L.bR vs U) : CM L T M b fv s used plan vs (((w.setCell ⟨U, 0, none⟩ x0).setCell ⟨U, 1, none⟩ x1).setCell ⟨U, 2, none⟩ x2) :=
  ((h.far h1 h2 h3).far h1 h2 h3).far h1 h2 h3
theorem bel_far3 {b0 : Nat} {w0 w : World} (h : Below b0 w0 w) {U : Nat} (x0 x1 x2 : Value) (h1 : b0 ≤ U) : Below b0 w0 (((w.setCell ⟨U, 0, none⟩ x0).setCell ⟨U, 1, none⟩ x1).setCell ⟨U, 2, none⟩ x2) :=
  ((h.setCell h1 _).setCell h1 _).setCell h1 _
theorem CM.boxl {L : PLoc} {T : List Tk} {M : List Mv} {b : Nat} {fv : Value} {s : Yst} {used : Nat} {plan : List Nat} {vs : List Value} {w : World} (h : CM L T M b fv s used plan vs w) {k : Nat} (hk : L.box k ∨ DY L.Y L.bO L.bR vs k) : k < w.heap.size := by
  rcases hk with (e | e | e | e | e | e | e | e) | e
  · rw [e]; exact h.t.lt
  · rw [e]; exact h.m.lt
  · rw [e]; exact h.b.lt
  · rw [e]; exact h.y.lt
  · rw [e]; exact (own_block h.pl L.P rfl).2
  · rw [e]; exact h.p.lt
  · rw [e]; exact h.u.lt
  · rw [e]; exact h.f.lt
  · exact (h.ym.D_base e).2
def SrL (L : PLoc) (T : List Tk) (M : List Mv) (b i : Nat) (m : Mv) (f : Yst → Nat → Rs) (s : Yst) (used0 : Nat) (plan0 : List Nat) (vs0 : List Value) (w : World) (k : Nat) (v : Value) (wr : World) : Prop :=
  ∃ (j used : Nat) (plan : List Nat) (vs : List Value), v = .int .i64 j ∧ j + k = T.length ∧ used ≤ b ∧ CM L T M b L.fn s used plan vs wr ∧ FrY L.base (L.D vs0) (L.D vs) w wr ∧ plan.take i = plan0.take i ∧ triesY T b m s f T.length used0 = triesY T b m s f k used

set_option maxRecDepth 100000 in
set_option maxHeartbeats 6400000 in
theorem perform_any (L : PLoc) (T : List Tk) (M : List Mv) (b : Nat) (hL : L.ord) (hn8 : T.length ≤ 8) (hn24 : M.length ≤ 24) (hTk : ∀ t ∈ T, tkOk t = true) (hMv : ∀ m ∈ M, mvOk m = true) (hbud : b ≤ 1048576) :
    ∀ (n i : Nat) (s : Yst) (used : Nat) (plan : List Nat) (vs : List Value) (w : World), i + n = M.length → used ≤ b → YOk T i s → CM L T M b L.fn s used plan vs w →
    Calls Try.prog 28 #[.int .i64 i, .pointer (some ⟨L.bM, 0, none⟩), .pointer (some ⟨L.bT, 0, none⟩), .pointer (some ⟨L.bU, 0, none⟩), .pointer (some ⟨L.bB, 0, none⟩), .pointer (some ⟨L.bY, 0, none⟩), .pointer (some ⟨L.bP, 0, none⟩), .pointer (some ⟨L.bF, 0, none⟩)] w
      (SrOut L T M b L.fn i s plan vs w (srchY T b (M.drop i) s used)) := by
  have HL := Lib.hid hL
  have HTk := Lib.hid hTk
  have HMv := Lib.hid hMv
  clear hL hTk hMv
  intro n
  induction n with
  | zero =>
    intro i s used plan vs w hi hu hok hc
    obtain rfl : i = M.length := by omega
    have x0 := hc.m.cell 0
    simp at x0
    have HC := Lib.hid hc
    clear hc
    have heq : ((M.length : Int) == (M.length : Int)) = true := by simp
    go_enter Try.func28, Try.ntmps28
    go_wp2_with fail
    go_ret
    have hd : M.drop M.length = [] := by simp
    have hpn := HC.out.pn
    rw [hd]
    exact ⟨rfl, s, plan, vs, HC.out, FrY.refl, rfl, fun _ => by rw [← hpn]; simp [srchY], fun h => by simp [srchY] at h⟩
  | succ n ih =>
    intro i s used plan vs w hi hu hok hc
    have IH := Lib.hid ih
    have HOk := Lib.hid hok
    have HC := Lib.hid hc
    have x0 := hc.m.cell 0
    have x1 := hc.t.cell 0
    simp at x0 x1
    have hiM : i < M.length := by omega
    have HD := Lib.hid (show M.drop i = M[i] :: M.drop (i + 1) from List.drop_eq_getElem_cons hiM)
    have HMi := Lib.hid (HMv.out M[i] (List.getElem_mem hiM))
    clear ih hok hc
    have hne : ((i : Int) == (M.length : Int)) = false := by simp; omega
    go_enter Try.func28, Try.ntmps28
    go_wp2_with fail
    rw [HD.out]
    go_loopg [9, 20] T.length (fun k _ v wr => SrL L T M b i M[i] (srchY T b (M.drop (i + 1))) s used plan vs w k v wr)
    case atStart => exact ⟨0, used, plan, vs, rfl, by omega, hu, HC.out, FrY.refl, rfl, rfl⟩
    case round =>
      obtain ⟨j, used1, plan1, vs1, rfl, hj, hu1, hc, hf, hpt, htr⟩ := hrel
      have Hj := Lib.hid hj
      have HC1 := Lib.hid hc
      have HF1 := Lib.hid hf
      have HPt := Lib.hid hpt
      clear hj hc hf hpt HC x0 x1
      by_cases hlt : j < T.length
      · obtain ⟨K, hK⟩ : ∃ K, K = T.length - j - 1 := ⟨_, rfl⟩
        have hgk : gk = K + 1 := by have := Hj.out; omega
        have hjK : T.length - (K + 1) = j := by omega
        have htr' := htr
        rw [hgk] at htr'
        rw [triesY_succ, hjK] at htr'
        have HTr := Lib.hid htr'
        have HK := Lib.hid hK
        clear htr htr' hgk hjK hK
        have u0 := HC1.out.u.cell 0
        have b0 := HC1.out.b.cell 0
        have fu := HC1.out.u.frozen 0
        have hul := HC1.out.u.lt
        have hu2 : used1 ≤ 1048576 := by omega
        have hw1 : IntKind.i64.wrap ((used1 : Int) + 1) = (used1 : Int) + 1 := IntWalk.i64_in _ (by omega)
        simp at u0 b0
        by_cases hub : used1 = b
        · have hb1 : ((used1 : Int) == (b : Int)) = true := by simp [hub]
          have hr : srchY T b (M[i] :: M.drop (i + 1)) s used = ⟨15, used1, []⟩ := by
            have h := HTr.out
            rw [if_pos hub] at h
            exact h
          go_wp2_with fail
          go_ret
          rw [hr]
          exact ⟨rfl, s, plan1, vs1, HC1.out, HF1.out, HPt.out, fun h => by simp at h, fun _ => rfl⟩
        · have hb1 : ((used1 : Int) == (b : Int)) = false := by simp; omega
          have htr2 := HTr.out
          rw [if_neg hub] at htr2
          have HTr2 := Lib.hid htr2
          clear htr2 HTr
          go_upto_region 9 with fail
          rw [show (used1 : Int) + 1 = ((used1 + 1 : Nat) : Int) by omega]
          have HC2 := Lib.hid (HC1.out.setU HL.out (used1 + 1))
          have HF2 := Lib.hid (HF1.out.trans (FrY.set (o := 0) (u := .int .i64 ((used1 + 1 : Nat) : Int)) (D := L.D vs1) (.inr (.inl rfl)) (by have := HL.out; unfold PLoc.ord at this; omega)))
          clear u0 b0 fu hul hw1 HC1 HF1
          generalize wr.setCell ⟨L.bU, 0, none⟩ (.int .i64 ((used1 + 1 : Nat) : Int)) = w2 at *
          obtain ⟨mb, mo, hAM, hmb, m0, m1, m2⟩ := rdMv HC2.out.hM rfl i hiM
          have y0 := HC2.out.y.cell 0
          have q0 := HC2.out.m.cell 0
          rw [hAM] at q0
          have HAM := Lib.hid hAM
          clear hAM
          simp at y0 q0
          have hyl := HC2.out.y.lt
          have hml := HC2.out.m.lt
          have hbs := HC2.out.hb
          cases hact : actY T M[i] j s with
          | none =>
            rw [hact] at HTr2
            have hnb : ¬ L.box w2.heap.size := fun h => Nat.lt_irrefl _ (HC2.out.boxl (.inl h))
            go_region_held3 (fun w' => w'.cell? ⟨L.bY, 0, none⟩ = some (.pointer (some ⟨L.Y, 0, none⟩)) ∧ w'.cell? ⟨L.bM, 0, none⟩ = some (.slice (some ⟨mb, mo, none⟩) M.length L.cM) ∧ w'.cell? ⟨mb, mo + i * 3, none⟩ = some (.bool M[i].inn) ∧ w'.cell? ⟨mb, mo + i * 3 + 1, none⟩ = some (.int .i64 M[i].kind) ∧ w'.cell? ⟨mb, mo + i * 3 + 2, none⟩ = some (.int .i64 M[i].ln))
              (first | exact ⟨y3s, q3s, k0s, k1s, k2s⟩ | exact ⟨y3, q3, k0, k1, k2⟩ | exact ⟨cell_bel hb3a y3, cell_bel hb3a q3, cell_bel hb3a k0, cell_bel hb3a k1, cell_bel hb3a k2⟩ | exact ⟨cell_bel hb3b y3, cell_bel hb3b q3, cell_bel hb3b k0, cell_bel hb3b k1, cell_bel hb3b k2⟩ | exact ⟨cell_bel (w := w2) (by repeat (first | exact Below.refl _ _ | (with_reducible refine Below.drew ?_) | (with_reducible refine below_drewN ?_ _) | (with_reducible refine Below.alloc ?_ (by first | omega | (simp; done) | (simp; omega)) _) | (with_reducible refine Below.setCell ?_ (by first | omega | (simp; done) | (simp; omega)) _) | (refine Below.trans ?_ (Below.mono (by with_reducible assumption) (by first | omega | (simp; done) | (simp; omega)))))) y0, cell_bel (w := w2) (by repeat (first | exact Below.refl _ _ | (with_reducible refine Below.drew ?_) | (with_reducible refine below_drewN ?_ _) | (with_reducible refine Below.alloc ?_ (by first | omega | (simp; done) | (simp; omega)) _) | (with_reducible refine Below.setCell ?_ (by first | omega | (simp; done) | (simp; omega)) _) | (refine Below.trans ?_ (Below.mono (by with_reducible assumption) (by first | omega | (simp; done) | (simp; omega)))))) q0, cell_bel (w := w2) (by repeat (first | exact Below.refl _ _ | (with_reducible refine Below.drew ?_) | (with_reducible refine below_drewN ?_ _) | (with_reducible refine Below.alloc ?_ (by first | omega | (simp; done) | (simp; omega)) _) | (with_reducible refine Below.setCell ?_ (by first | omega | (simp; done) | (simp; omega)) _) | (refine Below.trans ?_ (Below.mono (by with_reducible assumption) (by first | omega | (simp; done) | (simp; omega)))))) m0, cell_bel (w := w2) (by repeat (first | exact Below.refl _ _ | (with_reducible refine Below.drew ?_) | (with_reducible refine below_drewN ?_ _) | (with_reducible refine Below.alloc ?_ (by first | omega | (simp; done) | (simp; omega)) _) | (with_reducible refine Below.setCell ?_ (by first | omega | (simp; done) | (simp; omega)) _) | (refine Below.trans ?_ (Below.mono (by with_reducible assumption) (by first | omega | (simp; done) | (simp; omega)))))) m1, cell_bel (w := w2) (by repeat (first | exact Below.refl _ _ | (with_reducible refine Below.drew ?_) | (with_reducible refine below_drewN ?_ _) | (with_reducible refine Below.alloc ?_ (by first | omega | (simp; done) | (simp; omega)) _) | (with_reducible refine Below.setCell ?_ (by first | omega | (simp; done) | (simp; omega)) _) | (refine Below.trans ?_ (Below.mono (by with_reducible assumption) (by first | omega | (simp; done) | (simp; omega)))))) m2⟩ | go_keep)
              (first | (go_at_call 29; refine (do_any L.base L.Y L.bO L.bR L.cF L.cT i j L.AT T M[i] s vs1 ((w2.alloc (.cells #[.int .i64 0, .int .i64 0, .int .i64 0] 57)).drew) (HC2.out.grow (by repeat (first | exact Below.refl _ _ | (with_reducible refine Below.drew ?_) | (with_reducible refine below_drewN ?_ _) | (with_reducible refine Below.alloc ?_ (by first | omega | (simp; done) | (simp; omega)) _) | (with_reducible refine Below.setCell ?_ (by first | omega | (simp; done) | (simp; omega)) _) | (refine Below.trans ?_ (Below.mono (by with_reducible assumption) (by first | omega | (simp; done) | (simp; omega))))))).ym HOk.out (by omega) (HC2.out.grow (by repeat (first | exact Below.refl _ _ | (with_reducible refine Below.drew ?_) | (with_reducible refine below_drewN ?_ _) | (with_reducible refine Below.alloc ?_ (by first | omega | (simp; done) | (simp; omega)) _) | (with_reducible refine Below.setCell ?_ (by first | omega | (simp; done) | (simp; omega)) _) | (refine Below.trans ?_ (Below.mono (by with_reducible assumption) (by first | omega | (simp; done) | (simp; omega))))))).hT (by omega) HTk.out hlt HMi.out (HC2.out.grow (by repeat (first | exact Below.refl _ _ | (with_reducible refine Below.drew ?_) | (with_reducible refine below_drewN ?_ _) | (with_reducible refine Below.alloc ?_ (by first | omega | (simp; done) | (simp; omega)) _) | (with_reducible refine Below.setCell ?_ (by first | omega | (simp; done) | (simp; omega)) _) | (refine Below.trans ?_ (Below.mono (by with_reducible assumption) (by first | omega | (simp; done) | (simp; omega))))))).hb).mono ?_; intro e w3 ho; rw [hact] at ho; have hb2 : Below w2.heap.size w2 ((w2.alloc (.cells #[.int .i64 0, .int .i64 0, .int .i64 0] 57)).drew) := (by repeat (first | exact Below.refl _ _ | (with_reducible refine Below.drew ?_) | (with_reducible refine below_drewN ?_ _) | (with_reducible refine Below.alloc ?_ (by first | omega | (simp; done) | (simp; omega)) _) | (with_reducible refine Below.setCell ?_ (by first | omega | (simp; done) | (simp; omega)) _) | (refine Below.trans ?_ (Below.mono (by with_reducible assumption) (by first | omega | (simp; done) | (simp; omega)))))); obtain ⟨rfl, hd3⟩ := ho; have hc3 := (HC2.out.grow (w' := (w2.alloc (.cells #[.int .i64 0, .int .i64 0, .int .i64 0] 57)).drew) hb2).grow hd3; have hf3 : Below L.base _ w3 := hd3.mono (HC2.out.grow (w' := (w2.alloc (.cells #[.int .i64 0, .int .i64 0, .int .i64 0] 57)).drew) hb2).hb; have HF3 := Lib.hid (HF2.out.trans (FrY.grow (hb2.trans (hd3.mono hb2.size)) hbs)); have hz := ((Blk.new w2 57 #[.int .i64 0, .int .i64 0, .int .i64 0]).dr).bel (w' := w3) hd3; have hnd : ¬ DY L.Y L.bO L.bR vs1 w2.heap.size := fun h => Nat.lt_irrefl _ (HC2.out.boxl (.inr h)); have y3 := hc3.y.cell 0; have q3 := hc3.m.cell 0; rw [HAM.out] at q3; have hb3 : Below L.base w2 w3 := (Below.mono hb2 hbs).trans hf3; have k0 := (hb3.cell (p := ⟨mb, _, none⟩) hmb).trans m0; have k1 := (hb3.cell (p := ⟨mb, _, none⟩) hmb).trans m1; have k2 := (hb3.cell (p := ⟨mb, _, none⟩) hmb).trans m2; have HC3 := Lib.hid hc3; have hcs := hc3.far3 (.int .i64 0) (.int .i64 0) (.int .i64 0) hbs hnb hnd; have hbs3 := bel_far3 hb3 (.int .i64 0) (.int .i64 0) (.int .i64 0) hbs; have y3s := hcs.y.cell 0; have q3s := hcs.m.cell 0; rw [HAM.out] at q3s; have k0s := (hbs3.cell (p := ⟨mb, _, none⟩) hmb).trans m0; have k1s := (hbs3.cell (p := ⟨mb, _, none⟩) hmb).trans m1; have k2s := (hbs3.cell (p := ⟨mb, _, none⟩) hmb).trans m2; have HCs := Lib.hid hcs; have HZs := Lib.hid (((hz.set_ 0 (.int .i64 0)).set_ 1 (.int .i64 0)).set_ 2 (.int .i64 0)); have z0 := hz.cell 0; have z1 := hz.cell 1; have z2 := hz.cell 2; have f0 := hz.frozen 0; have f1 := hz.frozen 1; have f2 := hz.frozen 2; have hzl := hz.lt; simp only [List.getElem?_toArray, List.getElem?_cons_succ, List.getElem?_cons_zero] at z0 z1 z2 y3 q3 y3s q3s) | (go_at_call 29; refine (do_any L.base L.Y L.bO L.bR L.cF L.cT i j L.AT T M[i] s vs1 (w2.drew) (HC2.out.grow (by repeat (first | exact Below.refl _ _ | (with_reducible refine Below.drew ?_) | (with_reducible refine below_drewN ?_ _) | (with_reducible refine Below.alloc ?_ (by first | omega | (simp; done) | (simp; omega)) _) | (with_reducible refine Below.setCell ?_ (by first | omega | (simp; done) | (simp; omega)) _) | (refine Below.trans ?_ (Below.mono (by with_reducible assumption) (by first | omega | (simp; done) | (simp; omega))))))).ym HOk.out (by omega) (HC2.out.grow (by repeat (first | exact Below.refl _ _ | (with_reducible refine Below.drew ?_) | (with_reducible refine below_drewN ?_ _) | (with_reducible refine Below.alloc ?_ (by first | omega | (simp; done) | (simp; omega)) _) | (with_reducible refine Below.setCell ?_ (by first | omega | (simp; done) | (simp; omega)) _) | (refine Below.trans ?_ (Below.mono (by with_reducible assumption) (by first | omega | (simp; done) | (simp; omega))))))).hT (by omega) HTk.out hlt HMi.out (HC2.out.grow (by repeat (first | exact Below.refl _ _ | (with_reducible refine Below.drew ?_) | (with_reducible refine below_drewN ?_ _) | (with_reducible refine Below.alloc ?_ (by first | omega | (simp; done) | (simp; omega)) _) | (with_reducible refine Below.setCell ?_ (by first | omega | (simp; done) | (simp; omega)) _) | (refine Below.trans ?_ (Below.mono (by with_reducible assumption) (by first | omega | (simp; done) | (simp; omega))))))).hb).mono ?_; intro e w3 ho; rw [hact] at ho; have hb2 : Below w2.heap.size w2 (w2.drew) := (by repeat (first | exact Below.refl _ _ | (with_reducible refine Below.drew ?_) | (with_reducible refine below_drewN ?_ _) | (with_reducible refine Below.alloc ?_ (by first | omega | (simp; done) | (simp; omega)) _) | (with_reducible refine Below.setCell ?_ (by first | omega | (simp; done) | (simp; omega)) _) | (refine Below.trans ?_ (Below.mono (by with_reducible assumption) (by first | omega | (simp; done) | (simp; omega)))))); obtain ⟨rfl, hd3⟩ := ho; have hc3 := (HC2.out.grow (w' := w2.drew) hb2).grow hd3; have hf3 : Below L.base _ w3 := hd3.mono (HC2.out.grow (w' := w2.drew) hb2).hb; have HF3 := Lib.hid (HF2.out.trans (FrY.grow (hb2.trans (hd3.mono hb2.size)) hbs)); have y3 := hc3.y.cell 0; have q3 := hc3.m.cell 0; rw [HAM.out] at q3; have hb3 : Below L.base w2 w3 := (Below.mono hb2 hbs).trans hf3; have k0 := (hb3.cell (p := ⟨mb, _, none⟩) hmb).trans m0; have k1 := (hb3.cell (p := ⟨mb, _, none⟩) hmb).trans m1; have k2 := (hb3.cell (p := ⟨mb, _, none⟩) hmb).trans m2; have HC3 := Lib.hid hc3; have hb3a : Below w3.heap.size w3 (w3.alloc (.cells #[.int .i64 0, .int .i64 0, .int .i64 0] 57)) := (by repeat (first | exact Below.refl _ _ | (with_reducible refine Below.drew ?_) | (with_reducible refine below_drewN ?_ _) | (with_reducible refine Below.alloc ?_ (by first | omega | (simp; done) | (simp; omega)) _) | (with_reducible refine Below.setCell ?_ (by first | omega | (simp; done) | (simp; omega)) _) | (refine Below.trans ?_ (Below.mono (by with_reducible assumption) (by first | omega | (simp; done) | (simp; omega)))))); have hb3b : Below w3.heap.size w3 (w3.alloc (.cells #[.int .i64 0, .int .i64 0, .int .i64 0] 57)) := (by repeat (first | exact Below.refl _ _ | (with_reducible refine Below.drew ?_) | (with_reducible refine below_drewN ?_ _) | (with_reducible refine Below.alloc ?_ (by first | omega | (simp; done) | (simp; omega)) _) | (with_reducible refine Below.setCell ?_ (by first | omega | (simp; done) | (simp; omega)) _) | (refine Below.trans ?_ (Below.mono (by with_reducible assumption) (by first | omega | (simp; done) | (simp; omega)))))); simp only [List.getElem?_toArray, List.getElem?_cons_zero] at y3 q3))
            · skip
              go_upto_region 10 with fail
              refine world_gen (fun w4 => CM L T M b L.fn s (used1 + 1) plan1 vs1 w4 ∧ FrY L.base (L.D vs) (L.D vs1) w w4) ⟨HC3.out.grow hb3a, HF3.out.trans (FrY.grow hb3a HC3.out.hb)⟩ ?_
              clear y0 q0 m0 m1 m2 hyl hml hnb HC3 HF3 hb3a hb3b y3 q3 k0 k1 k2
              rintro w4 ⟨hc4, hf4⟩
              have HC4 := Lib.hid hc4
              have HF4 := Lib.hid hf4
              clear hc4 hf4 HC2 HF2
              go_wp2_with fail
              go_roundg K
              case measure => have := Hj.out; have := HK.out; omega
              case rel => exact ⟨j + 1, used1 + 1, plan1, vs1, by first | rfl | go_num, by have := HK.out; omega, by omega, HC4.out, HF4.out, HPt.out, HTr2.out⟩
            · have hsw := HF2.out.bel.size
              go_upto_region 10 with fail
              refine world_gen (fun w4 => CM L T M b L.fn s (used1 + 1) plan1 vs1 w4 ∧ FrY L.base (L.D vs) (L.D vs1) w w4) ⟨HCs.out, ((HF3.out.far hbs hsw).far hbs hsw).far hbs hsw⟩ ?_
              clear y0 q0 m0 m1 m2 hyl hml hnb HC3 HF3 HCs HZs y3 q3 k0 k1 k2 y3s q3s k0s k1s k2s z0 z1 z2 f0 f1 f2 hzl
              rintro w4 ⟨hc4, hf4⟩
              have HC4 := Lib.hid hc4
              have HF4 := Lib.hid hf4
              clear hc4 hf4 HC2 HF2
              go_wp2_with fail
              go_roundg K
              case measure => have := Hj.out; have := HK.out; omega
              case rel => exact ⟨j + 1, used1 + 1, plan1, vs1, by first | rfl | go_num, by have := HK.out; omega, by omega, HC4.out, HF4.out, HPt.out, HTr2.out⟩
          | some p =>
            obtain ⟨u, s'⟩ := p
            rw [hact] at HTr2
            have hnb : ¬ L.box w2.heap.size := fun h => Nat.lt_irrefl _ (HC2.out.boxl (.inl h))
            go_region_held3 (fun w' => w'.cell? ⟨L.bY, 0, none⟩ = some (.pointer (some ⟨L.Y, 0, none⟩)) ∧ w'.cell? ⟨L.bM, 0, none⟩ = some (.slice (some ⟨mb, mo, none⟩) M.length L.cM) ∧ w'.cell? ⟨mb, mo + i * 3, none⟩ = some (.bool M[i].inn) ∧ w'.cell? ⟨mb, mo + i * 3 + 1, none⟩ = some (.int .i64 M[i].kind) ∧ w'.cell? ⟨mb, mo + i * 3 + 2, none⟩ = some (.int .i64 M[i].ln))
              (first | exact ⟨y3s, q3s, k0s, k1s, k2s⟩ | exact ⟨y3, q3, k0, k1, k2⟩ | exact ⟨cell_bel hb3a y3, cell_bel hb3a q3, cell_bel hb3a k0, cell_bel hb3a k1, cell_bel hb3a k2⟩ | exact ⟨cell_bel hb3b y3, cell_bel hb3b q3, cell_bel hb3b k0, cell_bel hb3b k1, cell_bel hb3b k2⟩ | exact ⟨cell_bel (w := w2) (by repeat (first | exact Below.refl _ _ | (with_reducible refine Below.drew ?_) | (with_reducible refine below_drewN ?_ _) | (with_reducible refine Below.alloc ?_ (by first | omega | (simp; done) | (simp; omega)) _) | (with_reducible refine Below.setCell ?_ (by first | omega | (simp; done) | (simp; omega)) _) | (refine Below.trans ?_ (Below.mono (by with_reducible assumption) (by first | omega | (simp; done) | (simp; omega)))))) y0, cell_bel (w := w2) (by repeat (first | exact Below.refl _ _ | (with_reducible refine Below.drew ?_) | (with_reducible refine below_drewN ?_ _) | (with_reducible refine Below.alloc ?_ (by first | omega | (simp; done) | (simp; omega)) _) | (with_reducible refine Below.setCell ?_ (by first | omega | (simp; done) | (simp; omega)) _) | (refine Below.trans ?_ (Below.mono (by with_reducible assumption) (by first | omega | (simp; done) | (simp; omega)))))) q0, cell_bel (w := w2) (by repeat (first | exact Below.refl _ _ | (with_reducible refine Below.drew ?_) | (with_reducible refine below_drewN ?_ _) | (with_reducible refine Below.alloc ?_ (by first | omega | (simp; done) | (simp; omega)) _) | (with_reducible refine Below.setCell ?_ (by first | omega | (simp; done) | (simp; omega)) _) | (refine Below.trans ?_ (Below.mono (by with_reducible assumption) (by first | omega | (simp; done) | (simp; omega)))))) m0, cell_bel (w := w2) (by repeat (first | exact Below.refl _ _ | (with_reducible refine Below.drew ?_) | (with_reducible refine below_drewN ?_ _) | (with_reducible refine Below.alloc ?_ (by first | omega | (simp; done) | (simp; omega)) _) | (with_reducible refine Below.setCell ?_ (by first | omega | (simp; done) | (simp; omega)) _) | (refine Below.trans ?_ (Below.mono (by with_reducible assumption) (by first | omega | (simp; done) | (simp; omega)))))) m1, cell_bel (w := w2) (by repeat (first | exact Below.refl _ _ | (with_reducible refine Below.drew ?_) | (with_reducible refine below_drewN ?_ _) | (with_reducible refine Below.alloc ?_ (by first | omega | (simp; done) | (simp; omega)) _) | (with_reducible refine Below.setCell ?_ (by first | omega | (simp; done) | (simp; omega)) _) | (refine Below.trans ?_ (Below.mono (by with_reducible assumption) (by first | omega | (simp; done) | (simp; omega)))))) m2⟩ | go_keep)
              (first | (go_at_call 29; refine (do_any L.base L.Y L.bO L.bR L.cF L.cT i j L.AT T M[i] s vs1 ((w2.alloc (.cells #[.int .i64 0, .int .i64 0, .int .i64 0] 57)).drew) (HC2.out.grow (by repeat (first | exact Below.refl _ _ | (with_reducible refine Below.drew ?_) | (with_reducible refine below_drewN ?_ _) | (with_reducible refine Below.alloc ?_ (by first | omega | (simp; done) | (simp; omega)) _) | (with_reducible refine Below.setCell ?_ (by first | omega | (simp; done) | (simp; omega)) _) | (refine Below.trans ?_ (Below.mono (by with_reducible assumption) (by first | omega | (simp; done) | (simp; omega))))))).ym HOk.out (by omega) (HC2.out.grow (by repeat (first | exact Below.refl _ _ | (with_reducible refine Below.drew ?_) | (with_reducible refine below_drewN ?_ _) | (with_reducible refine Below.alloc ?_ (by first | omega | (simp; done) | (simp; omega)) _) | (with_reducible refine Below.setCell ?_ (by first | omega | (simp; done) | (simp; omega)) _) | (refine Below.trans ?_ (Below.mono (by with_reducible assumption) (by first | omega | (simp; done) | (simp; omega))))))).hT (by omega) HTk.out hlt HMi.out (HC2.out.grow (by repeat (first | exact Below.refl _ _ | (with_reducible refine Below.drew ?_) | (with_reducible refine below_drewN ?_ _) | (with_reducible refine Below.alloc ?_ (by first | omega | (simp; done) | (simp; omega)) _) | (with_reducible refine Below.setCell ?_ (by first | omega | (simp; done) | (simp; omega)) _) | (refine Below.trans ?_ (Below.mono (by with_reducible assumption) (by first | omega | (simp; done) | (simp; omega))))))).hb).mono ?_; intro e w3 ho; rw [hact] at ho; have hb2 : Below w2.heap.size w2 ((w2.alloc (.cells #[.int .i64 0, .int .i64 0, .int .i64 0] 57)).drew) := (by repeat (first | exact Below.refl _ _ | (with_reducible refine Below.drew ?_) | (with_reducible refine below_drewN ?_ _) | (with_reducible refine Below.alloc ?_ (by first | omega | (simp; done) | (simp; omega)) _) | (with_reducible refine Below.setCell ?_ (by first | omega | (simp; done) | (simp; omega)) _) | (refine Below.trans ?_ (Below.mono (by with_reducible assumption) (by first | omega | (simp; done) | (simp; omega)))))); obtain ⟨vs3, rfl, hy⟩ := ho; simp only [unV]; have hc3 := (HC2.out.grow (w' := (w2.alloc (.cells #[.int .i64 0, .int .i64 0, .int .i64 0] 57)).drew) hb2).yard hy; have hf3 := hy.f.bel; have HF3 := Lib.hid (frY_yard (HF2.out.trans (FrY.grow hb2 hbs)) hy); have hz := ((Blk.new w2 57 #[.int .i64 0, .int .i64 0, .int .i64 0]).dr).same (hy.f.keep w2.heap.size (by simp) (fun h => Nat.lt_irrefl _ (HC2.out.boxl (.inr h)))); have hnd : ¬ DY L.Y L.bO L.bR vs3 w2.heap.size := fun h => Nat.lt_irrefl _ (HC2.out.boxl (.inr (hy.f.back w2.heap.size (by simp) h))); have y3 := hc3.y.cell 0; have q3 := hc3.m.cell 0; rw [HAM.out] at q3; have hb3 : Below L.base w2 w3 := (Below.mono hb2 hbs).trans hf3; have k0 := (hb3.cell (p := ⟨mb, _, none⟩) hmb).trans m0; have k1 := (hb3.cell (p := ⟨mb, _, none⟩) hmb).trans m1; have k2 := (hb3.cell (p := ⟨mb, _, none⟩) hmb).trans m2; have HC3 := Lib.hid hc3; have hcs := hc3.far3 (.int .i64 u.num) (.int .i64 u.kind) (.int .i64 u.ln) hbs hnb hnd; have hbs3 := bel_far3 hb3 (.int .i64 u.num) (.int .i64 u.kind) (.int .i64 u.ln) hbs; have y3s := hcs.y.cell 0; have q3s := hcs.m.cell 0; rw [HAM.out] at q3s; have k0s := (hbs3.cell (p := ⟨mb, _, none⟩) hmb).trans m0; have k1s := (hbs3.cell (p := ⟨mb, _, none⟩) hmb).trans m1; have k2s := (hbs3.cell (p := ⟨mb, _, none⟩) hmb).trans m2; have HCs := Lib.hid hcs; have HZs := Lib.hid (((hz.set_ 0 (.int .i64 u.num)).set_ 1 (.int .i64 u.kind)).set_ 2 (.int .i64 u.ln)); have z0 := hz.cell 0; have z1 := hz.cell 1; have z2 := hz.cell 2; have f0 := hz.frozen 0; have f1 := hz.frozen 1; have f2 := hz.frozen 2; have hzl := hz.lt; simp only [List.getElem?_toArray, List.getElem?_cons_succ, List.getElem?_cons_zero] at z0 z1 z2 y3 q3 y3s q3s) | (go_at_call 29; refine (do_any L.base L.Y L.bO L.bR L.cF L.cT i j L.AT T M[i] s vs1 (w2.drew) (HC2.out.grow (by repeat (first | exact Below.refl _ _ | (with_reducible refine Below.drew ?_) | (with_reducible refine below_drewN ?_ _) | (with_reducible refine Below.alloc ?_ (by first | omega | (simp; done) | (simp; omega)) _) | (with_reducible refine Below.setCell ?_ (by first | omega | (simp; done) | (simp; omega)) _) | (refine Below.trans ?_ (Below.mono (by with_reducible assumption) (by first | omega | (simp; done) | (simp; omega))))))).ym HOk.out (by omega) (HC2.out.grow (by repeat (first | exact Below.refl _ _ | (with_reducible refine Below.drew ?_) | (with_reducible refine below_drewN ?_ _) | (with_reducible refine Below.alloc ?_ (by first | omega | (simp; done) | (simp; omega)) _) | (with_reducible refine Below.setCell ?_ (by first | omega | (simp; done) | (simp; omega)) _) | (refine Below.trans ?_ (Below.mono (by with_reducible assumption) (by first | omega | (simp; done) | (simp; omega))))))).hT (by omega) HTk.out hlt HMi.out (HC2.out.grow (by repeat (first | exact Below.refl _ _ | (with_reducible refine Below.drew ?_) | (with_reducible refine below_drewN ?_ _) | (with_reducible refine Below.alloc ?_ (by first | omega | (simp; done) | (simp; omega)) _) | (with_reducible refine Below.setCell ?_ (by first | omega | (simp; done) | (simp; omega)) _) | (refine Below.trans ?_ (Below.mono (by with_reducible assumption) (by first | omega | (simp; done) | (simp; omega))))))).hb).mono ?_; intro e w3 ho; rw [hact] at ho; have hb2 : Below w2.heap.size w2 (w2.drew) := (by repeat (first | exact Below.refl _ _ | (with_reducible refine Below.drew ?_) | (with_reducible refine below_drewN ?_ _) | (with_reducible refine Below.alloc ?_ (by first | omega | (simp; done) | (simp; omega)) _) | (with_reducible refine Below.setCell ?_ (by first | omega | (simp; done) | (simp; omega)) _) | (refine Below.trans ?_ (Below.mono (by with_reducible assumption) (by first | omega | (simp; done) | (simp; omega)))))); obtain ⟨vs3, rfl, hy⟩ := ho; simp only [unV]; have hc3 := (HC2.out.grow (w' := w2.drew) hb2).yard hy; have hf3 := hy.f.bel; have HF3 := Lib.hid (frY_yard (HF2.out.trans (FrY.grow hb2 hbs)) hy); have y3 := hc3.y.cell 0; have q3 := hc3.m.cell 0; rw [HAM.out] at q3; have hb3 : Below L.base w2 w3 := (Below.mono hb2 hbs).trans hf3; have k0 := (hb3.cell (p := ⟨mb, _, none⟩) hmb).trans m0; have k1 := (hb3.cell (p := ⟨mb, _, none⟩) hmb).trans m1; have k2 := (hb3.cell (p := ⟨mb, _, none⟩) hmb).trans m2; have HC3 := Lib.hid hc3; have hb3a : Below w3.heap.size w3 (w3.alloc (.cells #[.int .i64 0, .int .i64 0, .int .i64 0] 57)) := (by repeat (first | exact Below.refl _ _ | (with_reducible refine Below.drew ?_) | (with_reducible refine below_drewN ?_ _) | (with_reducible refine Below.alloc ?_ (by first | omega | (simp; done) | (simp; omega)) _) | (with_reducible refine Below.setCell ?_ (by first | omega | (simp; done) | (simp; omega)) _) | (refine Below.trans ?_ (Below.mono (by with_reducible assumption) (by first | omega | (simp; done) | (simp; omega)))))); have hb3b : Below w3.heap.size w3 (w3.alloc (.cells #[.int .i64 u.num, .int .i64 u.kind, .int .i64 u.ln] 57)) := (by repeat (first | exact Below.refl _ _ | (with_reducible refine Below.drew ?_) | (with_reducible refine below_drewN ?_ _) | (with_reducible refine Below.alloc ?_ (by first | omega | (simp; done) | (simp; omega)) _) | (with_reducible refine Below.setCell ?_ (by first | omega | (simp; done) | (simp; omega)) _) | (refine Below.trans ?_ (Below.mono (by with_reducible assumption) (by first | omega | (simp; done) | (simp; omega)))))); simp only [List.getElem?_toArray, List.getElem?_cons_zero] at y3 q3))
            · skip
              go_upto_region 11 with fail
              refine world_gen (fun w4 => CM L T M b L.fn s' (used1 + 1) plan1 vs3 w4 ∧ FrY L.base (L.D vs) (L.D vs3) w w4 ∧ Blk w4 (w3.heap.size) 57 #[.int .i64 u.num, .int .i64 u.kind, .int .i64 u.ln] ∧ ¬ L.box (w3.heap.size) ∧ ¬ DY L.Y L.bO L.bR vs3 (w3.heap.size)) ⟨HC3.out.grow hb3b, HF3.out.trans (FrY.grow hb3b HC3.out.hb), Blk.new w3 _ _, fun h => Nat.lt_irrefl _ (HC3.out.boxl (.inl h)), fun h => Nat.lt_irrefl _ (HC3.out.boxl (.inr h))⟩ ?_
              clear y0 q0 m0 m1 m2 hyl hml hnb HC3 HF3 hb3a hb3b y3 q3 k0 k1 k2
              rintro w4 ⟨hc4, hf4, hz4, hn4, hd4⟩
              have HC4 := Lib.hid hc4
              have HF4 := Lib.hid hf4
              have HZ4 := Lib.hid hz4
              have HNb := Lib.hid hn4
              have HNd := Lib.hid hd4
              clear hc4 hf4 hz4 hn4 hd4 HC2 HF2 hbs
              generalize w3.heap.size = U at *
              have p0 := HC4.out.p.cell 0
              have pi := own1 HC4.out.pl i (by rw [HC4.out.pn]; exact hiM)
              have pf := own_frozen HC4.out.pl i
              have hpl := (own_block HC4.out.pl L.P rfl).2
              simp at p0
              go_upto_region 12 with fail
              have HC5 := Lib.hid (HC4.out.setP HL.out i j)
              have HF5 := Lib.hid (HF4.out.trans (FrY.set (o := i) (u := .int .i64 j) (D := L.D vs3) (.inr (.inr rfl)) (own_block HC4.out.pl L.P rfl).1))
              have HZ5 := Lib.hid (HZ4.out.far (b := L.P) (o := i) (u := .int .i64 j) (fun e => HNb.out (by simp [PLoc.box, ← e])))
              clear p0 pi pf hpl HC4 HF4 HZ4
              generalize w4.setCell ⟨L.P, i, none⟩ (.int .i64 j) = w5 at *
              have f0 := HC5.out.f.cell 0
              simp [PLoc.fn] at f0
              have hok' := actY_ok HOk.out hlt HMi.out hact
              have hcall := IH.out (i + 1) s' (used1 + 1) (plan1.set i j) vs3 w5 (by omega) (by omega) hok' HC5.out
              have hbd := srch_bd T b (M.drop (i + 1)) s' (used1 + 1) (by omega)
              simp only at HTr2
              generalize srchY T b (M.drop (i + 1)) s' (used1 + 1) = r' at *
              obtain ⟨rc, ru, rp⟩ := r'
              rw [show ((i + 1 : Nat) : Int) = (i : Int) + 1 by omega] at hcall
              obtain ⟨hb1', hb2', hb3', hb4'⟩ := hbd
              simp only at hb1' hb2' hb3' hb4' HTr2
              have HCall := Lib.hid hcall
              clear hcall
              go_wp2_with fail
              refine HCall.out.mono ?_
              rintro e w6 ⟨rfl, s6, plan6, vs6, hc6, hf6, hp6, hq6, hs6⟩
              have HC6 := Lib.hid hc6
              have HF6 := Lib.hid (HF5.out.trans hf6)
              have HZ6 := Lib.hid (HZ5.out.same (hf6.keep U HZ5.out.lt (fun h => by
                rcases h with h | h | h
                · exact HNd.out h
                · exact HNb.out (by simp [PLoc.box, h])
                · exact HNb.out (by simp [PLoc.box, h]))))
              have HNd6 := Lib.hid (show ¬ DY L.Y L.bO L.bR vs6 U from fun h => by
                rcases hf6.back U HZ5.out.lt (.inl h) with h | h | h
                · exact HNd.out h
                · exact HNb.out (by simp [PLoc.box, h])
                · exact HNb.out (by simp [PLoc.box, h]))
              have hip : i < plan1.length := by
                have := hc6.pn
                have h := congrArg List.length hp6
                have h5 := HC5.out.pn
                simp at h5
                omega
              have hp6i : plan6.take i = plan.take i := by
                have h := congrArg (List.take i) hp6
                rw [List.take_take, List.take_take, Nat.min_eq_left (by omega), List.take_set_of_le (Nat.le_refl i)] at h
                rw [h, HPt.out]
              have HP6 := Lib.hid hp6i
              have HQ6 := Lib.hid (show rc = 0 → plan6.drop i = j :: rp from fun h0 => by
                have hpl6 : i < plan6.length := by rw [HC6.out.pn]; exact hiM
                rw [List.drop_eq_getElem_cons hpl6, hq6 h0]
                congr 1
                have h := congrArg (fun l => l[i]?) hp6
                simp only [List.getElem?_take_of_lt (Nat.lt_succ_self i)] at h
                rw [List.getElem?_eq_getElem hpl6, List.getElem?_set_self hip] at h
                exact Option.some.inj h)
              have HS6 := Lib.hid hs6
              clear hc6 hf6 hp6 hq6 hs6 hip hp6i HCall HC5 HF5 HZ5 f0
              by_cases h14 : rc = 14
              · subst h14
                rw [if_pos rfl] at HTr2
                obtain rfl : s6 = s' := HS6.out rfl
                have HTr3 := Lib.hid HTr2.out
                clear HTr2 HS6 HQ6
                go_wp2_with fail
                obtain ⟨mb, mo, hAM, hmb, m0, m1, m2⟩ := rdMv HC6.out.hM rfl i hiM
                have y0 := HC6.out.y.cell 0
                have q0 := HC6.out.m.cell 0
                rw [hAM] at q0
                have HAM := Lib.hid hAM
                have z0 := HZ6.out.cell 0
                have z1 := HZ6.out.cell 1
                have z2 := HZ6.out.cell 2
                clear hAM
                simp at y0 q0 z0 z1 z2
                have hbs := HC6.out.hb
                have HUb := Lib.hid (act_un HOk.out hlt HMi.out hact)
                have hts : j < s.on.length := by rw [HOk.out.n]; exact hlt
                have hb6 : Below w6.heap.size w6 w6.drew := (Below.refl _ _).drew
                go_upto_region 15 with fail
                go_region_held3 (fun w' => w'.cell? ⟨L.bY, 0, none⟩ = some (.pointer (some ⟨L.Y, 0, none⟩)) ∧ w'.cell? ⟨L.bM, 0, none⟩ = some (.slice (some ⟨mb, mo, none⟩) M.length L.cM) ∧ w'.cell? ⟨mb, mo + i * 3, none⟩ = some (.bool M[i].inn) ∧ w'.cell? ⟨mb, mo + i * 3 + 1, none⟩ = some (.int .i64 M[i].kind) ∧ w'.cell? ⟨mb, mo + i * 3 + 2, none⟩ = some (.int .i64 M[i].ln) ∧ w'.cell? ⟨U, 0, none⟩ = some (.int .i64 u.num) ∧ w'.cell? ⟨U, 1, none⟩ = some (.int .i64 u.kind) ∧ w'.cell? ⟨U, 2, none⟩ = some (.int .i64 u.ln))
                  (first | exact ⟨y3, q3, k0, k1, k2, v0, v1, v2⟩ | exact ⟨cell_bel hb6 y0, cell_bel hb6 q0, cell_bel hb6 m0, cell_bel hb6 m1, cell_bel hb6 m2, cell_bel hb6 z0, cell_bel hb6 z1, cell_bel hb6 z2⟩ | exact ⟨y0, q0, m0, m1, m2, z0, z1, z2⟩ | go_keep)
                  (first | (go_at_call 30; refine (undo_any L.base L.Y L.bO L.bR L.cF L.cT (i + 1) j L.AT T M[i] u s6 vs6 w6.drew (HC6.out.grow hb6).ym hok' (by omega) (HC6.out.grow hb6).hT HTk.out hlt (act_in_row hts hact) ⟨by have := HUb.out; omega, by have := HUb.out; omega⟩ (HC6.out.grow hb6).hb).mono ?_; rintro e w7 ⟨rfl, vs7, hy⟩; rw [undo_act hts hact] at hy; have hc7 := (HC6.out.grow hb6).yard hy; have HF7 := Lib.hid (frY_yard (HF6.out.trans (FrY.grow hb6 hbs)) hy); have y3 := hc7.y.cell 0; have q3 := hc7.m.cell 0; rw [HAM.out] at q3; have hb3 : Below L.base w6 w7 := (Below.mono hb6 hbs).trans hy.f.bel; have k0 := (hb3.cell (p := ⟨mb, _, none⟩) hmb).trans m0; have k1 := (hb3.cell (p := ⟨mb, _, none⟩) hmb).trans m1; have k2 := (hb3.cell (p := ⟨mb, _, none⟩) hmb).trans m2; have HC7 := Lib.hid hc7; have hz7 := HZ6.out.same (hy.f.keep U HZ6.out.lt HNd6.out); have v0 := hz7.cell 0; have v1 := hz7.cell 1; have v2 := hz7.cell 2; simp only [List.getElem?_toArray, List.getElem?_cons_succ, List.getElem?_cons_zero] at y3 q3 v0 v1 v2))
                clear y0 q0 m0 m1 m2 z0 z1 z2 y3 q3 k0 k1 k2 v0 v1 v2 hz7 hc7 hy hb3 hb6 HC6 HF6 HZ6 HNd6 HAM
                go_wp2_with fail
                go_roundg K
                case measure => have := Hj.out; have := HK.out; omega
                case rel => exact ⟨j + 1, ru, plan6, vs7, by first | rfl | go_num, by have := HK.out; omega, hb2', HC7.out, HF7.out, HP6.out, HTr3.out⟩
              · rw [if_neg h14] at HTr2
                have hr : srchY T b (M[i] :: M.drop (i + 1)) s used = ⟨rc, ru, j :: rp⟩ := HTr2.out
                have hn14 : ((rc : Int) != 14) = true := by simp; omega
                go_wp2_with fail
                go_ret
                rw [hr]
                exact ⟨rfl, s6, plan6, vs6, HC6.out, HF6.out, HP6.out, HQ6.out, fun h => absurd h h14⟩
            · have hsw := HF2.out.bel.size
              go_upto_region 11 with fail
              refine world_gen (fun w4 => CM L T M b L.fn s' (used1 + 1) plan1 vs3 w4 ∧ FrY L.base (L.D vs) (L.D vs3) w w4 ∧ Blk w4 (w2.heap.size) 57 #[.int .i64 u.num, .int .i64 u.kind, .int .i64 u.ln] ∧ ¬ L.box (w2.heap.size) ∧ ¬ DY L.Y L.bO L.bR vs3 (w2.heap.size)) ⟨HCs.out, ((HF3.out.far hbs hsw).far hbs hsw).far hbs hsw, by simpa using HZs.out, hnb, hnd⟩ ?_
              clear y0 q0 m0 m1 m2 hyl hml hnb HC3 HF3 HCs HZs y3 q3 k0 k1 k2 y3s q3s k0s k1s k2s z0 z1 z2 f0 f1 f2 hzl
              rintro w4 ⟨hc4, hf4, hz4, hn4, hd4⟩
              have HC4 := Lib.hid hc4
              have HF4 := Lib.hid hf4
              have HZ4 := Lib.hid hz4
              have HNb := Lib.hid hn4
              have HNd := Lib.hid hd4
              clear hc4 hf4 hz4 hn4 hd4 HC2 HF2 hbs
              generalize w2.heap.size = U at *
              have p0 := HC4.out.p.cell 0
              have pi := own1 HC4.out.pl i (by rw [HC4.out.pn]; exact hiM)
              have pf := own_frozen HC4.out.pl i
              have hpl := (own_block HC4.out.pl L.P rfl).2
              simp at p0
              go_upto_region 12 with fail
              have HC5 := Lib.hid (HC4.out.setP HL.out i j)
              have HF5 := Lib.hid (HF4.out.trans (FrY.set (o := i) (u := .int .i64 j) (D := L.D vs3) (.inr (.inr rfl)) (own_block HC4.out.pl L.P rfl).1))
              have HZ5 := Lib.hid (HZ4.out.far (b := L.P) (o := i) (u := .int .i64 j) (fun e => HNb.out (by simp [PLoc.box, ← e])))
              clear p0 pi pf hpl HC4 HF4 HZ4
              generalize w4.setCell ⟨L.P, i, none⟩ (.int .i64 j) = w5 at *
              have f0 := HC5.out.f.cell 0
              simp [PLoc.fn] at f0
              have hok' := actY_ok HOk.out hlt HMi.out hact
              have hcall := IH.out (i + 1) s' (used1 + 1) (plan1.set i j) vs3 w5 (by omega) (by omega) hok' HC5.out
              have hbd := srch_bd T b (M.drop (i + 1)) s' (used1 + 1) (by omega)
              simp only at HTr2
              generalize srchY T b (M.drop (i + 1)) s' (used1 + 1) = r' at *
              obtain ⟨rc, ru, rp⟩ := r'
              rw [show ((i + 1 : Nat) : Int) = (i : Int) + 1 by omega] at hcall
              obtain ⟨hb1', hb2', hb3', hb4'⟩ := hbd
              simp only at hb1' hb2' hb3' hb4' HTr2
              have HCall := Lib.hid hcall
              clear hcall
              go_wp2_with fail
              refine HCall.out.mono ?_
              rintro e w6 ⟨rfl, s6, plan6, vs6, hc6, hf6, hp6, hq6, hs6⟩
              have HC6 := Lib.hid hc6
              have HF6 := Lib.hid (HF5.out.trans hf6)
              have HZ6 := Lib.hid (HZ5.out.same (hf6.keep U HZ5.out.lt (fun h => by
                rcases h with h | h | h
                · exact HNd.out h
                · exact HNb.out (by simp [PLoc.box, h])
                · exact HNb.out (by simp [PLoc.box, h]))))
              have HNd6 := Lib.hid (show ¬ DY L.Y L.bO L.bR vs6 U from fun h => by
                rcases hf6.back U HZ5.out.lt (.inl h) with h | h | h
                · exact HNd.out h
                · exact HNb.out (by simp [PLoc.box, h])
                · exact HNb.out (by simp [PLoc.box, h]))
              have hip : i < plan1.length := by
                have := hc6.pn
                have h := congrArg List.length hp6
                have h5 := HC5.out.pn
                simp at h5
                omega
              have hp6i : plan6.take i = plan.take i := by
                have h := congrArg (List.take i) hp6
                rw [List.take_take, List.take_take, Nat.min_eq_left (by omega), List.take_set_of_le (Nat.le_refl i)] at h
                rw [h, HPt.out]
              have HP6 := Lib.hid hp6i
              have HQ6 := Lib.hid (show rc = 0 → plan6.drop i = j :: rp from fun h0 => by
                have hpl6 : i < plan6.length := by rw [HC6.out.pn]; exact hiM
                rw [List.drop_eq_getElem_cons hpl6, hq6 h0]
                congr 1
                have h := congrArg (fun l => l[i]?) hp6
                simp only [List.getElem?_take_of_lt (Nat.lt_succ_self i)] at h
                rw [List.getElem?_eq_getElem hpl6, List.getElem?_set_self hip] at h
                exact Option.some.inj h)
              have HS6 := Lib.hid hs6
              clear hc6 hf6 hp6 hq6 hs6 hip hp6i HCall HC5 HF5 HZ5 f0
              by_cases h14 : rc = 14
              · subst h14
                rw [if_pos rfl] at HTr2
                obtain rfl : s6 = s' := HS6.out rfl
                have HTr3 := Lib.hid HTr2.out
                clear HTr2 HS6 HQ6
                go_wp2_with fail
                obtain ⟨mb, mo, hAM, hmb, m0, m1, m2⟩ := rdMv HC6.out.hM rfl i hiM
                have y0 := HC6.out.y.cell 0
                have q0 := HC6.out.m.cell 0
                rw [hAM] at q0
                have HAM := Lib.hid hAM
                have z0 := HZ6.out.cell 0
                have z1 := HZ6.out.cell 1
                have z2 := HZ6.out.cell 2
                clear hAM
                simp at y0 q0 z0 z1 z2
                have hbs := HC6.out.hb
                have HUb := Lib.hid (act_un HOk.out hlt HMi.out hact)
                have hts : j < s.on.length := by rw [HOk.out.n]; exact hlt
                have hb6 : Below w6.heap.size w6 w6.drew := (Below.refl _ _).drew
                go_upto_region 15 with fail
                go_region_held3 (fun w' => w'.cell? ⟨L.bY, 0, none⟩ = some (.pointer (some ⟨L.Y, 0, none⟩)) ∧ w'.cell? ⟨L.bM, 0, none⟩ = some (.slice (some ⟨mb, mo, none⟩) M.length L.cM) ∧ w'.cell? ⟨mb, mo + i * 3, none⟩ = some (.bool M[i].inn) ∧ w'.cell? ⟨mb, mo + i * 3 + 1, none⟩ = some (.int .i64 M[i].kind) ∧ w'.cell? ⟨mb, mo + i * 3 + 2, none⟩ = some (.int .i64 M[i].ln) ∧ w'.cell? ⟨U, 0, none⟩ = some (.int .i64 u.num) ∧ w'.cell? ⟨U, 1, none⟩ = some (.int .i64 u.kind) ∧ w'.cell? ⟨U, 2, none⟩ = some (.int .i64 u.ln))
                  (first | exact ⟨y3, q3, k0, k1, k2, v0, v1, v2⟩ | exact ⟨cell_bel hb6 y0, cell_bel hb6 q0, cell_bel hb6 m0, cell_bel hb6 m1, cell_bel hb6 m2, cell_bel hb6 z0, cell_bel hb6 z1, cell_bel hb6 z2⟩ | exact ⟨y0, q0, m0, m1, m2, z0, z1, z2⟩ | go_keep)
                  (first | (go_at_call 30; refine (undo_any L.base L.Y L.bO L.bR L.cF L.cT (i + 1) j L.AT T M[i] u s6 vs6 w6.drew (HC6.out.grow hb6).ym hok' (by omega) (HC6.out.grow hb6).hT HTk.out hlt (act_in_row hts hact) ⟨by have := HUb.out; omega, by have := HUb.out; omega⟩ (HC6.out.grow hb6).hb).mono ?_; rintro e w7 ⟨rfl, vs7, hy⟩; rw [undo_act hts hact] at hy; have hc7 := (HC6.out.grow hb6).yard hy; have HF7 := Lib.hid (frY_yard (HF6.out.trans (FrY.grow hb6 hbs)) hy); have y3 := hc7.y.cell 0; have q3 := hc7.m.cell 0; rw [HAM.out] at q3; have hb3 : Below L.base w6 w7 := (Below.mono hb6 hbs).trans hy.f.bel; have k0 := (hb3.cell (p := ⟨mb, _, none⟩) hmb).trans m0; have k1 := (hb3.cell (p := ⟨mb, _, none⟩) hmb).trans m1; have k2 := (hb3.cell (p := ⟨mb, _, none⟩) hmb).trans m2; have HC7 := Lib.hid hc7; have hz7 := HZ6.out.same (hy.f.keep U HZ6.out.lt HNd6.out); have v0 := hz7.cell 0; have v1 := hz7.cell 1; have v2 := hz7.cell 2; simp only [List.getElem?_toArray, List.getElem?_cons_succ, List.getElem?_cons_zero] at y3 q3 v0 v1 v2))
                clear y0 q0 m0 m1 m2 z0 z1 z2 y3 q3 k0 k1 k2 v0 v1 v2 hz7 hc7 hy hb3 hb6 HC6 HF6 HZ6 HNd6 HAM
                go_wp2_with fail
                go_roundg K
                case measure => have := Hj.out; have := HK.out; omega
                case rel => exact ⟨j + 1, ru, plan6, vs7, by first | rfl | go_num, by have := HK.out; omega, hb2', HC7.out, HF7.out, HP6.out, HTr3.out⟩
              · rw [if_neg h14] at HTr2
                have hr : srchY T b (M[i] :: M.drop (i + 1)) s used = ⟨rc, ru, j :: rp⟩ := HTr2.out
                have hn14 : ((rc : Int) != 14) = true := by simp; omega
                go_wp2_with fail
                go_ret
                rw [hr]
                exact ⟨rfl, s6, plan6, vs6, HC6.out, HF6.out, HP6.out, HQ6.out, fun h => absurd h h14⟩
      · obtain rfl : j = T.length := by have := Hj.out; omega
        have hg0 : gk = 0 := by have := Hj.out; omega
        rw [hg0] at htr
        have hr : srchY T b (M[i] :: M.drop (i + 1)) s used = ⟨14, used1, []⟩ := htr
        clear htr hg0
        go_wp2_with fail
        go_ret
        rw [HD.out, hr]
        exact ⟨rfl, s, plan1, vs1, HC1.out, HF1.out, HPt.out, fun h => by simp at h, fun _ => rfl⟩
end Go.Proofs.Ytffgnfefejimnaa
