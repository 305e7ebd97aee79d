import Derived.Test.YtffgnfefejimnaaYd8
namespace Go.Proofs.Ytffgnfefejimnaa
open Go.RowKit
theorem replY_cons (T : List Tk) (m : Mv) (ms : List Mv) (p : Int) (ps : List Int) (s : Yst) : replY T (m :: ms) (p :: ps) s = if 0 ≤ p ∧ p < (T.length : Int) then
      match actY T m p.toNat s with
      | none => none
      | some (u, s') => (replY T ms ps s').map fun l => u.num :: l
    else none := rfl
def RpOut (T : List Tk) (M : List Mv) (P : List Int) (w : World) (e : Ending) (w' : World) : Prop :=
  ∃ (A : Option Addr) (c : Nat), e = .returned (.tuple #[.slice A (replF T M P).1.length c, .bool (replF T M P).2]) ∧ Below w.heap.size w w' ∧ w'.ownsRow w.heap.size 3 1 (.slice A (replF T M P).1.length c) (replF T M P).1.length ((replF T M P).1.map natV)
/-- the loop: i moves have been made; done holds their units -/
def RpL (T : List Tk) (M : List Mv) (P : List Int) (AT : Option Addr) (cT : Nat) (w : World) (base G Y bO bR cF : Nat) (k : Nat) (v : Value) (wr : World) : Prop :=
  ∃ (i : Nat) (s : Yst) (done : List Nat) (vs : List Value), v = .int .i64 i ∧ i + k = M.length ∧ done.length = i ∧ YOk T i s ∧ YMem base Y bO bR cF AT cT T.length s.on (freeY T s) s.nx vs wr ∧
    wr.ownsRow w.heap.size 3 1 (.slice (some ⟨G, 0, none⟩) M.length M.length) M.length ((done ++ List.replicate k 0).map natV) ∧ ¬ DY Y bO bR vs G ∧ Below w.heap.size w wr ∧ base ≤ wr.heap.size ∧
    replY T M P (begY T) = (replY T (M.drop i) (P.drop i) s).map fun l => done ++ l

set_option maxRecDepth 100000 in
set_option maxHeartbeats 6400000 in
theorem replay_any (AT AM AP : Option Addr) (cT cM cP : Nat) (T : List Tk) (M : List Mv) (P : List Int) (w : World) (hT : TRd w AT T) (hM : MRd w AM M) (hP : Rd w w.heap.size 1 AP P.length (P.map (Value.int .i64))) (hPn : P.length ≤ 4611686018427387904) :
    Calls Try.prog 19 #[.slice AT T.length cT, .slice AM M.length cM, .slice AP P.length cP] w (RpOut T M P w) := by
  have HT := Lib.hid hT
  have HM := Lib.hid hM
  have HPr := Lib.hid hP
  clear hT hM hP
  obtain ⟨i0, a1, a2, a3, a4⟩ := info_parts infoInt
  have HI := Lib.hid (And.intro a1 (And.intro a2 (And.intro a3 a4)))
  clear a1 a2 a3 a4
  go_enter Try.func19, Try.ntmps19
  go_wp2_with fail
  refine (check_any AT AM cT cM T M w HT.out HM.out).mono ?_
  rintro e w1 ⟨rfl, hb1⟩
  have HB1 := Lib.hid hb1
  have hs1 := hb1.size
  clear hb1
  have hno : ∀ h : ¬ (chkY T M = true ∧ P.length = M.length), replF T M P = ([], false) := fun h => by unfold replF; rw [if_neg h]
  have HNo := Lib.hid hno
  clear hno
  by_cases hck : chkY T M = true
  case neg =>
    have hck' : chkY T M = false := by simpa using hck
    rw [hck']
    go_wp2_with fail
    go_ret2
    unfold RpOut
    rw [HNo.out (fun h => hck h.1)]
    exact ⟨none, 0, rfl, HB1.out, World.ownsRow_nil _ _ _ _⟩
  have hMn := HM.out.n
  by_cases hlen : P.length = M.length
  case neg =>
    have hl' : ((P.length : Int) != (M.length : Int)) = true := by simp; omega
    rw [hck]
    go_wp2_with fail
    go_ret2
    unfold RpOut
    rw [HNo.out (fun h => hlen h.2)]
    exact ⟨none, 0, rfl, HB1.out, World.ownsRow_nil _ _ _ _⟩
  obtain ⟨⟨h1, h8, h24⟩, hTk, hMv⟩ := chkY_iff.1 hck
  have HTk := Lib.hid hTk
  have HMv := Lib.hid hMv
  have HYs := Lib.hid (show ∀ l, replY T M P (begY T) = some l → replF T M P = (l, true) from fun l hl => by unfold replF; rw [if_pos ⟨hck, hlen⟩, hl])
  have HYn := Lib.hid (show replY T M P (begY T) = none → replF T M P = ([], false) from fun hl => by unfold replF; rw [if_pos ⟨hck, hlen⟩, hl])
  rw [hck]
  have hl' : ((P.length : Int) != (M.length : Int)) = false := by simp; omega
  clear hTk hMv hck HNo
  go_wp2_with fail
  refine (newyard_any AT cT T w1 (HT.out.grow HB1.out) h1 h8).mono ?_
  rintro e w2 ⟨Y, bO, bR, cF, vs, rfl, hm, hb2⟩
  have HYm := Lib.hid hm
  have HB2 := Lib.hid (HB1.out.trans (hb2.mono hs1))
  have hs2 := hb2.size
  clear hm hb2
  go_wp2_with (at_make; refine wpList_make_full _ rfl _ _ 22 rfl w.heap.size 3 i0 _ 1 Try.underlying22 HI.out.1 HI.out.2.1 HI.out.2.2.1 .i64 .i64 _ _ M.length rfl rfl rfl rfl ?m1 ?m2 ?m3 ?_; rotate_right; intro w3 hown hg)
  case m1 => rw [HI.out.2.2.2]; omega
  case m2 => simp only [maxLen]; omega
  case m3 => omega
  have hb3 : Below w2.heap.size w2 w3 := (Below.refl _ _).grown hg (Nat.le_refl _) (fun k hk => by cases hk)
  have hs3 := hb3.size
  have HO := Lib.hid (show w3.ownsRow w.heap.size 3 1 (.slice (some ⟨w2.heap.size, 0, none⟩) M.length M.length) M.length ((List.replicate M.length 0).map natV) by
    have h := hown
    rw [show (Value.int .i64 0).cells = #[(fun v : Value => v) (.int .i64 0)] from rfl, madeCells_one (fun v : Value => v) (.int .i64 0)] at h
    simpa [natV] using h)
  have HB3 := Lib.hid (HB2.out.trans (hb3.mono HB2.out.size))
  have HYm3 := Lib.hid (HYm.out.grow hb3)
  have HND := Lib.hid (show ¬ DY Y bO bR vs w2.heap.size from fun h => Nat.lt_irrefl _ (HYm.out.D_base h).2)
  clear hown hg hb3 HYm HB2
  go_loopg [32] M.length (fun k v wr => RpL T M P AT cT w w1.heap.size w2.heap.size Y bO bR cF k v wr)
  case atStart => exact ⟨0, begY T, [], vs, rfl, by omega, rfl, begY_ok T 0, HYm3.out, by simpa using HO.out, HND.out, HB3.out, by omega, by simp⟩
  case round =>
    clear HO HB3 HYm3 HND
    obtain ⟨i, s, done, vs4, rfl, hi, hdn, hok, hm, ho, hnd, hb, hs14, hrp⟩ := hrel
    have Hi := Lib.hid hi
    have HDn := Lib.hid hdn
    have HOk := Lib.hid hok
    have HMr := Lib.hid hm
    have HO := Lib.hid ho
    have HND := Lib.hid hnd
    have HB := Lib.hid hb
    have HRp := Lib.hid hrp
    have hsr := hb.size
    clear hi hdn hok hm ho hnd hb hrp
    by_cases hlt : i < M.length
    · obtain ⟨K, hK⟩ : ∃ K, K = M.length - i - 1 := ⟨_, rfl⟩
      have HK := Lib.hid hK
      clear hK
      obtain ⟨mb, mo, rfl, hmb, m0, m1, m2⟩ := rdMv (HM.out.r.grow HB.out) rfl i hlt
      obtain ⟨pb, po, rfl, hpb, m3⟩ := rd1 (HPr.out.grow HB.out) i (by omega)
      have hpi : i < P.length := by omega
      have hmbl : mb < wr.heap.size := by omega
      have hpbl : pb < wr.heap.size := by omega
      have HMi := Lib.hid (HMv.out M[i] (List.getElem_mem hlt))
      have HRc := Lib.hid (show replY T (M.drop i) (P.drop i) s = if 0 ≤ P[i] ∧ P[i] < (T.length : Int) then
          match actY T M[i] (P[i]).toNat s with
          | none => none
          | some (u, s') => (replY T (M.drop (i + 1)) (P.drop (i + 1)) s').map fun l => u.num :: l
        else none by rw [List.drop_eq_getElem_cons hlt, List.drop_eq_getElem_cons hpi, replY_cons])
      have HPe := Lib.hid (show ∃ x, x = P[i] from ⟨_, rfl⟩)
      generalize P[i] = x at *
      clear HPe
      by_cases hx : 0 ≤ x ∧ x < (T.length : Int)
      case neg =>
        have hrc := HRc.out
        rw [if_neg hx] at hrc
        have hn : replY T M P (begY T) = none := by rw [HRp.out, hrc]; rfl
        have hF := HYn.out hn
        clear hrc hn
        by_cases hx0 : x < 0
        · go_wp2_with fail
          go_ret2
          unfold RpOut
          rw [hF]
          exact ⟨none, 0, rfl, by have hbb := HB.out; exact (by repeat (first | exact Below.refl _ _ | (with_reducible refine Below.drew ?_) | (with_reducible refine below_drewN ?_ _) | (with_reducible refine Below.alloc ?_ (by first | omega | (simp; done) | (simp; omega)) _) | (with_reducible refine Below.setCell ?_ (by first | omega | (simp; done) | (simp; omega)) _) | (refine Below.trans ?_ (Below.mono (by with_reducible assumption) (by first | omega | (simp; done) | (simp; omega)))))), World.ownsRow_nil _ _ _ _⟩
        · have hx1 : (T.length : Int) ≤ x := by omega
          go_wp2_with fail
          go_ret2
          unfold RpOut
          rw [hF]
          exact ⟨none, 0, rfl, by have hbb := HB.out; exact (by repeat (first | exact Below.refl _ _ | (with_reducible refine Below.drew ?_) | (with_reducible refine below_drewN ?_ _) | (with_reducible refine Below.alloc ?_ (by first | omega | (simp; done) | (simp; omega)) _) | (with_reducible refine Below.setCell ?_ (by first | omega | (simp; done) | (simp; omega)) _) | (refine Below.trans ?_ (Below.mono (by with_reducible assumption) (by first | omega | (simp; done) | (simp; omega)))))), World.ownsRow_nil _ _ _ _⟩
      obtain ⟨t, rfl⟩ : ∃ t : Nat, x = (t : Int) := ⟨x.toNat, by omega⟩
      have hlt2 : t < T.length := by omega
      have hrc := HRc.out
      rw [if_pos hx] at hrc
      simp only [Int.toNat_natCast] at hrc
      clear hx
      go_upto_region 10 with fail
      refine world_gen (fun w4 => YMem w1.heap.size Y bO bR cF AT cT T.length s.on (freeY T s) s.nx vs4 w4 ∧ w4.ownsRow w.heap.size 3 1 (.slice (some ⟨w2.heap.size, 0, none⟩) M.length M.length) M.length ((done ++ List.replicate gk 0).map natV) ∧ Blk w4 wr.heap.size 41 #[.bool M[i].inn, .int .i64 M[i].kind, .int .i64 M[i].ln] ∧ Below w.heap.size w w4 ∧ w1.heap.size ≤ w4.heap.size ∧ w4.cell? ⟨pb, po + i, none⟩ = some (.int .i64 (t : Int)) ∧ pb < w4.heap.size ∧ ¬ DY Y bO bR vs4 wr.heap.size ∧ ¬ DY Y bO bR vs4 pb) ⟨HMr.out.grow (by repeat (first | exact Below.refl _ _ | (with_reducible refine Below.drew ?_) | (with_reducible refine below_drewN ?_ _) | (with_reducible refine Below.alloc ?_ (by first | omega | (simp; done) | (simp; omega)) _) | (with_reducible refine Below.setCell ?_ (by first | omega | (simp; done) | (simp; omega)) _) | (refine Below.trans ?_ (Below.mono (by with_reducible assumption) (by first | omega | (simp; done) | (simp; omega)))))), own_grow HO.out (by repeat (first | exact Below.refl _ _ | (with_reducible refine Below.drew ?_) | (with_reducible refine below_drewN ?_ _) | (with_reducible refine Below.alloc ?_ (by first | omega | (simp; done) | (simp; omega)) _) | (with_reducible refine Below.setCell ?_ (by first | omega | (simp; done) | (simp; omega)) _) | (refine Below.trans ?_ (Below.mono (by with_reducible assumption) (by first | omega | (simp; done) | (simp; omega)))))), Blk.new wr _ _, by have hbb := HB.out; exact (by repeat (first | exact Below.refl _ _ | (with_reducible refine Below.drew ?_) | (with_reducible refine below_drewN ?_ _) | (with_reducible refine Below.alloc ?_ (by first | omega | (simp; done) | (simp; omega)) _) | (with_reducible refine Below.setCell ?_ (by first | omega | (simp; done) | (simp; omega)) _) | (refine Below.trans ?_ (Below.mono (by with_reducible assumption) (by first | omega | (simp; done) | (simp; omega)))))), by simp; omega, cell_bel (by repeat (first | exact Below.refl _ _ | (with_reducible refine Below.drew ?_) | (with_reducible refine below_drewN ?_ _) | (with_reducible refine Below.alloc ?_ (by first | omega | (simp; done) | (simp; omega)) _) | (with_reducible refine Below.setCell ?_ (by first | omega | (simp; done) | (simp; omega)) _) | (refine Below.trans ?_ (Below.mono (by with_reducible assumption) (by first | omega | (simp; done) | (simp; omega)))))) m3, by simp; omega, fun h => Nat.lt_irrefl _ (HMr.out.D_base h).2, fun h => by have := (HMr.out.D_base h).1; omega⟩ ?_
      generalize wr.heap.size = bm at *
      rintro w4 ⟨hm4, ho4, hbm4, hb4, hs44, m3, hpb4, hmd, hpd⟩
      have HM4 := Lib.hid hm4
      have HO4 := Lib.hid ho4
      have HBm := Lib.hid hbm4
      have HB4 := Lib.hid hb4
      have HMD := Lib.hid hmd
      have HPD := Lib.hid hpd
      have m0 := hbm4.cell 0
      have m1 := hbm4.cell 1
      have m2 := hbm4.cell 2
      have hbml := hbm4.lt
      simp at m0 m1 m2
      clear hm4 ho4 hbm4 hb4 hmd hpd HMr HO HB
      cases hact : actY T M[i] t s with
      | none =>
        rw [hact] at hrc
        have hn : replY T M P (begY T) = none := by rw [HRp.out, HRc.out, if_pos (by omega)]; simp only [Int.toNat_natCast, hact]; rfl
        have HF := Lib.hid (HYn.out hn)
        clear hrc hn
        go_region_held3 (fun w' => w'.cell? ⟨bm, 0, none⟩ = some (.bool M[i].inn) ∧ w'.cell? ⟨bm, 1, none⟩ = some (.int .i64 M[i].kind) ∧ w'.cell? ⟨bm, 2, none⟩ = some (.int .i64 M[i].ln) ∧ w'.cell? ⟨pb, po + i, none⟩ = some (.int .i64 (t : Int)))
          (first | exact ⟨k0s, k1s, k2s, k3s⟩ | exact ⟨k0, k1, k2, k3⟩ | exact ⟨cell_bel hb3a k0, cell_bel hb3a k1, cell_bel hb3a k2, cell_bel hb3a k3⟩ | exact ⟨cell_bel hb3b k0, cell_bel hb3b k1, cell_bel hb3b k2, cell_bel hb3b k3⟩ | exact ⟨cell_bel (w := w4) (by repeat (first | exact Below.refl _ _ | (with_reducible refine Below.drew ?_) | (with_reducible refine below_drewN ?_ _) | (with_reducible refine Below.alloc ?_ (by first | omega | (simp; done) | (simp; omega)) _) | (with_reducible refine Below.setCell ?_ (by first | omega | (simp; done) | (simp; omega)) _) | (refine Below.trans ?_ (Below.mono (by with_reducible assumption) (by first | omega | (simp; done) | (simp; omega)))))) m0, cell_bel (w := w4) (by repeat (first | exact Below.refl _ _ | (with_reducible refine Below.drew ?_) | (with_reducible refine below_drewN ?_ _) | (with_reducible refine Below.alloc ?_ (by first | omega | (simp; done) | (simp; omega)) _) | (with_reducible refine Below.setCell ?_ (by first | omega | (simp; done) | (simp; omega)) _) | (refine Below.trans ?_ (Below.mono (by with_reducible assumption) (by first | omega | (simp; done) | (simp; omega)))))) m1, cell_bel (w := w4) (by repeat (first | exact Below.refl _ _ | (with_reducible refine Below.drew ?_) | (with_reducible refine below_drewN ?_ _) | (with_reducible refine Below.alloc ?_ (by first | omega | (simp; done) | (simp; omega)) _) | (with_reducible refine Below.setCell ?_ (by first | omega | (simp; done) | (simp; omega)) _) | (refine Below.trans ?_ (Below.mono (by with_reducible assumption) (by first | omega | (simp; done) | (simp; omega)))))) m2, cell_bel (w := w4) (by repeat (first | exact Below.refl _ _ | (with_reducible refine Below.drew ?_) | (with_reducible refine below_drewN ?_ _) | (with_reducible refine Below.alloc ?_ (by first | omega | (simp; done) | (simp; omega)) _) | (with_reducible refine Below.setCell ?_ (by first | omega | (simp; done) | (simp; omega)) _) | (refine Below.trans ?_ (Below.mono (by with_reducible assumption) (by first | omega | (simp; done) | (simp; omega)))))) m3⟩ | go_keep)
          (first | (go_at_call 29; have hb2 : Below w4.heap.size w4 ((w4.alloc (.cells #[.int .i64 0, .int .i64 0, .int .i64 0] 57)).drew) := (by repeat (first | exact Below.refl _ _ | (with_reducible refine Below.drew ?_) | (with_reducible refine below_drewN ?_ _) | (with_reducible refine Below.alloc ?_ (by first | omega | (simp; done) | (simp; omega)) _) | (with_reducible refine Below.setCell ?_ (by first | omega | (simp; done) | (simp; omega)) _) | (refine Below.trans ?_ (Below.mono (by with_reducible assumption) (by first | omega | (simp; done) | (simp; omega)))))); refine (do_any w1.heap.size Y bO bR cF cT i t AT T M[i] s vs4 ((w4.alloc (.cells #[.int .i64 0, .int .i64 0, .int .i64 0] 57)).drew) (HM4.out.grow hb2) HOk.out (by omega) ((HT.out.r.grow (HB4.out.trans (hb2.mono HB4.out.size))).more hs1) (by omega) HTk.out hlt2 HMi.out (Nat.le_trans hs44 hb2.size)).mono ?_; intro e w5 ho; rw [hact] at ho; obtain ⟨rfl, hd⟩ := ho; have hb5 := hb2.trans (hd.mono hb2.size); have HB5 := Lib.hid (HB4.out.trans (hb5.mono HB4.out.size)); have hbm := HBm.out.bel hb5; have k0 := cell_bel hb5 m0; have k1 := cell_bel hb5 m1; have k2 := cell_bel hb5 m2; have k3 := cell_bel hb5 m3; have hz := ((Blk.new w4 57 #[.int .i64 0, .int .i64 0, .int .i64 0]).dr).bel (w' := w5) hd; have hbs := ((hbm.far (b := w4.heap.size) (o := 0) (u := .int .i64 0) (by omega)).far (b := w4.heap.size) (o := 1) (u := .int .i64 0) (by omega)).far (b := w4.heap.size) (o := 2) (u := .int .i64 0) (by omega); have k0s := hbs.cell 0; have k1s := hbs.cell 1; have k2s := hbs.cell 2; have k3s := ((bel_far3 (U := w4.heap.size) (Below.refl w4.heap.size w5) (.int .i64 0) (.int .i64 0) (.int .i64 0) (Nat.le_refl _)).cell (p := ⟨pb, po + i, none⟩) hpb4).trans k3; have HZs := Lib.hid (((hz.set_ 0 (.int .i64 0)).set_ 1 (.int .i64 0)).set_ 2 (.int .i64 0)); have z0 := hz.cell 0; have z1 := hz.cell 1; have z2 := hz.cell 2; have f0 := hz.frozen 0; have f1 := hz.frozen 1; have f2 := hz.frozen 2; have hzl := hz.lt; simp only [List.getElem?_toArray, List.getElem?_cons_succ, List.getElem?_cons_zero] at k0s k1s k2s z0 z1 z2) | (go_at_call 29; have hb2 : Below w4.heap.size w4 (w4.drew) := (by repeat (first | exact Below.refl _ _ | (with_reducible refine Below.drew ?_) | (with_reducible refine below_drewN ?_ _) | (with_reducible refine Below.alloc ?_ (by first | omega | (simp; done) | (simp; omega)) _) | (with_reducible refine Below.setCell ?_ (by first | omega | (simp; done) | (simp; omega)) _) | (refine Below.trans ?_ (Below.mono (by with_reducible assumption) (by first | omega | (simp; done) | (simp; omega)))))); refine (do_any w1.heap.size Y bO bR cF cT i t AT T M[i] s vs4 (w4.drew) (HM4.out.grow hb2) HOk.out (by omega) ((HT.out.r.grow (HB4.out.trans (hb2.mono HB4.out.size))).more hs1) (by omega) HTk.out hlt2 HMi.out (Nat.le_trans hs44 hb2.size)).mono ?_; intro e w5 ho; rw [hact] at ho; obtain ⟨rfl, hd⟩ := ho; have hb5 := hb2.trans (hd.mono hb2.size); have HB5 := Lib.hid (HB4.out.trans (hb5.mono HB4.out.size)); have hbm := HBm.out.bel hb5; have k0 := cell_bel hb5 m0; have k1 := cell_bel hb5 m1; have k2 := cell_bel hb5 m2; have k3 := cell_bel hb5 m3; have hb3a : Below w5.heap.size w5 (w5.alloc (.cells #[.int .i64 0, .int .i64 0, .int .i64 0] 57)) := (by repeat (first | exact Below.refl _ _ | (with_reducible refine Below.drew ?_) | (with_reducible refine below_drewN ?_ _) | (with_reducible refine Below.alloc ?_ (by first | omega | (simp; done) | (simp; omega)) _) | (with_reducible refine Below.setCell ?_ (by first | omega | (simp; done) | (simp; omega)) _) | (refine Below.trans ?_ (Below.mono (by with_reducible assumption) (by first | omega | (simp; done) | (simp; omega)))))); have hb3b : Below w5.heap.size w5 (w5.alloc (.cells #[.int .i64 0, .int .i64 0, .int .i64 0] 57)) := (by repeat (first | exact Below.refl _ _ | (with_reducible refine Below.drew ?_) | (with_reducible refine below_drewN ?_ _) | (with_reducible refine Below.alloc ?_ (by first | omega | (simp; done) | (simp; omega)) _) | (with_reducible refine Below.setCell ?_ (by first | omega | (simp; done) | (simp; omega)) _) | (refine Below.trans ?_ (Below.mono (by with_reducible assumption) (by first | omega | (simp; done) | (simp; omega))))))))
        all_goals
          go_wp2_with fail
          go_ret2
          unfold RpOut
          rw [HF.out]
          exact ⟨none, 0, rfl, by have hbb := HB5.out; have hbz := HB4.out.size; have hbz5 := hbb.size; exact (by repeat (first | exact Below.refl _ _ | (with_reducible refine Below.drew ?_) | (with_reducible refine below_drewN ?_ _) | (with_reducible refine Below.alloc ?_ (by first | omega | (simp; done) | (simp; omega)) _) | (with_reducible refine Below.setCell ?_ (by first | omega | (simp; done) | (simp; omega)) _) | (refine Below.trans ?_ (Below.mono (by with_reducible assumption) (by first | omega | (simp; done) | (simp; omega)))))), World.ownsRow_nil _ _ _ _⟩
      | some p =>
        obtain ⟨u, s'⟩ := p
        rw [hact] at hrc
        have HRc2 := Lib.hid hrc
        clear hrc HRc
        go_region_held3 (fun w' => w'.cell? ⟨bm, 0, none⟩ = some (.bool M[i].inn) ∧ w'.cell? ⟨bm, 1, none⟩ = some (.int .i64 M[i].kind) ∧ w'.cell? ⟨bm, 2, none⟩ = some (.int .i64 M[i].ln) ∧ w'.cell? ⟨pb, po + i, none⟩ = some (.int .i64 (t : Int)))
          (first | exact ⟨k0s, k1s, k2s, k3s⟩ | exact ⟨k0, k1, k2, k3⟩ | exact ⟨cell_bel hb3a k0, cell_bel hb3a k1, cell_bel hb3a k2, cell_bel hb3a k3⟩ | exact ⟨cell_bel hb3b k0, cell_bel hb3b k1, cell_bel hb3b k2, cell_bel hb3b k3⟩ | exact ⟨cell_bel (w := w4) (by repeat (first | exact Below.refl _ _ | (with_reducible refine Below.drew ?_) | (with_reducible refine below_drewN ?_ _) | (with_reducible refine Below.alloc ?_ (by first | omega | (simp; done) | (simp; omega)) _) | (with_reducible refine Below.setCell ?_ (by first | omega | (simp; done) | (simp; omega)) _) | (refine Below.trans ?_ (Below.mono (by with_reducible assumption) (by first | omega | (simp; done) | (simp; omega)))))) m0, cell_bel (w := w4) (by repeat (first | exact Below.refl _ _ | (with_reducible refine Below.drew ?_) | (with_reducible refine below_drewN ?_ _) | (with_reducible refine Below.alloc ?_ (by first | omega | (simp; done) | (simp; omega)) _) | (with_reducible refine Below.setCell ?_ (by first | omega | (simp; done) | (simp; omega)) _) | (refine Below.trans ?_ (Below.mono (by with_reducible assumption) (by first | omega | (simp; done) | (simp; omega)))))) m1, cell_bel (w := w4) (by repeat (first | exact Below.refl _ _ | (with_reducible refine Below.drew ?_) | (with_reducible refine below_drewN ?_ _) | (with_reducible refine Below.alloc ?_ (by first | omega | (simp; done) | (simp; omega)) _) | (with_reducible refine Below.setCell ?_ (by first | omega | (simp; done) | (simp; omega)) _) | (refine Below.trans ?_ (Below.mono (by with_reducible assumption) (by first | omega | (simp; done) | (simp; omega)))))) m2, cell_bel (w := w4) (by repeat (first | exact Below.refl _ _ | (with_reducible refine Below.drew ?_) | (with_reducible refine below_drewN ?_ _) | (with_reducible refine Below.alloc ?_ (by first | omega | (simp; done) | (simp; omega)) _) | (with_reducible refine Below.setCell ?_ (by first | omega | (simp; done) | (simp; omega)) _) | (refine Below.trans ?_ (Below.mono (by with_reducible assumption) (by first | omega | (simp; done) | (simp; omega)))))) m3⟩ | go_keep)
          (first | (go_at_call 29; have hb2 : Below w4.heap.size w4 ((w4.alloc (.cells #[.int .i64 0, .int .i64 0, .int .i64 0] 57)).drew) := (by repeat (first | exact Below.refl _ _ | (with_reducible refine Below.drew ?_) | (with_reducible refine below_drewN ?_ _) | (with_reducible refine Below.alloc ?_ (by first | omega | (simp; done) | (simp; omega)) _) | (with_reducible refine Below.setCell ?_ (by first | omega | (simp; done) | (simp; omega)) _) | (refine Below.trans ?_ (Below.mono (by with_reducible assumption) (by first | omega | (simp; done) | (simp; omega)))))); refine (do_any w1.heap.size Y bO bR cF cT i t AT T M[i] s vs4 ((w4.alloc (.cells #[.int .i64 0, .int .i64 0, .int .i64 0] 57)).drew) (HM4.out.grow hb2) HOk.out (by omega) ((HT.out.r.grow (HB4.out.trans (hb2.mono HB4.out.size))).more hs1) (by omega) HTk.out hlt2 HMi.out (Nat.le_trans hs44 hb2.size)).mono ?_; intro e w5 ho; rw [hact] at ho; obtain ⟨vs5, rfl, hy⟩ := ho; simp only [unV]; have hkk : ∀ k, k < w4.heap.size → ¬ DY Y bO bR vs4 k → w5.heap[k]? = w4.heap[k]? := fun k hk hd => (hy.f.keep k (Nat.lt_of_lt_of_le hk hb2.size) hd).trans (hb2.block k hk); have HB5 := Lib.hid (HB4.out.trans ((hb2.mono HB4.out.size).trans (hy.f.bel.mono hs1))); have hbm := HBm.out.same (hkk bm HBm.out.lt HMD.out); have k0 := hbm.cell 0; have k1 := hbm.cell 1; have k2 := hbm.cell 2; have k3 := (World.cell?_of_block (hkk pb hpb4 HPD.out)).trans m3; simp only [List.getElem?_toArray, List.getElem?_cons_succ, List.getElem?_cons_zero] at k0 k1 k2; have HM5 := Lib.hid hy.m; have HO5 := Lib.hid (own_keep HO4.out (fun k e => hkk k (own_block HO4.out k e).2 (by injection e with e; rw [← e]; exact HND.out))); have HND5 := Lib.hid (show ¬ DY Y bO bR vs5 w2.heap.size from fun h => HND.out (hy.f.back w2.heap.size (Nat.lt_of_lt_of_le (own_block HO4.out _ rfl).2 hb2.size) h)); have hs55 := Nat.le_trans (Nat.le_trans hs44 hb2.size) hy.f.bel.size; have hz := ((Blk.new w4 57 #[.int .i64 0, .int .i64 0, .int .i64 0]).dr).same (hy.f.keep w4.heap.size (by simp) (fun h => Nat.lt_irrefl _ (HM4.out.D_base h).2)); have hnd : ¬ DY Y bO bR vs5 w4.heap.size := fun h => Nat.lt_irrefl _ (HM4.out.D_base (hy.f.back w4.heap.size (by simp) h)).2; have hbs := ((hbm.far (b := w4.heap.size) (o := 0) (u := .int .i64 u.num) (by omega)).far (b := w4.heap.size) (o := 1) (u := .int .i64 u.kind) (by omega)).far (b := w4.heap.size) (o := 2) (u := .int .i64 u.ln) (by omega); have k0s := hbs.cell 0; have k1s := hbs.cell 1; have k2s := hbs.cell 2; have k3s := ((bel_far3 (U := w4.heap.size) (Below.refl w4.heap.size w5) (.int .i64 u.num) (.int .i64 u.kind) (.int .i64 u.ln) (Nat.le_refl _)).cell (p := ⟨pb, po + i, none⟩) hpb4).trans k3; have HZs := Lib.hid (((hz.set_ 0 (.int .i64 u.num)).set_ 1 (.int .i64 u.kind)).set_ 2 (.int .i64 u.ln)); have z0 := hz.cell 0; have z1 := hz.cell 1; have z2 := hz.cell 2; have f0 := hz.frozen 0; have f1 := hz.frozen 1; have f2 := hz.frozen 2; have hzl := hz.lt; simp only [List.getElem?_toArray, List.getElem?_cons_succ, List.getElem?_cons_zero] at k0s k1s k2s z0 z1 z2) | (go_at_call 29; have hb2 : Below w4.heap.size w4 (w4.drew) := (by repeat (first | exact Below.refl _ _ | (with_reducible refine Below.drew ?_) | (with_reducible refine below_drewN ?_ _) | (with_reducible refine Below.alloc ?_ (by first | omega | (simp; done) | (simp; omega)) _) | (with_reducible refine Below.setCell ?_ (by first | omega | (simp; done) | (simp; omega)) _) | (refine Below.trans ?_ (Below.mono (by with_reducible assumption) (by first | omega | (simp; done) | (simp; omega)))))); refine (do_any w1.heap.size Y bO bR cF cT i t AT T M[i] s vs4 (w4.drew) (HM4.out.grow hb2) HOk.out (by omega) ((HT.out.r.grow (HB4.out.trans (hb2.mono HB4.out.size))).more hs1) (by omega) HTk.out hlt2 HMi.out (Nat.le_trans hs44 hb2.size)).mono ?_; intro e w5 ho; rw [hact] at ho; obtain ⟨vs5, rfl, hy⟩ := ho; simp only [unV]; have hkk : ∀ k, k < w4.heap.size → ¬ DY Y bO bR vs4 k → w5.heap[k]? = w4.heap[k]? := fun k hk hd => (hy.f.keep k (Nat.lt_of_lt_of_le hk hb2.size) hd).trans (hb2.block k hk); have HB5 := Lib.hid (HB4.out.trans ((hb2.mono HB4.out.size).trans (hy.f.bel.mono hs1))); have hbm := HBm.out.same (hkk bm HBm.out.lt HMD.out); have k0 := hbm.cell 0; have k1 := hbm.cell 1; have k2 := hbm.cell 2; have k3 := (World.cell?_of_block (hkk pb hpb4 HPD.out)).trans m3; simp only [List.getElem?_toArray, List.getElem?_cons_succ, List.getElem?_cons_zero] at k0 k1 k2; have HM5 := Lib.hid hy.m; have HO5 := Lib.hid (own_keep HO4.out (fun k e => hkk k (own_block HO4.out k e).2 (by injection e with e; rw [← e]; exact HND.out))); have HND5 := Lib.hid (show ¬ DY Y bO bR vs5 w2.heap.size from fun h => HND.out (hy.f.back w2.heap.size (Nat.lt_of_lt_of_le (own_block HO4.out _ rfl).2 hb2.size) h)); have hs55 := Nat.le_trans (Nat.le_trans hs44 hb2.size) hy.f.bel.size; have hb3a : Below w5.heap.size w5 (w5.alloc (.cells #[.int .i64 0, .int .i64 0, .int .i64 0] 57)) := (by repeat (first | exact Below.refl _ _ | (with_reducible refine Below.drew ?_) | (with_reducible refine below_drewN ?_ _) | (with_reducible refine Below.alloc ?_ (by first | omega | (simp; done) | (simp; omega)) _) | (with_reducible refine Below.setCell ?_ (by first | omega | (simp; done) | (simp; omega)) _) | (refine Below.trans ?_ (Below.mono (by with_reducible assumption) (by first | omega | (simp; done) | (simp; omega)))))); have hb3b : Below w5.heap.size w5 (w5.alloc (.cells #[.int .i64 u.num, .int .i64 u.kind, .int .i64 u.ln] 57)) := (by repeat (first | exact Below.refl _ _ | (with_reducible refine Below.drew ?_) | (with_reducible refine below_drewN ?_ _) | (with_reducible refine Below.alloc ?_ (by first | omega | (simp; done) | (simp; omega)) _) | (with_reducible refine Below.setCell ?_ (by first | omega | (simp; done) | (simp; omega)) _) | (refine Below.trans ?_ (Below.mono (by with_reducible assumption) (by first | omega | (simp; done) | (simp; omega))))))))
        · skip
          go_upto_region 13 with fail
          refine world_gen (fun w6 => YMem w1.heap.size Y bO bR cF AT cT T.length s'.on (freeY T s') s'.nx vs5 w6 ∧ w6.ownsRow w.heap.size 3 1 (.slice (some ⟨w2.heap.size, 0, none⟩) M.length M.length) M.length ((done ++ List.replicate gk 0).map natV) ∧ Blk w6 (w5.heap.size) 57 #[.int .i64 u.num, .int .i64 u.kind, .int .i64 u.ln] ∧ Below w.heap.size w w6 ∧ w1.heap.size ≤ w6.heap.size) ⟨HM5.out.grow hb3b, own_grow HO5.out hb3b, Blk.new w5 _ _, HB5.out.trans (hb3b.mono HB5.out.size), Nat.le_trans hs55 hb3b.size⟩ ?_
          clear m0 m1 m2 m3 hbml HM4 HO4 HBm HMD HPD hb3a hb3b k0 k1 k2 k3 hbm HM5 HO5 HB5
          rintro w6 ⟨hm6, ho6, hu6, hb6, hs66⟩
          have HM6 := Lib.hid hm6
          have HO6 := Lib.hid ho6
          have HU6 := Lib.hid hu6
          have HB6 := Lib.hid hb6
          clear hm6 ho6 hu6 hb6
          generalize w5.heap.size = U at *
          have hdr : i < (done ++ List.replicate gk 0).length := by have := HDn.out; have := Hi.out; simp; omega
          have u0 := HU6.out.cell 0
          have g0 := own1 HO6.out i hdr
          have gf := own_frozen HO6.out i
          have hgl := (own_block HO6.out _ rfl).2
          have hul := HU6.out.lt
          have HO7 := Lib.hid (own1_set HO6.out i u.num)
          have hset : (done ++ List.replicate gk 0).set i u.num = (done ++ [u.num]) ++ List.replicate K 0 := by
            have hgk : gk = K + 1 := by have := Hi.out; have := HK.out; omega
            have hd := HDn.out
            rw [hgk, List.replicate_succ, List.set_append_right _ _ (by omega), hd, Nat.sub_self]
            simp
          rw [hset] at HO7
          clear hset
          have HM7 := Lib.hid (HM6.out.far (b := w2.heap.size) (o := i) (u := natV u.num) HND5.out)
          have HB7 := Lib.hid (HB6.out.setCell (show w.heap.size ≤ (⟨w2.heap.size, i, none⟩ : Addr).block by simp only; omega) (natV u.num))
          have hs77 : w1.heap.size ≤ (w6.setCell ⟨w2.heap.size, i, none⟩ (natV u.num)).heap.size := by simpa using hs66
          have HRp7 := Lib.hid (show replY T M P (begY T) = (replY T (M.drop (i + 1)) (P.drop (i + 1)) s').map fun l => (done ++ [u.num]) ++ l by
            rw [HRp.out, HRc2.out]
            simp only [Option.map_map]
            congr 1
            funext l
            simp)
          have HOk7 := Lib.hid (actY_ok HOk.out hlt2 HMi.out hact)
          unfold natV at HM7 HB7 hs77
          simp only [natV] at g0 HO7
          simp at u0
          clear HM6 HO6 HU6 HB6 hs66 HRp HRc2 hact
          go_wp2_with fail
          go_roundg K
          case measure => have := Hi.out; have := HK.out; omega
          case rel => exact ⟨i + 1, s', done ++ [u.num], vs5, by first | rfl | go_num, by have := HK.out; omega, by have := HDn.out; simp; omega, HOk7.out, HM7.out, by simpa [natV] using HO7.out, HND5.out, HB7.out, hs77, HRp7.out⟩
        · have hwz : w.heap.size ≤ w4.heap.size := HB4.out.size
          have hGz : w2.heap.size ≠ w4.heap.size := fun e => by have := (own_block HO4.out w2.heap.size rfl).2; omega
          go_upto_region 13 with fail
          refine world_gen (fun w6 => YMem w1.heap.size Y bO bR cF AT cT T.length s'.on (freeY T s') s'.nx vs5 w6 ∧ w6.ownsRow w.heap.size 3 1 (.slice (some ⟨w2.heap.size, 0, none⟩) M.length M.length) M.length ((done ++ List.replicate gk 0).map natV) ∧ Blk w6 (w4.heap.size) 57 #[.int .i64 u.num, .int .i64 u.kind, .int .i64 u.ln] ∧ Below w.heap.size w w6 ∧ w1.heap.size ≤ w6.heap.size) ⟨((HM5.out.far hnd).far hnd).far hnd, own_far (own_far (own_far HO5.out (by simpa [Value.ownBlock] using hGz)) (by simpa [Value.ownBlock] using hGz)) (by simpa [Value.ownBlock] using hGz), by simpa using HZs.out, bel_far3 HB5.out _ _ _ hwz, by simpa using hs55⟩ ?_
          clear m0 m1 m2 m3 hbml HM4 HO4 HBm HMD HPD HZs k0 k1 k2 k3 k0s k1s k2s k3s hbm HM5 HO5 HB5 z0 z1 z2 f0 f1 f2 hzl hwz hGz
          rintro w6 ⟨hm6, ho6, hu6, hb6, hs66⟩
          have HM6 := Lib.hid hm6
          have HO6 := Lib.hid ho6
          have HU6 := Lib.hid hu6
          have HB6 := Lib.hid hb6
          clear hm6 ho6 hu6 hb6
          generalize w4.heap.size = U at *
          have hdr : i < (done ++ List.replicate gk 0).length := by have := HDn.out; have := Hi.out; simp; omega
          have u0 := HU6.out.cell 0
          have g0 := own1 HO6.out i hdr
          have gf := own_frozen HO6.out i
          have hgl := (own_block HO6.out _ rfl).2
          have hul := HU6.out.lt
          have HO7 := Lib.hid (own1_set HO6.out i u.num)
          have hset : (done ++ List.replicate gk 0).set i u.num = (done ++ [u.num]) ++ List.replicate K 0 := by
            have hgk : gk = K + 1 := by have := Hi.out; have := HK.out; omega
            have hd := HDn.out
            rw [hgk, List.replicate_succ, List.set_append_right _ _ (by omega), hd, Nat.sub_self]
            simp
          rw [hset] at HO7
          clear hset
          have HM7 := Lib.hid (HM6.out.far (b := w2.heap.size) (o := i) (u := natV u.num) HND5.out)
          have HB7 := Lib.hid (HB6.out.setCell (show w.heap.size ≤ (⟨w2.heap.size, i, none⟩ : Addr).block by simp only; omega) (natV u.num))
          have hs77 : w1.heap.size ≤ (w6.setCell ⟨w2.heap.size, i, none⟩ (natV u.num)).heap.size := by simpa using hs66
          have HRp7 := Lib.hid (show replY T M P (begY T) = (replY T (M.drop (i + 1)) (P.drop (i + 1)) s').map fun l => (done ++ [u.num]) ++ l by
            rw [HRp.out, HRc2.out]
            simp only [Option.map_map]
            congr 1
            funext l
            simp)
          have HOk7 := Lib.hid (actY_ok HOk.out hlt2 HMi.out hact)
          unfold natV at HM7 HB7 hs77
          simp only [natV] at g0 HO7
          simp at u0
          clear HM6 HO6 HU6 HB6 hs66 HRp HRc2 hact
          go_wp2_with fail
          go_roundg K
          case measure => have := Hi.out; have := HK.out; omega
          case rel => exact ⟨i + 1, s', done ++ [u.num], vs5, by first | rfl | go_num, by have := HK.out; omega, by have := HDn.out; simp; omega, HOk7.out, HM7.out, by simpa [natV] using HO7.out, HND5.out, HB7.out, hs77, HRp7.out⟩
    · obtain rfl : i = M.length := by have := Hi.out; omega
      have hg0 : gk = 0 := by have := Hi.out; omega
      have hd := HDn.out
      have hrp := HRp.out
      rw [List.drop_length] at hrp
      have hres := HYs.out done (by rw [hrp]; simp [replY])
      have ho := HO.out
      rw [hg0] at ho
      have HO2 := Lib.hid ho
      have HRes := Lib.hid hres
      clear ho hrp hg0 hres
      go_wp2_with fail
      go_ret2
      unfold RpOut
      rw [HRes.out]
      refine ⟨some ⟨w2.heap.size, 0, none⟩, M.length, ?_, HB.out, ?_⟩
      · simp only [hd]; rfl
      · simpa [hd] using HO2.out
end Go.Proofs.Ytffgnfefejimnaa
