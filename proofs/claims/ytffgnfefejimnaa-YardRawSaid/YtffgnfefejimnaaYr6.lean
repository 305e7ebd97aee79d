import Derived.Test.YtffgnfefejimnaaYr5
namespace Go.Proofs.Ytffgnfefejimnaa
open Go.RowKit
theorem SM.trd {base S : Nat} {AT AM : Option Addr} {cM : Nat} {T : List Tk} {M : List Mv} {b used : Nat} {pl : List Nat} {vP : Value} {w : World} (h : SM base S AT AM cM T M b used pl vP w) (h8 : T.length ≤ 8) : TRd w AT T := ⟨h.hT.more h.hb, by omega⟩
/-- what the reference's search leaves -/
def SrO (base S : Nat) (AT AM : Option Addr) (cM : Nat) (T : List Tk) (M : List Mv) (b : Nat) (r : Rs) (pl : List Nat) (vP : Value) (w : World) (e : Ending) (w' : World) : Prop :=
  e = .returned (.bool (decide (r.c = 0))) ∧ ∃ vP', SM base S AT AM cM T M b (if r.c = 15 then b + 1 else r.used) (if r.c = 0 then pl ++ r.plan else pl) vP' w' ∧ FrY base (DS S vP) (DS S vP') w w'
def SrQ (w : World) (base S : Nat) (AT AM AO AU : Option Addr) (cT cM cO cU : Nat) (T : List Tk) (M : List Mv) (b : Nat) (us : List Mv) (s : Yst) (m : Mv) (f : Yst → Nat → Rs) (used : Nat) (pl : List Nat) (vP : Value) (vs : List Value) (k : Nat) (v : Value) (wr : World) : Prop :=
  ∃ (j used1 : Nat) (vP1 : Value), v = .int .i64 j ∧ j + k = T.length ∧ used1 ≤ b ∧ SM base S AT AM cM T M b used1 pl vP1 wr ∧ FrY base (DS S vP) (DS S vP1) w wr ∧ RfN (DS S vP1) AO AU cU T us s vs wr ∧
    Blk wr w.heap.size 67 #[.slice AT T.length cT, .slice AO T.length cO, .slice AU us.length cU] ∧ ¬ DS S vP1 w.heap.size ∧ triesY T b m s f T.length used = triesY T b m s f k used1
set_option maxRecDepth 100000 in
set_option maxHeartbeats 6400000 in
theorem rsearch_any (base S : Nat) (AT AM : Option Addr) (cT cM : Nat) (T : List Tk) (M : List Mv) (b : Nat) (h1 : 1 ≤ T.length) (h8 : T.length ≤ 8) (h24 : M.length ≤ 24) (hb : b ≤ 1048576) (hTk : ∀ k ∈ T, tkOk k = true) (hMv : ∀ m ∈ M, mvOk m = true) :
    ∀ (n i : Nat) (us : List Mv) (s : Yst) (used : Nat) (pl : List Nat) (vP : Value) (AO AU : Option Addr) (cO cU : Nat) (vs : List Value) (w : World), i + n = M.length → used ≤ b → YOk T i s → RefOk us s → pl.length = i → SM base S AT AM cM T M b used pl vP w → RfN (DS S vP) AO AU cU T us s vs w →
    Calls Try.prog 31 #[.pointer (some ⟨S, 0, none⟩), rfV AT AO AU cT cO cU T.length us.length, .int .i64 i] w (SrO base S AT AM cM T M b (srchY T b (M.drop i) s used) pl vP w) := by
  have HTk := Lib.hid hTk
  have HMv := Lib.hid hMv
  obtain ⟨i0, b1, b2, b3, b4⟩ := info_parts infoInt
  have HI := Lib.hid (And.intro b1 (And.intro b2 (And.intro b3 b4)))
  clear b1 b2 b3 b4 hTk hMv
  intro n
  induction n with
  | zero =>
    intro i us s used pl vP AO AU cO cU vs w hn hu hok href hpl hc hr
    obtain rfl : i = M.length := by omega
    have HC := Lib.hid hc
    have HPl := Lib.hid hpl
    have heq : ((M.length : Int) == (M.length : Int)) = true := by simp
    unfold rfV
    clear hr hok href hc hpl
    go_enter Try.func31, Try.ntmps31
    go_upto_region 1 with fail
    refine world_gen (fun w0 => Below w.heap.size w w0) (by repeat (first | exact Below.refl _ _ | (with_reducible refine Below.drew ?_) | (with_reducible refine below_drewN ?_ _) | (with_reducible refine Below.alloc ?_ (by first | omega | (simp; done) | (simp; omega)) _) | (with_reducible refine Below.setCell ?_ (by first | omega | (simp; done) | (simp; omega)) _) | (refine Below.trans ?_ (Below.mono (by with_reducible assumption) (by first | omega | (simp; done) | (simp; omega)))))) ?_
    rintro w0 hb0
    have HB0 := Lib.hid hb0
    have q0 := (HC.out.grow hb0).s.cell 0
    simp only [List.getElem?_toArray, List.getElem?_cons_zero] at q0
    clear hb0
    go_wp2_with fail
    go_ret
    rw [List.drop_length]
    exact ⟨rfl, vP, by simpa [srchY] using HC.out.grow HB0.out, FrY.grow HB0.out HC.out.hb⟩
  | succ n ih =>
    intro i us s used pl vP AO AU cO cU vs w hn hu hok href hpl hc hr
    have IH := Lib.hid ih
    have HOk := Lib.hid hok
    have HRef := Lib.hid href
    have HPl := Lib.hid hpl
    have HC := Lib.hid hc
    have HR := Lib.hid hr
    have hiM : i < M.length := by omega
    have HD := Lib.hid (show M.drop i = M[i] :: M.drop (i + 1) from List.drop_eq_getElem_cons hiM)
    have HMi := Lib.hid (HMv.out M[i] (List.getElem_mem hiM))
    have hne : ((i : Int) == (M.length : Int)) = false := by simp; omega
    unfold rfV
    clear hr hok href hc hpl ih
    go_enter Try.func31, Try.ntmps31
    go_upto_region 1 with fail
    refine world_gen (fun w0 => Below w.heap.size w w0 ∧ w.heap.size < w0.heap.size ∧ Blk w0 w.heap.size 67 #[.slice AT T.length cT, .slice AO T.length cO, .slice AU us.length cU]) ⟨(by repeat (first | exact Below.refl _ _ | (with_reducible refine Below.drew ?_) | (with_reducible refine below_drewN ?_ _) | (with_reducible refine Below.alloc ?_ (by first | omega | (simp; done) | (simp; omega)) _) | (with_reducible refine Below.setCell ?_ (by first | omega | (simp; done) | (simp; omega)) _) | (refine Below.trans ?_ (Below.mono (by with_reducible assumption) (by first | omega | (simp; done) | (simp; omega)))))), by simp, Blk.new w _ _⟩ ?_
    rintro w0 ⟨hb0, hs0, hy0⟩
    have HC0 := Lib.hid (HC.out.grow hb0)
    have HF0 := Lib.hid (FrY.grow (base := base) (D := DS S vP) hb0 HC.out.hb)
    have HR0 := Lib.hid (HR.out.fr HF0.out)
    have HY0 := Lib.hid hy0
    have HN0 := Lib.hid (show ¬ DS S vP w.heap.size from fun h => Nat.lt_irrefl _ (HC.out.D_base h).2)
    have q0 := HC0.out.s.cell 0
    have y0 := hy0.cell 0
    simp only [List.getElem?_toArray, List.getElem?_cons_zero] at q0 y0
    clear hb0 hs0 hy0 HC HR
    go_wp2_with fail
    clear q0 y0
    go_loopg [21] T.length (fun k v wr => SrQ w base S AT AM AO AU cT cM cO cU T M b us s M[i] (srchY T b (M.drop (i + 1))) used pl vP vs k v wr)
    case atStart => exact ⟨0, used, vP, rfl, by omega, hu, HC0.out, HF0.out, HR0.out, HY0.out, HN0.out, rfl⟩
    case round =>
      clear HC0 HF0 HR0 HY0 HN0
      obtain ⟨j, used1, vP1, rfl, hj, hu1, hc, hf, hr, hy, hnd, htr⟩ := hrel
      have Hj := Lib.hid hj
      have HC1 := Lib.hid hc
      have HF1 := Lib.hid hf
      have HR1 := Lib.hid hr
      have HY1 := Lib.hid hy
      have HN1 := Lib.hid hnd
      clear hj hc hf hr hy hnd
      by_cases hlt : j < T.length
      · obtain ⟨K, hK⟩ : ∃ K, K = T.length - j - 1 := ⟨_, rfl⟩
        have hgk : gk = K + 1 := by have := Hj.out; omega
        have hjK : T.length - (K + 1) = j := by omega
        have htr' := htr
        rw [hgk] at htr'
        rw [triesY_succ, hjK] at htr'
        have HTr := Lib.hid htr'
        have HK := Lib.hid hK
        clear htr htr' hgk hjK hK
        have u2 := HC1.out.s.cell 2
        have fu := HC1.out.s.frozen 2
        have hsl := HC1.out.s.lt
        have hu2 : used1 ≤ 1048576 := by omega
        have hw1 : IntKind.i64.wrap ((used1 : Int) + 1) = (used1 : Int) + 1 := IntWalk.i64_in _ (by omega)
        simp only [List.getElem?_toArray, List.getElem?_cons_succ, List.getElem?_cons_zero] at u2
        go_upto_region 7 with fail
        rw [show (used1 : Int) + 1 = ((used1 + 1 : Nat) : Int) by omega]
        have HC2 := Lib.hid (HC1.out.sUsed (used1 + 1))
        have HF2' := Lib.hid (HC1.out.fUsed (used1 + 1))
        have HF2 := Lib.hid (HF1.out.trans HF2'.out)
        have HR2 := Lib.hid (HR1.out.fr HF2'.out)
        have HY2 := Lib.hid (HY1.out.far (b := S) (o := 2) (u := .int .i64 ((used1 + 1 : Nat) : Int)) (fun e => HN1.out (.inl e.symm)))
        clear u2 fu hsl hw1 HC1 HF1 HF2' HR1 HY1
        generalize wr.setCell ⟨S, 2, none⟩ (.int .i64 ((used1 + 1 : Nat) : Int)) = w2 at *
        have u1 := HC2.out.s.cell 1
        have u2 := HC2.out.s.cell 2
        simp only [List.getElem?_toArray, List.getElem?_cons_succ, List.getElem?_cons_zero] at u1 u2
        go_region_held3 (fun w' => w'.cell? ⟨S, 1, none⟩ = some (.int .i64 b) ∧ w'.cell? ⟨S, 2, none⟩ = some (.int .i64 ((used1 + 1 : Nat) : Int))) (first | exact ⟨u1, u2⟩ | go_keep) (fail)
        by_cases hub : used1 = b
        · have hb1 : decide ((b : Int) < (used1 : Int) + 1) = true := by simp; omega
          have HRs := Lib.hid (show srchY T b (M[i] :: M.drop (i + 1)) s used = ⟨15, used1, []⟩ from by
            have h := HTr.out
            rw [if_pos hub] at h
            exact h)
          have HC3 := Lib.hid (HC2.out.grow (w' := w2.drew) (by repeat (first | exact Below.refl _ _ | (with_reducible refine Below.drew ?_) | (with_reducible refine below_drewN ?_ _) | (with_reducible refine Below.alloc ?_ (by first | omega | (simp; done) | (simp; omega)) _) | (with_reducible refine Below.setCell ?_ (by first | omega | (simp; done) | (simp; omega)) _) | (refine Below.trans ?_ (Below.mono (by with_reducible assumption) (by first | omega | (simp; done) | (simp; omega)))))))
          have HF3 := Lib.hid (HF2.out.trans (FrY.grow (w' := w2.drew) (by repeat (first | exact Below.refl _ _ | (with_reducible refine Below.drew ?_) | (with_reducible refine below_drewN ?_ _) | (with_reducible refine Below.alloc ?_ (by first | omega | (simp; done) | (simp; omega)) _) | (with_reducible refine Below.setCell ?_ (by first | omega | (simp; done) | (simp; omega)) _) | (refine Below.trans ?_ (Below.mono (by with_reducible assumption) (by first | omega | (simp; done) | (simp; omega)))))) HC2.out.hb))
          clear u1 u2 HC2 HF2
          go_wp2_with fail
          go_ret
          rw [HD.out, HRs.out]
          exact ⟨rfl, vP1, by have h := HC3.out; rw [hub] at h; simpa using h, HF3.out⟩
        · have hb1 : decide ((b : Int) < (used1 : Int) + 1) = false := by simp; omega
          have htr2 := HTr.out
          rw [if_neg hub] at htr2
          have HTr2 := Lib.hid htr2
          clear htr2 HTr
          go_upto_region 9 with fail
          refine world_gen (fun w3 => SM base S AT AM cM T M b (used1 + 1) pl vP1 w3 ∧ FrY base (DS S vP) (DS S vP1) w w3 ∧ RfN (DS S vP1) AO AU cU T us s vs w3 ∧ Blk w3 w.heap.size 67 #[.slice AT T.length cT, .slice AO T.length cO, .slice AU us.length cU]) ⟨HC2.out.grow (by repeat (first | exact Below.refl _ _ | (with_reducible refine Below.drew ?_) | (with_reducible refine below_drewN ?_ _) | (with_reducible refine Below.alloc ?_ (by first | omega | (simp; done) | (simp; omega)) _) | (with_reducible refine Below.setCell ?_ (by first | omega | (simp; done) | (simp; omega)) _) | (refine Below.trans ?_ (Below.mono (by with_reducible assumption) (by first | omega | (simp; done) | (simp; omega)))))), HF2.out.trans (FrY.grow (by repeat (first | exact Below.refl _ _ | (with_reducible refine Below.drew ?_) | (with_reducible refine below_drewN ?_ _) | (with_reducible refine Below.alloc ?_ (by first | omega | (simp; done) | (simp; omega)) _) | (with_reducible refine Below.setCell ?_ (by first | omega | (simp; done) | (simp; omega)) _) | (refine Below.trans ?_ (Below.mono (by with_reducible assumption) (by first | omega | (simp; done) | (simp; omega)))))) HC2.out.hb), HR2.out.fr (FrY.grow (base := base) (by repeat (first | exact Below.refl _ _ | (with_reducible refine Below.drew ?_) | (with_reducible refine below_drewN ?_ _) | (with_reducible refine Below.alloc ?_ (by first | omega | (simp; done) | (simp; omega)) _) | (with_reducible refine Below.setCell ?_ (by first | omega | (simp; done) | (simp; omega)) _) | (refine Below.trans ?_ (Below.mono (by with_reducible assumption) (by first | omega | (simp; done) | (simp; omega)))))) HC2.out.hb), HY2.out.bel (by repeat (first | exact Below.refl _ _ | (with_reducible refine Below.drew ?_) | (with_reducible refine below_drewN ?_ _) | (with_reducible refine Below.alloc ?_ (by first | omega | (simp; done) | (simp; omega)) _) | (with_reducible refine Below.setCell ?_ (by first | omega | (simp; done) | (simp; omega)) _) | (refine Below.trans ?_ (Below.mono (by with_reducible assumption) (by first | omega | (simp; done) | (simp; omega))))))⟩ ?_
          clear u1 u2 HC2 HF2 HR2 HY2
          rintro w3 ⟨hc3, hf3, hr3, hy3⟩
          have HC3 := Lib.hid hc3
          have HF3 := Lib.hid hf3
          have HR3 := Lib.hid hr3
          have HY3 := Lib.hid hy3
          have y0 := hy3.cell 0
          have y1 := hy3.cell 1
          have y2 := hy3.cell 2
          have q0 := hc3.s.cell 0
          simp only [List.getElem?_toArray, List.getElem?_cons_succ, List.getElem?_cons_zero] at y0 y1 y2 q0
          obtain ⟨mb, mo, rfl, hmb, m0, m1, m2⟩ := rdMv HC3.out.hM rfl i hiM
          have HBA := Lib.hid (show Below w3.heap.size w3 w3.drew from (by repeat (first | exact Below.refl _ _ | (with_reducible refine Below.drew ?_) | (with_reducible refine below_drewN ?_ _) | (with_reducible refine Below.alloc ?_ (by first | omega | (simp; done) | (simp; omega)) _) | (with_reducible refine Below.setCell ?_ (by first | omega | (simp; done) | (simp; omega)) _) | (refine Below.trans ?_ (Below.mono (by with_reducible assumption) (by first | omega | (simp; done) | (simp; omega)))))))
          have HBB := Lib.hid (show Below w3.heap.size w3 ((w3.alloc (.cells #[.slice none 0 0, .slice none 0 0, .slice none 0 0] 67)).drew) from (by repeat (first | exact Below.refl _ _ | (with_reducible refine Below.drew ?_) | (with_reducible refine below_drewN ?_ _) | (with_reducible refine Below.alloc ?_ (by first | omega | (simp; done) | (simp; omega)) _) | (with_reducible refine Below.setCell ?_ (by first | omega | (simp; done) | (simp; omega)) _) | (refine Below.trans ?_ (Below.mono (by with_reducible assumption) (by first | omega | (simp; done) | (simp; omega)))))))
          have HRA := Lib.hid (HR3.out.fr (FrY.grow (base := base) (D := DS S vP1) HBA.out HC3.out.hb)).r
          have HRB := Lib.hid (HR3.out.fr (FrY.grow (base := base) (D := DS S vP1) HBB.out HC3.out.hb)).r
          have HTA := Lib.hid ((HC3.out.grow HBA.out).trd h8)
          have HTB := Lib.hid ((HC3.out.grow HBB.out).trd h8)
          clear hc3 hf3 hr3 hy3
          cases hact : actY T M[i] j s with
          | none =>
            rw [hact] at HTr2
            go_region_held3 (fun w' => w'.cell? ⟨w.heap.size, 0, none⟩ = some (.slice AT T.length cT) ∧ w'.cell? ⟨w.heap.size, 1, none⟩ = some (.slice AO T.length cO) ∧ w'.cell? ⟨w.heap.size, 2, none⟩ = some (.slice AU us.length cU) ∧ w'.cell? ⟨S, 0, none⟩ = some (.slice (some ⟨mb, mo, none⟩) M.length cM) ∧ w'.cell? ⟨mb, mo + i * 3, none⟩ = some (.bool M[i].inn) ∧ w'.cell? ⟨mb, mo + i * 3 + 1, none⟩ = some (.int .i64 M[i].kind) ∧ w'.cell? ⟨mb, mo + i * 3 + 2, none⟩ = some (.int .i64 M[i].ln))
              (first | exact ⟨cell_bel hb4s y0, cell_bel hb4s y1, cell_bel hb4s y2, cell_bel hb4s q0, cell_bel hb4s m0, cell_bel hb4s m1, cell_bel hb4s m2⟩ | exact ⟨cell_bel hb4b y0, cell_bel hb4b y1, cell_bel hb4b y2, cell_bel hb4b q0, cell_bel hb4b m0, cell_bel hb4b m1, cell_bel hb4b m2⟩ | exact ⟨cell_bel hb4a y0, cell_bel hb4a y1, cell_bel hb4a y2, cell_bel hb4a q0, cell_bel hb4a m0, cell_bel hb4a m1, cell_bel hb4a m2⟩ | exact ⟨cell_bel hb4 y0, cell_bel hb4 y1, cell_bel hb4 y2, cell_bel hb4 q0, cell_bel hb4 m0, cell_bel hb4 m1, cell_bel hb4 m2⟩ | exact ⟨cell_bel (w := w3) (by repeat (first | exact Below.refl _ _ | (with_reducible refine Below.drew ?_) | (with_reducible refine below_drewN ?_ _) | (with_reducible refine Below.alloc ?_ (by first | omega | (simp; done) | (simp; omega)) _) | (with_reducible refine Below.setCell ?_ (by first | omega | (simp; done) | (simp; omega)) _) | (refine Below.trans ?_ (Below.mono (by with_reducible assumption) (by first | omega | (simp; done) | (simp; omega)))))) y0, cell_bel (w := w3) (by repeat (first | exact Below.refl _ _ | (with_reducible refine Below.drew ?_) | (with_reducible refine below_drewN ?_ _) | (with_reducible refine Below.alloc ?_ (by first | omega | (simp; done) | (simp; omega)) _) | (with_reducible refine Below.setCell ?_ (by first | omega | (simp; done) | (simp; omega)) _) | (refine Below.trans ?_ (Below.mono (by with_reducible assumption) (by first | omega | (simp; done) | (simp; omega)))))) y1, cell_bel (w := w3) (by repeat (first | exact Below.refl _ _ | (with_reducible refine Below.drew ?_) | (with_reducible refine below_drewN ?_ _) | (with_reducible refine Below.alloc ?_ (by first | omega | (simp; done) | (simp; omega)) _) | (with_reducible refine Below.setCell ?_ (by first | omega | (simp; done) | (simp; omega)) _) | (refine Below.trans ?_ (Below.mono (by with_reducible assumption) (by first | omega | (simp; done) | (simp; omega)))))) y2, cell_bel (w := w3) (by repeat (first | exact Below.refl _ _ | (with_reducible refine Below.drew ?_) | (with_reducible refine below_drewN ?_ _) | (with_reducible refine Below.alloc ?_ (by first | omega | (simp; done) | (simp; omega)) _) | (with_reducible refine Below.setCell ?_ (by first | omega | (simp; done) | (simp; omega)) _) | (refine Below.trans ?_ (Below.mono (by with_reducible assumption) (by first | omega | (simp; done) | (simp; omega)))))) q0, cell_bel (w := w3) (by repeat (first | exact Below.refl _ _ | (with_reducible refine Below.drew ?_) | (with_reducible refine below_drewN ?_ _) | (with_reducible refine Below.alloc ?_ (by first | omega | (simp; done) | (simp; omega)) _) | (with_reducible refine Below.setCell ?_ (by first | omega | (simp; done) | (simp; omega)) _) | (refine Below.trans ?_ (Below.mono (by with_reducible assumption) (by first | omega | (simp; done) | (simp; omega)))))) m0, cell_bel (w := w3) (by repeat (first | exact Below.refl _ _ | (with_reducible refine Below.drew ?_) | (with_reducible refine below_drewN ?_ _) | (with_reducible refine Below.alloc ?_ (by first | omega | (simp; done) | (simp; omega)) _) | (with_reducible refine Below.setCell ?_ (by first | omega | (simp; done) | (simp; omega)) _) | (refine Below.trans ?_ (Below.mono (by with_reducible assumption) (by first | omega | (simp; done) | (simp; omega)))))) m1, cell_bel (w := w3) (by repeat (first | exact Below.refl _ _ | (with_reducible refine Below.drew ?_) | (with_reducible refine below_drewN ?_ _) | (with_reducible refine Below.alloc ?_ (by first | omega | (simp; done) | (simp; omega)) _) | (with_reducible refine Below.setCell ?_ (by first | omega | (simp; done) | (simp; omega)) _) | (refine Below.trans ?_ (Below.mono (by with_reducible assumption) (by first | omega | (simp; done) | (simp; omega)))))) m2⟩ | go_keep)
              (first | (go_at_call 33; refine (ract_any AT AO AU cT cO cU i j T M[i] us s vs _ HRB.out HTB.out h8 HTk.out hlt HMi.out HOk.out (by omega) HRef.out).mono ?_; intro e w4 ho; rw [hact] at ho; obtain ⟨rfl, hd⟩ := ho; simp only [rfV]; have hb4 : Below w3.heap.size w3 w4 := HBB.out.trans (hd.mono HBB.out.size); have hz := (((Blk.new w3 67 #[.slice none 0 0, .slice none 0 0, .slice none 0 0]).dr).bel (w' := w4) hd); have z0 := hz.cell 0; have z1 := hz.cell 1; have z2 := hz.cell 2; have f0 := hz.frozen 0; have f1 := hz.frozen 1; have f2 := hz.frozen 2; have hzl := hz.lt; simp only [List.getElem?_toArray, List.getElem?_cons_succ, List.getElem?_cons_zero] at z0 z1 z2; have hb4s : Below w3.heap.size w3 (((w4.setCell ⟨w3.heap.size, 0, none⟩ (.slice AT T.length cT)).setCell ⟨w3.heap.size, 1, none⟩ (.slice AO T.length cO)).setCell ⟨w3.heap.size, 2, none⟩ (.slice AU us.length cU)) := ((hb4.setCell (p := ⟨w3.heap.size, 0, none⟩) (Nat.le_refl _) _).setCell (p := ⟨w3.heap.size, 1, none⟩) (Nat.le_refl _) _).setCell (p := ⟨w3.heap.size, 2, none⟩) (Nat.le_refl _) _) | (go_at_call 33; refine (ract_any AT AO AU cT cO cU i j T M[i] us s vs _ HRA.out HTA.out h8 HTk.out hlt HMi.out HOk.out (by omega) HRef.out).mono ?_; intro e w4 ho; rw [hact] at ho; obtain ⟨rfl, hd⟩ := ho; simp only [rfV]; have hb4 : Below w3.heap.size w3 w4 := HBA.out.trans (hd.mono HBA.out.size); have hb4a : Below w3.heap.size w3 (w4.alloc (.cells #[.slice none 0 0, .slice none 0 0, .slice none 0 0] 67)) := hb4.alloc hb4.size _; have hb4b : Below w3.heap.size w3 (w4.alloc (.cells #[.slice AT T.length cT, .slice AO T.length cO, .slice AU us.length cU] 67)) := hb4.alloc hb4.size _))
            · skip
              go_upto_region 17 with fail
              refine world_gen (fun w5 => SM base S AT (some ⟨mb, mo, none⟩) cM T M b (used1 + 1) pl vP1 w5 ∧ FrY base (DS S vP) (DS S vP1) w w5 ∧ RfN (DS S vP1) AO AU cU T us s vs w5 ∧ Blk w5 w.heap.size 67 #[.slice AT T.length cT, .slice AO T.length cO, .slice AU us.length cU]) ⟨HC3.out.grow hb4b, HF3.out.trans (FrY.grow hb4b HC3.out.hb), HR3.out.fr (FrY.grow (base := base) hb4b HC3.out.hb), HY3.out.bel hb4b⟩ ?_
              clear y0 y1 y2 q0 m0 m1 m2 HC3 HF3 HR3 HY3 hb4 hb4a hb4b hd HBA HBB HRA HRB HTA HTB
              rintro w5 ⟨hc5, hf5, hr5, hy5⟩
              have HC5 := Lib.hid hc5
              have HF5 := Lib.hid hf5
              have HR5 := Lib.hid hr5
              have HY5 := Lib.hid hy5
              clear hc5 hf5 hr5 hy5
              go_wp2_with fail
              go_roundg K
              case measure => have := Hj.out; have := HK.out; omega
              case rel => exact ⟨j + 1, used1 + 1, vP1, by first | rfl | go_num, by have := HK.out; omega, by omega, HC5.out, HF5.out, HR5.out, HY5.out, HN1.out, HTr2.out⟩
            · skip
              go_upto_region 17 with fail
              refine world_gen (fun w5 => SM base S AT (some ⟨mb, mo, none⟩) cM T M b (used1 + 1) pl vP1 w5 ∧ FrY base (DS S vP) (DS S vP1) w w5 ∧ RfN (DS S vP1) AO AU cU T us s vs w5 ∧ Blk w5 w.heap.size 67 #[.slice AT T.length cT, .slice AO T.length cO, .slice AU us.length cU]) ⟨HC3.out.grow hb4s, HF3.out.trans (FrY.grow hb4s HC3.out.hb), HR3.out.fr (FrY.grow (base := base) hb4s HC3.out.hb), HY3.out.bel hb4s⟩ ?_
              clear y0 y1 y2 q0 m0 m1 m2 HC3 HF3 HR3 HY3 hb4 hb4s hd hz z0 z1 z2 f0 f1 f2 hzl HBA HBB HRA HRB HTA HTB
              rintro w5 ⟨hc5, hf5, hr5, hy5⟩
              have HC5 := Lib.hid hc5
              have HF5 := Lib.hid hf5
              have HR5 := Lib.hid hr5
              have HY5 := Lib.hid hy5
              clear hc5 hf5 hr5 hy5
              go_wp2_with fail
              go_roundg K
              case measure => have := Hj.out; have := HK.out; omega
              case rel => exact ⟨j + 1, used1 + 1, vP1, by first | rfl | go_num, by have := HK.out; omega, by omega, HC5.out, HF5.out, HR5.out, HY5.out, HN1.out, HTr2.out⟩
          | some p =>
            obtain ⟨u, s'⟩ := p
            rw [hact] at HTr2
            go_region_held3 (fun w' => w'.cell? ⟨w.heap.size, 0, none⟩ = some (.slice AT T.length cT) ∧ w'.cell? ⟨w.heap.size, 1, none⟩ = some (.slice AO T.length cO) ∧ w'.cell? ⟨w.heap.size, 2, none⟩ = some (.slice AU us.length cU) ∧ w'.cell? ⟨S, 0, none⟩ = some (.slice (some ⟨mb, mo, none⟩) M.length cM) ∧ w'.cell? ⟨mb, mo + i * 3, none⟩ = some (.bool M[i].inn) ∧ w'.cell? ⟨mb, mo + i * 3 + 1, none⟩ = some (.int .i64 M[i].kind) ∧ w'.cell? ⟨mb, mo + i * 3 + 2, none⟩ = some (.int .i64 M[i].ln))
              (first | exact ⟨cell_bel hb4s y0, cell_bel hb4s y1, cell_bel hb4s y2, cell_bel hb4s q0, cell_bel hb4s m0, cell_bel hb4s m1, cell_bel hb4s m2⟩ | exact ⟨cell_bel hb4b y0, cell_bel hb4b y1, cell_bel hb4b y2, cell_bel hb4b q0, cell_bel hb4b m0, cell_bel hb4b m1, cell_bel hb4b m2⟩ | exact ⟨cell_bel hb4a y0, cell_bel hb4a y1, cell_bel hb4a y2, cell_bel hb4a q0, cell_bel hb4a m0, cell_bel hb4a m1, cell_bel hb4a m2⟩ | exact ⟨cell_bel hb4 y0, cell_bel hb4 y1, cell_bel hb4 y2, cell_bel hb4 q0, cell_bel hb4 m0, cell_bel hb4 m1, cell_bel hb4 m2⟩ | exact ⟨cell_bel (w := w3) (by repeat (first | exact Below.refl _ _ | (with_reducible refine Below.drew ?_) | (with_reducible refine below_drewN ?_ _) | (with_reducible refine Below.alloc ?_ (by first | omega | (simp; done) | (simp; omega)) _) | (with_reducible refine Below.setCell ?_ (by first | omega | (simp; done) | (simp; omega)) _) | (refine Below.trans ?_ (Below.mono (by with_reducible assumption) (by first | omega | (simp; done) | (simp; omega)))))) y0, cell_bel (w := w3) (by repeat (first | exact Below.refl _ _ | (with_reducible refine Below.drew ?_) | (with_reducible refine below_drewN ?_ _) | (with_reducible refine Below.alloc ?_ (by first | omega | (simp; done) | (simp; omega)) _) | (with_reducible refine Below.setCell ?_ (by first | omega | (simp; done) | (simp; omega)) _) | (refine Below.trans ?_ (Below.mono (by with_reducible assumption) (by first | omega | (simp; done) | (simp; omega)))))) y1, cell_bel (w := w3) (by repeat (first | exact Below.refl _ _ | (with_reducible refine Below.drew ?_) | (with_reducible refine below_drewN ?_ _) | (with_reducible refine Below.alloc ?_ (by first | omega | (simp; done) | (simp; omega)) _) | (with_reducible refine Below.setCell ?_ (by first | omega | (simp; done) | (simp; omega)) _) | (refine Below.trans ?_ (Below.mono (by with_reducible assumption) (by first | omega | (simp; done) | (simp; omega)))))) y2, cell_bel (w := w3) (by repeat (first | exact Below.refl _ _ | (with_reducible refine Below.drew ?_) | (with_reducible refine below_drewN ?_ _) | (with_reducible refine Below.alloc ?_ (by first | omega | (simp; done) | (simp; omega)) _) | (with_reducible refine Below.setCell ?_ (by first | omega | (simp; done) | (simp; omega)) _) | (refine Below.trans ?_ (Below.mono (by with_reducible assumption) (by first | omega | (simp; done) | (simp; omega)))))) q0, cell_bel (w := w3) (by repeat (first | exact Below.refl _ _ | (with_reducible refine Below.drew ?_) | (with_reducible refine below_drewN ?_ _) | (with_reducible refine Below.alloc ?_ (by first | omega | (simp; done) | (simp; omega)) _) | (with_reducible refine Below.setCell ?_ (by first | omega | (simp; done) | (simp; omega)) _) | (refine Below.trans ?_ (Below.mono (by with_reducible assumption) (by first | omega | (simp; done) | (simp; omega)))))) m0, cell_bel (w := w3) (by repeat (first | exact Below.refl _ _ | (with_reducible refine Below.drew ?_) | (with_reducible refine below_drewN ?_ _) | (with_reducible refine Below.alloc ?_ (by first | omega | (simp; done) | (simp; omega)) _) | (with_reducible refine Below.setCell ?_ (by first | omega | (simp; done) | (simp; omega)) _) | (refine Below.trans ?_ (Below.mono (by with_reducible assumption) (by first | omega | (simp; done) | (simp; omega)))))) m1, cell_bel (w := w3) (by repeat (first | exact Below.refl _ _ | (with_reducible refine Below.drew ?_) | (with_reducible refine below_drewN ?_ _) | (with_reducible refine Below.alloc ?_ (by first | omega | (simp; done) | (simp; omega)) _) | (with_reducible refine Below.setCell ?_ (by first | omega | (simp; done) | (simp; omega)) _) | (refine Below.trans ?_ (Below.mono (by with_reducible assumption) (by first | omega | (simp; done) | (simp; omega)))))) m2⟩ | go_keep)
              (first | (go_at_call 33; refine (ract_any AT AO AU cT cO cU i j T M[i] us s vs _ HRB.out HTB.out h8 HTk.out hlt HMi.out HOk.out (by omega) HRef.out).mono ?_; intro e w4 ho; rw [hact] at ho; obtain ⟨AO2, AU2, cO2, cU2, us2, vs2, rfl, hus2, ho4, hd⟩ := ho; simp only [rfV]; have HUs := Lib.hid hus2; clear hus2; have HO4 := Lib.hid (ho4.base' (base' := w3.heap.size) HBB.out.size); have hb4 : Below w3.heap.size w3 w4 := HBB.out.trans (hd.mono HBB.out.size); have hz := (((Blk.new w3 67 #[.slice none 0 0, .slice none 0 0, .slice none 0 0]).dr).bel (w' := w4) hd); have z0 := hz.cell 0; have z1 := hz.cell 1; have z2 := hz.cell 2; have f0 := hz.frozen 0; have f1 := hz.frozen 1; have f2 := hz.frozen 2; have hzl := hz.lt; simp only [List.getElem?_toArray, List.getElem?_cons_succ, List.getElem?_cons_zero] at z0 z1 z2; have hb4s : Below w3.heap.size w3 (((w4.setCell ⟨w3.heap.size, 0, none⟩ (.slice AT T.length cT)).setCell ⟨w3.heap.size, 1, none⟩ (.slice AO2 T.length cO2)).setCell ⟨w3.heap.size, 2, none⟩ (.slice AU2 us2.length cU2)) := ((hb4.setCell (p := ⟨w3.heap.size, 0, none⟩) (Nat.le_refl _) _).setCell (p := ⟨w3.heap.size, 1, none⟩) (Nat.le_refl _) _).setCell (p := ⟨w3.heap.size, 2, none⟩) (Nat.le_refl _) _) | (go_at_call 33; refine (ract_any AT AO AU cT cO cU i j T M[i] us s vs _ HRA.out HTA.out h8 HTk.out hlt HMi.out HOk.out (by omega) HRef.out).mono ?_; intro e w4 ho; rw [hact] at ho; obtain ⟨AO2, AU2, cO2, cU2, us2, vs2, rfl, hus2, ho4, hd⟩ := ho; simp only [rfV]; have HUs := Lib.hid hus2; clear hus2; have HO4 := Lib.hid (ho4.base' (base' := w3.heap.size) HBA.out.size); have hb4 : Below w3.heap.size w3 w4 := HBA.out.trans (hd.mono HBA.out.size); have hb4a : Below w3.heap.size w3 (w4.alloc (.cells #[.slice none 0 0, .slice none 0 0, .slice none 0 0] 67)) := hb4.alloc hb4.size _; have hb4b : Below w3.heap.size w3 (w4.alloc (.cells #[.slice AT T.length cT, .slice AO2 T.length cO2, .slice AU2 us2.length cU2] 67)) := hb4.alloc hb4.size _))
            · skip
              have HZ4 := Lib.hid (show Blk _ (w4.heap.size) 67 #[.slice AT T.length cT, .slice AO2 T.length cO2, .slice AU2 us2.length cU2] from Blk.new w4 _ _)
              have hx4 := HO4.out.grow (Below.alloc (Below.refl _ _) (Nat.le_refl _) (.cells #[.slice AT T.length cT, .slice AO2 T.length cO2, .slice AU2 us2.length cU2] 67))
              have hs1 : s'.on.length = T.length := (actY_ok HOk.out hlt HMi.out hact).n
              have hx5 := hx4.rn (D := DS S vP1) hs1 h1 (fun k hk => (HC3.out.D_base hk).2)
              have HNz := Lib.hid (show ¬ DS S vP1 (w4.heap.size) from fun h => by have h6 := (HC3.out.D_base h).2; have h7 := hb4.size; omega)
              go_upto_region 11 with fail
              refine world_gen (fun w5 => SM base S AT (some ⟨mb, mo, none⟩) cM T M b (used1 + 1) pl vP1 w5 ∧ FrY base (DS S vP) (DS S vP1) w w5 ∧ RfN (DS S vP1) AO AU cU T us s vs w5 ∧ Blk w5 w.heap.size 67 #[.slice AT T.length cT, .slice AO T.length cO, .slice AU us.length cU] ∧
                  Blk w5 (w4.heap.size) 67 #[.slice AT T.length cT, .slice AO2 T.length cO2, .slice AU2 us2.length cU2] ∧ RfN (DS S vP1) AO2 AU2 cU2 T us2 s' vs2 w5)
                ⟨HC3.out.grow hb4b, HF3.out.trans (FrY.grow hb4b HC3.out.hb), HR3.out.fr (FrY.grow (base := base) hb4b HC3.out.hb), HY3.out.bel hb4b, HZ4.out, hx5⟩ ?_
              generalize w4.heap.size = bz at *
              clear y0 y1 y2 q0 m0 m1 m2 HC3 HF3 HR3 HY3 HZ4 hx4 hx5 hs1 ho4 hb4 hb4a hb4b hd HO4 HBA HBB HRA HRB HTA HTB
              rintro w5 ⟨hc5, hf5, hr5, hy5, hz5, hx5⟩
              have HC5 := Lib.hid hc5
              have HF5 := Lib.hid hf5
              have HR5 := Lib.hid hr5
              have HY5 := Lib.hid hy5
              have HZ5 := Lib.hid hz5
              have HX5 := Lib.hid hx5
              clear hc5 hf5 hr5 hy5 hz5 hx5
              obtain ⟨AP, cP, rfl, _, _⟩ := own_slice HC5.out.p
              have q3 := HC5.out.s.cell 3
              simp only [List.getElem?_toArray, List.getElem?_cons_succ, List.getElem?_cons_zero] at q3
              have hpl24 : pl.length ≤ 24 := by have := HPl.out; omega
              have hsl := HC5.out.s.lt
              have hb5 := HC5.out.hb
              have hbq : Below w5.heap.size w5 (w5.alloc (.cells #[.int .i64 j] 3)) := (by repeat (first | exact Below.refl _ _ | (with_reducible refine Below.drew ?_) | (with_reducible refine below_drewN ?_ _) | (with_reducible refine Below.alloc ?_ (by first | omega | (simp; done) | (simp; omega)) _) | (with_reducible refine Below.setCell ?_ (by first | omega | (simp; done) | (simp; omega)) _) | (refine Below.trans ?_ (Below.mono (by with_reducible assumption) (by first | omega | (simp; done) | (simp; omega))))))
              have HCq := Lib.hid (HC5.out.grow hbq)
              have hnb := HCq.out.pS
              go_upto_region 12 with (at_builtin; refine wpList_append_any rfl _ _ 22 rfl base 3 i0 _ 1 8 Try.underlying22 HI.out.1 HI.out.2.1 HI.out.2.2.1 HI.out.2.2.2 rfl (by omega) (.slice AP pl.length cP) pl.length (pl.map natV) rfl HCq.out.p (some ⟨w5.heap.size, 0, none⟩) 1 1 (w5.alloc (.cells #[.int .i64 j] 3)).heap.size [.int .i64 j] rfl (fun e => by cases e) (Rd.of_blk (cs := [.int .i64 j]) (n := 1) (sz := 1) (Blk.new w5 3 _) rfl) (by intro u hu; simp at hu; subst hu; rfl) (by simp only [maxLen]; omega) (by omega) (by simp; omega) ?_; intro vq wq hoq hgq hatq; have hsq := HCq.out.s.grown hgq hnb; have fq := hsq.frozen 3; have hql := hsq.lt; have q3q := hsq.cell 3; obtain ⟨Aq, cq, rfl, _, _⟩ := own_slice hoq; simp only [List.getElem?_toArray, List.getElem?_cons_succ, List.getElem?_cons_zero] at q3q)
              have hap := HCq.out.app (q := pl ++ [j]) hgq (by rw [List.length_append, List.map_append]; exact hoq) hatq
              have hfq := FrY.grow (base := base) (D := DS S (.slice AP pl.length cP)) hbq hb5
              refine world_gen (fun w6 => SM base S AT (some ⟨mb, mo, none⟩) cM T M b (used1 + 1) (pl ++ [j]) (.slice Aq (pl.length + 1) cq) w6 ∧ FrY base (DS S vP) (DS S (.slice Aq (pl.length + 1) cq)) w w6 ∧ RfN (DS S (.slice Aq (pl.length + 1) cq)) AO AU cU T us s vs w6 ∧ Blk w6 w.heap.size 67 #[.slice AT T.length cT, .slice AO T.length cO, .slice AU us.length cU] ∧
                  Blk w6 bz 67 #[.slice AT T.length cT, .slice AO2 T.length cO2, .slice AU2 us2.length cU2] ∧ RfN (DS S (.slice Aq (pl.length + 1) cq)) AO2 AU2 cU2 T us2 s' vs2 w6 ∧ ¬ DS S (.slice Aq (pl.length + 1) cq) w.heap.size)
                ⟨hap.1, (HF5.out.trans hfq).trans hap.2, (HR5.out.fr hfq).fr hap.2, (HY5.out.bel hbq).same (hap.2.keep _ (HY5.out.bel hbq).lt HN1.out), (HZ5.out.bel hbq).same (hap.2.keep _ (HZ5.out.bel hbq).lt HNz.out), (HX5.out.fr hfq).fr hap.2, fun h => HN1.out (hap.2.back _ (HY5.out.bel hbq).lt h)⟩ ?_
              clear q3 hsl hb5 hbq hnb hsq fq hql q3q hoq hgq hatq hap hfq HCq HC5 HF5 HR5 HY5 HZ5 HX5
              rintro w6 ⟨hc6, hf6, hr6, hy6, hz6, hx6, hn6⟩
              have HC6 := Lib.hid hc6
              have HF6 := Lib.hid hf6
              have HR6 := Lib.hid hr6
              have HY6 := Lib.hid hy6
              have HN6 := Lib.hid hn6
              have z0 := hz6.cell 0
              have z1 := hz6.cell 1
              have z2 := hz6.cell 2
              simp only [List.getElem?_toArray, List.getElem?_cons_succ, List.getElem?_cons_zero] at z0 z1 z2
              have hok' := actY_ok HOk.out hlt HMi.out hact
              have href' : RefOk us2 s' := by
                rw [HUs.out]
                split
                · rename_i hin; exact (ref_in hin (by rw [HOk.out.n]; exact hlt) HRef.out hact).2
                · rename_i hin; exact ref_out (by simpa using hin) (by rw [HOk.out.n]; exact hlt) HRef.out hact
              have hcall := IH.out (i + 1) us2 s' (used1 + 1) (pl ++ [j]) (.slice Aq (pl.length + 1) cq) AO2 AU2 cO2 cU2 vs2 w6 (by omega) (by omega) hok' href' (by have := HPl.out; simp; omega) hc6 hx6
              have hbd := srch_bd T b (M.drop (i + 1)) s' (used1 + 1) (by omega)
              simp only at HTr2
              generalize srchY T b (M.drop (i + 1)) s' (used1 + 1) = r' at *
              obtain ⟨rc, ru, rp⟩ := r'
              rw [show ((i + 1 : Nat) : Int) = (i : Int) + 1 by omega] at hcall
              obtain ⟨hb1', hb2', hb3', hb4'⟩ := hbd
              simp only at hb1' hb2' hb3' hb4' HTr2
              have HCall := Lib.hid hcall
              clear hcall hc6 hf6 hr6 hy6 hz6 hx6 hn6 hok' href'
              go_wp2_with fail
              refine HCall.out.mono ?_
              rintro e w7 ⟨rfl, vP7, hc7, hf7⟩
              have HC7 := Lib.hid hc7
              have HF7 := Lib.hid (HF6.out.trans hf7)
              have HR7 := Lib.hid (HR6.out.fr hf7)
              have HY7 := Lib.hid (HY6.out.same (hf7.keep _ HY6.out.lt HN6.out))
              have HN7 := Lib.hid (show ¬ DS S vP7 w.heap.size from fun h => HN6.out (hf7.back _ HY6.out.lt h))
              clear hc7 hf7 HC6 HF6 HR6 HY6 HN6 HCall z0 z1 z2
              rcases hb3' with rfl | h14
              · have HRs := Lib.hid (show srchY T b (M[i] :: M.drop (i + 1)) s used = ⟨0, ru, j :: rp⟩ from HTr2.out)
                clear HTr2
                go_wp2_with fail
                go_ret
                rw [HD.out, HRs.out]
                exact ⟨rfl, vP7, by simpa using HC7.out, HF7.out⟩
              · have hrc : ¬ rc = 0 := by omega
                obtain ⟨A7, c7, rfl, _, _⟩ := own_slice HC7.out.p
                have HC8 := Lib.hid (show SM base S AT (some ⟨mb, mo, none⟩) cM T M b (if rc = 15 then b + 1 else ru) (pl ++ [j]) (.slice A7 (pl.length + 1) c7) w7 by
                  have h := HC7.out
                  simp only [hrc, if_false] at h
                  simpa using h)
                have HFa := Lib.hid (show FrY base (DS S vP) (DS S (.slice A7 (pl.length + 1) c7)) w w7 by have h := HF7.out; simp only [hrc, if_false, List.length_append, List.length_singleton] at h; exact h)
                obtain ⟨g7, rfl⟩ : ∃ g, A7 = some ⟨g, 0, none⟩ := by
                  have hp := HC8.out.p
                  rw [List.length_append, List.length_singleton] at hp
                  obtain ⟨g, c', e, _, _⟩ := hp.form (by omega)
                  injection e with e
                  exact ⟨g, e⟩
                have hcap7 : pl.length ≤ c7 := by
                  have hp := HC8.out.p
                  rw [List.length_append, List.length_singleton] at hp
                  have := (own_cap hp).1
                  omega
                have hpop := HC8.out.pop
                have HPp := Lib.hid hpop
                have HRa := Lib.hid (show RfN (DS S (.slice (some ⟨g7, 0, none⟩) (pl.length + 1) c7)) AO AU cU T us s vs w7 by have h := HR7.out; simp only [hrc, if_false, List.length_append, List.length_singleton] at h; exact h)
                have HNa := Lib.hid (show ¬ DS S (.slice (some ⟨g7, 0, none⟩) (pl.length + 1) c7) w.heap.size by have h := HN7.out; simp only [hrc, if_false, List.length_append, List.length_singleton] at h; exact h)
                have q3 := HC8.out.s.cell 3
                have f3 := HC8.out.s.frozen 3
                have hsl := HC8.out.s.lt
                simp only [List.getElem?_toArray, List.getElem?_cons_succ, List.getElem?_cons_zero] at q3
                have t0 : (0 : Int) ≤ (pl.length : Int) := by omega
                have t1 : (pl.length : Int) ≤ (c7 : Int) := by omega
                have hwl : IntKind.i64.wrap (pl.length : Int) = (pl.length : Int) := IntWalk.i64_in _ (by omega)
                clear hpop HC7 HF7 HR7 HN7
                go_upto_region 14 with fail
                go_region
                go_upto_region 15 with fail
                refine world_gen (fun w8 => SM base S AT (some ⟨mb, mo, none⟩) cM T M b (if rc = 15 then b + 1 else ru) pl (.slice (some ⟨g7, 0, none⟩) pl.length c7) w8 ∧ FrY base (DS S vP) (DS S (.slice (some ⟨g7, 0, none⟩) pl.length c7)) w w8 ∧ RfN (DS S (.slice (some ⟨g7, 0, none⟩) pl.length c7)) AO AU cU T us s vs w8 ∧ Blk w8 w.heap.size 67 #[.slice AT T.length cT, .slice AO T.length cO, .slice AU us.length cU] ∧ ¬ DS S (.slice (some ⟨g7, 0, none⟩) pl.length c7) w.heap.size)
                  ⟨HPp.out.1.grow (by repeat (first | exact Below.refl _ _ | (with_reducible refine Below.drew ?_) | (with_reducible refine below_drewN ?_ _) | (with_reducible refine Below.alloc ?_ (by first | omega | (simp; done) | (simp; omega)) _) | (with_reducible refine Below.setCell ?_ (by first | omega | (simp; done) | (simp; omega)) _) | (refine Below.trans ?_ (Below.mono (by with_reducible assumption) (by first | omega | (simp; done) | (simp; omega)))))), (HFa.out.trans HPp.out.2).trans (FrY.grow (by repeat (first | exact Below.refl _ _ | (with_reducible refine Below.drew ?_) | (with_reducible refine below_drewN ?_ _) | (with_reducible refine Below.alloc ?_ (by first | omega | (simp; done) | (simp; omega)) _) | (with_reducible refine Below.setCell ?_ (by first | omega | (simp; done) | (simp; omega)) _) | (refine Below.trans ?_ (Below.mono (by with_reducible assumption) (by first | omega | (simp; done) | (simp; omega)))))) HPp.out.1.hb), (HRa.out.fr HPp.out.2).fr (FrY.grow (base := base) (by repeat (first | exact Below.refl _ _ | (with_reducible refine Below.drew ?_) | (with_reducible refine below_drewN ?_ _) | (with_reducible refine Below.alloc ?_ (by first | omega | (simp; done) | (simp; omega)) _) | (with_reducible refine Below.setCell ?_ (by first | omega | (simp; done) | (simp; omega)) _) | (refine Below.trans ?_ (Below.mono (by with_reducible assumption) (by first | omega | (simp; done) | (simp; omega)))))) HPp.out.1.hb), ((HY7.out.far (fun e => HNa.out (.inl e.symm))).dr), fun h => HNa.out (HPp.out.2.back _ HY7.out.lt h)⟩ ?_
                clear q3 f3 hsl t0 t1 hwl HPp HC8 HFa HRa HY7 HNa
                rintro w8 ⟨hc8, hf8, hr8, hy8, hn8⟩
                have HC8 := Lib.hid hc8
                have HF8 := Lib.hid hf8
                have HR8 := Lib.hid hr8
                have HY8 := Lib.hid hy8
                have HN8 := Lib.hid hn8
                clear hc8 hf8 hr8 hy8 hn8
                rcases h14 with rfl | rfl
                · have HTr3 := Lib.hid (show triesY T b M[i] s (srchY T b (M.drop (i + 1))) T.length used = triesY T b M[i] s (srchY T b (M.drop (i + 1))) K ru by
                    have h := HTr2.out
                    rwa [if_pos rfl] at h)
                  have HC9 := Lib.hid (show SM base S AT (some ⟨mb, mo, none⟩) cM T M b ru pl (.slice (some ⟨g7, 0, none⟩) pl.length c7) w8 from HC8.out)
                  have u1 := HC9.out.s.cell 1
                  have u2 := HC9.out.s.cell 2
                  simp only [List.getElem?_toArray, List.getElem?_cons_succ, List.getElem?_cons_zero] at u1 u2
                  have hgt : decide ((b : Int) < (ru : Int)) = false := by simp; omega
                  clear HTr2 HC8
                  go_region_held3 (fun w' => w'.cell? ⟨S, 1, none⟩ = some (.int .i64 b) ∧ w'.cell? ⟨S, 2, none⟩ = some (.int .i64 ru)) (first | exact ⟨u1, u2⟩ | go_keep) (fail)
                  have HD8 := Lib.hid (FrY.grow (base := base) (D := DS S (.slice (some ⟨g7, 0, none⟩) pl.length c7)) (w := w8) (w' := w8.drew) (by repeat (first | exact Below.refl _ _ | (with_reducible refine Below.drew ?_) | (with_reducible refine below_drewN ?_ _) | (with_reducible refine Below.alloc ?_ (by first | omega | (simp; done) | (simp; omega)) _) | (with_reducible refine Below.setCell ?_ (by first | omega | (simp; done) | (simp; omega)) _) | (refine Below.trans ?_ (Below.mono (by with_reducible assumption) (by first | omega | (simp; done) | (simp; omega)))))) HC9.out.hb)
                  have HCx := Lib.hid (HC9.out.grow (w' := w8.drew) (by repeat (first | exact Below.refl _ _ | (with_reducible refine Below.drew ?_) | (with_reducible refine below_drewN ?_ _) | (with_reducible refine Below.alloc ?_ (by first | omega | (simp; done) | (simp; omega)) _) | (with_reducible refine Below.setCell ?_ (by first | omega | (simp; done) | (simp; omega)) _) | (refine Below.trans ?_ (Below.mono (by with_reducible assumption) (by first | omega | (simp; done) | (simp; omega)))))))
                  have HFx := Lib.hid (HF8.out.trans HD8.out)
                  have HRx := Lib.hid (HR8.out.fr HD8.out)
                  have HYx := Lib.hid HY8.out.dr
                  clear u1 u2 HC9 HF8 HR8 HY8 HD8
                  go_wp2_with fail
                  go_roundg K
                  case measure => have := Hj.out; have := HK.out; omega
                  case rel => exact ⟨j + 1, ru, _, by first | rfl | go_num, by have := HK.out; omega, by omega, HCx.out, HFx.out, HRx.out, HYx.out, HN8.out, HTr3.out⟩
                · have HRs := Lib.hid (show srchY T b (M[i] :: M.drop (i + 1)) s used = ⟨15, ru, j :: rp⟩ by
                    have h := HTr2.out
                    rw [if_neg (by omega)] at h
                    exact h)
                  have HC9 := Lib.hid (show SM base S AT (some ⟨mb, mo, none⟩) cM T M b (b + 1) pl (.slice (some ⟨g7, 0, none⟩) pl.length c7) w8 from HC8.out)
                  have u1 := HC9.out.s.cell 1
                  have u2 := HC9.out.s.cell 2
                  simp only [List.getElem?_toArray, List.getElem?_cons_succ, List.getElem?_cons_zero] at u1 u2
                  have hgt : decide ((b : Int) < (b : Int) + 1) = true := by simp; omega
                  clear HTr2 HC8
                  go_region_held3 (fun w' => w'.cell? ⟨S, 1, none⟩ = some (.int .i64 b) ∧ w'.cell? ⟨S, 2, none⟩ = some (.int .i64 ((b + 1 : Nat) : Int))) (first | exact ⟨u1, u2⟩ | go_keep) (fail)
                  have HCx := Lib.hid (HC9.out.grow (w' := w8.drew) (by repeat (first | exact Below.refl _ _ | (with_reducible refine Below.drew ?_) | (with_reducible refine below_drewN ?_ _) | (with_reducible refine Below.alloc ?_ (by first | omega | (simp; done) | (simp; omega)) _) | (with_reducible refine Below.setCell ?_ (by first | omega | (simp; done) | (simp; omega)) _) | (refine Below.trans ?_ (Below.mono (by with_reducible assumption) (by first | omega | (simp; done) | (simp; omega)))))))
                  have HFx := Lib.hid (HF8.out.trans (FrY.grow (base := base) (w := w8) (w' := w8.drew) (by repeat (first | exact Below.refl _ _ | (with_reducible refine Below.drew ?_) | (with_reducible refine below_drewN ?_ _) | (with_reducible refine Below.alloc ?_ (by first | omega | (simp; done) | (simp; omega)) _) | (with_reducible refine Below.setCell ?_ (by first | omega | (simp; done) | (simp; omega)) _) | (refine Below.trans ?_ (Below.mono (by with_reducible assumption) (by first | omega | (simp; done) | (simp; omega)))))) HC9.out.hb))
                  clear u1 u2 HC9 HF8 HR8 HY8
                  go_wp2_with fail
                  go_ret
                  rw [HD.out, HRs.out]
                  exact ⟨rfl, _, by simpa using HCx.out, HFx.out⟩
            · skip
              have HZ4 := Lib.hid (show Blk _ (w3.heap.size) 67 #[.slice AT T.length cT, .slice AO2 T.length cO2, .slice AU2 us2.length cU2] from by simpa using ((hz.set_ 0 (.slice AT T.length cT)).set_ 1 (.slice AO2 T.length cO2)).set_ 2 (.slice AU2 us2.length cU2))
              have hx4 := ((HO4.out.setz (o := 0) (u := .slice AT T.length cT) hz).setz (o := 1) (u := .slice AO2 T.length cO2) (hz.set_ 0 (.slice AT T.length cT))).setz (o := 2) (u := .slice AU2 us2.length cU2) ((hz.set_ 0 (.slice AT T.length cT)).set_ 1 (.slice AO2 T.length cO2))
              have hs1 : s'.on.length = T.length := (actY_ok HOk.out hlt HMi.out hact).n
              have hx5 := hx4.rn (D := DS S vP1) hs1 h1 (fun k hk => (HC3.out.D_base hk).2)
              have HNz := Lib.hid (show ¬ DS S vP1 (w3.heap.size) from fun h => by have h6 := (HC3.out.D_base h).2; have h7 := show w3.heap.size ≤ w3.heap.size from Nat.le_refl _; omega)
              go_upto_region 11 with fail
              refine world_gen (fun w5 => SM base S AT (some ⟨mb, mo, none⟩) cM T M b (used1 + 1) pl vP1 w5 ∧ FrY base (DS S vP) (DS S vP1) w w5 ∧ RfN (DS S vP1) AO AU cU T us s vs w5 ∧ Blk w5 w.heap.size 67 #[.slice AT T.length cT, .slice AO T.length cO, .slice AU us.length cU] ∧
                  Blk w5 (w3.heap.size) 67 #[.slice AT T.length cT, .slice AO2 T.length cO2, .slice AU2 us2.length cU2] ∧ RfN (DS S vP1) AO2 AU2 cU2 T us2 s' vs2 w5)
                ⟨HC3.out.grow hb4s, HF3.out.trans (FrY.grow hb4s HC3.out.hb), HR3.out.fr (FrY.grow (base := base) hb4s HC3.out.hb), HY3.out.bel hb4s, HZ4.out, hx5⟩ ?_
              generalize w3.heap.size = bz at *
              clear y0 y1 y2 q0 m0 m1 m2 HC3 HF3 HR3 HY3 HZ4 hx4 hx5 hs1 ho4 hb4 hb4s hd hz z0 z1 z2 f0 f1 f2 hzl HO4 HBA HBB HRA HRB HTA HTB
              rintro w5 ⟨hc5, hf5, hr5, hy5, hz5, hx5⟩
              have HC5 := Lib.hid hc5
              have HF5 := Lib.hid hf5
              have HR5 := Lib.hid hr5
              have HY5 := Lib.hid hy5
              have HZ5 := Lib.hid hz5
              have HX5 := Lib.hid hx5
              clear hc5 hf5 hr5 hy5 hz5 hx5
              obtain ⟨AP, cP, rfl, _, _⟩ := own_slice HC5.out.p
              have q3 := HC5.out.s.cell 3
              simp only [List.getElem?_toArray, List.getElem?_cons_succ, List.getElem?_cons_zero] at q3
              have hpl24 : pl.length ≤ 24 := by have := HPl.out; omega
              have hsl := HC5.out.s.lt
              have hb5 := HC5.out.hb
              have hbq : Below w5.heap.size w5 (w5.alloc (.cells #[.int .i64 j] 3)) := (by repeat (first | exact Below.refl _ _ | (with_reducible refine Below.drew ?_) | (with_reducible refine below_drewN ?_ _) | (with_reducible refine Below.alloc ?_ (by first | omega | (simp; done) | (simp; omega)) _) | (with_reducible refine Below.setCell ?_ (by first | omega | (simp; done) | (simp; omega)) _) | (refine Below.trans ?_ (Below.mono (by with_reducible assumption) (by first | omega | (simp; done) | (simp; omega))))))
              have HCq := Lib.hid (HC5.out.grow hbq)
              have hnb := HCq.out.pS
              go_upto_region 12 with (at_builtin; refine wpList_append_any rfl _ _ 22 rfl base 3 i0 _ 1 8 Try.underlying22 HI.out.1 HI.out.2.1 HI.out.2.2.1 HI.out.2.2.2 rfl (by omega) (.slice AP pl.length cP) pl.length (pl.map natV) rfl HCq.out.p (some ⟨w5.heap.size, 0, none⟩) 1 1 (w5.alloc (.cells #[.int .i64 j] 3)).heap.size [.int .i64 j] rfl (fun e => by cases e) (Rd.of_blk (cs := [.int .i64 j]) (n := 1) (sz := 1) (Blk.new w5 3 _) rfl) (by intro u hu; simp at hu; subst hu; rfl) (by simp only [maxLen]; omega) (by omega) (by simp; omega) ?_; intro vq wq hoq hgq hatq; have hsq := HCq.out.s.grown hgq hnb; have fq := hsq.frozen 3; have hql := hsq.lt; have q3q := hsq.cell 3; obtain ⟨Aq, cq, rfl, _, _⟩ := own_slice hoq; simp only [List.getElem?_toArray, List.getElem?_cons_succ, List.getElem?_cons_zero] at q3q)
              have hap := HCq.out.app (q := pl ++ [j]) hgq (by rw [List.length_append, List.map_append]; exact hoq) hatq
              have hfq := FrY.grow (base := base) (D := DS S (.slice AP pl.length cP)) hbq hb5
              refine world_gen (fun w6 => SM base S AT (some ⟨mb, mo, none⟩) cM T M b (used1 + 1) (pl ++ [j]) (.slice Aq (pl.length + 1) cq) w6 ∧ FrY base (DS S vP) (DS S (.slice Aq (pl.length + 1) cq)) w w6 ∧ RfN (DS S (.slice Aq (pl.length + 1) cq)) AO AU cU T us s vs w6 ∧ Blk w6 w.heap.size 67 #[.slice AT T.length cT, .slice AO T.length cO, .slice AU us.length cU] ∧
                  Blk w6 bz 67 #[.slice AT T.length cT, .slice AO2 T.length cO2, .slice AU2 us2.length cU2] ∧ RfN (DS S (.slice Aq (pl.length + 1) cq)) AO2 AU2 cU2 T us2 s' vs2 w6 ∧ ¬ DS S (.slice Aq (pl.length + 1) cq) w.heap.size)
                ⟨hap.1, (HF5.out.trans hfq).trans hap.2, (HR5.out.fr hfq).fr hap.2, (HY5.out.bel hbq).same (hap.2.keep _ (HY5.out.bel hbq).lt HN1.out), (HZ5.out.bel hbq).same (hap.2.keep _ (HZ5.out.bel hbq).lt HNz.out), (HX5.out.fr hfq).fr hap.2, fun h => HN1.out (hap.2.back _ (HY5.out.bel hbq).lt h)⟩ ?_
              clear q3 hsl hb5 hbq hnb hsq fq hql q3q hoq hgq hatq hap hfq HCq HC5 HF5 HR5 HY5 HZ5 HX5
              rintro w6 ⟨hc6, hf6, hr6, hy6, hz6, hx6, hn6⟩
              have HC6 := Lib.hid hc6
              have HF6 := Lib.hid hf6
              have HR6 := Lib.hid hr6
              have HY6 := Lib.hid hy6
              have HN6 := Lib.hid hn6
              have z0 := hz6.cell 0
              have z1 := hz6.cell 1
              have z2 := hz6.cell 2
              simp only [List.getElem?_toArray, List.getElem?_cons_succ, List.getElem?_cons_zero] at z0 z1 z2
              have hok' := actY_ok HOk.out hlt HMi.out hact
              have href' : RefOk us2 s' := by
                rw [HUs.out]
                split
                · rename_i hin; exact (ref_in hin (by rw [HOk.out.n]; exact hlt) HRef.out hact).2
                · rename_i hin; exact ref_out (by simpa using hin) (by rw [HOk.out.n]; exact hlt) HRef.out hact
              have hcall := IH.out (i + 1) us2 s' (used1 + 1) (pl ++ [j]) (.slice Aq (pl.length + 1) cq) AO2 AU2 cO2 cU2 vs2 w6 (by omega) (by omega) hok' href' (by have := HPl.out; simp; omega) hc6 hx6
              have hbd := srch_bd T b (M.drop (i + 1)) s' (used1 + 1) (by omega)
              simp only at HTr2
              generalize srchY T b (M.drop (i + 1)) s' (used1 + 1) = r' at *
              obtain ⟨rc, ru, rp⟩ := r'
              rw [show ((i + 1 : Nat) : Int) = (i : Int) + 1 by omega] at hcall
              obtain ⟨hb1', hb2', hb3', hb4'⟩ := hbd
              simp only at hb1' hb2' hb3' hb4' HTr2
              have HCall := Lib.hid hcall
              clear hcall hc6 hf6 hr6 hy6 hz6 hx6 hn6 hok' href'
              go_wp2_with fail
              refine HCall.out.mono ?_
              rintro e w7 ⟨rfl, vP7, hc7, hf7⟩
              have HC7 := Lib.hid hc7
              have HF7 := Lib.hid (HF6.out.trans hf7)
              have HR7 := Lib.hid (HR6.out.fr hf7)
              have HY7 := Lib.hid (HY6.out.same (hf7.keep _ HY6.out.lt HN6.out))
              have HN7 := Lib.hid (show ¬ DS S vP7 w.heap.size from fun h => HN6.out (hf7.back _ HY6.out.lt h))
              clear hc7 hf7 HC6 HF6 HR6 HY6 HN6 HCall z0 z1 z2
              rcases hb3' with rfl | h14
              · have HRs := Lib.hid (show srchY T b (M[i] :: M.drop (i + 1)) s used = ⟨0, ru, j :: rp⟩ from HTr2.out)
                clear HTr2
                go_wp2_with fail
                go_ret
                rw [HD.out, HRs.out]
                exact ⟨rfl, vP7, by simpa using HC7.out, HF7.out⟩
              · have hrc : ¬ rc = 0 := by omega
                obtain ⟨A7, c7, rfl, _, _⟩ := own_slice HC7.out.p
                have HC8 := Lib.hid (show SM base S AT (some ⟨mb, mo, none⟩) cM T M b (if rc = 15 then b + 1 else ru) (pl ++ [j]) (.slice A7 (pl.length + 1) c7) w7 by
                  have h := HC7.out
                  simp only [hrc, if_false] at h
                  simpa using h)
                have HFa := Lib.hid (show FrY base (DS S vP) (DS S (.slice A7 (pl.length + 1) c7)) w w7 by have h := HF7.out; simp only [hrc, if_false, List.length_append, List.length_singleton] at h; exact h)
                obtain ⟨g7, rfl⟩ : ∃ g, A7 = some ⟨g, 0, none⟩ := by
                  have hp := HC8.out.p
                  rw [List.length_append, List.length_singleton] at hp
                  obtain ⟨g, c', e, _, _⟩ := hp.form (by omega)
                  injection e with e
                  exact ⟨g, e⟩
                have hcap7 : pl.length ≤ c7 := by
                  have hp := HC8.out.p
                  rw [List.length_append, List.length_singleton] at hp
                  have := (own_cap hp).1
                  omega
                have hpop := HC8.out.pop
                have HPp := Lib.hid hpop
                have HRa := Lib.hid (show RfN (DS S (.slice (some ⟨g7, 0, none⟩) (pl.length + 1) c7)) AO AU cU T us s vs w7 by have h := HR7.out; simp only [hrc, if_false, List.length_append, List.length_singleton] at h; exact h)
                have HNa := Lib.hid (show ¬ DS S (.slice (some ⟨g7, 0, none⟩) (pl.length + 1) c7) w.heap.size by have h := HN7.out; simp only [hrc, if_false, List.length_append, List.length_singleton] at h; exact h)
                have q3 := HC8.out.s.cell 3
                have f3 := HC8.out.s.frozen 3
                have hsl := HC8.out.s.lt
                simp only [List.getElem?_toArray, List.getElem?_cons_succ, List.getElem?_cons_zero] at q3
                have t0 : (0 : Int) ≤ (pl.length : Int) := by omega
                have t1 : (pl.length : Int) ≤ (c7 : Int) := by omega
                have hwl : IntKind.i64.wrap (pl.length : Int) = (pl.length : Int) := IntWalk.i64_in _ (by omega)
                clear hpop HC7 HF7 HR7 HN7
                go_upto_region 14 with fail
                go_region
                go_upto_region 15 with fail
                refine world_gen (fun w8 => SM base S AT (some ⟨mb, mo, none⟩) cM T M b (if rc = 15 then b + 1 else ru) pl (.slice (some ⟨g7, 0, none⟩) pl.length c7) w8 ∧ FrY base (DS S vP) (DS S (.slice (some ⟨g7, 0, none⟩) pl.length c7)) w w8 ∧ RfN (DS S (.slice (some ⟨g7, 0, none⟩) pl.length c7)) AO AU cU T us s vs w8 ∧ Blk w8 w.heap.size 67 #[.slice AT T.length cT, .slice AO T.length cO, .slice AU us.length cU] ∧ ¬ DS S (.slice (some ⟨g7, 0, none⟩) pl.length c7) w.heap.size)
                  ⟨HPp.out.1.grow (by repeat (first | exact Below.refl _ _ | (with_reducible refine Below.drew ?_) | (with_reducible refine below_drewN ?_ _) | (with_reducible refine Below.alloc ?_ (by first | omega | (simp; done) | (simp; omega)) _) | (with_reducible refine Below.setCell ?_ (by first | omega | (simp; done) | (simp; omega)) _) | (refine Below.trans ?_ (Below.mono (by with_reducible assumption) (by first | omega | (simp; done) | (simp; omega)))))), (HFa.out.trans HPp.out.2).trans (FrY.grow (by repeat (first | exact Below.refl _ _ | (with_reducible refine Below.drew ?_) | (with_reducible refine below_drewN ?_ _) | (with_reducible refine Below.alloc ?_ (by first | omega | (simp; done) | (simp; omega)) _) | (with_reducible refine Below.setCell ?_ (by first | omega | (simp; done) | (simp; omega)) _) | (refine Below.trans ?_ (Below.mono (by with_reducible assumption) (by first | omega | (simp; done) | (simp; omega)))))) HPp.out.1.hb), (HRa.out.fr HPp.out.2).fr (FrY.grow (base := base) (by repeat (first | exact Below.refl _ _ | (with_reducible refine Below.drew ?_) | (with_reducible refine below_drewN ?_ _) | (with_reducible refine Below.alloc ?_ (by first | omega | (simp; done) | (simp; omega)) _) | (with_reducible refine Below.setCell ?_ (by first | omega | (simp; done) | (simp; omega)) _) | (refine Below.trans ?_ (Below.mono (by with_reducible assumption) (by first | omega | (simp; done) | (simp; omega)))))) HPp.out.1.hb), ((HY7.out.far (fun e => HNa.out (.inl e.symm))).dr), fun h => HNa.out (HPp.out.2.back _ HY7.out.lt h)⟩ ?_
                clear q3 f3 hsl t0 t1 hwl HPp HC8 HFa HRa HY7 HNa
                rintro w8 ⟨hc8, hf8, hr8, hy8, hn8⟩
                have HC8 := Lib.hid hc8
                have HF8 := Lib.hid hf8
                have HR8 := Lib.hid hr8
                have HY8 := Lib.hid hy8
                have HN8 := Lib.hid hn8
                clear hc8 hf8 hr8 hy8 hn8
                rcases h14 with rfl | rfl
                · have HTr3 := Lib.hid (show triesY T b M[i] s (srchY T b (M.drop (i + 1))) T.length used = triesY T b M[i] s (srchY T b (M.drop (i + 1))) K ru by
                    have h := HTr2.out
                    rwa [if_pos rfl] at h)
                  have HC9 := Lib.hid (show SM base S AT (some ⟨mb, mo, none⟩) cM T M b ru pl (.slice (some ⟨g7, 0, none⟩) pl.length c7) w8 from HC8.out)
                  have u1 := HC9.out.s.cell 1
                  have u2 := HC9.out.s.cell 2
                  simp only [List.getElem?_toArray, List.getElem?_cons_succ, List.getElem?_cons_zero] at u1 u2
                  have hgt : decide ((b : Int) < (ru : Int)) = false := by simp; omega
                  clear HTr2 HC8
                  go_region_held3 (fun w' => w'.cell? ⟨S, 1, none⟩ = some (.int .i64 b) ∧ w'.cell? ⟨S, 2, none⟩ = some (.int .i64 ru)) (first | exact ⟨u1, u2⟩ | go_keep) (fail)
                  have HD8 := Lib.hid (FrY.grow (base := base) (D := DS S (.slice (some ⟨g7, 0, none⟩) pl.length c7)) (w := w8) (w' := w8.drew) (by repeat (first | exact Below.refl _ _ | (with_reducible refine Below.drew ?_) | (with_reducible refine below_drewN ?_ _) | (with_reducible refine Below.alloc ?_ (by first | omega | (simp; done) | (simp; omega)) _) | (with_reducible refine Below.setCell ?_ (by first | omega | (simp; done) | (simp; omega)) _) | (refine Below.trans ?_ (Below.mono (by with_reducible assumption) (by first | omega | (simp; done) | (simp; omega)))))) HC9.out.hb)
                  have HCx := Lib.hid (HC9.out.grow (w' := w8.drew) (by repeat (first | exact Below.refl _ _ | (with_reducible refine Below.drew ?_) | (with_reducible refine below_drewN ?_ _) | (with_reducible refine Below.alloc ?_ (by first | omega | (simp; done) | (simp; omega)) _) | (with_reducible refine Below.setCell ?_ (by first | omega | (simp; done) | (simp; omega)) _) | (refine Below.trans ?_ (Below.mono (by with_reducible assumption) (by first | omega | (simp; done) | (simp; omega)))))))
                  have HFx := Lib.hid (HF8.out.trans HD8.out)
                  have HRx := Lib.hid (HR8.out.fr HD8.out)
                  have HYx := Lib.hid HY8.out.dr
                  clear u1 u2 HC9 HF8 HR8 HY8 HD8
                  go_wp2_with fail
                  go_roundg K
                  case measure => have := Hj.out; have := HK.out; omega
                  case rel => exact ⟨j + 1, ru, _, by first | rfl | go_num, by have := HK.out; omega, by omega, HCx.out, HFx.out, HRx.out, HYx.out, HN8.out, HTr3.out⟩
                · have HRs := Lib.hid (show srchY T b (M[i] :: M.drop (i + 1)) s used = ⟨15, ru, j :: rp⟩ by
                    have h := HTr2.out
                    rw [if_neg (by omega)] at h
                    exact h)
                  have HC9 := Lib.hid (show SM base S AT (some ⟨mb, mo, none⟩) cM T M b (b + 1) pl (.slice (some ⟨g7, 0, none⟩) pl.length c7) w8 from HC8.out)
                  have u1 := HC9.out.s.cell 1
                  have u2 := HC9.out.s.cell 2
                  simp only [List.getElem?_toArray, List.getElem?_cons_succ, List.getElem?_cons_zero] at u1 u2
                  have hgt : decide ((b : Int) < (b : Int) + 1) = true := by simp; omega
                  clear HTr2 HC8
                  go_region_held3 (fun w' => w'.cell? ⟨S, 1, none⟩ = some (.int .i64 b) ∧ w'.cell? ⟨S, 2, none⟩ = some (.int .i64 ((b + 1 : Nat) : Int))) (first | exact ⟨u1, u2⟩ | go_keep) (fail)
                  have HCx := Lib.hid (HC9.out.grow (w' := w8.drew) (by repeat (first | exact Below.refl _ _ | (with_reducible refine Below.drew ?_) | (with_reducible refine below_drewN ?_ _) | (with_reducible refine Below.alloc ?_ (by first | omega | (simp; done) | (simp; omega)) _) | (with_reducible refine Below.setCell ?_ (by first | omega | (simp; done) | (simp; omega)) _) | (refine Below.trans ?_ (Below.mono (by with_reducible assumption) (by first | omega | (simp; done) | (simp; omega)))))))
                  have HFx := Lib.hid (HF8.out.trans (FrY.grow (base := base) (w := w8) (w' := w8.drew) (by repeat (first | exact Below.refl _ _ | (with_reducible refine Below.drew ?_) | (with_reducible refine below_drewN ?_ _) | (with_reducible refine Below.alloc ?_ (by first | omega | (simp; done) | (simp; omega)) _) | (with_reducible refine Below.setCell ?_ (by first | omega | (simp; done) | (simp; omega)) _) | (refine Below.trans ?_ (Below.mono (by with_reducible assumption) (by first | omega | (simp; done) | (simp; omega)))))) HC9.out.hb))
                  clear u1 u2 HC9 HF8 HR8 HY8
                  go_wp2_with fail
                  go_ret
                  rw [HD.out, HRs.out]
                  exact ⟨rfl, _, by simpa using HCx.out, HFx.out⟩
      · obtain rfl : j = T.length := by have := Hj.out; omega
        have hg0 : gk = 0 := by have := Hj.out; omega
        rw [hg0] at htr
        have HRs := Lib.hid (show srchY T b (M[i] :: M.drop (i + 1)) s used = ⟨14, used1, []⟩ from htr)
        clear htr hg0
        go_wp2_with fail
        go_ret
        rw [HD.out, HRs.out]
        exact ⟨rfl, vP1, by simpa using HC1.out, HF1.out⟩
end Go.Proofs.Ytffgnfefejimnaa
