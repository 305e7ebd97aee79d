import Derived.Test.YthfifejjfnmpoaaTp1
import Derived.Test.YthfifejjfnmpoaaBunA
namespace Go.Proofs.Ythfifejjfnmpoaa
open Go.RowKit
/-! Two trips: their order, and whether they are valid or equal. -/
def cmpI (a b : Int) : Int := if a < b then -1 else if b < a then 1 else 0
def cmpV (a b : PT) : Int := if ltK a b then -1 else if ltK b a then 1 else 0
def orV : List Int → Int
  | [] => 0
  | x :: r => if x = 0 then orV r else x
theorem cmpV_lt {a b : PT} : cmpV a b < 0 ↔ ltK a b := by
  unfold cmpV
  split
  · simp [*]
  · split <;> simp [*]
theorem cmpV_gt {a b : PT} : 0 < cmpV a b ↔ ltK b a := by
  unfold cmpV
  split
  · have := ltK_asymm ‹_›; simp [*]
  · split <;> simp [*]
theorem cmpV_eq {a b : PT} : cmpV a b = 0 ↔ eqK a b := by
  unfold cmpV
  split
  · have := ltK_neq ‹_›; simp [*]
  · split
    · have := gtK_neq ‹_›; simp [*]
    · rename_i h1 h2
      have := eqK_of h1 h2; simp [this]
theorem cmpV_bd (a b : PT) : -1 ≤ cmpV a b ∧ cmpV a b ≤ 1 := by
  unfold cmpV
  split
  · omega
  · split <;> omega
theorem cmpV_or (a b : PT) : orV [cmpI (k1 a) (k1 b), cmpI a.ln b.ln] = cmpV a b := by
  unfold orV orV orV cmpV cmpI ltK
  rcases Int.lt_trichotomy (k1 a) (k1 b) with h | h | h <;> rcases Int.lt_trichotomy a.ln b.ln with g | g | g <;> (repeat split) <;> omega
set_option maxHeartbeats 1600000 in
theorem cmpI_any (a b : Int) (w : World) : Calls Try.prog 51 #[.int .i64 a, .int .i64 b] w fun e w' => e = .returned (.int .i64 (cmpI a b)) ∧ Below w.heap.size w w' := by
  have nan : ∀ (x : Int) (w : World), Calls Try.prog 56 #[.int .i64 x] w fun e w' => e = .returned (.bool false) ∧ w = w' := fun x w => by
    have hx : (x != x) = false := by simp
    go_enter Try.func56, Try.ntmps56
    go_wp2_with fail
    go_ret
    exact ⟨rfl, rfl⟩
  have NAN := Lib.hid nan
  clear nan
  have HC := Lib.hid (show cmpI a b = if a < b then -1 else if b < a then 1 else 0 from rfl)
  generalize cmpI a b = z at *
  rcases Int.lt_trichotomy a b with h | h | h
  · have hz : z = -1 := by rw [HC.out, if_pos h]
    subst hz
    clear HC
    go_enter Try.func51, Try.ntmps51
    go_wp2_with fail
    refine (NAN.out _ _).mono ?_
    rintro e w1 ⟨rfl, rfl⟩
    go_wp2_with fail
    refine (NAN.out _ _).mono ?_
    rintro e w1 ⟨rfl, rfl⟩
    go_wp2_with fail
    go_ret
    exact ⟨rfl, (by repeat (first | exact Below.refl _ _ | (with_reducible refine Below.drew ?_) | (with_reducible refine below_drewN ?_ _) | (with_reducible refine Below.alloc ?_ (by first | omega | (simp; done) | (simp; omega)) _) | (with_reducible refine Below.setCell ?_ (by first | omega | (simp; done) | (simp; omega)) _) | (refine Below.trans ?_ (Below.mono (by with_reducible assumption) (by first | omega | (simp; done) | (simp; omega))))))⟩
  · subst h
    have hz : z = 0 := by rw [HC.out, if_neg (by omega), if_neg (by omega)]
    subst hz
    clear HC
    go_enter Try.func51, Try.ntmps51
    go_wp2_with fail
    refine (NAN.out _ _).mono ?_
    rintro e w1 ⟨rfl, rfl⟩
    go_wp2_with fail
    refine (NAN.out _ _).mono ?_
    rintro e w1 ⟨rfl, rfl⟩
    go_wp2_with fail
    go_ret
    exact ⟨rfl, (by repeat (first | exact Below.refl _ _ | (with_reducible refine Below.drew ?_) | (with_reducible refine below_drewN ?_ _) | (with_reducible refine Below.alloc ?_ (by first | omega | (simp; done) | (simp; omega)) _) | (with_reducible refine Below.setCell ?_ (by first | omega | (simp; done) | (simp; omega)) _) | (refine Below.trans ?_ (Below.mono (by with_reducible assumption) (by first | omega | (simp; done) | (simp; omega))))))⟩
  · have hz : z = 1 := by rw [HC.out, if_neg (by omega), if_pos h]
    subst hz
    clear HC
    go_enter Try.func51, Try.ntmps51
    go_wp2_with fail
    refine (NAN.out _ _).mono ?_
    rintro e w1 ⟨rfl, rfl⟩
    go_wp2_with fail
    refine (NAN.out _ _).mono ?_
    rintro e w1 ⟨rfl, rfl⟩
    go_wp2_with fail
    go_ret
    exact ⟨rfl, (by repeat (first | exact Below.refl _ _ | (with_reducible refine Below.drew ?_) | (with_reducible refine below_drewN ?_ _) | (with_reducible refine Below.alloc ?_ (by first | omega | (simp; done) | (simp; omega)) _) | (with_reducible refine Below.setCell ?_ (by first | omega | (simp; done) | (simp; omega)) _) | (refine Below.trans ?_ (Below.mono (by with_reducible assumption) (by first | omega | (simp; done) | (simp; omega))))))⟩
def OrL (w : World) (xs : List Int) (k : Nat) (v : Value) (wr : World) : Prop :=
  ∃ s d : Nat, v = .int .i64 s ∧ s + k = xs.length ∧ orV (xs.drop s) = orV xs ∧ wr = w.drewN d
set_option maxHeartbeats 1600000 in
theorem or_any (A : Option Addr) (c : Nat) (xs : List Int) (w : World) (h : Rd w w.heap.size 1 A xs.length (xs.map (Value.int .i64))) (_hx : xs.length ≤ 4611686018427387904) :
    Calls Try.prog 50 #[.slice A xs.length c] w fun e w' => e = .returned (.int .i64 (orV xs)) ∧ Below w.heap.size w w' := by
  have H := Lib.hid h
  clear h
  generalize hz0 : orV xs = z at *
  have HZ0 := Lib.hid hz0
  clear hz0
  go_enter Try.func50, Try.ntmps50
  go_wp2_with fail
  go_loopg [5, 8] xs.length (fun k _ v wr => OrL w xs k v wr)
  case atStart => exact ⟨0, 0, rfl, by omega, rfl, rfl⟩
  case round =>
    obtain ⟨s, d, rfl, hs, ht, rfl⟩ := hrel
    have Hs := Lib.hid hs
    have HT := Lib.hid (ht.trans HZ0.out)
    clear hs ht
    by_cases hlt : s < xs.length
    · obtain ⟨b, off, rfl, _, q0⟩ := rd1 H.out s hlt
      have HD := Lib.hid (List.drop_eq_getElem_cons hlt)
      generalize xs[s] = q at *
      by_cases hq : q = 0
      · subst hq
        have HN := Lib.hid (show orV (xs.drop (s + 1)) = z by
          have := HT.out
          rw [HD.out] at this
          simpa [orV] using this)
        clear HD
        go_wp2_with fail
        go_roundg (xs.length - s - 1)
        case measure => have := Hs.out; omega
        case rel => exact ⟨s + 1, _, by first | rfl | go_num, by omega, HN.out.trans HZ0.out.symm, rfl⟩
      · have hq2 : (q != 0) = true := by simpa using hq
        have hz : z = q := by
          have := HT.out
          rw [HD.out] at this
          rw [← this]
          simp [orV, hq]
        subst hz
        clear HD
        go_wp2_with fail
        go_ret
        exact ⟨rfl, (by repeat (first | exact Below.refl _ _ | (with_reducible refine Below.drew ?_) | (with_reducible refine below_drewN ?_ _) | (with_reducible refine Below.alloc ?_ (by first | omega | (simp; done) | (simp; omega)) _) | (with_reducible refine Below.setCell ?_ (by first | omega | (simp; done) | (simp; omega)) _) | (refine Below.trans ?_ (Below.mono (by with_reducible assumption) (by first | omega | (simp; done) | (simp; omega))))))⟩
    · have hz : z = 0 := by
        have := HT.out
        rw [List.drop_of_length_le (by omega)] at this
        exact this.symm
      subst hz
      clear HZ0 HT
      go_wp2_with fail
      go_ret
      exact ⟨rfl, (by repeat (first | exact Below.refl _ _ | (with_reducible refine Below.drew ?_) | (with_reducible refine below_drewN ?_ _) | (with_reducible refine Below.alloc ?_ (by first | omega | (simp; done) | (simp; omega)) _) | (with_reducible refine Below.setCell ?_ (by first | omega | (simp; done) | (simp; omega)) _) | (refine Below.trans ?_ (Below.mono (by with_reducible assumption) (by first | omega | (simp; done) | (simp; omega))))))⟩
/-- the first departure -/
theorem TM.k0 {w : World} {B : Nat} {t : CT} (h : TM w B t) (hn : 1 ≤ t.dep.length) : ∃ b off, t.Ad = some ⟨b, off, none⟩ ∧ b < w.heap.size ∧ w.cell? ⟨b, off, none⟩ = some (.int .i64 (k1 t.pt)) := by
  obtain ⟨b, off, e, hb, hc⟩ := rd1 h.d.r 0 (by omega)
  refine ⟨b, off, e, hb, ?_⟩
  rw [show k1 t.pt = t.dep[0]'(by omega) by
    obtain ⟨ln, dy, Ad, cd, Aa, ca, dep, arr⟩ := t
    cases dep with
    | nil => simp at hn
    | cons x r => rfl]
  simpa using hc
theorem Rd.of_blk {w : World} {g : Nat} {t : TypeId} {cs : List Value} {sz n : Nat} (h : Blk w g t cs.toArray) (hl : cs.length = n * sz) : Rd w w.heap.size sz (some ⟨g, 0, none⟩) n cs :=
  ⟨hl, fun _ => ⟨g, 0, rfl, h.lt, fun j u hu => by rw [h.cell]; simpa using hu⟩⟩
set_option maxRecDepth 100000 in
set_option maxHeartbeats 3200000 in
theorem cmp_any (a b : CT) (w : World) (ha : TM w w.heap.size a) (hb : TM w w.heap.size b) (ha1 : 1 ≤ a.dep.length) (hb1 : 1 ≤ b.dep.length) :
    Calls Try.prog 34 #[.agg #[.int .i64 (a).ln, .int .i64 (a).dy, .slice (a).Ad (a).dep.length (a).cd, .slice (a).Aa (a).arr.length (a).ca], .agg #[.int .i64 (b).ln, .int .i64 (b).dy, .slice (b).Ad (b).dep.length (b).cd, .slice (b).Aa (b).arr.length (b).ca]] w fun e w' => e = .returned (.int .i64 (cmpV a.pt b.pt)) ∧ Below w.heap.size w w' := by
  obtain ⟨ba, oa, ea, hba, ca0⟩ := ha.k0 ha1
  obtain ⟨bb, ob, eb, hbb, cb0⟩ := hb.k0 hb1
  have sa := ha.d.sz
  have sb := hb.d.sz
  clear ha hb
  have HR := Lib.hid (cmpV_or a.pt b.pt)
  have e1 : a.pt.ln = a.ln := rfl
  have e2 : b.pt.ln = b.ln := rfl
  rw [e1, e2] at HR
  clear e1 e2
  generalize cmpV a.pt b.pt = z at *
  generalize k1 a.pt = ka at *
  generalize k1 b.pt = kb at *
  obtain ⟨ln, dy, Ad, cd, Aa, ca, dep, arr⟩ := a
  obtain ⟨ln', dy', Ad', cd', Aa', ca', dep', arr'⟩ := b
  simp only at ea eb ha1 hb1 sa sb HR
  subst ea eb
  go_enter Try.func34, Try.ntmps34
  go_upto_region 1 with fail
  refine world_gen (fun w0 => Below w.heap.size w w0 ∧ Blk w0 w.heap.size 28 #[.int .i64 (CT.mk ln dy (some ⟨ba, oa, none⟩) cd Aa ca dep arr).ln, .int .i64 (CT.mk ln dy (some ⟨ba, oa, none⟩) cd Aa ca dep arr).dy, .slice (CT.mk ln dy (some ⟨ba, oa, none⟩) cd Aa ca dep arr).Ad (CT.mk ln dy (some ⟨ba, oa, none⟩) cd Aa ca dep arr).dep.length (CT.mk ln dy (some ⟨ba, oa, none⟩) cd Aa ca dep arr).cd, .slice (CT.mk ln dy (some ⟨ba, oa, none⟩) cd Aa ca dep arr).Aa (CT.mk ln dy (some ⟨ba, oa, none⟩) cd Aa ca dep arr).arr.length (CT.mk ln dy (some ⟨ba, oa, none⟩) cd Aa ca dep arr).ca] ∧ Blk w0 (w.heap.size + 1) 28 #[.int .i64 (CT.mk ln' dy' (some ⟨bb, ob, none⟩) cd' Aa' ca' dep' arr').ln, .int .i64 (CT.mk ln' dy' (some ⟨bb, ob, none⟩) cd' Aa' ca' dep' arr').dy, .slice (CT.mk ln' dy' (some ⟨bb, ob, none⟩) cd' Aa' ca' dep' arr').Ad (CT.mk ln' dy' (some ⟨bb, ob, none⟩) cd' Aa' ca' dep' arr').dep.length (CT.mk ln' dy' (some ⟨bb, ob, none⟩) cd' Aa' ca' dep' arr').cd, .slice (CT.mk ln' dy' (some ⟨bb, ob, none⟩) cd' Aa' ca' dep' arr').Aa (CT.mk ln' dy' (some ⟨bb, ob, none⟩) cd' Aa' ca' dep' arr').arr.length (CT.mk ln' dy' (some ⟨bb, ob, none⟩) cd' Aa' ca' dep' arr').ca]) ⟨(by repeat (first | exact Below.refl _ _ | (with_reducible refine Below.drew ?_) | (with_reducible refine below_drewN ?_ _) | (with_reducible refine Below.alloc ?_ (by first | omega | (simp; done) | (simp; omega)) _) | (with_reducible refine Below.setCell ?_ (by first | omega | (simp; done) | (simp; omega)) _) | (refine Below.trans ?_ (Below.mono (by with_reducible assumption) (by first | omega | (simp; done) | (simp; omega)))))), (Blk.new w _ _).al _, by simpa using Blk.new (w.alloc _) 28 _⟩ ?_
  rintro w0 ⟨hb0, hx0, hy0⟩
  have HB0 := Lib.hid hb0
  have hxl := hx0.lt
  have hyl := hy0.lt
  have x0 := hx0.cell 0
  have x1 := hx0.cell 1
  have x2 := hx0.cell 2
  have x3 := hx0.cell 3
  have y0 := hy0.cell 0
  have y1 := hy0.cell 1
  have y2 := hy0.cell 2
  have y3 := hy0.cell 3
  simp at x0 x1 x2 x3 y0 y1 y2 y3
  clear hx0 hy0
  have p0 := cell_bel hb0 ca0
  have p1 := cell_bel hb0 cb0
  have hpl := Nat.lt_of_lt_of_le hba hb0.size
  have hql := Nat.lt_of_lt_of_le hbb hb0.size
  clear hb0 ca0 cb0
  refine wp_region_overT2 14 (by kernel_rfl) (by kernel_rfl) ?_
  simp only [List.take_succ_cons, List.take_zero, List.drop_succ_cons, List.drop_zero]
  repeat (go_big_quiet_step ((go_at_call 51; exact callsOver (cmpI_any _ _ _))))
  refine wpQuiet_nil ?_
  intro w1 hb1
  have HB1 := Lib.hid (HB0.out.trans (hb1.mono HB0.out.size))
  clear hb1 x0 x1 x2 x3 y0 y1 y2 y3 p0 p1
  generalize cmpI ka kb = x at *
  generalize cmpI ln ln' = y at *
  go_wp2_with fail
  refine (or_any _ _ [x, y] _ (Rd.of_blk (Blk.new w1 3 #[.int .i64 x, .int .i64 y]) rfl) (by simp)).mono ?_
  rintro e w2 ⟨rfl, hb2⟩
  have HB2 := Lib.hid (HB1.out.trans (((Below.refl w1.heap.size w1).alloc (Nat.le_refl _) (.cells #[.int .i64 x, .int .i64 y] 3)).trans (hb2.mono (by simp)) |>.mono HB1.out.size))
  clear hb2
  go_wp2_with fail
  go_ret
  exact ⟨by rw [HR.out]; rfl, HB2.out⟩
end Go.Proofs.Ythfifejjfnmpoaa
