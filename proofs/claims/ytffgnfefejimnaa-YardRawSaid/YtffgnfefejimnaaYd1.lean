import Derived.Test.YtffgnfefejimnaaBunA
import Derived.Test.YtffgnfefejimnaaYdMath
namespace Go.Proofs.Ytffgnfefejimnaa
open Go.RowKit
def Tk.cells (x : Tk) : List Value := [.int .i64 x.ln, .bool x.thr]
theorem Tk.len (x : Tk) : x.cells.length = 2 := rfl
theorem Tk.one (x : Tk) : ∀ u ∈ x.cells, u.oneCell' = true := by intro u hu; simp only [Tk.cells, List.mem_cons, List.not_mem_nil, or_false] at hu; rcases hu with rfl | rfl <;> rfl
theorem infoTk : (Try.prog.info? 43).map (fun i => (i.zero, i.size, i.bytes)) = some (some (.agg #[.int .i64 0, .bool false]), 2, 16) := by kernel_rfl
theorem rdTk {w : World} {B n : Nat} {A : Option Addr} {xs : List Tk} (h : Rd w B 2 A n (xs.flatMap Tk.cells)) (hn : n = xs.length) (j : Nat) (hj : j < xs.length) :
    ∃ b off, A = some ⟨b, off, none⟩ ∧ b < B ∧ w.cell? ⟨b, off + j * 2, none⟩ = some (.int .i64 xs[j].ln) ∧ w.cell? ⟨b, off + j * 2 + 1, none⟩ = some (.bool xs[j].thr) := by
  obtain ⟨b, off, rfl, hb, hc⟩ := h.2 (by omega)
  have h2 : ∀ i u, i < 2 → xs[j].cells[i]? = some u → w.cell? ⟨b, off + (j * 2 + i), none⟩ = some u := fun i u hi hu => hc _ u (by rw [flat_get Tk.cells 2 Tk.len xs j hj i hi]; exact hu)
  exact ⟨b, off, rfl, hb, h2 0 _ (by omega) rfl, h2 1 _ (by omega) rfl⟩
theorem ownTk {w : World} {base n cap g : Nat} {xs : List Tk} (h : w.ownsRow base 43 2 (.slice (some ⟨g, 0, none⟩) n cap) n (xs.flatMap Tk.cells)) (hn : n = xs.length) (j : Nat) (hj : j < xs.length) : w.cell? ⟨g, j * 2, none⟩ = some (.int .i64 xs[j].ln) ∧ w.cell? ⟨g, j * 2 + 1, none⟩ = some (.bool xs[j].thr) := by
  have hc : ∀ i, i < 2 → w.cell? ⟨g, j * 2 + i, none⟩ = xs[j].cells[i]? := fun i hi => by
    rw [h.cellAt (j * 2 + i) (by omega)]
    exact flat_get Tk.cells 2 Tk.len xs j hj i hi
  exact ⟨hc 0 (by omega), hc 1 (by omega)⟩
def Mv.cells (x : Mv) : List Value := [.bool x.inn, .int .i64 x.kind, .int .i64 x.ln]
theorem Mv.len (x : Mv) : x.cells.length = 3 := rfl
theorem Mv.one (x : Mv) : ∀ u ∈ x.cells, u.oneCell' = true := by intro u hu; simp only [Mv.cells, List.mem_cons, List.not_mem_nil, or_false] at hu; rcases hu with rfl | rfl | rfl <;> rfl
theorem infoMv : (Try.prog.info? 41).map (fun i => (i.zero, i.size, i.bytes)) = some (some (.agg #[.bool false, .int .i64 0, .int .i64 0]), 3, 24) := by kernel_rfl
theorem rdMv {w : World} {B n : Nat} {A : Option Addr} {xs : List Mv} (h : Rd w B 3 A n (xs.flatMap Mv.cells)) (hn : n = xs.length) (j : Nat) (hj : j < xs.length) :
    ∃ b off, A = some ⟨b, off, none⟩ ∧ b < B ∧ w.cell? ⟨b, off + j * 3, none⟩ = some (.bool xs[j].inn) ∧ w.cell? ⟨b, off + j * 3 + 1, none⟩ = some (.int .i64 xs[j].kind) ∧ w.cell? ⟨b, off + j * 3 + 2, none⟩ = some (.int .i64 xs[j].ln) := by
  obtain ⟨b, off, rfl, hb, hc⟩ := h.2 (by omega)
  have h2 : ∀ i u, i < 3 → xs[j].cells[i]? = some u → w.cell? ⟨b, off + (j * 3 + i), none⟩ = some u := fun i u hi hu => hc _ u (by rw [flat_get Mv.cells 3 Mv.len xs j hj i hi]; exact hu)
  exact ⟨b, off, rfl, hb, h2 0 _ (by omega) rfl, h2 1 _ (by omega) rfl, h2 2 _ (by omega) rfl⟩
theorem ownMv {w : World} {base n cap g : Nat} {xs : List Mv} (h : w.ownsRow base 41 3 (.slice (some ⟨g, 0, none⟩) n cap) n (xs.flatMap Mv.cells)) (hn : n = xs.length) (j : Nat) (hj : j < xs.length) : w.cell? ⟨g, j * 3, none⟩ = some (.bool xs[j].inn) ∧ w.cell? ⟨g, j * 3 + 1, none⟩ = some (.int .i64 xs[j].kind) ∧ w.cell? ⟨g, j * 3 + 2, none⟩ = some (.int .i64 xs[j].ln) := by
  have hc : ∀ i, i < 3 → w.cell? ⟨g, j * 3 + i, none⟩ = xs[j].cells[i]? := fun i hi => by
    rw [h.cellAt (j * 3 + i) (by omega)]
    exact flat_get Mv.cells 3 Mv.len xs j hj i hi
  exact ⟨hc 0 (by omega), hc 1 (by omega), hc 2 (by omega)⟩
def Un.cells (x : Un) : List Value := [.int .i64 x.num, .int .i64 x.kind, .int .i64 x.ln]
theorem Un.len (x : Un) : x.cells.length = 3 := rfl
theorem Un.one (x : Un) : ∀ u ∈ x.cells, u.oneCell' = true := by intro u hu; simp only [Un.cells, List.mem_cons, List.not_mem_nil, or_false] at hu; rcases hu with rfl | rfl | rfl <;> rfl
theorem infoUn : (Try.prog.info? 57).map (fun i => (i.zero, i.size, i.bytes)) = some (some (.agg #[.int .i64 0, .int .i64 0, .int .i64 0]), 3, 24) := by kernel_rfl
theorem rdUn {w : World} {B n : Nat} {A : Option Addr} {xs : List Un} (h : Rd w B 3 A n (xs.flatMap Un.cells)) (hn : n = xs.length) (j : Nat) (hj : j < xs.length) :
    ∃ b off, A = some ⟨b, off, none⟩ ∧ b < B ∧ w.cell? ⟨b, off + j * 3, none⟩ = some (.int .i64 xs[j].num) ∧ w.cell? ⟨b, off + j * 3 + 1, none⟩ = some (.int .i64 xs[j].kind) ∧ w.cell? ⟨b, off + j * 3 + 2, none⟩ = some (.int .i64 xs[j].ln) := by
  obtain ⟨b, off, rfl, hb, hc⟩ := h.2 (by omega)
  have h2 : ∀ i u, i < 3 → xs[j].cells[i]? = some u → w.cell? ⟨b, off + (j * 3 + i), none⟩ = some u := fun i u hi hu => hc _ u (by rw [flat_get Un.cells 3 Un.len xs j hj i hi]; exact hu)
  exact ⟨b, off, rfl, hb, h2 0 _ (by omega) rfl, h2 1 _ (by omega) rfl, h2 2 _ (by omega) rfl⟩
theorem ownUn {w : World} {base n cap g : Nat} {xs : List Un} (h : w.ownsRow base 57 3 (.slice (some ⟨g, 0, none⟩) n cap) n (xs.flatMap Un.cells)) (hn : n = xs.length) (j : Nat) (hj : j < xs.length) : w.cell? ⟨g, j * 3, none⟩ = some (.int .i64 xs[j].num) ∧ w.cell? ⟨g, j * 3 + 1, none⟩ = some (.int .i64 xs[j].kind) ∧ w.cell? ⟨g, j * 3 + 2, none⟩ = some (.int .i64 xs[j].ln) := by
  have hc : ∀ i, i < 3 → w.cell? ⟨g, j * 3 + i, none⟩ = xs[j].cells[i]? := fun i hi => by
    rw [h.cellAt (j * 3 + i) (by omega)]
    exact flat_get Un.cells 3 Un.len xs j hj i hi
  exact ⟨hc 0 (by omega), hc 1 (by omega), hc 2 (by omega)⟩
theorem infoInt : (Try.prog.info? 3).map (fun i => (i.zero, i.size, i.bytes)) = some (some (.int .i64 0), 1, 8) := by kernel_rfl
theorem infoRow : (Try.prog.info? 76).map (fun i => (i.zero, i.size, i.bytes)) = some (some (.slice none 0 0), 1, 24) := by kernel_rfl
theorem infoInts : (Try.prog.info? 22).map (fun i => (i.zero, i.size, i.bytes)) = some (some (.slice none 0 0), 1, 24) := by kernel_rfl
/-- tracks and moves that are read -/
structure TRd (w : World) (A : Option Addr) (T : List Tk) : Prop where
  r : Rd w w.heap.size 2 A T.length (T.flatMap Tk.cells)
  n : T.length ≤ 4611686018427387904
structure MRd (w : World) (A : Option Addr) (M : List Mv) : Prop where
  r : Rd w w.heap.size 3 A M.length (M.flatMap Mv.cells)
  n : M.length ≤ 4611686018427387904
theorem TRd.grow {w w' : World} {A : Option Addr} {T : List Tk} (h : TRd w A T) (hb : Below w.heap.size w w') : TRd w' A T := ⟨(h.r.grow hb).more hb.size, h.n⟩
theorem MRd.grow {w w' : World} {A : Option Addr} {M : List Mv} (h : MRd w A M) (hb : Below w.heap.size w w') : MRd w' A M := ⟨(h.r.grow hb).more hb.size, h.n⟩
theorem chkY_iff {T : List Tk} {M : List Mv} : chkY T M = true ↔ (1 ≤ T.length ∧ T.length ≤ 8 ∧ M.length ≤ 24) ∧ (∀ t ∈ T, tkOk t = true) ∧ ∀ m ∈ M, mvOk m = true := by
  simp [chkY, List.all_eq_true]
  constructor
  · rintro ⟨⟨⟨⟨a, b⟩, c⟩, d⟩, e⟩; exact ⟨⟨a, b, c⟩, d, e⟩
  · rintro ⟨⟨a, b, c⟩, d, e⟩; exact ⟨⟨⟨⟨a, b⟩, c⟩, d⟩, e⟩
theorem chkY_no {T : List Tk} {M : List Mv} (h : ¬ ((1 ≤ T.length ∧ T.length ≤ 8 ∧ M.length ≤ 24) ∧ (∀ t ∈ T, tkOk t = true) ∧ ∀ m ∈ M, mvOk m = true)) : chkY T M = false := by
  rw [Bool.eq_false_iff]; exact fun h' => h (chkY_iff.1 h')
def CkL1 (w : World) (T : List Tk) (k : Nat) (v : Value) (wr : World) : Prop :=
  ∃ j : Nat, v = .int .i64 j ∧ j + k = T.length ∧ (∀ i (h : i < T.length), i < j → tkOk T[i] = true) ∧ Below w.heap.size w wr
def CkL2 (w : World) (M : List Mv) (k : Nat) (v : Value) (wr : World) : Prop :=
  ∃ j : Nat, v = .int .i64 j ∧ j + k = M.length ∧ (∀ i (h : i < M.length), i < j → mvOk M[i] = true) ∧ Below w.heap.size w wr

set_option maxRecDepth 100000 in
set_option maxHeartbeats 3200000 in
theorem check_any (AT AM : Option Addr) (cT cM : Nat) (T : List Tk) (M : List Mv) (w : World) (hT : TRd w AT T) (hM : MRd w AM M) :
    Calls Try.prog 17 #[.slice AT T.length cT, .slice AM M.length cM] w fun e w' => e = .returned (.bool (chkY T M)) ∧ Below w.heap.size w w' := by
  have HT := Lib.hid hT
  have HM := Lib.hid hM
  clear hT hM
  have hTn := HT.out.n
  have hMn := HM.out.n
  by_cases h1 : T.length < 1
  case pos =>
    rw [chkY_no (fun h => by omega)]
    have e1 : decide ((T.length : Int) < 1) = true := by simp; omega
    go_enter Try.func17, Try.ntmps17
    go_wp2_with fail
    go_ret
    exact ⟨rfl, (by repeat (first | exact Below.refl _ _ | (with_reducible refine Below.drew ?_) | (with_reducible refine below_drewN ?_ _) | (with_reducible refine Below.alloc ?_ (by first | omega | (simp; done) | (simp; omega)) _) | (with_reducible refine Below.setCell ?_ (by first | omega | (simp; done) | (simp; omega)) _) | (refine Below.trans ?_ (Below.mono (by with_reducible assumption) (by first | omega | (simp; done) | (simp; omega))))))⟩
  by_cases h2 : 8 < T.length
  case pos =>
    rw [chkY_no (fun h => by omega)]
    go_enter Try.func17, Try.ntmps17
    go_wp2_with fail
    go_ret
    exact ⟨rfl, (by repeat (first | exact Below.refl _ _ | (with_reducible refine Below.drew ?_) | (with_reducible refine below_drewN ?_ _) | (with_reducible refine Below.alloc ?_ (by first | omega | (simp; done) | (simp; omega)) _) | (with_reducible refine Below.setCell ?_ (by first | omega | (simp; done) | (simp; omega)) _) | (refine Below.trans ?_ (Below.mono (by with_reducible assumption) (by first | omega | (simp; done) | (simp; omega))))))⟩
  by_cases h3 : 24 < M.length
  case pos =>
    rw [chkY_no (fun h => by omega)]
    go_enter Try.func17, Try.ntmps17
    go_wp2_with fail
    go_ret
    exact ⟨rfl, (by repeat (first | exact Below.refl _ _ | (with_reducible refine Below.drew ?_) | (with_reducible refine below_drewN ?_ _) | (with_reducible refine Below.alloc ?_ (by first | omega | (simp; done) | (simp; omega)) _) | (with_reducible refine Below.setCell ?_ (by first | omega | (simp; done) | (simp; omega)) _) | (refine Below.trans ?_ (Below.mono (by with_reducible assumption) (by first | omega | (simp; done) | (simp; omega))))))⟩
  go_enter Try.func17, Try.ntmps17
  go_wp2_with fail
  go_loopg [24] T.length (fun k v wr => CkL1 w T k v wr)
  case atStart => exact ⟨0, rfl, by omega, fun i h hi => by omega, (by repeat (first | exact Below.refl _ _ | (with_reducible refine Below.drew ?_) | (with_reducible refine below_drewN ?_ _) | (with_reducible refine Below.alloc ?_ (by first | omega | (simp; done) | (simp; omega)) _) | (with_reducible refine Below.setCell ?_ (by first | omega | (simp; done) | (simp; omega)) _) | (refine Below.trans ?_ (Below.mono (by with_reducible assumption) (by first | omega | (simp; done) | (simp; omega))))))⟩
  case round =>
    obtain ⟨j, rfl, hj, hg, hb⟩ := hrel
    have Hj := Lib.hid hj
    have Hg := Lib.hid hg
    have HB := Lib.hid hb
    clear hj hg hb
    by_cases hlt : j < T.length
    · obtain ⟨bb, off, rfl, hbb, d0, d1⟩ := rdTk (HT.out.r.grow HB.out) rfl j hlt
      have hbb' : bb < wr.heap.size := World.block_lt_of_cell? _ _ d0
      have HOK := Lib.hid (fun (h : ∀ t ∈ T, tkOk t = true) => h T[j] (List.getElem_mem hlt))
      have HN := Lib.hid (show tkOk T[j] = true → ∀ i (h : i < T.length), i < j + 1 → tkOk T[i] = true from fun h1 i hi hij => by
        rcases Nat.lt_or_ge i j with h2 | h2
        · exact Hg.out i hi h2
        · obtain rfl : i = j := by omega
          exact h1)
      clear Hg
      generalize T[j] = tj at *
      obtain ⟨ln, th⟩ := tj
      simp only at d0 d1
      by_cases g1 : ln < 0
      · have HNB := Lib.hid (chkY_no (T := T) (M := M) (fun h => (by have := HOK.out h.2.1; simp [tkOk] at this; omega)))
        go_wp2_with fail
        go_ret
        exact ⟨by rw [HNB.out]; rfl, (by have hbelh := HB.out; have hbels := hbelh.size; exact (by repeat (first | exact Below.refl _ _ | (with_reducible refine Below.drew ?_) | (with_reducible refine below_drewN ?_ _) | (with_reducible refine Below.alloc ?_ (by first | omega | (simp; done) | (simp; omega)) _) | (with_reducible refine Below.setCell ?_ (by first | omega | (simp; done) | (simp; omega)) _) | (refine Below.trans ?_ (Below.mono (by with_reducible assumption) (by first | omega | (simp; done) | (simp; omega)))))))⟩
      by_cases g2 : 1048576 < ln
      · have HNB := Lib.hid (chkY_no (T := T) (M := M) (fun h => (by have := HOK.out h.2.1; simp [tkOk] at this; omega)))
        go_wp2_with fail
        go_ret
        exact ⟨by rw [HNB.out]; rfl, (by have hbelh := HB.out; have hbels := hbelh.size; exact (by repeat (first | exact Below.refl _ _ | (with_reducible refine Below.drew ?_) | (with_reducible refine below_drewN ?_ _) | (with_reducible refine Below.alloc ?_ (by first | omega | (simp; done) | (simp; omega)) _) | (with_reducible refine Below.setCell ?_ (by first | omega | (simp; done) | (simp; omega)) _) | (refine Below.trans ?_ (Below.mono (by with_reducible assumption) (by first | omega | (simp; done) | (simp; omega)))))))⟩
      have HN2 := Lib.hid (HN.out (by simp [tkOk]; omega))
      clear HN HOK
      go_wp2_with fail
      go_roundg (T.length - j - 1)
      case measure => have := Hj.out; omega
      case rel => exact ⟨j + 1, by first | rfl | go_num, by omega, HN2.out, (by have hbelh := HB.out; have hbels := hbelh.size; exact (by repeat (first | exact Below.refl _ _ | (with_reducible refine Below.drew ?_) | (with_reducible refine below_drewN ?_ _) | (with_reducible refine Below.alloc ?_ (by first | omega | (simp; done) | (simp; omega)) _) | (with_reducible refine Below.setCell ?_ (by first | omega | (simp; done) | (simp; omega)) _) | (refine Below.trans ?_ (Below.mono (by with_reducible assumption) (by first | omega | (simp; done) | (simp; omega)))))))⟩
    · obtain rfl : j = T.length := by have := Hj.out; omega
      have HTk := Lib.hid (show ∀ t ∈ T, tkOk t = true from fun t ht => by obtain ⟨i, hi, rfl⟩ := List.getElem_of_mem ht; exact Hg.out i hi hi)
      clear Hg
      go_wp2_with fail
      go_loopg [39] M.length (fun k v wr => CkL2 w M k v wr)
      case atStart => exact ⟨0, rfl, by omega, fun i h hi => by omega, (by have hbelh := HB.out; have hbels := hbelh.size; exact (by repeat (first | exact Below.refl _ _ | (with_reducible refine Below.drew ?_) | (with_reducible refine below_drewN ?_ _) | (with_reducible refine Below.alloc ?_ (by first | omega | (simp; done) | (simp; omega)) _) | (with_reducible refine Below.setCell ?_ (by first | omega | (simp; done) | (simp; omega)) _) | (refine Below.trans ?_ (Below.mono (by with_reducible assumption) (by first | omega | (simp; done) | (simp; omega)))))))⟩
      case round =>
        clear HB
        obtain ⟨j, rfl, hj, hg, hb⟩ := hrel
        have Hj := Lib.hid hj
        have Hg := Lib.hid hg
        have HB := Lib.hid hb
        clear hj hg hb
        by_cases hlt : j < M.length
        · obtain ⟨bb, off, rfl, hbb, d0, d1, d2⟩ := rdMv (HM.out.r.grow HB.out) rfl j hlt
          have hbb' : bb < wr.heap.size := World.block_lt_of_cell? _ _ d0
          have HOK := Lib.hid (fun (h : ∀ t ∈ M, mvOk t = true) => h M[j] (List.getElem_mem hlt))
          have HN := Lib.hid (show mvOk M[j] = true → ∀ i (h : i < M.length), i < j + 1 → mvOk M[i] = true from fun h1 i hi hij => by
            rcases Nat.lt_or_ge i j with h2 | h2
            · exact Hg.out i hi h2
            · obtain rfl : i = j := by omega
              exact h1)
          clear Hg
          generalize M[j] = mj at *
          obtain ⟨inn, kd, ln⟩ := mj
          simp only at d0 d1 d2
          by_cases g1 : kd < 0
          · have HNB := Lib.hid (chkY_no (T := T) (M := M) (fun h => (by have := HOK.out h.2.2; simp [mvOk] at this; omega)))
            go_wp2_with fail
            go_ret
            exact ⟨by rw [HNB.out]; rfl, (by have hbelh := HB.out; have hbels := hbelh.size; exact (by repeat (first | exact Below.refl _ _ | (with_reducible refine Below.drew ?_) | (with_reducible refine below_drewN ?_ _) | (with_reducible refine Below.alloc ?_ (by first | omega | (simp; done) | (simp; omega)) _) | (with_reducible refine Below.setCell ?_ (by first | omega | (simp; done) | (simp; omega)) _) | (refine Below.trans ?_ (Below.mono (by with_reducible assumption) (by first | omega | (simp; done) | (simp; omega)))))))⟩
          by_cases g2 : 1048576 < kd
          · have HNB := Lib.hid (chkY_no (T := T) (M := M) (fun h => (by have := HOK.out h.2.2; simp [mvOk] at this; omega)))
            go_wp2_with fail
            go_ret
            exact ⟨by rw [HNB.out]; rfl, (by have hbelh := HB.out; have hbels := hbelh.size; exact (by repeat (first | exact Below.refl _ _ | (with_reducible refine Below.drew ?_) | (with_reducible refine below_drewN ?_ _) | (with_reducible refine Below.alloc ?_ (by first | omega | (simp; done) | (simp; omega)) _) | (with_reducible refine Below.setCell ?_ (by first | omega | (simp; done) | (simp; omega)) _) | (refine Below.trans ?_ (Below.mono (by with_reducible assumption) (by first | omega | (simp; done) | (simp; omega)))))))⟩
          cases inn with
          | true =>
            by_cases g3 : ln < 1
            · have HNB := Lib.hid (chkY_no (T := T) (M := M) (fun h => (by have := HOK.out h.2.2; simp [mvOk] at this; omega)))
              go_wp2_with fail
              go_ret
              exact ⟨by rw [HNB.out]; rfl, (by have hbelh := HB.out; have hbels := hbelh.size; exact (by repeat (first | exact Below.refl _ _ | (with_reducible refine Below.drew ?_) | (with_reducible refine below_drewN ?_ _) | (with_reducible refine Below.alloc ?_ (by first | omega | (simp; done) | (simp; omega)) _) | (with_reducible refine Below.setCell ?_ (by first | omega | (simp; done) | (simp; omega)) _) | (refine Below.trans ?_ (Below.mono (by with_reducible assumption) (by first | omega | (simp; done) | (simp; omega)))))))⟩
            by_cases g4 : 1000 < ln
            · have HNB := Lib.hid (chkY_no (T := T) (M := M) (fun h => (by have := HOK.out h.2.2; simp [mvOk] at this; omega)))
              go_wp2_with fail
              go_ret
              exact ⟨by rw [HNB.out]; rfl, (by have hbelh := HB.out; have hbels := hbelh.size; exact (by repeat (first | exact Below.refl _ _ | (with_reducible refine Below.drew ?_) | (with_reducible refine below_drewN ?_ _) | (with_reducible refine Below.alloc ?_ (by first | omega | (simp; done) | (simp; omega)) _) | (with_reducible refine Below.setCell ?_ (by first | omega | (simp; done) | (simp; omega)) _) | (refine Below.trans ?_ (Below.mono (by with_reducible assumption) (by first | omega | (simp; done) | (simp; omega)))))))⟩
            have HN2 := Lib.hid (HN.out (by simp [mvOk]; omega))
            clear HN HOK
            go_wp2_with fail
            go_roundg (M.length - j - 1)
            case measure => have := Hj.out; omega
            case rel => exact ⟨j + 1, by first | rfl | go_num, by omega, HN2.out, (by have hbelh := HB.out; have hbels := hbelh.size; exact (by repeat (first | exact Below.refl _ _ | (with_reducible refine Below.drew ?_) | (with_reducible refine below_drewN ?_ _) | (with_reducible refine Below.alloc ?_ (by first | omega | (simp; done) | (simp; omega)) _) | (with_reducible refine Below.setCell ?_ (by first | omega | (simp; done) | (simp; omega)) _) | (refine Below.trans ?_ (Below.mono (by with_reducible assumption) (by first | omega | (simp; done) | (simp; omega)))))))⟩
          | false =>
            by_cases g3 : ln = 0
            · subst g3
              have HN2 := Lib.hid (HN.out (by simp [mvOk]; omega))
              clear HN HOK
              go_wp2_with fail
              go_roundg (M.length - j - 1)
              case measure => have := Hj.out; omega
              case rel => exact ⟨j + 1, by first | rfl | go_num, by omega, HN2.out, (by have hbelh := HB.out; have hbels := hbelh.size; exact (by repeat (first | exact Below.refl _ _ | (with_reducible refine Below.drew ?_) | (with_reducible refine below_drewN ?_ _) | (with_reducible refine Below.alloc ?_ (by first | omega | (simp; done) | (simp; omega)) _) | (with_reducible refine Below.setCell ?_ (by first | omega | (simp; done) | (simp; omega)) _) | (refine Below.trans ?_ (Below.mono (by with_reducible assumption) (by first | omega | (simp; done) | (simp; omega)))))))⟩
            · have g3' : (ln != 0) = true := by simpa using g3
              have HNB := Lib.hid (chkY_no (T := T) (M := M) (fun h => (by have := HOK.out h.2.2; simp [mvOk] at this; omega)))
              go_wp2_with fail
              go_ret
              exact ⟨by rw [HNB.out]; rfl, (by have hbelh := HB.out; have hbels := hbelh.size; exact (by repeat (first | exact Below.refl _ _ | (with_reducible refine Below.drew ?_) | (with_reducible refine below_drewN ?_ _) | (with_reducible refine Below.alloc ?_ (by first | omega | (simp; done) | (simp; omega)) _) | (with_reducible refine Below.setCell ?_ (by first | omega | (simp; done) | (simp; omega)) _) | (refine Below.trans ?_ (Below.mono (by with_reducible assumption) (by first | omega | (simp; done) | (simp; omega)))))))⟩
        · obtain rfl : j = M.length := by have := Hj.out; omega
          have HNB := Lib.hid ((chkY_iff (T := T) (M := M)).2 ⟨⟨by omega, by omega, by omega⟩, HTk.out, fun m hm => by obtain ⟨i, hi, rfl⟩ := List.getElem_of_mem hm; exact Hg.out i hi hi⟩)
          go_wp2_with fail
          go_ret
          exact ⟨by rw [HNB.out]; rfl, (by have hbelh := HB.out; have hbels := hbelh.size; exact (by repeat (first | exact Below.refl _ _ | (with_reducible refine Below.drew ?_) | (with_reducible refine below_drewN ?_ _) | (with_reducible refine Below.alloc ?_ (by first | omega | (simp; done) | (simp; omega)) _) | (with_reducible refine Below.setCell ?_ (by first | omega | (simp; done) | (simp; omega)) _) | (refine Below.trans ?_ (Below.mono (by with_reducible assumption) (by first | omega | (simp; done) | (simp; omega)))))))⟩

set_option maxRecDepth 100000 in
set_option maxHeartbeats 3200000 in
theorem rcheck_any (AT AM : Option Addr) (cT cM : Nat) (T : List Tk) (M : List Mv) (w : World) (hT : TRd w AT T) (hM : MRd w AM M) :
    Calls Try.prog 26 #[.slice AT T.length cT, .slice AM M.length cM] w fun e w' => e = .returned (.bool (chkY T M)) ∧ Below w.heap.size w w' := by
  have HT := Lib.hid hT
  have HM := Lib.hid hM
  clear hT hM
  have hTn := HT.out.n
  have hMn := HM.out.n
  by_cases h1 : T.length < 1
  case pos =>
    rw [chkY_no (fun h => by omega)]
    have e1 : decide ((T.length : Int) < 1) = true := by simp; omega
    go_enter Try.func26, Try.ntmps26
    go_wp2_with fail
    go_ret
    exact ⟨rfl, (by repeat (first | exact Below.refl _ _ | (with_reducible refine Below.drew ?_) | (with_reducible refine below_drewN ?_ _) | (with_reducible refine Below.alloc ?_ (by first | omega | (simp; done) | (simp; omega)) _) | (with_reducible refine Below.setCell ?_ (by first | omega | (simp; done) | (simp; omega)) _) | (refine Below.trans ?_ (Below.mono (by with_reducible assumption) (by first | omega | (simp; done) | (simp; omega))))))⟩
  by_cases h2 : 8 < T.length
  case pos =>
    rw [chkY_no (fun h => by omega)]
    go_enter Try.func26, Try.ntmps26
    go_wp2_with fail
    go_ret
    exact ⟨rfl, (by repeat (first | exact Below.refl _ _ | (with_reducible refine Below.drew ?_) | (with_reducible refine below_drewN ?_ _) | (with_reducible refine Below.alloc ?_ (by first | omega | (simp; done) | (simp; omega)) _) | (with_reducible refine Below.setCell ?_ (by first | omega | (simp; done) | (simp; omega)) _) | (refine Below.trans ?_ (Below.mono (by with_reducible assumption) (by first | omega | (simp; done) | (simp; omega))))))⟩
  by_cases h3 : 24 < M.length
  case pos =>
    rw [chkY_no (fun h => by omega)]
    go_enter Try.func26, Try.ntmps26
    go_wp2_with fail
    go_ret
    exact ⟨rfl, (by repeat (first | exact Below.refl _ _ | (with_reducible refine Below.drew ?_) | (with_reducible refine below_drewN ?_ _) | (with_reducible refine Below.alloc ?_ (by first | omega | (simp; done) | (simp; omega)) _) | (with_reducible refine Below.setCell ?_ (by first | omega | (simp; done) | (simp; omega)) _) | (refine Below.trans ?_ (Below.mono (by with_reducible assumption) (by first | omega | (simp; done) | (simp; omega))))))⟩
  go_enter Try.func26, Try.ntmps26
  go_wp2_with fail
  go_loopg [24] T.length (fun k v wr => CkL1 w T k v wr)
  case atStart => exact ⟨0, rfl, by omega, fun i h hi => by omega, (by repeat (first | exact Below.refl _ _ | (with_reducible refine Below.drew ?_) | (with_reducible refine below_drewN ?_ _) | (with_reducible refine Below.alloc ?_ (by first | omega | (simp; done) | (simp; omega)) _) | (with_reducible refine Below.setCell ?_ (by first | omega | (simp; done) | (simp; omega)) _) | (refine Below.trans ?_ (Below.mono (by with_reducible assumption) (by first | omega | (simp; done) | (simp; omega))))))⟩
  case round =>
    obtain ⟨j, rfl, hj, hg, hb⟩ := hrel
    have Hj := Lib.hid hj
    have Hg := Lib.hid hg
    have HB := Lib.hid hb
    clear hj hg hb
    by_cases hlt : j < T.length
    · obtain ⟨bb, off, rfl, hbb, d0, d1⟩ := rdTk (HT.out.r.grow HB.out) rfl j hlt
      have hbb' : bb < wr.heap.size := World.block_lt_of_cell? _ _ d0
      have HOK := Lib.hid (fun (h : ∀ t ∈ T, tkOk t = true) => h T[j] (List.getElem_mem hlt))
      have HN := Lib.hid (show tkOk T[j] = true → ∀ i (h : i < T.length), i < j + 1 → tkOk T[i] = true from fun h1 i hi hij => by
        rcases Nat.lt_or_ge i j with h2 | h2
        · exact Hg.out i hi h2
        · obtain rfl : i = j := by omega
          exact h1)
      clear Hg
      generalize T[j] = tj at *
      obtain ⟨ln, th⟩ := tj
      simp only at d0 d1
      by_cases g1 : ln < 0
      · have HNB := Lib.hid (chkY_no (T := T) (M := M) (fun h => (by have := HOK.out h.2.1; simp [tkOk] at this; omega)))
        go_wp2_with fail
        go_ret
        exact ⟨by rw [HNB.out]; rfl, (by have hbelh := HB.out; have hbels := hbelh.size; exact (by repeat (first | exact Below.refl _ _ | (with_reducible refine Below.drew ?_) | (with_reducible refine below_drewN ?_ _) | (with_reducible refine Below.alloc ?_ (by first | omega | (simp; done) | (simp; omega)) _) | (with_reducible refine Below.setCell ?_ (by first | omega | (simp; done) | (simp; omega)) _) | (refine Below.trans ?_ (Below.mono (by with_reducible assumption) (by first | omega | (simp; done) | (simp; omega)))))))⟩
      by_cases g2 : 1048576 < ln
      · have HNB := Lib.hid (chkY_no (T := T) (M := M) (fun h => (by have := HOK.out h.2.1; simp [tkOk] at this; omega)))
        go_wp2_with fail
        go_ret
        exact ⟨by rw [HNB.out]; rfl, (by have hbelh := HB.out; have hbels := hbelh.size; exact (by repeat (first | exact Below.refl _ _ | (with_reducible refine Below.drew ?_) | (with_reducible refine below_drewN ?_ _) | (with_reducible refine Below.alloc ?_ (by first | omega | (simp; done) | (simp; omega)) _) | (with_reducible refine Below.setCell ?_ (by first | omega | (simp; done) | (simp; omega)) _) | (refine Below.trans ?_ (Below.mono (by with_reducible assumption) (by first | omega | (simp; done) | (simp; omega)))))))⟩
      have HN2 := Lib.hid (HN.out (by simp [tkOk]; omega))
      clear HN HOK
      go_wp2_with fail
      go_roundg (T.length - j - 1)
      case measure => have := Hj.out; omega
      case rel => exact ⟨j + 1, by first | rfl | go_num, by omega, HN2.out, (by have hbelh := HB.out; have hbels := hbelh.size; exact (by repeat (first | exact Below.refl _ _ | (with_reducible refine Below.drew ?_) | (with_reducible refine below_drewN ?_ _) | (with_reducible refine Below.alloc ?_ (by first | omega | (simp; done) | (simp; omega)) _) | (with_reducible refine Below.setCell ?_ (by first | omega | (simp; done) | (simp; omega)) _) | (refine Below.trans ?_ (Below.mono (by with_reducible assumption) (by first | omega | (simp; done) | (simp; omega)))))))⟩
    · obtain rfl : j = T.length := by have := Hj.out; omega
      have HTk := Lib.hid (show ∀ t ∈ T, tkOk t = true from fun t ht => by obtain ⟨i, hi, rfl⟩ := List.getElem_of_mem ht; exact Hg.out i hi hi)
      clear Hg
      go_wp2_with fail
      go_loopg [39] M.length (fun k v wr => CkL2 w M k v wr)
      case atStart => exact ⟨0, rfl, by omega, fun i h hi => by omega, (by have hbelh := HB.out; have hbels := hbelh.size; exact (by repeat (first | exact Below.refl _ _ | (with_reducible refine Below.drew ?_) | (with_reducible refine below_drewN ?_ _) | (with_reducible refine Below.alloc ?_ (by first | omega | (simp; done) | (simp; omega)) _) | (with_reducible refine Below.setCell ?_ (by first | omega | (simp; done) | (simp; omega)) _) | (refine Below.trans ?_ (Below.mono (by with_reducible assumption) (by first | omega | (simp; done) | (simp; omega)))))))⟩
      case round =>
        clear HB
        obtain ⟨j, rfl, hj, hg, hb⟩ := hrel
        have Hj := Lib.hid hj
        have Hg := Lib.hid hg
        have HB := Lib.hid hb
        clear hj hg hb
        by_cases hlt : j < M.length
        · obtain ⟨bb, off, rfl, hbb, d0, d1, d2⟩ := rdMv (HM.out.r.grow HB.out) rfl j hlt
          have hbb' : bb < wr.heap.size := World.block_lt_of_cell? _ _ d0
          have HOK := Lib.hid (fun (h : ∀ t ∈ M, mvOk t = true) => h M[j] (List.getElem_mem hlt))
          have HN := Lib.hid (show mvOk M[j] = true → ∀ i (h : i < M.length), i < j + 1 → mvOk M[i] = true from fun h1 i hi hij => by
            rcases Nat.lt_or_ge i j with h2 | h2
            · exact Hg.out i hi h2
            · obtain rfl : i = j := by omega
              exact h1)
          clear Hg
          generalize M[j] = mj at *
          obtain ⟨inn, kd, ln⟩ := mj
          simp only at d0 d1 d2
          by_cases g1 : kd < 0
          · have HNB := Lib.hid (chkY_no (T := T) (M := M) (fun h => (by have := HOK.out h.2.2; simp [mvOk] at this; omega)))
            go_wp2_with fail
            go_ret
            exact ⟨by rw [HNB.out]; rfl, (by have hbelh := HB.out; have hbels := hbelh.size; exact (by repeat (first | exact Below.refl _ _ | (with_reducible refine Below.drew ?_) | (with_reducible refine below_drewN ?_ _) | (with_reducible refine Below.alloc ?_ (by first | omega | (simp; done) | (simp; omega)) _) | (with_reducible refine Below.setCell ?_ (by first | omega | (simp; done) | (simp; omega)) _) | (refine Below.trans ?_ (Below.mono (by with_reducible assumption) (by first | omega | (simp; done) | (simp; omega)))))))⟩
          by_cases g2 : 1048576 < kd
          · have HNB := Lib.hid (chkY_no (T := T) (M := M) (fun h => (by have := HOK.out h.2.2; simp [mvOk] at this; omega)))
            go_wp2_with fail
            go_ret
            exact ⟨by rw [HNB.out]; rfl, (by have hbelh := HB.out; have hbels := hbelh.size; exact (by repeat (first | exact Below.refl _ _ | (with_reducible refine Below.drew ?_) | (with_reducible refine below_drewN ?_ _) | (with_reducible refine Below.alloc ?_ (by first | omega | (simp; done) | (simp; omega)) _) | (with_reducible refine Below.setCell ?_ (by first | omega | (simp; done) | (simp; omega)) _) | (refine Below.trans ?_ (Below.mono (by with_reducible assumption) (by first | omega | (simp; done) | (simp; omega)))))))⟩
          cases inn with
          | true =>
            by_cases g3 : ln < 1
            · have HNB := Lib.hid (chkY_no (T := T) (M := M) (fun h => (by have := HOK.out h.2.2; simp [mvOk] at this; omega)))
              go_wp2_with fail
              go_ret
              exact ⟨by rw [HNB.out]; rfl, (by have hbelh := HB.out; have hbels := hbelh.size; exact (by repeat (first | exact Below.refl _ _ | (with_reducible refine Below.drew ?_) | (with_reducible refine below_drewN ?_ _) | (with_reducible refine Below.alloc ?_ (by first | omega | (simp; done) | (simp; omega)) _) | (with_reducible refine Below.setCell ?_ (by first | omega | (simp; done) | (simp; omega)) _) | (refine Below.trans ?_ (Below.mono (by with_reducible assumption) (by first | omega | (simp; done) | (simp; omega)))))))⟩
            by_cases g4 : 1000 < ln
            · have HNB := Lib.hid (chkY_no (T := T) (M := M) (fun h => (by have := HOK.out h.2.2; simp [mvOk] at this; omega)))
              go_wp2_with fail
              go_ret
              exact ⟨by rw [HNB.out]; rfl, (by have hbelh := HB.out; have hbels := hbelh.size; exact (by repeat (first | exact Below.refl _ _ | (with_reducible refine Below.drew ?_) | (with_reducible refine below_drewN ?_ _) | (with_reducible refine Below.alloc ?_ (by first | omega | (simp; done) | (simp; omega)) _) | (with_reducible refine Below.setCell ?_ (by first | omega | (simp; done) | (simp; omega)) _) | (refine Below.trans ?_ (Below.mono (by with_reducible assumption) (by first | omega | (simp; done) | (simp; omega)))))))⟩
            have HN2 := Lib.hid (HN.out (by simp [mvOk]; omega))
            clear HN HOK
            go_wp2_with fail
            go_roundg (M.length - j - 1)
            case measure => have := Hj.out; omega
            case rel => exact ⟨j + 1, by first | rfl | go_num, by omega, HN2.out, (by have hbelh := HB.out; have hbels := hbelh.size; exact (by repeat (first | exact Below.refl _ _ | (with_reducible refine Below.drew ?_) | (with_reducible refine below_drewN ?_ _) | (with_reducible refine Below.alloc ?_ (by first | omega | (simp; done) | (simp; omega)) _) | (with_reducible refine Below.setCell ?_ (by first | omega | (simp; done) | (simp; omega)) _) | (refine Below.trans ?_ (Below.mono (by with_reducible assumption) (by first | omega | (simp; done) | (simp; omega)))))))⟩
          | false =>
            by_cases g3 : ln = 0
            · subst g3
              have HN2 := Lib.hid (HN.out (by simp [mvOk]; omega))
              clear HN HOK
              go_wp2_with fail
              go_roundg (M.length - j - 1)
              case measure => have := Hj.out; omega
              case rel => exact ⟨j + 1, by first | rfl | go_num, by omega, HN2.out, (by have hbelh := HB.out; have hbels := hbelh.size; exact (by repeat (first | exact Below.refl _ _ | (with_reducible refine Below.drew ?_) | (with_reducible refine below_drewN ?_ _) | (with_reducible refine Below.alloc ?_ (by first | omega | (simp; done) | (simp; omega)) _) | (with_reducible refine Below.setCell ?_ (by first | omega | (simp; done) | (simp; omega)) _) | (refine Below.trans ?_ (Below.mono (by with_reducible assumption) (by first | omega | (simp; done) | (simp; omega)))))))⟩
            · have g3' : (ln != 0) = true := by simpa using g3
              have HNB := Lib.hid (chkY_no (T := T) (M := M) (fun h => (by have := HOK.out h.2.2; simp [mvOk] at this; omega)))
              go_wp2_with fail
              go_ret
              exact ⟨by rw [HNB.out]; rfl, (by have hbelh := HB.out; have hbels := hbelh.size; exact (by repeat (first | exact Below.refl _ _ | (with_reducible refine Below.drew ?_) | (with_reducible refine below_drewN ?_ _) | (with_reducible refine Below.alloc ?_ (by first | omega | (simp; done) | (simp; omega)) _) | (with_reducible refine Below.setCell ?_ (by first | omega | (simp; done) | (simp; omega)) _) | (refine Below.trans ?_ (Below.mono (by with_reducible assumption) (by first | omega | (simp; done) | (simp; omega)))))))⟩
        · obtain rfl : j = M.length := by have := Hj.out; omega
          have HNB := Lib.hid ((chkY_iff (T := T) (M := M)).2 ⟨⟨by omega, by omega, by omega⟩, HTk.out, fun m hm => by obtain ⟨i, hi, rfl⟩ := List.getElem_of_mem hm; exact Hg.out i hi hi⟩)
          go_wp2_with fail
          go_ret
          exact ⟨by rw [HNB.out]; rfl, (by have hbelh := HB.out; have hbels := hbelh.size; exact (by repeat (first | exact Below.refl _ _ | (with_reducible refine Below.drew ?_) | (with_reducible refine below_drewN ?_ _) | (with_reducible refine Below.alloc ?_ (by first | omega | (simp; done) | (simp; omega)) _) | (with_reducible refine Below.setCell ?_ (by first | omega | (simp; done) | (simp; omega)) _) | (refine Below.trans ?_ (Below.mono (by with_reducible assumption) (by first | omega | (simp; done) | (simp; omega)))))))⟩
end Go.Proofs.Ytffgnfefejimnaa
