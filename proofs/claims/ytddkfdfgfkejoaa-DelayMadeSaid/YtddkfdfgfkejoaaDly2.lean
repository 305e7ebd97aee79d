import Derived.Test.YtddkfdfgfkejoaaDly
namespace Go.Proofs.Ytddkfdfgfkejoaa
open Go.RowKit

def okP (n : Nat) (ps : List Pri) (i : Nat) (h : i < ps.length) : Prop := momB n ps[i].mo = true ∧ clkB ps[i].sec = true ∧ ps[i].mo ∉ (ps.take i).map Pri.mo
def wtB (n : Nat) (k : Wt) : Bool := momB n k.fr && momB n k.tt && !(k.fr == k.tt) && clkB k.mn && (k.mx == -1 || clkB k.mx)
theorem wtB_ok (n : Nat) (k : Wt) : wtB n k = true ↔ WOk n k := by
  constructor
  · intro h
    simp [wtB, momB, clkB] at h
    exact ⟨h.1.1.1.1.1, h.1.1.1.1.2, h.1.1.1.2.1, h.1.1.1.2.2, h.1.1.2, h.1.2.1, h.1.2.2, by omega, by omega⟩
  · rintro ⟨a, b, c, d, e, f, g, h, i⟩
    simp [wtB, momB, clkB]
    omega
structure Basic (ms : List Mom) (ws : List Wt) (ps : List Pri) : Prop where
  m : ms.length ≤ 64
  w : ws.length ≤ 200
  p : ps.length ≤ 64
  mAll : ∀ x ∈ ms, clkB x.time = true
  wAll : ∀ k ∈ ws, wtB ms.length k = true
  pAll : ∀ i (h : i < ps.length), okP ms.length ps i h

def SortOut (ms : List Mom) (ws : List Wt) (ps : List Pri) (w : World) (e : Ending) (w' : World) : Prop :=
  Below w.heap.size w w' ∧ ((Basic ms ws ps ∧ ∃ (v : Value) (ord : List Int), e = .returned (.tuple #[v, .bool (decide (ord.length = ms.length))]) ∧ Topo ms.length ws ord ∧ (Acyc ws → ord.length = ms.length) ∧ w'.ownsRow w.heap.size 3 1 v ord.length (ord.map (Value.int .i64))) ∨
    (¬ Basic ms ws ps ∧ e = .returned (.tuple #[.slice none 0 0, .bool false])))

def S1 (w : World) (ms : List Mom) (A : Option Addr) (c k : Nat) (v : Value) (wr : World) : Prop :=
  ∃ j : Nat, v = .int .i64 j ∧ j + k = ms.length ∧ (∀ i (h : i < ms.length), i < j → clkB ms[i].time = true) ∧ Blk wr w.heap.size 23 #[.slice A ms.length c] ∧ Below w.heap.size w wr
def S2 (w : World) (ms : List Mom) (ws : List Wt) (A : Option Addr) (c k : Nat) (v : Value) (wr : World) : Prop :=
  ∃ j : Nat, v = .int .i64 j ∧ j + k = ws.length ∧ (∀ i (h : i < ws.length), i < j → wtB ms.length ws[i] = true) ∧ Blk wr w.heap.size 23 #[.slice A ms.length c] ∧ Below w.heap.size w wr
def seenL (n : Nat) (ps : List Pri) (j : Nat) : List Bool := (List.range n).map fun (i : Nat) => decide ((i : Int) ∈ (ps.take j).map Pri.mo)
def S3 (w : World) (ms : List Mom) (ps : List Pri) (A : Option Addr) (c G k : Nat) (v : Value) (wr : World) : Prop :=
  ∃ j : Nat, v = .int .i64 j ∧ j + k = ps.length ∧ (∀ i (h : i < ps.length), i < j → okP ms.length ps i h) ∧ Blk wr w.heap.size 23 #[.slice A ms.length c] ∧ Below w.heap.size w wr ∧
    wr.ownsRow (w.heap.size + 1) 4 1 (.slice (some ⟨G, 0, none⟩) ms.length ms.length) ms.length ((seenL ms.length ps j).map Value.bool)

theorem seenL_zero (n : Nat) (ps : List Pri) : seenL n ps 0 = List.replicate n false := by
  unfold seenL
  apply List.ext_getElem
  · simp
  · intro i h1 h2; simp
theorem seenL_get (n : Nat) (ps : List Pri) (j r : Nat) (h : r < n) : (seenL n ps j)[r]'(by simp [seenL]; exact h) = decide ((r : Int) ∈ (ps.take j).map Pri.mo) := by simp [seenL]
theorem seenL_set (n : Nat) (ps : List Pri) (j : Nat) (h : j < ps.length) (r : Nat) (_hr : r < n) (e : ps[j].mo = r) : (seenL n ps j).set r true = seenL n ps (j + 1) := by
  apply List.ext_getElem
  · simp [seenL]
  · intro i h1 h2
    have hi : i < n := by simpa [seenL] using h2
    rw [List.getElem_set, seenL_get n ps (j + 1) i hi]
    rw [List.take_succ_eq_append_getElem h]
    simp only [List.map_append, List.mem_append, List.map_cons, List.map_nil, List.mem_singleton, e]
    by_cases hir : r = i
    · subst hir; rw [if_pos rfl]; simp
    · rw [if_neg hir, seenL_get n ps j i hi]
      have : ¬ ((i : Int) = (r : Int)) := by omega
      simp [this]
theorem ret_tb {v : Value} {a b : Bool} (h : a = b) : Ending.returned (.tuple #[v, .bool a]) = .returned (.tuple #[v, .bool b]) := by rw [h]
theorem not_basic {ms : List Mom} {ws : List Wt} {ps : List Pri} (h : Basic ms ws ps → False) : ¬ Basic ms ws ps := h

set_option maxHeartbeats 6400000 in
theorem sorted_any (A B C : Option Addr) (a b c a' b' c' : Nat) (ms : List Mom) (ws : List Wt) (ps : List Pri) (w : World) (hA : Rd w w.heap.size 2 A a (ms.flatMap Mom.cells)) (hB : Rd w w.heap.size 4 B b (ws.flatMap Wt.cells)) (hC : Rd w w.heap.size 2 C c (ps.flatMap Pri.cells))
    (ha : a = ms.length) (hb : b = ws.length) (hc : c = ps.length) (hal : ms.length ≤ 4611686018427387904) (hbl : ws.length ≤ 4611686018427387904) (hcl : ps.length ≤ 4611686018427387904) :
    Calls Try.prog 32 #[.slice A a a', .slice B b b', .slice C c c'] w (SortOut ms ws ps w) := by
  subst ha hb hc
  have HA := Lib.hid hA
  have HB := Lib.hid hB
  have HC := Lib.hid hC
  clear hA hB hC
  obtain ⟨i0, hi0, hz0, hz1, hz2⟩ := info_parts infoBool
  have HI := Lib.hid (And.intro hi0 (And.intro hz0 (And.intro hz1 hz2)))
  clear hi0 hz0 hz1 hz2
  by_cases hs1 : ms.length ≤ 64
  case neg =>
    go_enter Try.func32, Try.ntmps32
    go_wp2_with fail
    go_ret2
    exact ⟨(by repeat (first | exact Below.refl _ _ | (with_reducible refine Below.drew ?_) | (with_reducible refine below_drewN ?_ _) | (with_reducible refine Below.alloc ?_ (by first | omega | (simp; done) | (simp; omega)) _) | (with_reducible refine Below.setCell ?_ (by first | omega | (simp; done) | (simp; omega)) _) | (refine Below.trans ?_ (Below.mono (by with_reducible assumption) (by first | omega | (simp; done) | (simp; omega)))))), .inr ⟨fun h => by have := h.m; omega, rfl⟩⟩
  have e1 : decide (64 < ms.length) = false := by simp; omega
  have e1' : decide ((64 : Int) < (ms.length : Int)) = false := by simp; omega
  by_cases hs2 : ws.length ≤ 200
  case neg =>
    go_enter Try.func32, Try.ntmps32
    go_wp2_with fail
    go_ret2
    exact ⟨(by repeat (first | exact Below.refl _ _ | (with_reducible refine Below.drew ?_) | (with_reducible refine below_drewN ?_ _) | (with_reducible refine Below.alloc ?_ (by first | omega | (simp; done) | (simp; omega)) _) | (with_reducible refine Below.setCell ?_ (by first | omega | (simp; done) | (simp; omega)) _) | (refine Below.trans ?_ (Below.mono (by with_reducible assumption) (by first | omega | (simp; done) | (simp; omega)))))), .inr ⟨fun h => by have := h.w; omega, rfl⟩⟩
  have e2 : decide (200 < ws.length) = false := by simp; omega
  have e2' : decide ((200 : Int) < (ws.length : Int)) = false := by simp; omega
  by_cases hs3 : ps.length ≤ 64
  case neg =>
    go_enter Try.func32, Try.ntmps32
    go_wp2_with fail
    go_ret2
    exact ⟨(by repeat (first | exact Below.refl _ _ | (with_reducible refine Below.drew ?_) | (with_reducible refine below_drewN ?_ _) | (with_reducible refine Below.alloc ?_ (by first | omega | (simp; done) | (simp; omega)) _) | (with_reducible refine Below.setCell ?_ (by first | omega | (simp; done) | (simp; omega)) _) | (refine Below.trans ?_ (Below.mono (by with_reducible assumption) (by first | omega | (simp; done) | (simp; omega)))))), .inr ⟨fun h => by have := h.p; omega, rfl⟩⟩
  have e3 : decide (64 < ps.length) = false := by simp; omega
  have e3' : decide ((64 : Int) < (ps.length : Int)) = false := by simp; omega
  go_enter Try.func32, Try.ntmps32
  go_wp2_with fail
  go_loopg [10, 33] ms.length (fun k _ v wr => S1 w ms A a' k v wr)
  case atStart => exact ⟨0, rfl, by omega, fun i h hi => by omega, Blk.new _ _ _, (by repeat (first | exact Below.refl _ _ | (with_reducible refine Below.drew ?_) | (with_reducible refine below_drewN ?_ _) | (with_reducible refine Below.alloc ?_ (by first | omega | (simp; done) | (simp; omega)) _) | (with_reducible refine Below.setCell ?_ (by first | omega | (simp; done) | (simp; omega)) _) | (refine Below.trans ?_ (Below.mono (by with_reducible assumption) (by first | omega | (simp; done) | (simp; omega))))))⟩
  case round =>
    obtain ⟨j, rfl, hj, hgood, hblk, hbel⟩ := hrel
    have Hj := Lib.hid hj
    have Hg := Lib.hid hgood
    have HK := Lib.hid hblk
    have HL := Lib.hid hbel
    clear hj hgood hblk hbel
    have hcell := HK.out.cell 0
    simp at hcell
    have hlw : w.heap.size < wr.heap.size := HK.out.lt
    by_cases hlt : j < ms.length
    · obtain ⟨bb, off, rfl, hbb, d0, d1⟩ := rdMom (HA.out.grow HL.out) rfl j hlt
      have hno : clkB ms[j].time = false → Hid (¬ Basic ms ws ps) := fun h => Lib.hid (fun hb => by
        have := hb.mAll ms[j] (List.getElem_mem hlt); rw [h] at this; cases this)
      have Hno := Lib.hid hno
      have hnx : clkB ms[j].time = true → ∀ i (h : i < ms.length), i < j + 1 → clkB ms[i].time = true := fun h1 i hi hij => by
        rcases Nat.lt_or_ge i j with h2 | h2
        · exact Hg.out i hi h2
        · obtain rfl : i = j := by omega
          exact h1
      have Hnx := Lib.hid hnx
      clear hno hnx Hg
      generalize ms[j].time = tm at *
      generalize ms[j].hold = hd at *
      cases hck : clkB tm
      · go_wp2_with (go_at_call 34; refine (clk_any _ _).mono ?_; rintro e w' ⟨rfl, rfl⟩)
        go_ret2
        exact ⟨(by have hbelh := HL.out; have hbels := hbelh.size; exact (by repeat (first | exact Below.refl _ _ | (with_reducible refine Below.drew ?_) | (with_reducible refine below_drewN ?_ _) | (with_reducible refine Below.alloc ?_ (by first | omega | (simp; done) | (simp; omega)) _) | (with_reducible refine Below.setCell ?_ (by first | omega | (simp; done) | (simp; omega)) _) | (refine Below.trans ?_ (Below.mono (by with_reducible assumption) (by first | omega | (simp; done) | (simp; omega))))))), .inr ⟨(Hno.out hck).out, rfl⟩⟩
      · go_wp2_with (go_at_call 34; refine (clk_any _ _).mono ?_; rintro e w' ⟨rfl, rfl⟩)
        go_roundg (ms.length - j - 1)
        case measure => have := Hj.out; omega
        case rel => exact ⟨j + 1, by first | rfl | go_num, by omega, Hnx.out hck, HK.out.same (Below.heap_alloc _ _ _ hlw), (by have hbelh := HL.out; have hbels := hbelh.size; exact (by repeat (first | exact Below.refl _ _ | (with_reducible refine Below.drew ?_) | (with_reducible refine below_drewN ?_ _) | (with_reducible refine Below.alloc ?_ (by first | omega | (simp; done) | (simp; omega)) _) | (with_reducible refine Below.setCell ?_ (by first | omega | (simp; done) | (simp; omega)) _) | (refine Below.trans ?_ (Below.mono (by with_reducible assumption) (by first | omega | (simp; done) | (simp; omega)))))))⟩
    · have hM : ∀ x ∈ ms, clkB x.time = true := fun x hx => by
        obtain ⟨i, hi, rfl⟩ := List.getElem_of_mem hx
        exact Hg.out i hi (by omega)
      have HM := Lib.hid hM
      clear hM Hg Hj
      clear hcell hlw
      go_wp2_with fail
      go_loopg [12, 44] ws.length (fun k _ v wr => S2 w ms ws A a' k v wr)
      case atStart => exact ⟨0, rfl, by omega, fun i h hi => by omega, HK.out, HL.out⟩
      case round =>
        obtain ⟨j2, rfl, hj, hgood, hblk, hbel⟩ := hrel
        have Hj := Lib.hid hj
        have Hg := Lib.hid hgood
        clear HK HL
        have HK := Lib.hid hblk
        have HL := Lib.hid hbel
        clear hj hgood hblk hbel
        have hcell := HK.out.cell 0
        simp at hcell
        have hlw : w.heap.size < wr.heap.size := HK.out.lt
        by_cases hlt2 : j2 < ws.length
        · obtain ⟨bb, off, rfl, hbb, d0, d1, d2, d3⟩ := rdWt (HB.out.grow HL.out) rfl j2 hlt2
          have hno : wtB ms.length ws[j2] = false → Hid (¬ Basic ms ws ps) := fun h => Lib.hid (fun hb => by
            have := hb.wAll ws[j2] (List.getElem_mem hlt2); rw [h] at this; cases this)
          have Hno := Lib.hid hno
          have hnx : wtB ms.length ws[j2] = true → ∀ i (h : i < ws.length), i < j2 + 1 → wtB ms.length ws[i] = true := fun h1 i hi hij => by
            rcases Nat.lt_or_ge i j2 with h2 | h2
            · exact Hg.out i hi h2
            · obtain rfl : i = j2 := by omega
              exact h1
          have Hnx := Lib.hid hnx
          clear hno hnx Hg
          generalize ws[j2] = kk at *
          obtain ⟨kf, kt, km, kx⟩ := kk
          simp only at d0 d1 d2 d3
          cases h1 : momB ms.length kf
          · go_wp2_with (first | (go_at_call 34; refine (clk_any _ _).mono ?_; rintro e w' ⟨rfl, rfl⟩) | (go_at_call 33; refine (mom_any _ _ w.heap.size A ms.length a' (by exact (World.cell?_alloc_lt _ _ _ hlw).trans hcell) hs1).mono ?_; rintro e w' ⟨rfl, rfl⟩))
            go_ret2
            exact ⟨(by have hbelh := HL.out; have hbels := hbelh.size; exact (by repeat (first | exact Below.refl _ _ | (with_reducible refine Below.drew ?_) | (with_reducible refine below_drewN ?_ _) | (with_reducible refine Below.alloc ?_ (by first | omega | (simp; done) | (simp; omega)) _) | (with_reducible refine Below.setCell ?_ (by first | omega | (simp; done) | (simp; omega)) _) | (refine Below.trans ?_ (Below.mono (by with_reducible assumption) (by first | omega | (simp; done) | (simp; omega))))))), .inr ⟨(Hno.out (by simp [wtB, h1])).out, rfl⟩⟩
          cases h2 : momB ms.length kt
          · go_wp2_with (first | (go_at_call 34; refine (clk_any _ _).mono ?_; rintro e w' ⟨rfl, rfl⟩) | (go_at_call 33; refine (mom_any _ _ w.heap.size A ms.length a' (by exact (World.cell?_alloc_lt _ _ _ hlw).trans hcell) hs1).mono ?_; rintro e w' ⟨rfl, rfl⟩))
            go_ret2
            exact ⟨(by have hbelh := HL.out; have hbels := hbelh.size; exact (by repeat (first | exact Below.refl _ _ | (with_reducible refine Below.drew ?_) | (with_reducible refine below_drewN ?_ _) | (with_reducible refine Below.alloc ?_ (by first | omega | (simp; done) | (simp; omega)) _) | (with_reducible refine Below.setCell ?_ (by first | omega | (simp; done) | (simp; omega)) _) | (refine Below.trans ?_ (Below.mono (by with_reducible assumption) (by first | omega | (simp; done) | (simp; omega))))))), .inr ⟨(Hno.out (by simp [wtB, h2])).out, rfl⟩⟩
          cases h3 : (kf == kt)
          case true =>
            go_wp2_with (first | (go_at_call 34; refine (clk_any _ _).mono ?_; rintro e w' ⟨rfl, rfl⟩) | (go_at_call 33; refine (mom_any _ _ w.heap.size A ms.length a' (by exact (World.cell?_alloc_lt _ _ _ hlw).trans hcell) hs1).mono ?_; rintro e w' ⟨rfl, rfl⟩))
            go_ret2
            exact ⟨(by have hbelh := HL.out; have hbels := hbelh.size; exact (by repeat (first | exact Below.refl _ _ | (with_reducible refine Below.drew ?_) | (with_reducible refine below_drewN ?_ _) | (with_reducible refine Below.alloc ?_ (by first | omega | (simp; done) | (simp; omega)) _) | (with_reducible refine Below.setCell ?_ (by first | omega | (simp; done) | (simp; omega)) _) | (refine Below.trans ?_ (Below.mono (by with_reducible assumption) (by first | omega | (simp; done) | (simp; omega))))))), .inr ⟨(Hno.out (by simp [wtB, h3])).out, rfl⟩⟩
          cases h4 : clkB km
          · go_wp2_with (first | (go_at_call 34; refine (clk_any _ _).mono ?_; rintro e w' ⟨rfl, rfl⟩) | (go_at_call 33; refine (mom_any _ _ w.heap.size A ms.length a' (by exact (World.cell?_alloc_lt _ _ _ hlw).trans hcell) hs1).mono ?_; rintro e w' ⟨rfl, rfl⟩))
            go_ret2
            exact ⟨(by have hbelh := HL.out; have hbels := hbelh.size; exact (by repeat (first | exact Below.refl _ _ | (with_reducible refine Below.drew ?_) | (with_reducible refine below_drewN ?_ _) | (with_reducible refine Below.alloc ?_ (by first | omega | (simp; done) | (simp; omega)) _) | (with_reducible refine Below.setCell ?_ (by first | omega | (simp; done) | (simp; omega)) _) | (refine Below.trans ?_ (Below.mono (by with_reducible assumption) (by first | omega | (simp; done) | (simp; omega))))))), .inr ⟨(Hno.out (by simp [wtB, h4])).out, rfl⟩⟩
          cases h5 : (kx == -1)
          · have h5' : (kx != -1) = true := by simp at h5 ⊢; exact h5
            cases h6 : clkB kx
            · go_wp2_with (first | (go_at_call 34; refine (clk_any _ _).mono ?_; rintro e w' ⟨rfl, rfl⟩) | (go_at_call 33; refine (mom_any _ _ w.heap.size A ms.length a' (by exact (World.cell?_alloc_lt _ _ _ hlw).trans hcell) hs1).mono ?_; rintro e w' ⟨rfl, rfl⟩))
              go_ret2
              exact ⟨(by have hbelh := HL.out; have hbels := hbelh.size; exact (by repeat (first | exact Below.refl _ _ | (with_reducible refine Below.drew ?_) | (with_reducible refine below_drewN ?_ _) | (with_reducible refine Below.alloc ?_ (by first | omega | (simp; done) | (simp; omega)) _) | (with_reducible refine Below.setCell ?_ (by first | omega | (simp; done) | (simp; omega)) _) | (refine Below.trans ?_ (Below.mono (by with_reducible assumption) (by first | omega | (simp; done) | (simp; omega))))))), .inr ⟨(Hno.out (by simp [wtB, h5, h6])).out, rfl⟩⟩
            · go_wp2_with (first | (go_at_call 34; refine (clk_any _ _).mono ?_; rintro e w' ⟨rfl, rfl⟩) | (go_at_call 33; refine (mom_any _ _ w.heap.size A ms.length a' (by exact (World.cell?_alloc_lt _ _ _ hlw).trans hcell) hs1).mono ?_; rintro e w' ⟨rfl, rfl⟩))
              go_roundg (ws.length - j2 - 1)
              case measure => have := Hj.out; omega
              case rel => exact ⟨j2 + 1, by first | rfl | go_num, by omega, Hnx.out (by simp [wtB, h1, h2, h3, h4, h6]), HK.out.same (Below.heap_alloc _ _ _ hlw), (by have hbelh := HL.out; have hbels := hbelh.size; exact (by repeat (first | exact Below.refl _ _ | (with_reducible refine Below.drew ?_) | (with_reducible refine below_drewN ?_ _) | (with_reducible refine Below.alloc ?_ (by first | omega | (simp; done) | (simp; omega)) _) | (with_reducible refine Below.setCell ?_ (by first | omega | (simp; done) | (simp; omega)) _) | (refine Below.trans ?_ (Below.mono (by with_reducible assumption) (by first | omega | (simp; done) | (simp; omega)))))))⟩
          · have h5' : (kx != -1) = false := by simp at h5 ⊢; exact h5
            go_wp2_with (first | (go_at_call 34; refine (clk_any _ _).mono ?_; rintro e w' ⟨rfl, rfl⟩) | (go_at_call 33; refine (mom_any _ _ w.heap.size A ms.length a' (by exact (World.cell?_alloc_lt _ _ _ hlw).trans hcell) hs1).mono ?_; rintro e w' ⟨rfl, rfl⟩))
            go_roundg (ws.length - j2 - 1)
            case measure => have := Hj.out; omega
            case rel => exact ⟨j2 + 1, by first | rfl | go_num, by omega, Hnx.out (by simp [wtB, h1, h2, h3, h4, h5]), HK.out.same (Below.heap_alloc _ _ _ hlw), (by have hbelh := HL.out; have hbels := hbelh.size; exact (by repeat (first | exact Below.refl _ _ | (with_reducible refine Below.drew ?_) | (with_reducible refine below_drewN ?_ _) | (with_reducible refine Below.alloc ?_ (by first | omega | (simp; done) | (simp; omega)) _) | (with_reducible refine Below.setCell ?_ (by first | omega | (simp; done) | (simp; omega)) _) | (refine Below.trans ?_ (Below.mono (by with_reducible assumption) (by first | omega | (simp; done) | (simp; omega)))))))⟩
        · have hW : ∀ x ∈ ws, wtB ms.length x = true := fun x hx => by
            obtain ⟨i, hi, rfl⟩ := List.getElem_of_mem hx
            exact Hg.out i hi (by omega)
          have HW := Lib.hid hW
          clear hW Hg Hj
          go_wp2_with (at_make; refine wpList_make_full _ rfl _ _ 28 rfl (w.heap.size + 1) 4 i0 _ 1 Try.underlying28 HI.out.1 HI.out.2.1 HI.out.2.2.1 .i64 .i64 _ _ ms.length rfl rfl rfl rfl ?m1 ?m2 ?m3 ?_; rotate_right; intro w2 hown2 hg2)
          case m1 => rw [HI.out.2.2.2]; omega
          case m2 => simp only [maxLen]; omega
          case m3 => omega
          have HS2 : Hid (w2.ownsRow (w.heap.size + 1) 4 1 (.slice (some ⟨wr.heap.size, 0, none⟩) ms.length ms.length) ms.length ((seenL ms.length ps 0).map Value.bool)) := by
            have := madeCells_one Value.bool false ms.length
            rw [seenL_zero, ← this]
            exact hown2
          have HK2 := Lib.hid (HK.out.same (hg2.block _ hlw (by simp)))
          have HL2 := Lib.hid (HL.out.grown hg2 HL.out.size (by simp))
          clear hown2 hg2 HK HL hcell
          generalize wr.heap.size = G at *
          go_loopg [15, 88] ps.length (fun k _ v wr => S3 w ms ps A a' G k v wr)
          case atStart => exact ⟨0, rfl, by omega, fun i h hi => by omega, HK2.out, HL2.out, HS2.out⟩
          case round =>
            obtain ⟨j3, rfl, hj, hgood, hblk, hbel, hseen⟩ := hrel
            have Hj := Lib.hid hj
            have Hg := Lib.hid hgood
            clear HK2 HL2 HS2
            have HK := Lib.hid hblk
            have HL := Lib.hid hbel
            have HS := Lib.hid hseen
            clear hj hgood hblk hbel hseen
            have hcell := HK.out.cell 0
            simp at hcell
            have hlw : w.heap.size < wr.heap.size := HK.out.lt
            by_cases hlt3 : j3 < ps.length
            · obtain ⟨bb, off, rfl, hbb, d0, d1⟩ := rdPri (HC.out.grow HL.out) rfl j3 hlt3
              have hno : ¬ okP ms.length ps j3 hlt3 → Hid (¬ Basic ms ws ps) := fun h => Lib.hid (fun hb => h (hb.pAll j3 hlt3))
              have Hno := Lib.hid hno
              have hnx : okP ms.length ps j3 hlt3 → ∀ i (h : i < ps.length), i < j3 + 1 → okP ms.length ps i h := fun h1 i hi hij => by
                rcases Nat.lt_or_ge i j3 with h2 | h2
                · exact Hg.out i hi h2
                · obtain rfl : i = j3 := by omega
                  exact h1
              have Hnx := Lib.hid hnx
              have hokd : okP ms.length ps j3 hlt3 ↔ momB ms.length ps[j3].mo = true ∧ clkB ps[j3].sec = true ∧ ps[j3].mo ∉ (ps.take j3).map Pri.mo := Iff.rfl
              have Hokd := Lib.hid hokd
              have Hss := Lib.hid (fun (r : Nat) (h : r < ms.length) => seenL_set ms.length ps j3 hlt3 r h)
              clear hno hnx Hg hokd
              generalize ps[j3] = kk at *
              obtain ⟨pm, pc⟩ := kk
              simp only at d0 d1 Hokd Hss
              cases h1 : momB ms.length pm
              · go_wp2_with (first | (go_at_call 34; refine (clk_any _ _).mono ?_; rintro e w' ⟨rfl, rfl⟩) | (go_at_call 33; refine (mom_any _ _ w.heap.size A ms.length a' (by exact (World.cell?_alloc_lt _ _ _ hlw).trans hcell) hs1).mono ?_; rintro e w' ⟨rfl, rfl⟩))
                go_ret2
                exact ⟨(by have hbelh := HL.out; have hbels := hbelh.size; exact (by repeat (first | exact Below.refl _ _ | (with_reducible refine Below.drew ?_) | (with_reducible refine below_drewN ?_ _) | (with_reducible refine Below.alloc ?_ (by first | omega | (simp; done) | (simp; omega)) _) | (with_reducible refine Below.setCell ?_ (by first | omega | (simp; done) | (simp; omega)) _) | (refine Below.trans ?_ (Below.mono (by with_reducible assumption) (by first | omega | (simp; done) | (simp; omega))))))), .inr ⟨(Hno.out (by rw [Hokd.out, h1]; simp)).out, rfl⟩⟩
              cases h2 : clkB pc
              · go_wp2_with (first | (go_at_call 34; refine (clk_any _ _).mono ?_; rintro e w' ⟨rfl, rfl⟩) | (go_at_call 33; refine (mom_any _ _ w.heap.size A ms.length a' (by exact (World.cell?_alloc_lt _ _ _ hlw).trans hcell) hs1).mono ?_; rintro e w' ⟨rfl, rfl⟩))
                go_ret2
                exact ⟨(by have hbelh := HL.out; have hbels := hbelh.size; exact (by repeat (first | exact Below.refl _ _ | (with_reducible refine Below.drew ?_) | (with_reducible refine below_drewN ?_ _) | (with_reducible refine Below.alloc ?_ (by first | omega | (simp; done) | (simp; omega)) _) | (with_reducible refine Below.setCell ?_ (by first | omega | (simp; done) | (simp; omega)) _) | (refine Below.trans ?_ (Below.mono (by with_reducible assumption) (by first | omega | (simp; done) | (simp; omega))))))), .inr ⟨(Hno.out (by rw [Hokd.out, h2]; simp)).out, rfl⟩⟩
              have hpm : 0 ≤ pm ∧ pm < ms.length := by simpa [momB] using h1
              obtain ⟨hpm0, hpm1⟩ := hpm
              obtain ⟨r, rfl⟩ := Int.eq_ofNat_of_zero_le hpm0
              have hrl : r < ms.length := by omega
              have q0 := own1 HS.out r (by simp [seenL]; exact hrl)
              have q1 := HS.out.frozenAt r
              rw [seenL_get ms.length ps j3 r hrl] at q0
              have hGl : G < wr.heap.size := (own_block HS.out G rfl).2
              have hGo : w.heap.size + 1 ≤ G := (own_block HS.out G rfl).1
              have hGne : w.heap.size ≠ G := by omega
              generalize hsb : decide ((r : Int) ∈ (ps.take j3).map Pri.mo) = sb at *
              have Hsb := Lib.hid hsb
              clear hsb
              cases sb
              · go_wp2_with (first | (go_at_call 34; refine (clk_any _ _).mono ?_; rintro e w' ⟨rfl, rfl⟩) | (go_at_call 33; refine (mom_any _ _ w.heap.size A ms.length a' (by exact (World.cell?_alloc_lt _ _ _ hlw).trans hcell) hs1).mono ?_; rintro e w' ⟨rfl, rfl⟩))
                go_roundg (ps.length - j3 - 1)
                case measure => have := Hj.out; omega
                case rel =>
                  refine ⟨j3 + 1, by first | rfl | go_num, by omega, Hnx.out (by rw [Hokd.out]; exact ⟨h1, h2, by simpa using Hsb.out⟩), ?_, ?_, ?_⟩
                  · exact (HK.out.same (Below.heap_setCell wr ⟨G, r, none⟩ (.bool true) w.heap.size (by simp; omega))).same (Below.heap_alloc _ _ _ (by simp; omega))
                  · exact (HL.out.setCell (p := ⟨G, r, none⟩) (by simp; omega) _).alloc (by simp; omega) _
                  · have := World.ownsRow.alloc (own1_set (f := Value.bool) HS.out r true) (.cells #[.int .i64 (r : Int), .int .i64 pc] 39)
                    rw [Hss.out r hrl rfl] at this
                    exact this
              · go_wp2_with (first | (go_at_call 34; refine (clk_any _ _).mono ?_; rintro e w' ⟨rfl, rfl⟩) | (go_at_call 33; refine (mom_any _ _ w.heap.size A ms.length a' (by exact (World.cell?_alloc_lt _ _ _ hlw).trans hcell) hs1).mono ?_; rintro e w' ⟨rfl, rfl⟩))
                go_ret2
                exact ⟨(by have hbelh := HL.out; have hbels := hbelh.size; exact (by repeat (first | exact Below.refl _ _ | (with_reducible refine Below.drew ?_) | (with_reducible refine below_drewN ?_ _) | (with_reducible refine Below.alloc ?_ (by first | omega | (simp; done) | (simp; omega)) _) | (with_reducible refine Below.setCell ?_ (by first | omega | (simp; done) | (simp; omega)) _) | (refine Below.trans ?_ (Below.mono (by with_reducible assumption) (by first | omega | (simp; done) | (simp; omega))))))), .inr ⟨(Hno.out (by rw [Hokd.out]; have := Hsb.out; simp only [decide_eq_true_eq] at this; exact fun h => h.2.2 this)).out, rfl⟩⟩
            · have hB : Basic ms ws ps := ⟨hs1, hs2, hs3, HM.out, HW.out, fun i hi => Hg.out i hi (by omega)⟩
              have HBa := Lib.hid hB
              have hwo : ∀ k ∈ ws, WOk ms.length k := fun k hk => (wtB_ok _ _).1 (HW.out k hk)
              have Hwo := Lib.hid hwo
              clear hB hwo
              go_wp2_with fail
              refine (topo_any ms.length B ws.length b' ws wr ((HB.out.grow HL.out).more HL.out.size) rfl hs1 hs2 Hwo.out).mono ?_
              rintro e w5 ⟨v5, ord, rfl, htopo, hacy, hown5, hb5⟩
              have HT := Lib.hid (And.intro htopo hacy)
              have HO5 := Lib.hid hown5
              have HB5 := Lib.hid hb5
              obtain ⟨A5, c5, rfl, _, _⟩ := own_slice hown5
              have hK5 := HK.out.same (hb5.block _ hlw)
              have c5' := hK5.cell 0
              simp at c5'
              clear htopo hacy hown5 hb5 hK5 hcell
              go_wp2_with fail
              go_quiet (fail)
              go_wp2_with fail
              go_ret2
              have hb6 := HB5.out
              refine ⟨(by have hbelh := HL.out.trans (hb6.mono HL.out.size); have hbels := hbelh.size; exact (by repeat (first | exact Below.refl _ _ | (with_reducible refine Below.drew ?_) | (with_reducible refine below_drewN ?_ _) | (with_reducible refine Below.alloc ?_ (by first | omega | (simp; done) | (simp; omega)) _) | (with_reducible refine Below.setCell ?_ (by first | omega | (simp; done) | (simp; omega)) _) | (refine Below.trans ?_ (Below.mono (by with_reducible assumption) (by first | omega | (simp; done) | (simp; omega))))))), .inl ⟨HBa.out, _, ord, ret_tb (by first | rfl | (simp; done) | (rw [Bool.eq_iff_iff]; simp; omega)), HT.out.1, HT.out.2, own_base HO5.out HL.out.size⟩⟩
end Go.Proofs.Ytddkfdfgfkejoaa
