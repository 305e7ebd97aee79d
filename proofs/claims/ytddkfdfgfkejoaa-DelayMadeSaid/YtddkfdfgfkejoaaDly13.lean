import Derived.Test.YtddkfdfgfkejoaaDly12
namespace Go.Proofs.Ytddkfdfgfkejoaa
open Go.RowKit

def CK1 (w : World) (ms : List Mom) (k : Nat) (v : Value) (wr : World) : Prop :=
  ∃ j : Nat, v = .int .i64 j ∧ j + k = ms.length ∧ (∀ i (h : i < ms.length), i < j → clkB ms[i].time = true) ∧ Below w.heap.size w wr
def CK2 (w : World) (n : Nat) (ws : List Wt) (k : Nat) (v : Value) (wr : World) : Prop :=
  ∃ j : Nat, v = .int .i64 j ∧ j + k = ws.length ∧ (∀ i (h : i < ws.length), i < j → wtB n ws[i] = true) ∧ Below w.heap.size w wr
def CK3 (w : World) (n : Nat) (ps : List Pri) (k : Nat) (v : Value) (wr : World) : Prop :=
  ∃ j : Nat, v = .int .i64 j ∧ j + k = ps.length ∧ (∀ i (h : i < ps.length), i < j → okP n ps i h) ∧ Below w.heap.size w wr
def CK4 (w : World) (ps : List Pri) (X : Nat) (pm px : Int) (n k : Nat) (v : Value) (wr : World) : Prop :=
  ∃ l : Nat, v = .int .i64 l ∧ l + k = n ∧ (∀ r (h : r < ps.length), r < l → ps[r].mo ≠ pm) ∧ Blk wr X 39 #[.int .i64 pm, .int .i64 px] ∧ Below w.heap.size w wr

set_option maxRecDepth 100000 in
set_option maxHeartbeats 3200000 in
theorem rcheck_any (A B C : Option Addr) (a b c a' b' c' : Nat) (ms : List Mom) (ws : List Wt) (ps : List Pri) (w : World) (hA : Rd w w.heap.size 2 A a (ms.flatMap Mom.cells)) (hB : Rd w w.heap.size 4 B b (ws.flatMap Wt.cells)) (hC : Rd w w.heap.size 2 C c (ps.flatMap Pri.cells))
    (ha : a = ms.length) (hb : b = ws.length) (hc : c = ps.length) (hal : ms.length ≤ 4611686018427387904) (hbl : ws.length ≤ 4611686018427387904) (hcl : ps.length ≤ 4611686018427387904) (hcc : ps.length ≤ c') (hcm : c' ≤ maxLen) :
    Calls Try.prog 23 #[.slice A a a', .slice B b b', .slice C c c'] w (CheckOut ms ws ps w) := by
  subst ha hb hc
  have HA := Lib.hid hA
  have HB := Lib.hid hB
  have HC := Lib.hid hC
  clear hA hB hC
  unfold maxLen at hcm
  by_cases hs1 : ms.length ≤ 64
  case neg =>
    go_enter Try.func23, Try.ntmps23
    go_wp2_with fail
    go_ret
    exact ⟨(by repeat (first | exact Below.refl _ _ | (with_reducible refine Below.drew ?_) | (with_reducible refine below_drewN ?_ _) | (with_reducible refine Below.alloc ?_ (by first | omega | (simp; done) | (simp; omega)) _) | (with_reducible refine Below.setCell ?_ (by first | omega | (simp; done) | (simp; omega)) _) | (refine Below.trans ?_ (Below.mono (by with_reducible assumption) (by first | omega | (simp; done) | (simp; omega)))))), .inr ⟨fun h => by have := h.1.m; omega, rfl⟩⟩
  have e1 : decide (64 < ms.length) = false := by simp; omega
  have e1' : decide ((64 : Int) < (ms.length : Int)) = false := by simp; omega
  by_cases hs2 : ws.length ≤ 200
  case neg =>
    go_enter Try.func23, Try.ntmps23
    go_wp2_with fail
    go_ret
    exact ⟨(by repeat (first | exact Below.refl _ _ | (with_reducible refine Below.drew ?_) | (with_reducible refine below_drewN ?_ _) | (with_reducible refine Below.alloc ?_ (by first | omega | (simp; done) | (simp; omega)) _) | (with_reducible refine Below.setCell ?_ (by first | omega | (simp; done) | (simp; omega)) _) | (refine Below.trans ?_ (Below.mono (by with_reducible assumption) (by first | omega | (simp; done) | (simp; omega)))))), .inr ⟨fun h => by have := h.1.w; omega, rfl⟩⟩
  have e2 : decide (200 < ws.length) = false := by simp; omega
  have e2' : decide ((200 : Int) < (ws.length : Int)) = false := by simp; omega
  by_cases hs3 : ps.length ≤ 64
  case neg =>
    go_enter Try.func23, Try.ntmps23
    go_wp2_with fail
    go_ret
    exact ⟨(by repeat (first | exact Below.refl _ _ | (with_reducible refine Below.drew ?_) | (with_reducible refine below_drewN ?_ _) | (with_reducible refine Below.alloc ?_ (by first | omega | (simp; done) | (simp; omega)) _) | (with_reducible refine Below.setCell ?_ (by first | omega | (simp; done) | (simp; omega)) _) | (refine Below.trans ?_ (Below.mono (by with_reducible assumption) (by first | omega | (simp; done) | (simp; omega)))))), .inr ⟨fun h => by have := h.1.p; omega, rfl⟩⟩
  have e3 : decide (64 < ps.length) = false := by simp; omega
  have e3' : decide ((64 : Int) < (ps.length : Int)) = false := by simp; omega
  go_enter Try.func23, Try.ntmps23
  go_wp2_with fail
  clear e1 e1' e2 e2' e3 e3'
  go_loopg [9, 34] ms.length (fun k _ v wr => CK1 w ms k v wr)
  case atStart => exact ⟨0, rfl, by omega, fun i h hi => by omega, Below.refl _ _⟩
  case round =>
    obtain ⟨j, rfl, hj, hgood, hbel⟩ := hrel
    have Hj := Lib.hid hj
    have Hg := Lib.hid hgood
    have HL := Lib.hid hbel
    clear hj hgood hbel
    by_cases hlt : j < ms.length
    · obtain ⟨bb, off, rfl, hbb, d0, d1⟩ := rdMom (HA.out.grow HL.out) rfl j hlt
      have hbb' : bb < wr.heap.size := World.block_lt_of_cell? _ _ d0
      have HOK := Lib.hid (fun (h : Valid ms ws ps) => show 0 ≤ ms[j].time ∧ ms[j].time ≤ 4194304 by have := h.1.mAll ms[j] (List.getElem_mem hlt); simpa [clkB] using this)
      have hnx : clkB ms[j].time = true → ∀ i (h : i < ms.length), i < j + 1 → clkB ms[i].time = true := fun h1 i hi hij => by
        rcases Nat.lt_or_ge i j with h2 | h2
        · exact Hg.out i hi h2
        · obtain rfl : i = j := by omega
          exact h1
      have Hnx := Lib.hid hnx
      clear hnx Hg
      generalize ms[j].time = tm at *
      generalize ms[j].hold = hd at *
      by_cases h1 : tm < 0
      · go_wp2_with fail
        go_ret
        exact ⟨(by have hbelh := HL.out; have hbels := hbelh.size; exact (by repeat (first | exact Below.refl _ _ | (with_reducible refine Below.drew ?_) | (with_reducible refine below_drewN ?_ _) | (with_reducible refine Below.alloc ?_ (by first | omega | (simp; done) | (simp; omega)) _) | (with_reducible refine Below.setCell ?_ (by first | omega | (simp; done) | (simp; omega)) _) | (refine Below.trans ?_ (Below.mono (by with_reducible assumption) (by first | omega | (simp; done) | (simp; omega))))))), .inr ⟨fun h => by have hok := HOK.out h; omega, rfl⟩⟩
      by_cases h2 : 4194304 < tm
      · go_wp2_with fail
        go_ret
        exact ⟨(by have hbelh := HL.out; have hbels := hbelh.size; exact (by repeat (first | exact Below.refl _ _ | (with_reducible refine Below.drew ?_) | (with_reducible refine below_drewN ?_ _) | (with_reducible refine Below.alloc ?_ (by first | omega | (simp; done) | (simp; omega)) _) | (with_reducible refine Below.setCell ?_ (by first | omega | (simp; done) | (simp; omega)) _) | (refine Below.trans ?_ (Below.mono (by with_reducible assumption) (by first | omega | (simp; done) | (simp; omega))))))), .inr ⟨fun h => by have hok := HOK.out h; omega, rfl⟩⟩
      go_wp2_with fail
      go_roundg (ms.length - j - 1)
      case measure => have := Hj.out; omega
      case rel => exact ⟨j + 1, by first | rfl | go_num, by omega, Hnx.out (by simp [clkB]; omega), (by have hbelh := HL.out; have hbels := hbelh.size; exact (by repeat (first | exact Below.refl _ _ | (with_reducible refine Below.drew ?_) | (with_reducible refine below_drewN ?_ _) | (with_reducible refine Below.alloc ?_ (by first | omega | (simp; done) | (simp; omega)) _) | (with_reducible refine Below.setCell ?_ (by first | omega | (simp; done) | (simp; omega)) _) | (refine Below.trans ?_ (Below.mono (by with_reducible assumption) (by first | omega | (simp; done) | (simp; omega)))))))⟩
    · have hM : ∀ x ∈ ms, clkB x.time = true := fun x hx => by
        obtain ⟨i, hi, rfl⟩ := List.getElem_of_mem hx
        exact Hg.out i hi (by omega)
      have HM := Lib.hid hM
      clear hM Hg Hj
      go_wp2_with fail
      go_loopg [11, 49] ws.length (fun k _ v wr => CK2 w ms.length ws k v wr)
      case atStart => exact ⟨0, rfl, by omega, fun i h hi => by omega, HL.out⟩
      case round =>
        obtain ⟨j2, rfl, hj, hgood, hbel⟩ := hrel
        clear HL hlt
        have Hj := Lib.hid hj
        have Hg := Lib.hid hgood
        have HL := Lib.hid hbel
        clear hj hgood hbel
        by_cases hlt2 : j2 < ws.length
        · obtain ⟨bb, off, rfl, hbb, d0, d1, d2, d3⟩ := rdWt (HB.out.grow HL.out) rfl j2 hlt2
          have hbb' : bb < wr.heap.size := World.block_lt_of_cell? _ _ d0
          have HOK := Lib.hid (fun (h : Valid ms ws ps) => (wtB_ok ms.length ws[j2]).1 (h.1.wAll ws[j2] (List.getElem_mem hlt2)))
          have hnx : wtB ms.length ws[j2] = true → ∀ i (h : i < ws.length), i < j2 + 1 → wtB ms.length ws[i] = true := fun h1 i hi hij => by
            rcases Nat.lt_or_ge i j2 with h2 | h2
            · exact Hg.out i hi h2
            · obtain rfl : i = j2 := by omega
              exact h1
          have Hnx := Lib.hid hnx
          clear hnx Hg
          generalize ws[j2] = kk at *
          obtain ⟨kf, kt, km, kx⟩ := kk
          simp only at d0 d1 d2 d3
          by_cases h1 : kf < 0
          · go_wp2_with fail
            go_ret
            exact ⟨(by have hbelh := HL.out; have hbels := hbelh.size; exact (by repeat (first | exact Below.refl _ _ | (with_reducible refine Below.drew ?_) | (with_reducible refine below_drewN ?_ _) | (with_reducible refine Below.alloc ?_ (by first | omega | (simp; done) | (simp; omega)) _) | (with_reducible refine Below.setCell ?_ (by first | omega | (simp; done) | (simp; omega)) _) | (refine Below.trans ?_ (Below.mono (by with_reducible assumption) (by first | omega | (simp; done) | (simp; omega))))))), .inr ⟨fun h => by have hok := HOK.out h; have := hok.f0; simp only at this; omega, rfl⟩⟩
          by_cases h2 : (ms.length : Int) ≤ kf
          · go_wp2_with fail
            go_ret
            exact ⟨(by have hbelh := HL.out; have hbels := hbelh.size; exact (by repeat (first | exact Below.refl _ _ | (with_reducible refine Below.drew ?_) | (with_reducible refine below_drewN ?_ _) | (with_reducible refine Below.alloc ?_ (by first | omega | (simp; done) | (simp; omega)) _) | (with_reducible refine Below.setCell ?_ (by first | omega | (simp; done) | (simp; omega)) _) | (refine Below.trans ?_ (Below.mono (by with_reducible assumption) (by first | omega | (simp; done) | (simp; omega))))))), .inr ⟨fun h => by have hok := HOK.out h; have := hok.f1; simp only at this; omega, rfl⟩⟩
          by_cases h3 : kt < 0
          · go_wp2_with fail
            go_ret
            exact ⟨(by have hbelh := HL.out; have hbels := hbelh.size; exact (by repeat (first | exact Below.refl _ _ | (with_reducible refine Below.drew ?_) | (with_reducible refine below_drewN ?_ _) | (with_reducible refine Below.alloc ?_ (by first | omega | (simp; done) | (simp; omega)) _) | (with_reducible refine Below.setCell ?_ (by first | omega | (simp; done) | (simp; omega)) _) | (refine Below.trans ?_ (Below.mono (by with_reducible assumption) (by first | omega | (simp; done) | (simp; omega))))))), .inr ⟨fun h => by have hok := HOK.out h; have := hok.t0; simp only at this; omega, rfl⟩⟩
          by_cases h4 : (ms.length : Int) ≤ kt
          · go_wp2_with fail
            go_ret
            exact ⟨(by have hbelh := HL.out; have hbels := hbelh.size; exact (by repeat (first | exact Below.refl _ _ | (with_reducible refine Below.drew ?_) | (with_reducible refine below_drewN ?_ _) | (with_reducible refine Below.alloc ?_ (by first | omega | (simp; done) | (simp; omega)) _) | (with_reducible refine Below.setCell ?_ (by first | omega | (simp; done) | (simp; omega)) _) | (refine Below.trans ?_ (Below.mono (by with_reducible assumption) (by first | omega | (simp; done) | (simp; omega))))))), .inr ⟨fun h => by have hok := HOK.out h; have := hok.t1; simp only at this; omega, rfl⟩⟩
          cases h5 : (kf == kt)
          case true =>
            go_wp2_with fail
            go_ret
            exact ⟨(by have hbelh := HL.out; have hbels := hbelh.size; exact (by repeat (first | exact Below.refl _ _ | (with_reducible refine Below.drew ?_) | (with_reducible refine below_drewN ?_ _) | (with_reducible refine Below.alloc ?_ (by first | omega | (simp; done) | (simp; omega)) _) | (with_reducible refine Below.setCell ?_ (by first | omega | (simp; done) | (simp; omega)) _) | (refine Below.trans ?_ (Below.mono (by with_reducible assumption) (by first | omega | (simp; done) | (simp; omega))))))), .inr ⟨fun h => by have hok := HOK.out h; exact hok.ne (by simpa using h5), rfl⟩⟩
          by_cases h6 : km < 0
          · go_wp2_with fail
            go_ret
            exact ⟨(by have hbelh := HL.out; have hbels := hbelh.size; exact (by repeat (first | exact Below.refl _ _ | (with_reducible refine Below.drew ?_) | (with_reducible refine below_drewN ?_ _) | (with_reducible refine Below.alloc ?_ (by first | omega | (simp; done) | (simp; omega)) _) | (with_reducible refine Below.setCell ?_ (by first | omega | (simp; done) | (simp; omega)) _) | (refine Below.trans ?_ (Below.mono (by with_reducible assumption) (by first | omega | (simp; done) | (simp; omega))))))), .inr ⟨fun h => by have hok := HOK.out h; have := hok.m0; simp only at this; omega, rfl⟩⟩
          by_cases h7 : 4194304 < km
          · go_wp2_with fail
            go_ret
            exact ⟨(by have hbelh := HL.out; have hbels := hbelh.size; exact (by repeat (first | exact Below.refl _ _ | (with_reducible refine Below.drew ?_) | (with_reducible refine below_drewN ?_ _) | (with_reducible refine Below.alloc ?_ (by first | omega | (simp; done) | (simp; omega)) _) | (with_reducible refine Below.setCell ?_ (by first | omega | (simp; done) | (simp; omega)) _) | (refine Below.trans ?_ (Below.mono (by with_reducible assumption) (by first | omega | (simp; done) | (simp; omega))))))), .inr ⟨fun h => by have hok := HOK.out h; have := hok.m1; simp only at this; omega, rfl⟩⟩
          by_cases h8 : kx < -1
          · go_wp2_with fail
            go_ret
            exact ⟨(by have hbelh := HL.out; have hbels := hbelh.size; exact (by repeat (first | exact Below.refl _ _ | (with_reducible refine Below.drew ?_) | (with_reducible refine below_drewN ?_ _) | (with_reducible refine Below.alloc ?_ (by first | omega | (simp; done) | (simp; omega)) _) | (with_reducible refine Below.setCell ?_ (by first | omega | (simp; done) | (simp; omega)) _) | (refine Below.trans ?_ (Below.mono (by with_reducible assumption) (by first | omega | (simp; done) | (simp; omega))))))), .inr ⟨fun h => by have hok := HOK.out h; have := hok.x0; simp only at this; omega, rfl⟩⟩
          by_cases h9 : 4194304 < kx
          · go_wp2_with fail
            go_ret
            exact ⟨(by have hbelh := HL.out; have hbels := hbelh.size; exact (by repeat (first | exact Below.refl _ _ | (with_reducible refine Below.drew ?_) | (with_reducible refine below_drewN ?_ _) | (with_reducible refine Below.alloc ?_ (by first | omega | (simp; done) | (simp; omega)) _) | (with_reducible refine Below.setCell ?_ (by first | omega | (simp; done) | (simp; omega)) _) | (refine Below.trans ?_ (Below.mono (by with_reducible assumption) (by first | omega | (simp; done) | (simp; omega))))))), .inr ⟨fun h => by have hok := HOK.out h; have := hok.x1; simp only at this; omega, rfl⟩⟩
          go_wp2_with fail
          go_roundg (ws.length - j2 - 1)
          case measure => have := Hj.out; omega
          case rel => exact ⟨j2 + 1, by first | rfl | go_num, by omega, Hnx.out ((wtB_ok _ _).2 ⟨by simp only; omega, by simp only; omega, by simp only; omega, by simp only; omega, by simpa using h5, by simp only; omega, by simp only; omega, by simp only; omega, by simp only; omega⟩), (by have hbelh := HL.out; have hbels := hbelh.size; exact (by repeat (first | exact Below.refl _ _ | (with_reducible refine Below.drew ?_) | (with_reducible refine below_drewN ?_ _) | (with_reducible refine Below.alloc ?_ (by first | omega | (simp; done) | (simp; omega)) _) | (with_reducible refine Below.setCell ?_ (by first | omega | (simp; done) | (simp; omega)) _) | (refine Below.trans ?_ (Below.mono (by with_reducible assumption) (by first | omega | (simp; done) | (simp; omega)))))))⟩
        · have hW : ∀ x ∈ ws, wtB ms.length x = true := fun x hx => by
            obtain ⟨i, hi, rfl⟩ := List.getElem_of_mem hx
            exact Hg.out i hi (by omega)
          have HW := Lib.hid hW
          clear hW Hg Hj
          go_wp2_with fail
          go_loopg [12, 13, 15, 103, 131] ps.length (fun k _ _ _ v _ wr => CK3 w ms.length ps k v wr)
          case atStart => exact ⟨0, rfl, by omega, fun i h hi => by omega, HL.out⟩
          case round =>
            obtain ⟨j3, rfl, hj, hgood, hbel⟩ := hrel
            clear HL hlt2
            have Hj := Lib.hid hj
            have Hg := Lib.hid hgood
            have HL := Lib.hid hbel
            clear hj hgood hbel
            by_cases hlt3 : j3 < ps.length
            · obtain ⟨bb, off, rfl, hbb, d0, d1⟩ := rdPri (HC.out.grow HL.out) rfl j3 hlt3
              have hbb' : bb < wr.heap.size := World.block_lt_of_cell? _ _ d0
              have HOK := Lib.hid (fun (h : Valid ms ws ps) => h.1.pAll j3 hlt3)
              have hnx : okP ms.length ps j3 hlt3 → ∀ i (h : i < ps.length), i < j3 + 1 → okP ms.length ps i h := fun h1 i hi hij => by
                rcases Nat.lt_or_ge i j3 with h2 | h2
                · exact Hg.out i hi h2
                · obtain rfl : i = j3 := by omega
                  exact h1
              have Hnx := Lib.hid hnx
              clear hnx Hg
              unfold okP at HOK Hnx
              generalize hpm : ps[j3].mo = pm at *
              generalize ps[j3].sec = px at *
              have Hpm := Lib.hid hpm
              clear hpm
              by_cases h1 : pm < 0
              · go_wp2_with fail
                go_ret
                exact ⟨(by have hbelh := HL.out; have hbels := hbelh.size; exact (by repeat (first | exact Below.refl _ _ | (with_reducible refine Below.drew ?_) | (with_reducible refine below_drewN ?_ _) | (with_reducible refine Below.alloc ?_ (by first | omega | (simp; done) | (simp; omega)) _) | (with_reducible refine Below.setCell ?_ (by first | omega | (simp; done) | (simp; omega)) _) | (refine Below.trans ?_ (Below.mono (by with_reducible assumption) (by first | omega | (simp; done) | (simp; omega))))))), .inr ⟨fun h => by have hok := HOK.out h; have := hok.1; simp [momB] at this; omega, rfl⟩⟩
              by_cases h2 : (ms.length : Int) ≤ pm
              · go_wp2_with fail
                go_ret
                exact ⟨(by have hbelh := HL.out; have hbels := hbelh.size; exact (by repeat (first | exact Below.refl _ _ | (with_reducible refine Below.drew ?_) | (with_reducible refine below_drewN ?_ _) | (with_reducible refine Below.alloc ?_ (by first | omega | (simp; done) | (simp; omega)) _) | (with_reducible refine Below.setCell ?_ (by first | omega | (simp; done) | (simp; omega)) _) | (refine Below.trans ?_ (Below.mono (by with_reducible assumption) (by first | omega | (simp; done) | (simp; omega))))))), .inr ⟨fun h => by have hok := HOK.out h; have := hok.1; simp [momB] at this; omega, rfl⟩⟩
              by_cases h3 : px < 0
              · go_wp2_with fail
                go_ret
                exact ⟨(by have hbelh := HL.out; have hbels := hbelh.size; exact (by repeat (first | exact Below.refl _ _ | (with_reducible refine Below.drew ?_) | (with_reducible refine below_drewN ?_ _) | (with_reducible refine Below.alloc ?_ (by first | omega | (simp; done) | (simp; omega)) _) | (with_reducible refine Below.setCell ?_ (by first | omega | (simp; done) | (simp; omega)) _) | (refine Below.trans ?_ (Below.mono (by with_reducible assumption) (by first | omega | (simp; done) | (simp; omega))))))), .inr ⟨fun h => by have hok := HOK.out h; have := hok.2.1; simp [clkB] at this; omega, rfl⟩⟩
              by_cases h4 : 4194304 < px
              · go_wp2_with fail
                go_ret
                exact ⟨(by have hbelh := HL.out; have hbels := hbelh.size; exact (by repeat (first | exact Below.refl _ _ | (with_reducible refine Below.drew ?_) | (with_reducible refine below_drewN ?_ _) | (with_reducible refine Below.alloc ?_ (by first | omega | (simp; done) | (simp; omega)) _) | (with_reducible refine Below.setCell ?_ (by first | omega | (simp; done) | (simp; omega)) _) | (refine Below.trans ?_ (Below.mono (by with_reducible assumption) (by first | omega | (simp; done) | (simp; omega))))))), .inr ⟨fun h => by have hok := HOK.out h; have := hok.2.1; simp [clkB] at this; omega, rfl⟩⟩
              go_wp2_with fail
              have HX := Lib.hid (Blk.new wr 39 #[.int .i64 pm, .int .i64 px])
              have HL5 := Lib.hid (show Below w.heap.size w (wr.alloc (.cells #[.int .i64 pm, .int .i64 px] 39)) from (by have hbelh := HL.out; have hbels := hbelh.size; exact (by repeat (first | exact Below.refl _ _ | (with_reducible refine Below.drew ?_) | (with_reducible refine below_drewN ?_ _) | (with_reducible refine Below.alloc ?_ (by first | omega | (simp; done) | (simp; omega)) _) | (with_reducible refine Below.setCell ?_ (by first | omega | (simp; done) | (simp; omega)) _) | (refine Below.trans ?_ (Below.mono (by with_reducible assumption) (by first | omega | (simp; done) | (simp; omega))))))))
              clear d0 d1 HL hbb'
              generalize wr.alloc (.cells #[.int .i64 pm, .int .i64 px] 39) = w5 at *
              generalize wr.heap.size = X at *
              go_loopg [15, 131] j3 (fun k _ v wr => CK4 w ps X pm px j3 k v wr)
              case atStart => exact ⟨0, rfl, by omega, fun r h hr => by omega, HX.out, HL5.out⟩
              case round =>
                obtain ⟨l, rfl, hl, hne, hblk, hbel⟩ := hrel
                clear HX HL5
                have Hl := Lib.hid hl
                have Hne := Lib.hid hne
                have HX := Lib.hid hblk
                have HL := Lib.hid hbel
                clear hl hne hblk hbel
                by_cases hltl : l < j3
                · have hlp : l < ps.length := by omega
                  obtain ⟨bb', off', e1, hbb2, d0, d1⟩ := rdPri (HC.out.grow HL.out) rfl l hlp
                  injection e1 with e1
                  injection e1 with e1 e2
                  subst e1 e2
                  have hbb' : bb < wr.heap.size := World.block_lt_of_cell? _ _ d0
                  have x0 := HX.out.cell 0
                  have hxl := HX.out.lt
                  simp at x0
                  have HX5 := Lib.hid (HX.out.same (Below.heap_alloc wr (.cells #[.int .i64 ps[l].mo, .int .i64 ps[l].sec] 39) _ hxl))
                  have Hno := Lib.hid (show ps[l].mo = pm → ¬ Valid ms ws ps from fun e hV => (HOK.out hV).2.2 (by rw [← e]; exact List.mem_map.2 ⟨ps[l], List.mem_take_iff_getElem.2 ⟨l, by omega, rfl⟩, rfl⟩))
                  have Hne2 := Lib.hid (show ps[l].mo ≠ pm → ∀ r (h : r < ps.length), r < l + 1 → ps[r].mo ≠ pm from fun e r h hr => by
                    rcases Nat.lt_or_ge r l with h2 | h2
                    · exact Hne.out r h h2
                    · obtain rfl : r = l := by omega
                      exact e)
                  clear Hne HX
                  generalize ps[l].mo = qm at *
                  generalize ps[l].sec = qx at *
                  cases e : (qm == pm)
                  · go_wp2_with fail
                    go_roundg (j3 - l - 1)
                    case measure => have := Hl.out; omega
                    case rel => exact ⟨l + 1, by first | rfl | go_num, by omega, Hne2.out (by simpa using e), HX5.out, (by have hbelh := HL.out; have hbels := hbelh.size; exact (by repeat (first | exact Below.refl _ _ | (with_reducible refine Below.drew ?_) | (with_reducible refine below_drewN ?_ _) | (with_reducible refine Below.alloc ?_ (by first | omega | (simp; done) | (simp; omega)) _) | (with_reducible refine Below.setCell ?_ (by first | omega | (simp; done) | (simp; omega)) _) | (refine Below.trans ?_ (Below.mono (by with_reducible assumption) (by first | omega | (simp; done) | (simp; omega)))))))⟩
                  · go_wp2_with fail
                    go_ret
                    exact ⟨(by have hbelh := HL.out; have hbels := hbelh.size; exact (by repeat (first | exact Below.refl _ _ | (with_reducible refine Below.drew ?_) | (with_reducible refine below_drewN ?_ _) | (with_reducible refine Below.alloc ?_ (by first | omega | (simp; done) | (simp; omega)) _) | (with_reducible refine Below.setCell ?_ (by first | omega | (simp; done) | (simp; omega)) _) | (refine Below.trans ?_ (Below.mono (by with_reducible assumption) (by first | omega | (simp; done) | (simp; omega))))))), .inr ⟨Hno.out (by simpa using e), rfl⟩⟩
                · go_wp2_with fail
                  go_roundg (ps.length - j3 - 1)
                  case measure => have := Hj.out; omega
                  case rel => exact ⟨j3 + 1, by first | rfl | go_num, by omega, Hnx.out ⟨by simp [momB]; omega, by simp [clkB]; omega, fun hm => by
                    obtain ⟨d, hd, e⟩ := List.mem_map.1 hm
                    obtain ⟨r, hr, rfl⟩ := List.mem_take_iff_getElem.1 hd
                    exact Hne.out r (by omega) (by omega) e⟩, HL.out⟩
            · have hP : ∀ i (h : i < ps.length), okP ms.length ps i h := fun i h => Hg.out i h (by omega)
              have HP := Lib.hid hP
              clear hP Hg Hj
              go_wp2_with fail
              refine (rtopo_any ms.length B ws.length b' ws wr ((HB.out.grow HL.out).more HL.out.size) rfl hs1 hs2 (fun k hk => (wtB_ok _ _).1 (HW.out k hk))).mono ?_
              rintro e w2 ⟨hb2, hcase⟩
              have Hb2 := Lib.hid (HL.out.trans (hb2.mono HL.out.size))
              clear hb2
              rcases hcase with ⟨v, ord, rfl, htopo, hol, hown⟩ | ⟨hac, rfl⟩
              · have HV := Lib.hid (show Valid ms ws ps from ⟨⟨hs1, hs2, hs3, HM.out, HW.out, HP.out⟩, htopo.acyc hol (fun k hk => (wtB_ok _ _).1 (HW.out k hk))⟩)
                clear htopo hol hown
                go_wp2_with fail
                go_ret
                exact ⟨Hb2.out, .inl ⟨HV.out, rfl⟩⟩
              · have HV := Lib.hid (show ¬ Valid ms ws ps from fun h => hac h.2)
                clear hac
                go_wp2_with fail
                go_ret
                exact ⟨Hb2.out, .inr ⟨HV.out, rfl⟩⟩
end Go.Proofs.Ytddkfdfgfkejoaa
