import Derived.Test.YtddkfdfgfkejoaaDly3
namespace Go.Proofs.Ytddkfdfgfkejoaa
open Go.RowKit

def PropaOut (ms : List Mom) (ws : List Wt) (ps : List Pri) (w : World) (e : Ending) (w' : World) : Prop :=
  Below w.heap.size w w' ∧ ((Valid ms ws ps ∧ ∃ (vs vk : Value) (base sec : List Int) (kept : List Bool), e = .returned (.tuple #[vs, vk, .int .i64 0]) ∧ Sol ms ws ps base sec kept ∧
      w'.ownsRow w.heap.size 3 1 vs ms.length (sec.map (Value.int .i64)) ∧ w'.ownsRow w.heap.size 4 1 vk ws.length (kept.map Value.bool)) ∨
    (¬ Valid ms ws ps ∧ e = .returned (.tuple #[.slice none 0 0, .slice none 0 0, .int .i64 1])))

set_option maxRecDepth 100000 in
set_option maxHeartbeats 1600000 in
theorem propa_any (A B C : Option Addr) (a b c a' b' c' : Nat) (ms : List Mom) (ws : List Wt) (ps : List Pri) (w : World) (hA : Rd w w.heap.size 2 A a (ms.flatMap Mom.cells)) (hB : Rd w w.heap.size 4 B b (ws.flatMap Wt.cells)) (hC : Rd w w.heap.size 2 C c (ps.flatMap Pri.cells))
    (ha : a = ms.length) (hb : b = ws.length) (hc : c = ps.length) (hal : ms.length ≤ 4611686018427387904) (hbl : ws.length ≤ 4611686018427387904) (hcl : ps.length ≤ 4611686018427387904) :
    Calls Try.prog 13 #[.slice A a a', .slice B b b', .slice C c c'] w (PropaOut ms ws ps w) := by
  subst ha hb hc
  have HA := Lib.hid hA
  have HB := Lib.hid hB
  have HC := Lib.hid hC
  clear hA hB hC
  go_enter Try.func13, Try.ntmps13
  go_wp2_with fail
  refine (propagate_any A B C _ _ _ a' b' c' ms ws ps w HA.out HB.out HC.out rfl rfl rfl hal hbl hcl).mono ?_
  rintro e w1 ⟨hb1, hcase⟩
  have Hb1 := Lib.hid hb1
  have hs1 := hb1.size
  clear hb1
  rcases hcase with ⟨hv, vb, vs, vk, base, sec, kept, rfl, hsol, hob, hos, hok⟩ | ⟨hv, rfl⟩
  · obtain ⟨Ab, cb, rfl, _, _⟩ := own_slice hob
    obtain ⟨As, cs, rfl, _, _⟩ := own_slice hos
    obtain ⟨Ak, ck, rfl, _, _⟩ := own_slice hok
    have HV := Lib.hid (And.intro hv (And.intro hsol (And.intro hos hok)))
    clear hv hsol hob hos hok
    go_wp2_with fail
    go_quiet (fail)
    go_wp2_with fail
    go_ret3
    refine ⟨(by have hbelh := Hb1.out; have hbels := hbelh.size; exact (by repeat (first | exact Below.refl _ _ | (with_reducible refine Below.drew ?_) | (with_reducible refine below_drewN ?_ _) | (with_reducible refine Below.alloc ?_ (by first | omega | (simp; done) | (simp; omega)) _) | (with_reducible refine Below.setCell ?_ (by first | omega | (simp; done) | (simp; omega)) _) | (refine Below.trans ?_ (Below.mono (by with_reducible assumption) (by first | omega | (simp; done) | (simp; omega))))))), .inl ⟨HV.out.1, _, _, base, sec, kept, rfl, HV.out.2.1, ?_, ?_⟩⟩
    · exact own_grow HV.out.2.2.1 (below_drewN ((Below.refl _ _).alloc (Nat.le_refl _) _) _)
    · exact own_grow HV.out.2.2.2 (below_drewN ((Below.refl _ _).alloc (Nat.le_refl _) _) _)
  · have HV := Lib.hid hv
    clear hv
    go_wp2_with fail
    go_ret3
    exact ⟨(by have hbelh := Hb1.out; have hbels := hbelh.size; exact (by repeat (first | exact Below.refl _ _ | (with_reducible refine Below.drew ?_) | (with_reducible refine below_drewN ?_ _) | (with_reducible refine Below.alloc ?_ (by first | omega | (simp; done) | (simp; omega)) _) | (with_reducible refine Below.setCell ?_ (by first | omega | (simp; done) | (simp; omega)) _) | (refine Below.trans ?_ (Below.mono (by with_reducible assumption) (by first | omega | (simp; done) | (simp; omega))))))), .inr ⟨HV.out, rfl⟩⟩

def CheckOut (ms : List Mom) (ws : List Wt) (ps : List Pri) (w : World) (e : Ending) (w' : World) : Prop :=
  Below w.heap.size w w' ∧ ((Valid ms ws ps ∧ e = .returned (.bool true)) ∨ (¬ Valid ms ws ps ∧ e = .returned (.bool false)))

set_option maxRecDepth 100000 in
set_option maxHeartbeats 1600000 in
theorem check_any (A B C : Option Addr) (a b c a' b' c' : Nat) (ms : List Mom) (ws : List Wt) (ps : List Pri) (w : World) (hA : Rd w w.heap.size 2 A a (ms.flatMap Mom.cells)) (hB : Rd w w.heap.size 4 B b (ws.flatMap Wt.cells)) (hC : Rd w w.heap.size 2 C c (ps.flatMap Pri.cells))
    (ha : a = ms.length) (hb : b = ws.length) (hc : c = ps.length) (hal : ms.length ≤ 4611686018427387904) (hbl : ws.length ≤ 4611686018427387904) (hcl : ps.length ≤ 4611686018427387904) :
    Calls Try.prog 22 #[.slice A a a', .slice B b b', .slice C c c'] w (CheckOut ms ws ps w) := by
  subst ha hb hc
  have HA := Lib.hid hA
  have HB := Lib.hid hB
  have HC := Lib.hid hC
  clear hA hB hC
  go_enter Try.func22, Try.ntmps22
  go_wp2_with fail
  refine (sorted_any A B C _ _ _ a' b' c' ms ws ps w HA.out HB.out HC.out rfl rfl rfl hal hbl hcl).mono ?_
  rintro e w1 ⟨hb1, hcase⟩
  have Hb1 := Lib.hid hb1
  clear hb1
  rcases hcase with ⟨hba, v1, ord, rfl, htopo, hacy, hown1⟩ | ⟨hba, rfl⟩
  · have HV := Lib.hid (And.intro hba (And.intro htopo hacy))
    obtain ⟨A1, c1, rfl, _, _⟩ := own_slice hown1
    clear hba htopo hacy hown1
    by_cases hl : ord.length = ms.length
    · have hl' : decide (ord.length = ms.length) = true := by simpa using hl
      have Hl := Lib.hid hl
      clear hl
      go_wp2_with fail
      go_ret
      exact ⟨Hb1.out, .inl ⟨⟨HV.out.1, HV.out.2.1.acyc Hl.out (fun k hk => (wtB_ok _ _).1 (HV.out.1.wAll k hk))⟩, rfl⟩⟩
    · have hl' : decide (ord.length = ms.length) = false := by simpa using hl
      have Hl := Lib.hid hl
      clear hl
      go_wp2_with fail
      go_ret
      exact ⟨Hb1.out, .inr ⟨fun h => Hl.out (HV.out.2.2 h.2), rfl⟩⟩
  · have HV := Lib.hid hba
    clear hba
    go_wp2_with fail
    go_ret
    exact ⟨Hb1.out, .inr ⟨fun h => HV.out h.1, rfl⟩⟩

def sameIntRel (w : World) (cs : List Int) (k : Nat) (v : Value) (wr : World) : Prop :=
  ∃ s d : Nat, v = .int .i64 s ∧ s + k = cs.length ∧ wr = w.drewN d
set_option maxHeartbeats 1600000 in
theorem sameInt_yes (A B : Option Addr) (m m' c c' : Nat) (cs : List Int) (w : World) (h : Rd w w.heap.size 1 A m (cs.map (Value.int .i64))) (h' : Rd w w.heap.size 1 B m' (cs.map (Value.int .i64))) (hm : m = cs.length) (hm' : m' = cs.length) (hx : cs.length ≤ 4611686018427387904) :
    Calls Try.prog 19 #[.slice A m c, .slice B m' c'] w fun e w' => e = .returned (.bool true) ∧ Below w.heap.size w w' := by
  subst hm hm'
  have H := Lib.hid h
  have H' := Lib.hid h'
  clear h h'
  have hne : ((cs.length : Int) != (cs.length : Int)) = false := by simp
  go_enter Try.func19, Try.ntmps19
  go_wp2_with fail
  go_loopg [5, 13] cs.length (fun k _ v wr => sameIntRel w cs k v wr)
  case atStart => exact ⟨0, 0, rfl, by omega, rfl⟩
  case round =>
    obtain ⟨s, d, rfl, hs, rfl⟩ := hrel
    have Hs := Lib.hid hs
    clear hs
    by_cases hlt : s < cs.length
    · obtain ⟨b, off, rfl, _, q0⟩ := rd1 H.out s hlt
      obtain ⟨b', off', rfl, _, r0⟩ := rd1 H'.out s hlt
      generalize cs[s] = q at *
      go_upto_region 6 with fail
      go_quiet (fail)
      go_wp2_with fail
      go_roundg (cs.length - s - 1)
      case measure => have := Hs.out; omega
      case rel => exact ⟨s + 1, _, by first | rfl | go_num, by omega, rfl⟩
    · go_wp2_with fail
      go_ret
      exact ⟨rfl, below_drewN (Below.refl _ _) _⟩
def sameBoolRel (w : World) (cs : List Bool) (k : Nat) (v : Value) (wr : World) : Prop :=
  ∃ s d : Nat, v = .int .i64 s ∧ s + k = cs.length ∧ wr = w.drewN d
set_option maxHeartbeats 1600000 in
theorem sameBool_yes (A B : Option Addr) (m m' c c' : Nat) (cs : List Bool) (w : World) (h : Rd w w.heap.size 1 A m (cs.map Value.bool)) (h' : Rd w w.heap.size 1 B m' (cs.map Value.bool)) (hm : m = cs.length) (hm' : m' = cs.length) (hx : cs.length ≤ 4611686018427387904) :
    Calls Try.prog 24 #[.slice A m c, .slice B m' c'] w fun e w' => e = .returned (.bool true) ∧ Below w.heap.size w w' := by
  subst hm hm'
  have H := Lib.hid h
  have H' := Lib.hid h'
  clear h h'
  have hne : ((cs.length : Int) != (cs.length : Int)) = false := by simp
  go_enter Try.func24, Try.ntmps24
  go_wp2_with fail
  go_loopg [5, 13] cs.length (fun k _ v wr => sameBoolRel w cs k v wr)
  case atStart => exact ⟨0, 0, rfl, by omega, rfl⟩
  case round =>
    obtain ⟨s, d, rfl, hs, rfl⟩ := hrel
    have Hs := Lib.hid hs
    clear hs
    by_cases hlt : s < cs.length
    · obtain ⟨b, off, rfl, _, q0⟩ := rd1 H.out s hlt
      obtain ⟨b', off', rfl, _, r0⟩ := rd1 H'.out s hlt
      generalize cs[s] = q at *
      go_upto_region 6 with fail
      go_quiet (fail)
      go_wp2_with fail
      go_roundg (cs.length - s - 1)
      case measure => have := Hs.out; omega
      case rel => exact ⟨s + 1, _, by first | rfl | go_num, by omega, rfl⟩
    · go_wp2_with fail
      go_ret
      exact ⟨rfl, below_drewN (Below.refl _ _) _⟩
end Go.Proofs.Ytddkfdfgfkejoaa
