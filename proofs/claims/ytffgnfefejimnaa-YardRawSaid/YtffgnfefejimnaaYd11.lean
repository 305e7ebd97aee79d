import Derived.Test.YtffgnfefejimnaaYd9
import Derived.Test.YtffgnfefejimnaaYd10
namespace Go.Proofs.Ytffgnfefejimnaa
open Go.RowKit
def sameIntRel (w : World) (cs : List Int) (k : Nat) (v : Value) (wr : World) : Prop :=
  ∃ s d : Nat, v = .int .i64 s ∧ s + k = cs.length ∧ wr = w.drewN d
set_option maxHeartbeats 1600000 in
theorem sameInt_yes (A B : Option Addr) (m m' c c' : Nat) (cs : List Int) (w : World) (h : Rd w w.heap.size 1 A m (cs.map (Value.int .i64))) (h' : Rd w w.heap.size 1 B m' (cs.map (Value.int .i64))) (hm : m = cs.length) (hm' : m' = cs.length) (hx : cs.length ≤ 4611686018427387904) :
    Calls Try.prog 18 #[.slice A m c, .slice B m' c'] w fun e w' => e = .returned (.bool true) ∧ Below w.heap.size w w' := by
  subst hm hm'
  have H := Lib.hid h
  have H' := Lib.hid h'
  clear h h'
  have hne : ((cs.length : Int) != (cs.length : Int)) = false := by simp
  go_enter Try.func18, Try.ntmps18
  go_wp2_with fail
  go_loopg [5, 13] cs.length (fun k _ v wr => sameIntRel w cs k v wr)
  case atStart => exact ⟨0, 0, rfl, by omega, rfl⟩
  case round =>
    obtain ⟨s, d, rfl, hs, rfl⟩ := hrel
    have Hs := Lib.hid hs
    clear hs
    by_cases hlt : s < cs.length
    · obtain ⟨b, off, rfl, _, q0⟩ := rd1 H.out s hlt
      obtain ⟨b', off', rfl, _, r0⟩ := rd1 H'.out s hlt
      generalize cs[s] = q at *
      go_upto_region 6 with fail
      go_quiet (fail)
      go_wp2_with fail
      go_roundg (cs.length - s - 1)
      case measure => have := Hs.out; omega
      case rel => exact ⟨s + 1, _, by first | rfl | go_num, by omega, rfl⟩
    · go_wp2_with fail
      go_ret
      exact ⟨rfl, below_drewN (Below.refl _ _) _⟩
theorem Rd.of_blk {w : World} {g : Nat} {t : TypeId} {cs : List Value} {sz n : Nat} (h : Blk w g t cs.toArray) (hl : cs.length = n * sz) : Rd w w.heap.size sz (some ⟨g, 0, none⟩) n cs :=
  ⟨hl, fun _ => ⟨g, 0, rfl, h.lt, fun j u hu => by rw [Nat.zero_add, h.cell j]; simpa using hu⟩⟩
def exM (a b : Int) : List Mv := [⟨true, 1, 10⟩, ⟨true, 2, 10⟩, ⟨false, a, 0⟩, ⟨false, b, 0⟩]
theorem ex_plan1 : planF [⟨20, false⟩] (exM 2 1) 10 = ([0, 0, 0, 0], 4, 0) := by decide
theorem ex_plan2 : (planF [⟨20, false⟩] (exM 1 2) 10).2.2 = 14 := by decide
theorem ex_plan3 : (planF [⟨20, true⟩] (exM 1 2) 10).1.length = 4 ∧ (planF [⟨20, true⟩] (exM 1 2) 10).2.2 = 0 := by decide
theorem ex_stuck : stuckF [⟨20, false⟩] (exM 1 2) 10 = (3, 0) := by decide
theorem ex_repl : replF [⟨20, false⟩] (exM 2 1) [0, 0, 0, 0] = ([0, 1, 1, 0], true) := by decide
set_option maxRecDepth 100000 in
theorem example_any (a b : Int) (w : World) : Calls Try.prog 24 #[.int .i64 a, .int .i64 b] w fun e w' => e = .returned (.slice (some ⟨w.heap.size, 0, none⟩) 4 4) ∧ MRd w' (some ⟨w.heap.size, 0, none⟩) (exM a b) ∧ Below w.heap.size w w' := by
  go_enter Try.func24, Try.ntmps24
  go_wp2_with fail
  go_ret
  refine ⟨rfl, ⟨Rd.of_blk (t := 41) (Blk.new _ _ _) rfl, by simp [exM]⟩, (by repeat (first | exact Below.refl _ _ | (with_reducible refine Below.drew ?_) | (with_reducible refine below_drewN ?_ _) | (with_reducible refine Below.alloc ?_ (by first | omega | (simp; done) | (simp; omega)) _) | (with_reducible refine Below.setCell ?_ (by first | omega | (simp; done) | (simp; omega)) _) | (refine Below.trans ?_ (Below.mono (by with_reducible assumption) (by first | omega | (simp; done) | (simp; omega))))))⟩
theorem plan_at {AT AM : Option Addr} {cT cM n m : Nat} {T : List Tk} {M : List Mv} {b : Int} {w : World} {pl : List Nat} {us rc : Nat} (hr : planF T M b = (pl, us, rc)) (hT : TRd w AT T) (hM : MRd w AM M) (hn : T.length = n) (hm : M.length = m) :
    Calls Try.prog 14 #[.slice AT n cT, .slice AM m cM, .int .i64 b] w fun e w' => ∃ (A : Option Addr) (c : Nat), e = .returned (.tuple #[.slice A pl.length c, .int .i64 us, .int .i64 rc]) ∧ Below w.heap.size w w' ∧ Rd w' w'.heap.size 1 A pl.length (pl.map natV) ∧ w'.ownsRow w.heap.size 3 1 (.slice A pl.length c) pl.length (pl.map natV) := by
  subst hn hm
  refine (plan_any AT AM cT cM T M b w hT hM).mono ?_
  rintro e w' ⟨A, c, h1, h2, h3, _⟩
  rw [hr] at h1 h3
  exact ⟨A, c, h1, h2, Rd.of_own h3, h3⟩
theorem replay_at {AT AM AP : Option Addr} {cT cM cP n m p : Nat} {T : List Tk} {M : List Mv} {P : List Int} {w : World} {l : List Nat} {ok : Bool} (hr : replF T M P = (l, ok)) (hT : TRd w AT T) (hM : MRd w AM M) (hP : Rd w w.heap.size 1 AP P.length (P.map (Value.int .i64))) (hPn : P.length ≤ 4611686018427387904) (_hPv : ∀ p ∈ P, -9223372036854775808 ≤ p ∧ p ≤ 9223372036854775807) (hn : T.length = n) (hm : M.length = m) (hp : P.length = p) :
    Calls Try.prog 19 #[.slice AT n cT, .slice AM m cM, .slice AP p cP] w fun e w' => ∃ (A : Option Addr) (c : Nat), e = .returned (.tuple #[.slice A l.length c, .bool ok]) ∧ Below w.heap.size w w' ∧ Rd w' w'.heap.size 1 A l.length (l.map natV) := by
  subst hn hm hp
  refine (replay_any AT AM AP cT cM cP T M P w hT hM hP hPn).mono ?_
  rintro e w' ⟨A, c, h1, h2, h3⟩
  rw [hr] at h1 h3
  exact ⟨A, c, h1, h2, Rd.of_own h3⟩
theorem replay_at' {AT AM AP : Option Addr} {cT cM cP n m p : Nat} {T : List Tk} {M : List Mv} {P : List Int} {w : World} {l : List Nat} {ok : Bool} (hr : replF T M P = (l, ok)) (hT : TRd w AT T) (hM : MRd w AM M) (hP : Rd w w.heap.size 1 AP P.length (P.map (Value.int .i64))) (hPn : P.length ≤ 4611686018427387904) (hn : T.length = n) (hm : M.length = m) (hp : P.length = p) :
    Calls Try.prog 19 #[.slice AT n cT, .slice AM m cM, .slice AP p cP] w fun e w' => ∃ (A : Option Addr) (c : Nat), e = .returned (.tuple #[.slice A l.length c, .bool ok]) ∧ Below w.heap.size w w' ∧ Rd w' w'.heap.size 1 A l.length (l.map natV) := by
  subst hn hm hp
  refine (replay_any AT AM AP cT cM cP T M P w hT hM hP hPn).mono ?_
  rintro e w' ⟨A, c, h1, h2, h3⟩
  rw [hr] at h1 h3
  exact ⟨A, c, h1, h2, Rd.of_own h3⟩
theorem stuck_at {AT AM : Option Addr} {cT cM n m : Nat} {T : List Tk} {M : List Mv} {b : Int} {w : World} {k rc : Nat} (hr : stuckF T M b = (k, rc)) (hT : TRd w AT T) (hM : MRd w AM M) (hc : M.length ≤ cM) (hn : T.length = n) (hm : M.length = m) :
    Calls Try.prog 23 #[.slice AT n cT, .slice AM m cM, .int .i64 b] w fun e w' => e = .returned (.tuple #[.int .i64 k, .int .i64 rc]) ∧ Below w.heap.size w w' := by
  subst hn hm
  refine (stuck_any AT AM cT cM T M b w hT hM hc).mono ?_
  rintro e w' ⟨h1, h2⟩
  rw [hr] at h1
  exact ⟨h1, h2⟩
theorem ints_of_nats {w : World} {B n : Nat} {A : Option Addr} {l : List Nat} (h : Rd w B 1 A n (l.map natV)) : Rd w B 1 A n ((l.map (fun x : Nat => (x : Int))).map (Value.int .i64)) := by
  rw [List.map_map]; exact h
theorem trk1 {w : World} {g : Nat} {l : Int} {b : Bool} (h : Blk w g 43 #[.int .i64 l, .bool b]) : TRd w (some ⟨g, 0, none⟩) [⟨l, b⟩] := ⟨Rd.of_blk (cs := [.int .i64 l, .bool b]) h rfl, by simp⟩
theorem sameN (A B : Option Addr) (c c' : Nat) (l : List Nat) (w : World) (h : Rd w w.heap.size 1 A l.length (l.map natV)) (h' : Rd w w.heap.size 1 B l.length (l.map natV)) (hx : l.length ≤ 200) :
    Calls Try.prog 18 #[.slice A l.length c, .slice B l.length c'] w fun e w' => e = .returned (.bool true) ∧ Below w.heap.size w w' := by
  have e : l.map natV = (l.map (fun x : Nat => (x : Int))).map (Value.int .i64) := by simp [natV]
  rw [e] at h h'
  exact sameInt_yes A B _ _ c c' _ w h h' (by simp) (by simp) (by simp; omega)
set_option maxRecDepth 100000 in
set_option maxHeartbeats 3200000 in
theorem awake_any (w : World) : Calls Try.prog 16 #[] w fun e w' => e = .returned (.bool true) ∧ Below w.heap.size w w' := by
  go_enter Try.func16, Try.ntmps16
  go_wp2_with fail
  refine (example_any 2 1 _).mono ?_
  rintro e w1 ⟨rfl, hm1, hb1⟩
  have HB1 := Lib.hid hb1
  have HM1 := Lib.hid hm1
  have HT1 := Lib.hid ((trk1 (Blk.new w 43 #[.int .i64 20, .bool false])).grow hb1)
  have HW1 := Lib.hid (show Below w.heap.size w w1 from (show Below w.heap.size w (w.alloc (.cells #[.int .i64 20, .bool false] 43)) from (by repeat (first | exact Below.refl _ _ | (with_reducible refine Below.drew ?_) | (with_reducible refine below_drewN ?_ _) | (with_reducible refine Below.alloc ?_ (by first | omega | (simp; done) | (simp; omega)) _) | (with_reducible refine Below.setCell ?_ (by first | omega | (simp; done) | (simp; omega)) _) | (refine Below.trans ?_ (Below.mono (by with_reducible assumption) (by first | omega | (simp; done) | (simp; omega))))))).trans (hb1.mono (by simp)))
  clear hm1 hb1
  generalize (w.alloc (.cells #[.int .i64 20, .bool false] 43)).heap.size = bq at *
  go_wp2_with fail
  refine (plan_at ex_plan1 HT1.out HM1.out rfl rfl).mono ?_
  rintro e w2 ⟨A2, c2, rfl, hb2, ho2, _⟩
  have HO2 := Lib.hid ho2
  have HT2 := Lib.hid (HT1.out.grow hb2)
  have HW2 := Lib.hid (HW1.out.trans (hb2.mono HW1.out.size))
  clear ho2 hb2
  simp only [List.length_cons, List.length_nil, Nat.zero_add, Nat.reduceAdd]
  go_wp2_with fail
  refine (example_any 2 1 w2).mono ?_
  rintro e w3 ⟨rfl, hm3, hb3⟩
  have HM3 := Lib.hid hm3
  have HT3 := Lib.hid (HT2.out.grow hb3)
  have HO3 := Lib.hid ((HO2.out.grow hb3).more hb3.size)
  have HP3 := Lib.hid (ints_of_nats HO3.out)
  have HW3 := Lib.hid (HW2.out.trans (hb3.mono HW2.out.size))
  clear hm3 hb3
  go_wp2_with fail
  refine (replay_at (P := ([0, 0, 0, 0] : List Nat).map (fun x : Nat => (x : Int))) ex_repl HT3.out HM3.out HP3.out (by simp) (by simp) rfl rfl rfl).mono ?_
  rintro e w4 ⟨A4, c4, rfl, hb4, ho4⟩
  have HO4 := Lib.hid ho4
  have HP4 := Lib.hid ((HO3.out.grow hb4).more hb4.size)
  have HW4 := Lib.hid (HW3.out.trans (hb4.mono HW3.out.size))
  clear ho4 hb4
  simp only [List.length_cons, List.length_nil, Nat.zero_add, Nat.reduceAdd]
  have hbx : Below w4.heap.size w4 (w4.alloc (.cells #[.int .i64 0, .int .i64 0, .int .i64 0, .int .i64 0] 3)) := (by repeat (first | exact Below.refl _ _ | (with_reducible refine Below.drew ?_) | (with_reducible refine below_drewN ?_ _) | (with_reducible refine Below.alloc ?_ (by first | omega | (simp; done) | (simp; omega)) _) | (with_reducible refine Below.setCell ?_ (by first | omega | (simp; done) | (simp; omega)) _) | (refine Below.trans ?_ (Below.mono (by with_reducible assumption) (by first | omega | (simp; done) | (simp; omega))))))
  go_wp2_with fail
  refine (sameN A2 _ c2 4 [0, 0, 0, 0] _ ((HP4.out.grow hbx).more hbx.size) (Rd.of_blk (cs := [.int .i64 0, .int .i64 0, .int .i64 0, .int .i64 0]) (Blk.new w4 3 _) rfl) (by simp)).mono ?_
  rintro e w5 ⟨rfl, hb5⟩
  have HO5 := Lib.hid (((HO4.out.grow hbx).more hbx.size |>.grow hb5).more hb5.size)
  have HW5 := Lib.hid (HW4.out.trans ((hbx.trans (hb5.mono hbx.size)).mono HW4.out.size))
  clear hbx hb5
  have hby : Below w5.heap.size w5 (w5.alloc (.cells #[.int .i64 0, .int .i64 1, .int .i64 1, .int .i64 0] 3)) := (by repeat (first | exact Below.refl _ _ | (with_reducible refine Below.drew ?_) | (with_reducible refine below_drewN ?_ _) | (with_reducible refine Below.alloc ?_ (by first | omega | (simp; done) | (simp; omega)) _) | (with_reducible refine Below.setCell ?_ (by first | omega | (simp; done) | (simp; omega)) _) | (refine Below.trans ?_ (Below.mono (by with_reducible assumption) (by first | omega | (simp; done) | (simp; omega))))))
  go_wp2_with fail
  refine (sameN A4 _ c4 4 [0, 1, 1, 0] _ ((HO5.out.grow hby).more hby.size) (Rd.of_blk (cs := [.int .i64 0, .int .i64 1, .int .i64 1, .int .i64 0]) (Blk.new w5 3 _) rfl) (by simp)).mono ?_
  rintro e w6 ⟨rfl, hb6⟩
  have HW6 := Lib.hid (HW5.out.trans ((hby.trans (hb6.mono hby.size)).mono HW5.out.size))
  clear hby hb6
  go_wp2_with fail
  go_ret
  exact ⟨rfl, HW6.out⟩
end Go.Proofs.Ytffgnfefejimnaa
