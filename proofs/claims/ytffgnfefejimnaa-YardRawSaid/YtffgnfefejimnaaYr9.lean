import Derived.Test.YtffgnfefejimnaaYr8
import Derived.Test.YtffgnfefejimnaaYd11
namespace Go.Proofs.Ytffgnfefejimnaa
open Go.RowKit
theorem rplan_at {AT AM : Option Addr} {cT cM n m : Nat} {T : List Tk} {M : List Mv} {b : Int} {w : World} {pl : List Nat} {us rc : Nat} (hr : planF T M b = (pl, us, rc)) (hT : TRd w AT T) (hM : MRd w AM M) (hn : T.length = n) (hm : M.length = m) :
    Calls Try.prog 15 #[.slice AT n cT, .slice AM m cM, .int .i64 b] w fun e w' => ∃ (A : Option Addr) (c : Nat), e = .returned (.tuple #[.slice A pl.length c, .int .i64 us, .int .i64 rc]) ∧ Below w.heap.size w w' ∧ Rd w' w'.heap.size 1 A pl.length (pl.map natV) ∧ w'.ownsRow w.heap.size 3 1 (.slice A pl.length c) pl.length (pl.map natV) := by
  subst hn hm
  refine (rplan_any AT AM cT cM T M b w hT hM).mono ?_
  rintro e w' ⟨A, c, h1, h2, h3, _⟩
  rw [hr] at h1 h3
  exact ⟨A, c, h1, h2, Rd.of_own h3, h3⟩
theorem rreplay_at {AT AM AP : Option Addr} {cT cM cP n m p : Nat} {T : List Tk} {M : List Mv} {P : List Int} {w : World} {l : List Nat} {ok : Bool} (hr : replF T M P = (l, ok)) (hT : TRd w AT T) (hM : MRd w AM M) (hP : Rd w w.heap.size 1 AP P.length (P.map (Value.int .i64))) (hPn : P.length ≤ 4611686018427387904) (_hPv : ∀ p ∈ P, -9223372036854775808 ≤ p ∧ p ≤ 9223372036854775807) (hn : T.length = n) (hm : M.length = m) (hp : P.length = p) :
    Calls Try.prog 20 #[.slice AT n cT, .slice AM m cM, .slice AP p cP] w fun e w' => ∃ (A : Option Addr) (c : Nat), e = .returned (.tuple #[.slice A l.length c, .bool ok]) ∧ Below w.heap.size w w' ∧ Rd w' w'.heap.size 1 A l.length (l.map natV) := by
  subst hn hm hp
  refine (rreplay_any AT AM AP cT cM cP T M P w hT hM hP hPn).mono ?_
  rintro e w' ⟨A, c, h1, h2, h3⟩
  rw [hr] at h1 h3
  exact ⟨A, c, h1, h2, Rd.of_own h3⟩
theorem rreplay_at' {AT AM AP : Option Addr} {cT cM cP n m p : Nat} {T : List Tk} {M : List Mv} {P : List Int} {w : World} {l : List Nat} {ok : Bool} (hr : replF T M P = (l, ok)) (hT : TRd w AT T) (hM : MRd w AM M) (hP : Rd w w.heap.size 1 AP P.length (P.map (Value.int .i64))) (hPn : P.length ≤ 4611686018427387904) (hn : T.length = n) (hm : M.length = m) (hp : P.length = p) :
    Calls Try.prog 20 #[.slice AT n cT, .slice AM m cM, .slice AP p cP] w fun e w' => ∃ (A : Option Addr) (c : Nat), e = .returned (.tuple #[.slice A l.length c, .bool ok]) ∧ Below w.heap.size w w' ∧ Rd w' w'.heap.size 1 A l.length (l.map natV) := by
  subst hn hm hp
  refine (rreplay_any AT AM AP cT cM cP T M P w hT hM hP hPn).mono ?_
  rintro e w' ⟨A, c, h1, h2, h3⟩
  rw [hr] at h1 h3
  exact ⟨A, c, h1, h2, Rd.of_own h3⟩
theorem rstuck_at {AT AM : Option Addr} {cT cM n m : Nat} {T : List Tk} {M : List Mv} {b : Int} {w : World} {k rc : Nat} (hr : stuckF T M b = (k, rc)) (hT : TRd w AT T) (hM : MRd w AM M) (hc : M.length ≤ cM) (hn : T.length = n) (hm : M.length = m) :
    Calls Try.prog 25 #[.slice AT n cT, .slice AM m cM, .int .i64 b] w fun e w' => e = .returned (.tuple #[.int .i64 k, .int .i64 rc]) ∧ Below w.heap.size w w' := by
  subst hn hm
  refine (rstuck_any AT AM cT cM T M b w hT hM hc).mono ?_
  rintro e w' ⟨h1, h2⟩
  rw [hr] at h1
  exact ⟨h1, h2⟩
end Go.Proofs.Ytffgnfefejimnaa
