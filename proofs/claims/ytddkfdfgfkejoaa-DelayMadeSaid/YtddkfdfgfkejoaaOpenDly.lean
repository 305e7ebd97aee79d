import Derived.Test.YtddkfdfgfkejoaaOpen
import Derived.Test.YtddkfdfgfkejoaaDly
import Derived.Deep.Slices
import Derived.Deep.Fields
import Derived.ChangeSame
import Derived.Lib.SmallJoins
namespace Go.Proofs.Ytddkfdfgfkejoaa
open Go.ChangeShapes Go.WideShapes Go.ChangeAt Go.RowKit Go.Deep Go.Joins
section
variable {H : Type} {enc : TypeId × Value → H} {W : World} {base : Nat} {v : Value} {d : DataW H} {p : List MemPlace}
theorem dec_Mom (cs : List Value) (n : Nat) (y : DataW H × List MemPlace) (hl : cs.length = 2) (h : DataW.trod enc Try.prog W 0 (fun _ => true) true n 33 cs = some y) : ∃ x : Mom, cs = x.cells := by
  obtain ⟨xs, m, _, _, _, hlen, hg⟩ := DataW.trod_struct Try.underlying33 h
  match cs, hl with
  | [c0, c1], _ =>
    match xs, hlen with
    | [y0, y1], _ =>
      have h0 : DataW.trod enc Try.prog W 0 (fun _ => true) true m 3 (([c0, c1].drop 0).take (Try.prog.cellsOf 3)) = some y0 := hg 0 _ rfl
      rw [show Try.prog.cellsOf 3 = 1 by kernel_rfl] at h0
      have h1 : DataW.trod enc Try.prog W 0 (fun _ => true) true m 4 (([c0, c1].drop 1).take (Try.prog.cellsOf 4)) = some y1 := hg 1 _ rfl
      rw [show Try.prog.cellsOf 4 = 1 by kernel_rfl] at h1
      obtain ⟨a0, e0, _, _⟩ := DataW.trod_int Try.underlying3 h0
      obtain ⟨a1, e1, _⟩ := DataW.trod_bool Try.underlying4 h1
      simp at e0 e1
      subst e0 e1
      exact ⟨⟨a0, a1⟩, rfl⟩
structure SMom where
  A : Option Addr
  n : Nat
  c : Nat
  xs : List Mom
theorem open_SMoment (hv : Value.okWide Try.prog W .any base 23 v) (h : DataW.Trod enc Try.prog W 0 (fun _ => true) true 23 v d p) :
    ∃ x : SMom, v = .slice x.A x.n x.c ∧ (Rd W W.heap.size 2 x.A x.n (x.xs.flatMap Mom.cells) ∧ x.n = x.xs.length ∧ x.n ≤ x.c) ∧ ((d = .nil ∧ x.c = 0) ∨ ∃ es sp, d = .slice es sp ∧ es.length + sp.length = x.c) := by
  obtain ⟨A, n, c, xs, rfl, h1, h2, h3, _, h4⟩ := openStructs Mom.cells 2 (by omega) Mom.len Try.underlying23 (by kernel_rfl) dec_Mom hv h
  exact ⟨⟨A, n, c, xs⟩, rfl, ⟨h1, h2, h3⟩, h4⟩
theorem sized_SMoment {ts : List TypeId} {ds : List (DataW H)} (h : (DataW.weightsEach Try.prog ts ds).all (· ≤ reachBytes) = true) (j : Nat) {d : DataW H} {c : Nat} (ht : ts[j]? = some 23) (hd : ds[j]? = some d)
    (hc : (d = .nil ∧ c = 0) ∨ ∃ es sp, d = .slice es sp ∧ es.length + sp.length = c) : c * 16 ≤ 140737488351232 :=
  sizedStructs h j 16 Try.underlying23 (by kernel_rfl) ht hd hc
end
section
variable {H : Type} {enc : TypeId × Value → H} {W : World} {base : Nat} {v : Value} {d : DataW H} {p : List MemPlace}
theorem dec_Wt (cs : List Value) (n : Nat) (y : DataW H × List MemPlace) (hl : cs.length = 4) (h : DataW.trod enc Try.prog W 0 (fun _ => true) true n 35 cs = some y) : ∃ x : Wt, cs = x.cells := by
  obtain ⟨xs, m, _, _, _, hlen, hg⟩ := DataW.trod_struct Try.underlying35 h
  match cs, hl with
  | [c0, c1, c2, c3], _ =>
    match xs, hlen with
    | [y0, y1, y2, y3], _ =>
      have h0 : DataW.trod enc Try.prog W 0 (fun _ => true) true m 3 (([c0, c1, c2, c3].drop 0).take (Try.prog.cellsOf 3)) = some y0 := hg 0 _ rfl
      rw [show Try.prog.cellsOf 3 = 1 by kernel_rfl] at h0
      have h1 : DataW.trod enc Try.prog W 0 (fun _ => true) true m 3 (([c0, c1, c2, c3].drop 1).take (Try.prog.cellsOf 3)) = some y1 := hg 1 _ rfl
      rw [show Try.prog.cellsOf 3 = 1 by kernel_rfl] at h1
      have h2 : DataW.trod enc Try.prog W 0 (fun _ => true) true m 3 (([c0, c1, c2, c3].drop 2).take (Try.prog.cellsOf 3)) = some y2 := hg 2 _ rfl
      rw [show Try.prog.cellsOf 3 = 1 by kernel_rfl] at h2
      have h3 : DataW.trod enc Try.prog W 0 (fun _ => true) true m 3 (([c0, c1, c2, c3].drop 3).take (Try.prog.cellsOf 3)) = some y3 := hg 3 _ rfl
      rw [show Try.prog.cellsOf 3 = 1 by kernel_rfl] at h3
      obtain ⟨a0, e0, _, _⟩ := DataW.trod_int Try.underlying3 h0
      obtain ⟨a1, e1, _, _⟩ := DataW.trod_int Try.underlying3 h1
      obtain ⟨a2, e2, _, _⟩ := DataW.trod_int Try.underlying3 h2
      obtain ⟨a3, e3, _, _⟩ := DataW.trod_int Try.underlying3 h3
      simp at e0 e1 e2 e3
      subst e0 e1 e2 e3
      exact ⟨⟨a0, a1, a2, a3⟩, rfl⟩
structure SWt where
  A : Option Addr
  n : Nat
  c : Nat
  xs : List Wt
theorem open_SWait (hv : Value.okWide Try.prog W .any base 24 v) (h : DataW.Trod enc Try.prog W 0 (fun _ => true) true 24 v d p) :
    ∃ x : SWt, v = .slice x.A x.n x.c ∧ (Rd W W.heap.size 4 x.A x.n (x.xs.flatMap Wt.cells) ∧ x.n = x.xs.length ∧ x.n ≤ x.c) ∧ ((d = .nil ∧ x.c = 0) ∨ ∃ es sp, d = .slice es sp ∧ es.length + sp.length = x.c) := by
  obtain ⟨A, n, c, xs, rfl, h1, h2, h3, _, h4⟩ := openStructs Wt.cells 4 (by omega) Wt.len Try.underlying24 (by kernel_rfl) dec_Wt hv h
  exact ⟨⟨A, n, c, xs⟩, rfl, ⟨h1, h2, h3⟩, h4⟩
theorem sized_SWait {ts : List TypeId} {ds : List (DataW H)} (h : (DataW.weightsEach Try.prog ts ds).all (· ≤ reachBytes) = true) (j : Nat) {d : DataW H} {c : Nat} (ht : ts[j]? = some 24) (hd : ds[j]? = some d)
    (hc : (d = .nil ∧ c = 0) ∨ ∃ es sp, d = .slice es sp ∧ es.length + sp.length = c) : c * 32 ≤ 140737488351232 :=
  sizedStructs h j 32 Try.underlying24 (by kernel_rfl) ht hd hc
end
section
variable {H : Type} {enc : TypeId × Value → H} {W : World} {base : Nat} {v : Value} {d : DataW H} {p : List MemPlace}
theorem dec_Pri (cs : List Value) (n : Nat) (y : DataW H × List MemPlace) (hl : cs.length = 2) (h : DataW.trod enc Try.prog W 0 (fun _ => true) true n 39 cs = some y) : ∃ x : Pri, cs = x.cells := by
  obtain ⟨xs, m, _, _, _, hlen, hg⟩ := DataW.trod_struct Try.underlying39 h
  match cs, hl with
  | [c0, c1], _ =>
    match xs, hlen with
    | [y0, y1], _ =>
      have h0 : DataW.trod enc Try.prog W 0 (fun _ => true) true m 3 (([c0, c1].drop 0).take (Try.prog.cellsOf 3)) = some y0 := hg 0 _ rfl
      rw [show Try.prog.cellsOf 3 = 1 by kernel_rfl] at h0
      have h1 : DataW.trod enc Try.prog W 0 (fun _ => true) true m 3 (([c0, c1].drop 1).take (Try.prog.cellsOf 3)) = some y1 := hg 1 _ rfl
      rw [show Try.prog.cellsOf 3 = 1 by kernel_rfl] at h1
      obtain ⟨a0, e0, _, _⟩ := DataW.trod_int Try.underlying3 h0
      obtain ⟨a1, e1, _, _⟩ := DataW.trod_int Try.underlying3 h1
      simp at e0 e1
      subst e0 e1
      exact ⟨⟨a0, a1⟩, rfl⟩
structure SPri where
  A : Option Addr
  n : Nat
  c : Nat
  xs : List Pri
theorem open_SPrimary (hv : Value.okWide Try.prog W .any base 25 v) (h : DataW.Trod enc Try.prog W 0 (fun _ => true) true 25 v d p) :
    ∃ x : SPri, v = .slice x.A x.n x.c ∧ (Rd W W.heap.size 2 x.A x.n (x.xs.flatMap Pri.cells) ∧ x.n = x.xs.length ∧ x.n ≤ x.c) ∧ ((d = .nil ∧ x.c = 0) ∨ ∃ es sp, d = .slice es sp ∧ es.length + sp.length = x.c) := by
  obtain ⟨A, n, c, xs, rfl, h1, h2, h3, _, h4⟩ := openStructs Pri.cells 2 (by omega) Pri.len Try.underlying25 (by kernel_rfl) dec_Pri hv h
  exact ⟨⟨A, n, c, xs⟩, rfl, ⟨h1, h2, h3⟩, h4⟩
theorem sized_SPrimary {ts : List TypeId} {ds : List (DataW H)} (h : (DataW.weightsEach Try.prog ts ds).all (· ≤ reachBytes) = true) (j : Nat) {d : DataW H} {c : Nat} (ht : ts[j]? = some 25) (hd : ds[j]? = some d)
    (hc : (d = .nil ∧ c = 0) ∨ ∃ es sp, d = .slice es sp ∧ es.length + sp.length = c) : c * 16 ≤ 140737488351232 :=
  sizedStructs h j 16 Try.underlying25 (by kernel_rfl) ht hd hc
end
end Go.Proofs.Ytddkfdfgfkejoaa
