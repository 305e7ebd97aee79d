import Derived.Test.YtffgnfefejimnaaBunA
import Derived.Test.YtffgnfefejimnaaYd1
import Derived.Deep.Slices
import Derived.Deep.Fields
import Derived.ChangeSame
import Derived.Lib.SmallJoins
namespace Go.Proofs.Ytffgnfefejimnaa
open Go.ChangeShapes Go.WideShapes Go.ChangeAt Go.RowKit Go.Deep Go.Joins
section
variable {H : Type} {enc : TypeId × Value → H} {W : World} {base : Nat} {v : Value} {d : DataW H} {p : List MemPlace}
theorem dec_Tk (cs : List Value) (n : Nat) (y : DataW H × List MemPlace) (hl : cs.length = 2) (h : DataW.trod enc Try.prog W 0 (fun _ => true) true n 43 cs = some y) : ∃ x : Tk, cs = x.cells := by
  obtain ⟨xs, m, _, _, _, hlen, hg⟩ := DataW.trod_struct Try.underlying43 h
  match cs, hl with
  | [c0, c1], _ =>
    match xs, hlen with
    | [y0, y1], _ =>
      have h0 : DataW.trod enc Try.prog W 0 (fun _ => true) true m 3 (([c0, c1].drop 0).take (Try.prog.cellsOf 3)) = some y0 := hg 0 _ rfl
      rw [show Try.prog.cellsOf 3 = 1 by kernel_rfl] at h0
      have h1 : DataW.trod enc Try.prog W 0 (fun _ => true) true m 4 (([c0, c1].drop 1).take (Try.prog.cellsOf 4)) = some y1 := hg 1 _ rfl
      rw [show Try.prog.cellsOf 4 = 1 by kernel_rfl] at h1
      obtain ⟨a0, e0, _, _⟩ := DataW.trod_int Try.underlying3 h0
      obtain ⟨a1, e1, _⟩ := DataW.trod_bool Try.underlying4 h1
      simp at e0 e1
      subst e0 e1
      exact ⟨⟨a0, a1⟩, rfl⟩
structure STk where
  A : Option Addr
  n : Nat
  c : Nat
  xs : List Tk
theorem open_STrack (hv : Value.okWide Try.prog W .any base 23 v) (h : DataW.Trod enc Try.prog W 0 (fun _ => true) true 23 v d p) :
    ∃ x : STk, v = .slice x.A x.n x.c ∧ (Rd W W.heap.size 2 x.A x.n (x.xs.flatMap Tk.cells) ∧ x.n = x.xs.length ∧ x.n ≤ x.c) ∧ ((d = .nil ∧ x.c = 0) ∨ ∃ es sp, d = .slice es sp ∧ es.length + sp.length = x.c) := by
  obtain ⟨A, n, c, xs, rfl, h1, h2, h3, _, h4⟩ := openStructs Tk.cells 2 (by omega) Tk.len Try.underlying23 (by kernel_rfl) dec_Tk hv h
  exact ⟨⟨A, n, c, xs⟩, rfl, ⟨h1, h2, h3⟩, h4⟩
theorem sized_STrack {ts : List TypeId} {ds : List (DataW H)} (h : (DataW.weightsEach Try.prog ts ds).all (· ≤ reachBytes) = true) (j : Nat) {d : DataW H} {c : Nat} (ht : ts[j]? = some 23) (hd : ds[j]? = some d)
    (hc : (d = .nil ∧ c = 0) ∨ ∃ es sp, d = .slice es sp ∧ es.length + sp.length = c) : c * 16 ≤ 140737488351232 :=
  sizedStructs h j 16 Try.underlying23 (by kernel_rfl) ht hd hc
end
section
variable {H : Type} {enc : TypeId × Value → H} {W : World} {base : Nat} {v : Value} {d : DataW H} {p : List MemPlace}
theorem dec_Mv (cs : List Value) (n : Nat) (y : DataW H × List MemPlace) (hl : cs.length = 3) (h : DataW.trod enc Try.prog W 0 (fun _ => true) true n 41 cs = some y) : ∃ x : Mv, cs = x.cells := by
  obtain ⟨xs, m, _, _, _, hlen, hg⟩ := DataW.trod_struct Try.underlying41 h
  match cs, hl with
  | [c0, c1, c2], _ =>
    match xs, hlen with
    | [y0, y1, y2], _ =>
      have h0 : DataW.trod enc Try.prog W 0 (fun _ => true) true m 4 (([c0, c1, c2].drop 0).take (Try.prog.cellsOf 4)) = some y0 := hg 0 _ rfl
      rw [show Try.prog.cellsOf 4 = 1 by kernel_rfl] at h0
      have h1 : DataW.trod enc Try.prog W 0 (fun _ => true) true m 3 (([c0, c1, c2].drop 1).take (Try.prog.cellsOf 3)) = some y1 := hg 1 _ rfl
      rw [show Try.prog.cellsOf 3 = 1 by kernel_rfl] at h1
      have h2 : DataW.trod enc Try.prog W 0 (fun _ => true) true m 3 (([c0, c1, c2].drop 2).take (Try.prog.cellsOf 3)) = some y2 := hg 2 _ rfl
      rw [show Try.prog.cellsOf 3 = 1 by kernel_rfl] at h2
      obtain ⟨a0, e0, _⟩ := DataW.trod_bool Try.underlying4 h0
      obtain ⟨a1, e1, _, _⟩ := DataW.trod_int Try.underlying3 h1
      obtain ⟨a2, e2, _, _⟩ := DataW.trod_int Try.underlying3 h2
      simp at e0 e1 e2
      subst e0 e1 e2
      exact ⟨⟨a0, a1, a2⟩, rfl⟩
structure SMv where
  A : Option Addr
  n : Nat
  c : Nat
  xs : List Mv
theorem open_SMove (hv : Value.okWide Try.prog W .any base 24 v) (h : DataW.Trod enc Try.prog W 0 (fun _ => true) true 24 v d p) :
    ∃ x : SMv, v = .slice x.A x.n x.c ∧ (Rd W W.heap.size 3 x.A x.n (x.xs.flatMap Mv.cells) ∧ x.n = x.xs.length ∧ x.n ≤ x.c) ∧ ((d = .nil ∧ x.c = 0) ∨ ∃ es sp, d = .slice es sp ∧ es.length + sp.length = x.c) := by
  obtain ⟨A, n, c, xs, rfl, h1, h2, h3, _, h4⟩ := openStructs Mv.cells 3 (by omega) Mv.len Try.underlying24 (by kernel_rfl) dec_Mv hv h
  exact ⟨⟨A, n, c, xs⟩, rfl, ⟨h1, h2, h3⟩, h4⟩
theorem sized_SMove {ts : List TypeId} {ds : List (DataW H)} (h : (DataW.weightsEach Try.prog ts ds).all (· ≤ reachBytes) = true) (j : Nat) {d : DataW H} {c : Nat} (ht : ts[j]? = some 24) (hd : ds[j]? = some d)
    (hc : (d = .nil ∧ c = 0) ∨ ∃ es sp, d = .slice es sp ∧ es.length + sp.length = c) : c * 24 ≤ 140737488351232 :=
  sizedStructs h j 24 Try.underlying24 (by kernel_rfl) ht hd hc
end
end Go.Proofs.Ytffgnfefejimnaa
