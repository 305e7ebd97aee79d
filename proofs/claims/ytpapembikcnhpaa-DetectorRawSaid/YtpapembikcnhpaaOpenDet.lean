import Derived.Test.YtpapembikcnhpaaOpen
import Derived.Test.YtpapembikcnhpaaDet13
import Derived.Deep.Slices
import Derived.Deep.Fields
import Derived.ChangeSame
import Derived.Lib.SmallJoins
namespace Go.Proofs.Ytpapembikcnhpaa
open Go.ChangeShapes Go.WideShapes Go.ChangeAt Go.RowKit Go.Deep Go.Joins
section
variable {H : Type} {enc : TypeId × Value → H} {W : World} {base : Nat} {v : Value} {d : DataW H} {p : List MemPlace}

theorem open_Counter (hv : Value.okWide Try.prog W .any base 26 v) (h : DataW.Trod enc Try.prog W 0 (fun _ => true) true 26 v d p) :
    ∃ x : Int × Int × Int, v = .agg #[.int .i64 x.1, .int .i64 x.2.1, .int .i64 x.2.2] := by
  obtain ⟨c0, c1, c2, y0, y1, y2, m, rfl, _, _, h0, h1, h2⟩ := open_agg3 Try.underlying26 (by kernel_rfl) (by kernel_rfl) hv h
  obtain ⟨a, e0, _, _⟩ := DataW.trod_int Try.underlying3 h0
  obtain ⟨b, e1, _, _⟩ := DataW.trod_int Try.underlying3 h1
  obtain ⟨c, e2, _, _⟩ := DataW.trod_int Try.underlying3 h2
  simp at e0 e1 e2
  subst e0 e1 e2
  exact ⟨(a, b, c), rfl⟩
theorem open_Pulse (hv : Value.okWide Try.prog W .any base 31 v) (h : DataW.Trod enc Try.prog W 0 (fun _ => true) true 31 v d p) :
    ∃ x : Pul, v = .agg #[.int .i64 x.r, .bool x.i, .int .i64 x.a, .int .i64 x.b] := by
  obtain ⟨c0, c1, c2, c3, y0, y1, y2, y3, m, rfl, _, _, h0, h1, h2, h3⟩ := open_agg4 Try.underlying31 (by kernel_rfl) (by kernel_rfl) hv h
  obtain ⟨a, e0, _, _⟩ := DataW.trod_int Try.underlying3 h0
  obtain ⟨b, e1, _⟩ := DataW.trod_bool Try.underlying4 h1
  obtain ⟨c, e2, _, _⟩ := DataW.trod_int Try.underlying3 h2
  obtain ⟨d', e3, _, _⟩ := DataW.trod_int Try.underlying3 h3
  simp at e0 e1 e2 e3
  subst e0 e1 e2 e3
  exact ⟨⟨a, b, c, d'⟩, rfl⟩
theorem dec_Pulse (cs : List Value) (n : Nat) (y : DataW H × List MemPlace) (hl : cs.length = 4) (h : DataW.trod enc Try.prog W 0 (fun _ => true) true n 31 cs = some y) : ∃ x : Pul, cs = x.cells := by
  obtain ⟨xs, m, _, _, _, hlen, hg⟩ := DataW.trod_struct Try.underlying31 h
  match cs, hl with
  | [c0, c1, c2, c3], _ =>
    match xs, hlen with
    | [y0, y1, y2, y3], _ =>
      have h0 : DataW.trod enc Try.prog W 0 (fun _ => true) true m 3 (([c0, c1, c2, c3].drop 0).take (Try.prog.cellsOf 3)) = some y0 := hg 0 _ rfl
      have h1 : DataW.trod enc Try.prog W 0 (fun _ => true) true m 4 (([c0, c1, c2, c3].drop 1).take (Try.prog.cellsOf 4)) = some y1 := hg 1 _ rfl
      have h2 : DataW.trod enc Try.prog W 0 (fun _ => true) true m 3 (([c0, c1, c2, c3].drop 2).take (Try.prog.cellsOf 3)) = some y2 := hg 2 _ rfl
      have h3 : DataW.trod enc Try.prog W 0 (fun _ => true) true m 3 (([c0, c1, c2, c3].drop 3).take (Try.prog.cellsOf 3)) = some y3 := hg 3 _ rfl
      rw [show Try.prog.cellsOf 3 = 1 by kernel_rfl] at h0 h2 h3
      rw [show Try.prog.cellsOf 4 = 1 by kernel_rfl] at h1
      obtain ⟨a, e0, _, _⟩ := DataW.trod_int Try.underlying3 h0
      obtain ⟨b, e1, _⟩ := DataW.trod_bool Try.underlying4 h1
      obtain ⟨c, e2, _, _⟩ := DataW.trod_int Try.underlying3 h2
      obtain ⟨d', e3, _, _⟩ := DataW.trod_int Try.underlying3 h3
      simp at e0 e1 e2 e3
      subst e0 e1 e2 e3
      exact ⟨⟨a, b, c, d'⟩, rfl⟩
structure SPul where
  A : Option Addr
  n : Nat
  c : Nat
  ps : List Pul
theorem open_SPulse (hv : Value.okWide Try.prog W .any base 38 v) (h : DataW.Trod enc Try.prog W 0 (fun _ => true) true 38 v d p) :
    ∃ x : SPul, v = .slice x.A x.n x.c ∧ (Rd W W.heap.size 4 x.A x.n (x.ps.flatMap Pul.cells) ∧ x.n = x.ps.length ∧ x.n ≤ x.c) ∧ ((d = .nil ∧ x.c = 0) ∨ ∃ es sp, d = .slice es sp ∧ es.length + sp.length = x.c) := by
  obtain ⟨A, n, c, xs, rfl, h1, h2, h3, _, h4⟩ := openStructs Pul.cells 4 (by omega) Pul.len Try.underlying38 (by kernel_rfl) dec_Pulse hv h
  exact ⟨⟨A, n, c, xs⟩, rfl, ⟨h1, h2, h3⟩, h4⟩
theorem sized_SPulse {ts : List TypeId} {ds : List (DataW H)} (h : (DataW.weightsEach Try.prog ts ds).all (· ≤ reachBytes) = true) (j : Nat) {d : DataW H} {c : Nat} (ht : ts[j]? = some 38) (hd : ds[j]? = some d)
    (hc : (d = .nil ∧ c = 0) ∨ ∃ es sp, d = .slice es sp ∧ es.length + sp.length = c) : c * 32 ≤ 140737488351232 :=
  sizedStructs h j 32 Try.underlying38 (by kernel_rfl) ht hd hc
end
end Go.Proofs.Ytpapembikcnhpaa
