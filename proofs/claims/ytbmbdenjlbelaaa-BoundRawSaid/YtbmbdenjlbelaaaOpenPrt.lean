import Derived.Test.YtbmbdenjlbelaaaOpenNet
import Derived.Test.YtbmbdenjlbelaaaBdMath
namespace Go.Proofs.Ytbmbdenjlbelaaa
open Go.ChangeShapes Go.WideShapes Go.ChangeAt Go.RowKit Go.Deep Go.Joins
section
variable {H : Type} {enc : TypeId × Value → H} {W : World} {base : Nat} {v : Value} {d : DataW H} {p : List MemPlace}
theorem dec_Prt (cs : List Value) (n : Nat) (y : DataW H × List MemPlace) (hl : cs.length = 3) (h : DataW.trod enc Try.prog W 0 (fun _ => true) true n 47 cs = some y) : ∃ x : Prt, cs = x.cells ∧ CyIn W x.c ∧ (Light 47 y.1 → CySz x.c) := by
  obtain ⟨xs, m, _, hx, _, hlen, hg⟩ := DataW.trod_struct Try.underlying47 h
  match cs, hl with
  | [c0, c1, c2], _ =>
    match xs, hlen with
    | [y0, y1], _ =>
      have h0 : DataW.trod enc Try.prog W 0 (fun _ => true) true m 45 (([c0, c1, c2].drop 0).take (Try.prog.cellsOf 45)) = some y0 := hg 0 _ rfl
      have h1 : DataW.trod enc Try.prog W 0 (fun _ => true) true m 3 (([c0, c1, c2].drop (Try.prog.cellsOf 45)).take (Try.prog.cellsOf 3)) = some y1 := hg 1 _ rfl
      rw [show Try.prog.cellsOf 45 = 2 by kernel_rfl] at h0 h1
      rw [show Try.prog.cellsOf 3 = 1 by kernel_rfl] at h1
      obtain ⟨x, e0, i0, s0⟩ := dec_Cyc _ _ _ (by simp) h0
      obtain ⟨a, e1, _, _⟩ := DataW.trod_int Try.underlying3 h1
      simp [Cyc.cells] at e0 e1
      obtain ⟨rfl, rfl⟩ := e0
      subst e1
      refine ⟨⟨x, a⟩, rfl, i0, fun hL => s0 (fun q hq => hL q (by rw [hx]; simp only [DataW.weights, Try.underlying47]; exact DataW.weights_mem_each (j := 0) rfl rfl q hq))⟩
structure SPrt where
  A : Option Addr
  c : Nat
  xs : List Prt
theorem open_SPart (hv : Value.okWide Try.prog W .any base 32 v) (h : DataW.Trod enc Try.prog W 0 (fun _ => true) true 32 v d p) :
    ∃ x : SPrt, v = .slice x.A x.xs.length x.c ∧ Rd W W.heap.size 3 x.A x.xs.length (x.xs.flatMap Prt.cells) ∧ (Light 32 d → x.xs.length ≤ 2513169434843 ∧ ∀ p ∈ x.xs, CyIn W p.c ∧ CySz p.c) := by
  obtain ⟨a0, len0, cap0, rfl⟩ := okWide_slice Try.underlying32 hv
  obtain ⟨fuel, hf⟩ := h
  obtain ⟨A, c, xs, e, r, l, _, s⟩ := openC Prt.cells 3 56 (by omega) Prt.len (fun p => CyIn W p.c ∧ CySz p.c) Try.underlying32 (by kernel_rfl) (by kernel_rfl) (fun cs n y hl h => by obtain ⟨x, hx, h1, h2⟩ := dec_Prt cs n y hl h; exact ⟨x, hx, fun hL => ⟨h1, h2 hL⟩⟩) hf
  simp [Value.cells] at e
  obtain ⟨rfl, rfl, rfl⟩ := e
  exact ⟨⟨_, _, xs⟩, rfl, r, fun hL => ⟨by have := (s hL).1; simp only; omega, (s hL).2⟩⟩
theorem sized_SPart {ts : List TypeId} {ds : List (DataW H)} (h : (DataW.weightsEach Try.prog ts ds).all (· ≤ reachBytes) = true) (j : Nat) (ht : ts[j]? = some 32) (hd : ds[j]? = some d) {Q : Prop} (hq : Light 32 d → Q) : Q := hq (light_top h j ht hd)
end
end Go.Proofs.Ytbmbdenjlbelaaa
