import Derived.Test.YtffgnfefejimnaaYrMath
import Derived.Test.YtffgnfefejimnaaYd11
namespace Go.Proofs.Ytffgnfefejimnaa
open Go.RowKit
/-- a state of the reference's that is only read -/
structure RfR (B : Nat) (AO AU : Option Addr) (cU : Nat) (T : List Tk) (us : List Mv) (s : Yst) (vs : List Value) (w : World) : Prop where
  o : Rd w B 1 AO T.length vs
  r : ∀ t, t < T.length → ∃ A c, vs[t]? = some (.slice A (rowY s t).length c) ∧ Rd w B 1 A (rowY s t).length ((rowY s t).map fun u => natV u.num) ∧ (A = none → (rowY s t).length = 0 ∧ c = 0)
  u : Rd w B 3 AU us.length (us.flatMap Mv.cells)
  un : AU = none → us.length = 0 ∧ cU = 0
theorem RfR.grow {B : Nat} {AO AU : Option Addr} {cU : Nat} {T : List Tk} {us : List Mv} {s : Yst} {vs : List Value} {w w' : World} (h : RfR B AO AU cU T us s vs w) (hb : Below B w w') : RfR B AO AU cU T us s vs w' :=
  ⟨h.o.grow hb, fun t ht => by
    obtain ⟨A, c, h1, h2, h3⟩ := h.r t ht
    exact ⟨A, c, h1, h2.grow hb, h3⟩, h.u.grow hb, h.un⟩
theorem RfR.more {B B' : Nat} {AO AU : Option Addr} {cU : Nat} {T : List Tk} {us : List Mv} {s : Yst} {vs : List Value} {w : World} (h : RfR B AO AU cU T us s vs w) (hB : B ≤ B') : RfR B' AO AU cU T us s vs w :=
  ⟨h.o.more hB, fun t ht => by
    obtain ⟨A, c, h1, h2, h3⟩ := h.r t ht
    exact ⟨A, c, h1, h2.more hB, h3⟩, h.u.more hB, h.un⟩
def rfV (AT AO AU : Option Addr) (cT cO cU n m : Nat) : Value := .agg #[.slice AT n cT, .slice AO n cO, .slice AU m cU]

set_option maxRecDepth 100000 in
set_option maxHeartbeats 3200000 in
theorem empty_any (AT : Option Addr) (cT : Nat) (T : List Tk) (w : World) (h1 : 1 ≤ T.length) (h8 : T.length ≤ 8) :
    Calls Try.prog 32 #[.slice AT T.length cT] w fun e w' => ∃ (AO : Option Addr) (cO : Nat) (vs : List Value), e = .returned (rfV AT AO none cT cO 0 T.length 0) ∧ RfR w'.heap.size AO none 0 T [] (begY T) vs w' ∧ Below w.heap.size w w' := by
  obtain ⟨i0, a1, a2, a3, a4⟩ := info_parts infoInts
  have HI := Lib.hid (And.intro a1 (And.intro a2 (And.intro a3 a4)))
  clear a1 a2 a3 a4
  go_enter Try.func32, Try.ntmps32
  go_wp2_with (at_make; refine wpList_make_full _ rfl _ _ 65 rfl w.heap.size 22 i0 _ 1 Try.underlying65 HI.out.1 HI.out.2.1 HI.out.2.2.1 .i64 .i64 _ _ T.length rfl rfl rfl rfl ?m1 ?m2 ?m3 ?_; rotate_right; intro w2 hown2 hg2; have hz := (Blk.new w 67 #[.slice none 0 0, .slice none 0 0, .slice none 0 0]).same (hg2.block w.heap.size (by simp) (by simp)); have z0 := hz.cell 0; have z1 := hz.cell 1; have z2 := hz.cell 2; have f0 := hz.frozen 0; have f1 := hz.frozen 1; have f2 := hz.frozen 2; have hzl := hz.lt; simp only [List.getElem?_toArray, List.getElem?_cons_succ, List.getElem?_cons_zero] at z0 z1 z2)
  case m1 => rw [HI.out.2.2.2]; omega
  case m2 => simp only [maxLen]; omega
  case m3 => simp
  have hcs := ((hz.set_ 0 (.slice AT T.length cT)).set_ 1 (.slice (some ⟨w.heap.size + 1, 0, none⟩) T.length T.length)).set_ 2 (.slice none 0 0)
  have hb2 : Below w.heap.size w w2 := (Below.refl _ _).alloc (Nat.le_refl _) _ |>.grown hg2 (by simp) (fun k hk => by cases hk)
  have ho : w2.ownsRow w.heap.size 22 1 (.slice (some ⟨w.heap.size + 1, 0, none⟩) T.length T.length) T.length (List.replicate T.length (.slice none 0 0)) := by
    rw [show (Value.slice none 0 0).cells = #[(fun v : Value => v) (.slice none 0 0)] from rfl, madeCells_one (fun v : Value => v) (.slice none 0 0)] at hown2
    simpa using hown2
  have ho3 := own_far (p := ⟨w.heap.size, 2, none⟩) (u := .slice none 0 0) (own_far (p := ⟨w.heap.size, 1, none⟩) (u := .slice (some ⟨w.heap.size + 1, 0, none⟩) T.length T.length) (own_far (p := ⟨w.heap.size, 0, none⟩) (u := .slice AT T.length cT) ho (by simp [Value.ownBlock])) (by simp [Value.ownBlock])) (by simp [Value.ownBlock])
  (try simp only [Exit.inBlock, Exit.then])
  refine bodyPost_ret (results_cell_row rfl _ _ w.heap.size 67 #[.slice AT T.length cT, .slice (some ⟨w.heap.size + 1, 0, none⟩) T.length T.length, .slice none 0 0] (0, 0) _ rfl (by first | exact hcs | (simp at hcs; exact hcs)) Try.underlying67 rfl (by kernel_rfl)) rfl ?_
  refine ⟨some ⟨w.heap.size + 1, 0, none⟩, T.length, List.replicate T.length (.slice none 0 0), rfl, ⟨Rd.of_own ho3, fun t ht => ⟨none, 0, ?_, ?_, ?_⟩, Rd.empty _ _ _, fun _ => ⟨rfl, rfl⟩⟩, ?_⟩
  · rw [show rowY (begY T) t = [] by simp [begY, rowY, ht]]; simp [ht]
  · rw [show rowY (begY T) t = [] by simp [begY, rowY, ht]]; exact Rd.empty _ _ _
  · rw [show rowY (begY T) t = [] by simp [begY, rowY, ht]]; exact fun _ => ⟨rfl, rfl⟩
  · exact ((hb2.setCell (Nat.le_refl _) _).setCell (Nat.le_refl _) _).setCell (Nat.le_refl _) _
end Go.Proofs.Ytffgnfefejimnaa
