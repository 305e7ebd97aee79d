import Derived.Test.YtbmbdenjlbelaaaBd
import Derived.Test.YtbmbdenjlbelaaaFd4
import Derived.Lib.BufferMore
namespace Go.Proofs.Ytbmbdenjlbelaaa
open Go.RowKit

theorem own_new0 {base : Nat} {e : TypeId} (w : World) (hb : base ≤ w.heap.size) : (w.alloc (.cells #[] e)).ownsRow base e 1 (.slice (some ⟨w.heap.size, 0, none⟩) 0 0) 0 [] :=
  ⟨rfl, .inr ⟨w.heap.size, 0, #[], rfl, hb, heap_alloc_new w _, Nat.le_refl _, by simp [maxLen], rfl, rfl⟩⟩
/-- what slices.Clone gives for a list that is not empty -/
def ClnOut (zs : List Int) (w : World) (e : Ending) (w' : World) : Prop :=
  ∃ (A : Option Addr) (c : Nat), e = .returned (.slice A zs.length c) ∧ w'.ownsRow w.heap.size 3 1 (.slice A zs.length c) zs.length (zs.map (Value.int .i64)) ∧ Below w.heap.size w w'

set_option maxRecDepth 100000 in
set_option maxHeartbeats 1600000 in
theorem clone_any (A : Option Addr) (c : Nat) (zs : List Int) (w : World) (h : Rd w w.heap.size 1 A zs.length (zs.map (Value.int .i64))) (hn : 1 ≤ zs.length) (hn1 : zs.length ≤ 512) :
    Calls Try.prog 39 #[.slice A zs.length c] w (ClnOut zs w) := by
  obtain ⟨b, off, rfl, hb, _⟩ := h.2 (by omega)
  have H := Lib.hid h
  clear h
  obtain ⟨i0, a1, a2, a3, a4⟩ := info_parts infoInt
  have HI := Lib.hid (And.intro a1 (And.intro a2 (And.intro a3 a4)))
  clear a1 a2 a3 a4
  have hnil : ∀ W, (binOp .eql 22 (.slice (some ⟨b, off, none⟩) zs.length c) (.slice none 0 0)).run Try.prog W = .ok (.bool false) W := fun W => Lib.run_eql_slice_some_nil W _ _ _ Try.underlying22
  go_enter Try.func39, Try.ntmps39
  go_wp2_with (at_builtin; refine wpList_append_any rfl _ _ 22 rfl w.heap.size 3 i0 _ 1 8 Try.underlying22 HI.out.1 HI.out.2.1 HI.out.2.2.1 HI.out.2.2.2 rfl (by omega) (.slice (some ⟨w.heap.size, 0, none⟩) 0 0) 0 [] rfl (own_new0 w (Nat.le_refl _)) (some ⟨b, off, none⟩) zs.length c _ (zs.map (Value.int .i64)) rfl (fun e => by cases e) (H.out.grow ((Below.refl _ _).alloc (Nat.le_refl _) _)) (fun u hu => by obtain ⟨_, _, rfl⟩ := List.mem_map.1 hu; rfl) ?r1 ?r2 ?r3 ?_; rotate_right; intro v8 w8 ho8 hg8 hat8)
  case r1 => simp only [maxLen]; omega
  case r2 => omega
  case r3 => simp
  rw [Nat.zero_add, List.nil_append] at ho8
  obtain ⟨A8, c8, rfl, _, _⟩ := own_slice ho8
  have Ho := Lib.hid ho8
  have HB := Lib.hid (show Below w.heap.size w w8 from ((Below.refl _ _).alloc (Nat.le_refl _) _).grown hg8 (by simp) (fun k hk => by simp [Value.ownBlock] at hk; omega))
  clear ho8 hg8 hat8
  go_ret
  exact ⟨A8, c8, rfl, Ho.out, HB.out⟩
end Go.Proofs.Ytbmbdenjlbelaaa
