import Derived.Test.YtinjdcefagaaeaaGreatDoorQDe
import Derived.Lib.IndexLaws
set_option linter.unusedVariables false
set_option linter.unusedSimpArgs false
namespace Go.Proofs.YtinjdcefagaaeaaGreatDoor
open Go.RowKit
/-! the example's texts, in lines and words (printed by a program) -/
abbrev txA : ByteArray := ⟨#[115, 116, 97, 116, 105, 111, 110, 32, 88, 10, 115, 116, 97, 116, 105, 111, 110, 32, 89, 10, 115, 101, 99, 116, 105, 111, 110, 32, 120, 32, 49, 48, 32, 50, 48, 48, 48, 48, 32, 48, 32, 97, 116, 32, 88, 10, 115, 101, 99, 116, 105, 111, 110, 32, 97, 32, 49, 48, 32, 50, 48, 48, 48, 48, 32, 48, 10, 115, 101, 99, 116, 105, 111, 110, 32, 121, 32, 49, 48, 32, 50, 48, 48, 48, 48, 32, 48, 32, 97, 116, 32, 89, 10, 108, 105, 110, 107, 32, 120, 32, 66, 32, 97, 32, 65, 10, 108, 105, 110, 107, 32, 97, 32, 66, 32, 121, 32, 65, 10]⟩
abbrev txB : ByteArray := ⟨#[112, 101, 114, 105, 111, 100, 32, 51, 48, 48, 10, 115, 116, 111, 99, 107, 32, 83, 32, 53, 32, 50, 48, 48, 48, 48, 32, 53, 48, 48, 32, 53, 48, 48, 10, 114, 111, 117, 116, 101, 32, 120, 32, 117, 112, 32, 97, 32, 117, 112, 32, 121, 32, 117, 112, 10, 108, 105, 110, 101, 32, 65, 32, 83, 32, 50, 10, 114, 105, 100, 101, 32, 48, 32, 53, 10, 100, 101, 109, 97, 110, 100, 32, 88, 32, 89, 32, 51, 10]⟩
def splN : Nat → ByteArray → List ByteArray
  | 0, T => [T]
  | n + 1, T => if Lib.indexByte T.data.toList 10 < 0 then [T] else T.extract 0 (Lib.indexByte T.data.toList 10).toNat :: splN n (T.extract ((Lib.indexByte T.data.toList 10).toNat + 1) T.size)
def lnB (k : Nat) (x : ByteArray) : Bool := decide (Lib.indexByte x.data.toList 35 = -1) && decide (x.size ≤ 65536) && (splF x ((k : Int) + 1) x.data.toList 0 none []).isSome && decide ((lnW k x).length ≤ 64)
def rwA : List (List Wd) := [[⟨⟨#[115, 116, 97, 116, 105, 111, 110]⟩, 1, 1⟩, ⟨⟨#[88]⟩, 1, 9⟩],
  [⟨⟨#[115, 116, 97, 116, 105, 111, 110]⟩, 2, 1⟩, ⟨⟨#[89]⟩, 2, 9⟩],
  [⟨⟨#[115, 101, 99, 116, 105, 111, 110]⟩, 3, 1⟩, ⟨⟨#[120]⟩, 3, 9⟩, ⟨⟨#[49, 48]⟩, 3, 11⟩, ⟨⟨#[50, 48, 48, 48, 48]⟩, 3, 14⟩, ⟨⟨#[48]⟩, 3, 20⟩, ⟨⟨#[97, 116]⟩, 3, 22⟩, ⟨⟨#[88]⟩, 3, 25⟩],
  [⟨⟨#[115, 101, 99, 116, 105, 111, 110]⟩, 4, 1⟩, ⟨⟨#[97]⟩, 4, 9⟩, ⟨⟨#[49, 48]⟩, 4, 11⟩, ⟨⟨#[50, 48, 48, 48, 48]⟩, 4, 14⟩, ⟨⟨#[48]⟩, 4, 20⟩],
  [⟨⟨#[115, 101, 99, 116, 105, 111, 110]⟩, 5, 1⟩, ⟨⟨#[121]⟩, 5, 9⟩, ⟨⟨#[49, 48]⟩, 5, 11⟩, ⟨⟨#[50, 48, 48, 48, 48]⟩, 5, 14⟩, ⟨⟨#[48]⟩, 5, 20⟩, ⟨⟨#[97, 116]⟩, 5, 22⟩, ⟨⟨#[89]⟩, 5, 25⟩],
  [⟨⟨#[108, 105, 110, 107]⟩, 6, 1⟩, ⟨⟨#[120]⟩, 6, 6⟩, ⟨⟨#[66]⟩, 6, 8⟩, ⟨⟨#[97]⟩, 6, 10⟩, ⟨⟨#[65]⟩, 6, 12⟩],
  [⟨⟨#[108, 105, 110, 107]⟩, 7, 1⟩, ⟨⟨#[97]⟩, 7, 6⟩, ⟨⟨#[66]⟩, 7, 8⟩, ⟨⟨#[121]⟩, 7, 10⟩, ⟨⟨#[65]⟩, 7, 12⟩]]
def rwB : List (List Wd) := [[⟨⟨#[112, 101, 114, 105, 111, 100]⟩, 1, 1⟩, ⟨⟨#[51, 48, 48]⟩, 1, 8⟩],
  [⟨⟨#[115, 116, 111, 99, 107]⟩, 2, 1⟩, ⟨⟨#[83]⟩, 2, 7⟩, ⟨⟨#[53]⟩, 2, 9⟩, ⟨⟨#[50, 48, 48, 48, 48]⟩, 2, 11⟩, ⟨⟨#[53, 48, 48]⟩, 2, 17⟩, ⟨⟨#[53, 48, 48]⟩, 2, 21⟩],
  [⟨⟨#[114, 111, 117, 116, 101]⟩, 3, 1⟩, ⟨⟨#[120]⟩, 3, 7⟩, ⟨⟨#[117, 112]⟩, 3, 9⟩, ⟨⟨#[97]⟩, 3, 12⟩, ⟨⟨#[117, 112]⟩, 3, 14⟩, ⟨⟨#[121]⟩, 3, 17⟩, ⟨⟨#[117, 112]⟩, 3, 19⟩],
  [⟨⟨#[108, 105, 110, 101]⟩, 4, 1⟩, ⟨⟨#[65]⟩, 4, 6⟩, ⟨⟨#[83]⟩, 4, 8⟩, ⟨⟨#[50]⟩, 4, 10⟩],
  [⟨⟨#[114, 105, 100, 101]⟩, 5, 1⟩, ⟨⟨#[48]⟩, 5, 6⟩, ⟨⟨#[53]⟩, 5, 8⟩],
  [⟨⟨#[100, 101, 109, 97, 110, 100]⟩, 6, 1⟩, ⟨⟨#[88]⟩, 6, 8⟩, ⟨⟨#[89]⟩, 6, 10⟩, ⟨⟨#[51]⟩, 6, 12⟩]]
def splNB : Nat → ByteArray → Bool
  | 0, T => decide (Lib.indexByte T.data.toList 10 = -1)
  | n + 1, T => if Lib.indexByte T.data.toList 10 < 0 then true else splNB n (T.extract ((Lib.indexByte T.data.toList 10).toNat + 1) T.size)
theorem spl_N : ∀ (n : Nat) (T : ByteArray), splNB n T = true → Spl T (splN n T)
  | 0, T, h => Spl.last T (by simpa [splNB] using h)
  | n + 1, T, h => by
    have hge := Lib.indexByte_ge T.data.toList 10
    unfold splNB at h
    unfold splN
    by_cases hlt : Lib.indexByte T.data.toList 10 < 0
    · rw [if_pos hlt]
      exact Spl.last T (by omega)
    · rw [if_neg hlt] at h ⊢
      obtain ⟨i, hi⟩ := Int.eq_ofNat_of_zero_le (show 0 ≤ Lib.indexByte T.data.toList 10 by omega)
      have hs := (Lib.indexByte_some hi).1
      have hlen : i < T.data.toList.length := (List.getElem?_eq_some_iff.1 hs).1
      rw [hi] at h ⊢
      refine Spl.more T i _ hi (by rw [Array.length_toList] at hlen; exact hlen) (spl_N n _ h)
theorem lnB_ok {k : Nat} {x : ByteArray} (h : lnB k x = true) : LnOk k x := by
  simp only [lnB, Bool.and_eq_true, decide_eq_true_eq] at h
  exact ⟨h.1.1.1, h.1.1.2, Option.isSome_iff_exists.1 h.1.2, h.2⟩
theorem lns_ok {xs : List ByteArray} (h : (xs.zipIdx.all fun p => lnB p.2 p.1) = true) (k : Nat) (x : ByteArray) (hk : xs[k]? = some x) : LnOk k x := by
  rw [List.all_eq_true] at h
  refine lnB_ok (h (x, k) ?_)
  exact List.mem_zipIdx_iff_getElem?.2 hk
set_option maxRecDepth 100000 in
theorem okA : ((splN 20 txA).zipIdx.all fun p => lnB p.2 p.1) = true := by decide +kernel
set_option maxRecDepth 100000 in
theorem okB : ((splN 20 txB).zipIdx.all fun p => lnB p.2 p.1) = true := by decide +kernel
set_option maxRecDepth 100000 in
theorem spA : splNB 20 txA = true := by decide +kernel
set_option maxRecDepth 100000 in
theorem spB : splNB 20 txB = true := by decide +kernel
set_option maxRecDepth 100000 in
theorem lnA : (splN 20 txA).length ≤ 1000 := by decide +kernel
set_option maxRecDepth 100000 in
theorem lnB' : (splN 20 txB).length ≤ 1000 := by decide +kernel
set_option maxRecDepth 100000 in
theorem rowsA : rowsF (splN 20 txA) = rwA := by decide +kernel
set_option maxRecDepth 100000 in
theorem rowsB : rowsF (splN 20 txB) = rwB := by decide +kernel
theorem linesA (w : World) : Calls Tryz.prog 25 #[.string txA] w fun e w' => ∃ v az, e = .returned (.tuple #[v, .int .i64 0, .int .i64 0]) ∧ LnM w' w.heap.size v rwA az ∧ Below w.heap.size w w' := by
  have := lines_ok txA _ w (by decide) (spl_N 20 _ spA) (lns_ok okA) lnA
  rw [rowsA] at this
  exact this
theorem linesB (w : World) : Calls Tryz.prog 25 #[.string txB] w fun e w' => ∃ v az, e = .returned (.tuple #[v, .int .i64 0, .int .i64 0]) ∧ LnM w' w.heap.size v rwB az ∧ Below w.heap.size w w' := by
  have := lines_ok txB _ w (by decide) (spl_N 20 _ spB) (lns_ok okB) lnB'
  rw [rowsB] at this
  exact this
end Go.Proofs.YtinjdcefagaaeaaGreatDoor
