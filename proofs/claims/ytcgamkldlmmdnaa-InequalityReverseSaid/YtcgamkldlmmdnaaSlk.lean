import Derived.Test.YtcgamkldlmmdnaaFd7
namespace Go.Proofs.Ytcgamkldlmmdnaa
open Go.RowKit

theorem flat_set1 {α : Type} (f : α → List Value) (k : Nat) (hf : ∀ x, (f x).length = k) : ∀ (xs : List α) (i : Nat) (hi : i < xs.length) (j : Nat) (_hj : j < k) (y : α) (u : Value), f y = (f xs[i]).set j u → (xs.flatMap f).set (i * k + j) u = (xs.set i y).flatMap f
  | x :: xs, 0, _, j, hj, y, u, h => by
    rw [List.set_cons_zero, List.flatMap_cons, List.flatMap_cons, List.set_append_left _ _ (by rw [hf]; omega), h]
    simp
  | x :: xs, i + 1, hi, j, hj, y, u, h => by
    rw [List.set_cons_succ, List.flatMap_cons, List.flatMap_cons, List.set_append_right _ _ (by rw [hf, Nat.add_mul]; omega), hf, show (i + 1) * k + j - k = i * k + j by rw [Nat.add_mul]; omega]
    rw [flat_set1 f k hf xs i (by simpa using hi) j hj y u (by simpa using h)]
/-- the activity with its slack -/
def slackA (T : Int) (a : Act) : Act := ⟨a.kd, a.fr, a.tt, a.mn, min (a.mx + T / 2) (a.mn + T - 1), a.wt⟩
theorem ownAct_set {wr : World} {base g c : Nat} {acts : List Act} (h : wr.ownsRow base 62 6 (.slice (some ⟨g, 0, none⟩) acts.length c) acts.length (acts.flatMap Act.cells)) (i : Nat) (hi : i < acts.length) (m : Int) :
    (wr.setCell ⟨g, i * 6 + 4, none⟩ (.int .i64 m)).ownsRow base 62 6 (.slice (some ⟨g, 0, none⟩) acts.length c) acts.length ((acts.set i ⟨acts[i].kd, acts[i].fr, acts[i].tt, acts[i].mn, m, acts[i].wt⟩).flatMap Act.cells) := by
  have := (h.stored (i * 6 + 4) (.int .i64 m)).1
  rw [flat_set1 Act.cells 6 Act.len acts i hi 4 (by omega) ⟨acts[i].kd, acts[i].fr, acts[i].tt, acts[i].mn, m, acts[i].wt⟩ (.int .i64 m) rfl] at this
  exact this
end Go.Proofs.Ytcgamkldlmmdnaa
