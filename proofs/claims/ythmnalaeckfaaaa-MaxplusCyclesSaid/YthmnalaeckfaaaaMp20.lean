import Derived.Test.YthmnalaeckfaaaaMp19
namespace Go.Proofs.Ythmnalaeckfaaaa
open Go.RowKit
theorem own_blk {w : World} {base g n : Nat} {e : TypeId} {cs : Array Value} (h : Blk w g e cs) (hn : cs.size = n) (hb : base ≤ g) (hm : n ≤ 1000) : w.ownsRow base e 1 (.slice (some ⟨g, 0, none⟩) n n) n cs.toList := by
  refine ⟨by simp [hn], .inr ⟨g, n, cs, rfl, hb, h, Nat.le_refl _, by simp only [maxLen]; omega, by omega, ?_⟩⟩
  rw [List.take_of_length_le (by simp [hn])]
set_option maxRecDepth 100000 in
theorem example_any (w : World) : Calls Try.prog 27 #[] w (MatOut [[-1125899906842624, 3], [2, -1125899906842624]] w) := by
  go_enter Try.func27, Try.ntmps27
  go_wp2
  go_ret
  have k0 := ((Blk.new w 3 #[.int .i64 (-1125899906842624), .int .i64 3]).al (.cells #[.int .i64 2, .int .i64 (-1125899906842624)] 3)).al (.cells #[.slice (some ⟨w.heap.size, 0, none⟩) 2 2, .slice (some ⟨w.heap.size + 1, 0, none⟩) 2 2] 22)
  have k1 := (Blk.new (w.alloc (.cells #[.int .i64 (-1125899906842624), .int .i64 3] 3)) 3 #[.int .i64 2, .int .i64 (-1125899906842624)]).al (.cells #[.slice (some ⟨w.heap.size, 0, none⟩) 2 2, .slice (some ⟨w.heap.size + 1, 0, none⟩) 2 2] 22)
  have k2 := Blk.new ((w.alloc (.cells #[.int .i64 (-1125899906842624), .int .i64 3] 3)).alloc (.cells #[.int .i64 2, .int .i64 (-1125899906842624)] 3)) 22 #[.slice (some ⟨w.heap.size, 0, none⟩) 2 2, .slice (some ⟨w.heap.size + 1, 0, none⟩) 2 2]
  simp only [World.size_alloc] at k1 k2
  refine ⟨some ⟨w.heap.size + 1 + 1, 0, none⟩, 2, [⟨some ⟨w.heap.size, 0, none⟩, 2, [-1125899906842624, 3]⟩, ⟨some ⟨w.heap.size + 1, 0, none⟩, 2, [2, -1125899906842624]⟩], rfl, rfl, ⟨own_blk k2 rfl (by omega) (by simp), fun x hx => ?_, by simp⟩, (by repeat (first | exact Below.refl _ _ | (with_reducible refine Below.drew ?_) | (with_reducible refine below_drewN ?_ _) | (with_reducible refine Below.alloc ?_ (by first | omega | (simp; done) | (simp; omega)) _) | (with_reducible refine Below.setCell ?_ (by first | omega | (simp; done) | (simp; omega)) _) | (refine Below.trans ?_ (Below.mono (by with_reducible assumption) (by first | omega | (simp; done) | (simp; omega))))))⟩
  simp at hx
  rcases hx with rfl | rfl
  · exact ⟨own_blk k0 rfl (by omega) (by simp), by simp⟩
  · exact ⟨own_blk k1 rfl (by omega) (by simp), by simp⟩
end Go.Proofs.Ythmnalaeckfaaaa
