import Derived.Test.YtpapembikcnhpaaDet5
import Derived.Test.YtpapembikcnhpaaOver
namespace Go.Proofs.Ytpapembikcnhpaa
open Go.RowKit

theorem feed_is (s a b r : Int) (i : Bool) (pa pb : Int) (w : World) :
    Calls Try.prog 14 #[.agg #[.int .i64 s, .int .i64 a, .int .i64 b], .agg #[.int .i64 r, .bool i, .int .i64 pa, .int .i64 pb]] w fun e w' => e = .returned (.agg #[.int .i64 (feedF s a b i pa pb).1, .int .i64 (feedF s a b i pa pb).2, .int .i64 (feedF s a b i pa pb).2]) ∧ Below w.heap.size w w' := feed_any s a b r i pa pb w
theorem rfeed_is (s a b r : Int) (i : Bool) (pa pb : Int) (w : World) :
    Calls Try.prog 19 #[.agg #[.int .i64 s, .int .i64 a, .int .i64 b], .agg #[.int .i64 r, .bool i, .int .i64 pa, .int .i64 pb]] w fun e w' => e = .returned (.agg #[.int .i64 (feedF s a b i pa pb).1, .int .i64 (feedF s a b i pa pb).2, .int .i64 (feedF s a b i pa pb).2]) ∧ Below w.heap.size w w' := rfeed_any s a b r i pa pb w
theorem reset_is (s a b : Int) (w : World) :
    Calls Try.prog 18 #[.agg #[.int .i64 s, .int .i64 a, .int .i64 b]] w fun e w' => e = .returned (.agg #[.int .i64 (resetT s a b).1, .int .i64 (resetT s a b).2.1, .int .i64 (resetT s a b).2.2]) ∧ Below w.heap.size w w' := reset_any s a b w
theorem rreset_is (s a b : Int) (w : World) :
    Calls Try.prog 21 #[.agg #[.int .i64 s, .int .i64 a, .int .i64 b]] w fun e w' => e = .returned (.agg #[.int .i64 (resetT s a b).1, .int .i64 (resetT s a b).2.1, .int .i64 (resetT s a b).2.2]) ∧ Below w.heap.size w w' := rreset_any s a b w

set_option maxHeartbeats 1600000 in
theorem small_walk (s a b x y : Int) (i : Bool) (w : World) (_ws : (Lit.int .i64 s).wf = true) (_wa : (Lit.int .i64 a).wf = true) (_wb : (Lit.int .i64 b).wf = true) (_wx : (Lit.int .i64 x).wf = true) (_wy : (Lit.int .i64 y).wf = true) :
    Calls Try.prog 6 #[.int .i64 s, .int .i64 a, .int .i64 b, .int .i64 x, .int .i64 y, .bool i] w fun e w' => e = .returned (.bool true) ∧ Below w.heap.size w w' := by
  clear _ws _wa _wb _wx _wy
  go_enter Try.func6, Try.ntmps6
  go_wp2_with (go_at_call 17; refine (pick_any _ _ _ (by omega) (by omega)).mono ?_; rintro e w' ⟨rfl, rfl⟩)
  all_goals
    refine wp_region_overL (by kernel_rfl) (by kernel_rfl) ?_
    repeat (go_big_quiet_step (first | (go_at_call 16; exact callsOver (awake_any _)) | (go_at_call 14; exact callsOver (feed_is _ _ _ _ _ _ _ _)) | (go_at_call 19; exact callsOver (rfeed_is _ _ _ _ _ _ _ _)) | (go_at_call 15; exact callsOver (report_any _ _ _ _)) | (go_at_call 20; exact callsOver (rreport_any _ _ _ _)) | (go_at_call 18; exact callsOver (reset_is _ _ _ _)) | (go_at_call 21; exact callsOver (rreset_is _ _ _ _))))
    refine wpQuiet_nil ?_
    intro w1 hb1
    go_wp2
    go_ret
    exact ⟨rfl, (by repeat (first | exact Below.refl _ _ | (with_reducible refine Below.drew ?_) | (with_reducible refine below_drewN ?_ _) | (with_reducible refine Below.alloc ?_ (by first | omega | (simp; done) | (simp; omega)) _) | (with_reducible refine Below.setCell ?_ (by first | omega | (simp; done) | (simp; omega)) _) | (refine Below.trans ?_ (Below.mono (by with_reducible assumption) (by first | omega | (simp; done) | (simp; omega))))))⟩
end Go.Proofs.Ytpapembikcnhpaa
