import Derived.Test.YtpapembikcnhpaaOpenDet
namespace Go.Proofs.Ytpapembikcnhpaa
open Go.RowKit

theorem raw_arms {P : Prop} (h : P) : P := h

set_option maxHeartbeats 3200000 in
theorem draw_walk (x0 : Int × Int × Int) (x1 : Pul) (n : Int) (x3 : SPul) (w : World) (_wn : (Lit.int .i64 n).wf = true) (h : Rd w w.heap.size 4 x3.A x3.n (x3.ps.flatMap Pul.cells) ∧ x3.n = x3.ps.length ∧ x3.n ≤ x3.c) (hs : x3.c * 32 ≤ 140737488351232) :
    Calls Try.prog 10 #[.agg #[.int .i64 x0.1, .int .i64 x0.2.1, .int .i64 x0.2.2], .agg #[.int .i64 x1.r, .bool x1.i, .int .i64 x1.a, .int .i64 x1.b], .int .i64 n, .slice x3.A x3.n x3.c] w fun e w' => e = .returned (.bool true) ∧ Below w.heap.size w w' := by
  clear _wn
  obtain ⟨s, a, b⟩ := x0
  obtain ⟨pr, pi, pa, pb⟩ := x1
  obtain ⟨A, m, c, ps⟩ := x3
  simp only at h hs ⊢
  obtain ⟨hrd, rfl, hmc⟩ := h
  have H := Lib.hid hrd
  clear hrd
  go_enter Try.func10, Try.ntmps10
  go_wp2_with fail
  have HB0 := Lib.hid (show Below w.heap.size w ((w.alloc (.cells #[.int .i64 s, .int .i64 a, .int .i64 b] 26)).alloc (.cells #[.int .i64 pr, .bool pi, .int .i64 pa, .int .i64 pb] 31)) from (by repeat (first | exact Below.refl _ _ | (with_reducible refine Below.drew ?_) | (with_reducible refine below_drewN ?_ _) | (with_reducible refine Below.alloc ?_ (by first | omega | (simp; done) | (simp; omega)) _) | (with_reducible refine Below.setCell ?_ (by first | omega | (simp; done) | (simp; omega)) _) | (refine Below.trans ?_ (Below.mono (by with_reducible assumption) (by first | omega | (simp; done) | (simp; omega)))))))
  have hB0 := Blk.new w 26 #[.int .i64 s, .int .i64 a, .int .i64 b]
  have hB1 := Blk.new (w.alloc (.cells #[.int .i64 s, .int .i64 a, .int .i64 b] 26)) 31 #[.int .i64 pr, .bool pi, .int .i64 pa, .int .i64 pb]
  have HK : Hid (Blk ((w.alloc (.cells #[.int .i64 s, .int .i64 a, .int .i64 b] 26)).alloc (.cells #[.int .i64 pr, .bool pi, .int .i64 pa, .int .i64 pb] 31)) w.heap.size 26 #[.int .i64 s, .int .i64 a, .int .i64 b] ∧ Blk ((w.alloc (.cells #[.int .i64 s, .int .i64 a, .int .i64 b] 26)).alloc (.cells #[.int .i64 pr, .bool pi, .int .i64 pa, .int .i64 pb] 31)) (w.heap.size + 1) 31 #[.int .i64 pr, .bool pi, .int .i64 pa, .int .i64 pb]) :=
    ⟨hB0.same (Below.heap_alloc _ _ _ (by simp)), by simpa using hB1⟩
  clear hB0 hB1
  have hsz : ((w.alloc (.cells #[.int .i64 s, .int .i64 a, .int .i64 b] 26)).alloc (.cells #[.int .i64 pr, .bool pi, .int .i64 pa, .int .i64 pb] 31)).heap.size = w.heap.size + 2 := by simp
  have hw0 : w.heap.size + 1 < ((w.alloc (.cells #[.int .i64 s, .int .i64 a, .int .i64 b] 26)).alloc (.cells #[.int .i64 pr, .bool pi, .int .i64 pa, .int .i64 pb] 31)).heap.size := by omega
  clear hsz
  generalize (w.alloc (.cells #[.int .i64 s, .int .i64 a, .int .i64 b] 26)).alloc (.cells #[.int .i64 pr, .bool pi, .int .i64 pa, .int .i64 pb] 31) = w0 at *
  refine (run_any n A ps.length c ps w0 (H.out.keep (fun k hk => HB0.out.block k hk) |>.more HB0.out.size) rfl (by omega)).mono ?_
  rintro e w6 ⟨hb6, hif⟩
  have HB6 := Lib.hid hb6
  clear hb6
  have H6 := Lib.hid (H.out.keep (fun k hk => (HB0.out.trans (HB6.out.mono HB0.out.size)).block k hk) |>.more (Nat.le_trans HB0.out.size HB6.out.size))
  cases hr : runOk n ps
  · rw [hr, if_neg (by simp)] at hif
    subst hif
    have Hr := Lib.hid hr
    clear hr
    go_wp2_with fail
    refine (rrun_any n A ps.length c ps w6 H6.out rfl (by omega)).mono ?_
    rintro e w7 ⟨hb7, hif⟩
    rw [Hr.out, if_neg (by simp)] at hif
    subst hif
    have HB7 := Lib.hid hb7
    clear hb7
    have hk0 := HK.out.1.same ((HB6.out.block _ (by omega)).trans rfl) |>.same (HB7.out.block _ (by have := HB6.out.size; omega))
    have hk1 := HK.out.2.same ((HB6.out.block _ (by omega)).trans rfl) |>.same (HB7.out.block _ (by have := HB6.out.size; omega))
    have c0 := hk0.cell 0
    have c1 := hk0.cell 1
    have c2 := hk0.cell 2
    have d0 := hk1.cell 0
    have d1 := hk1.cell 1
    have d2 := hk1.cell 2
    have d3 := hk1.cell 3
    simp at c0 c1 c2 d0 d1 d2 d3
    clear hk0 hk1
    have hw7 : w.heap.size < w7.heap.size := by have := HB6.out.size; have := HB7.out.size; omega
    have hw7' : w.heap.size + 1 < w7.heap.size := by have := HB6.out.size; have := HB7.out.size; omega
    have HR6 := Lib.hid (show Rd w7 w7.heap.size 3 none 0 (([] : List (Int × Int)).flatMap ctc) from Rd.empty _ _ _)
    have HR7 := Lib.hid (show Rd w7 w7.heap.size 3 none 0 (([] : List (Int × Int)).flatMap ctc) from Rd.empty _ _ _)
    go_wp2_with fail
    refine wp_region_overL (by kernel_rfl) (by kernel_rfl) ?_
    repeat (go_big_quiet_step (first | (go_at_call 16; exact callsOver (awake_any _)) | (go_at_call 14; exact callsOver (feed_is _ _ _ _ _ _ _ _)) | (go_at_call 19; exact callsOver (rfeed_is _ _ _ _ _ _ _ _)) | (go_at_call 15; exact callsOver (report_any _ _ _ _)) | (go_at_call 20; exact callsOver (rreport_any _ _ _ _)) | (go_at_call 18; exact callsOver (reset_is _ _ _ _)) | (go_at_call 21; exact callsOver (rreset_is _ _ _ _)) | (go_at_call 25; exact callsOver (same_below _ _ _ _ _ _ ([] : List (Int × Int)) _ ((HR6.out.keep (fun k hk => (over_below _ _).block k hk)).more (over_size _ _)) ((HR7.out.keep (fun k hk => (over_below _ _).block k hk)).more (over_size _ _)) rfl rfl (by first | (simp; done) | omega)))))
    refine wpQuiet_nil ?_
    intro w8 hb8
    go_wp2_with fail
    go_ret
    have b0 := HB0.out
    have b6 := HB6.out
    have b7 := HB7.out
    have s0 := b0.size
    have s6 := b6.size
    have s7 := b7.size
    exact ⟨rfl, (by repeat (first | exact Below.refl _ _ | (with_reducible refine Below.drew ?_) | (with_reducible refine below_drewN ?_ _) | (with_reducible refine Below.alloc ?_ (by first | omega | (simp; done) | (simp; omega)) _) | (with_reducible refine Below.setCell ?_ (by first | omega | (simp; done) | (simp; omega)) _) | (refine Below.trans ?_ (Below.mono (by with_reducible assumption) (by first | omega | (simp; done) | (simp; omega))))))⟩
  · rw [hr, if_pos rfl] at hif
    obtain ⟨v6, rfl, hown6⟩ := hif
    obtain ⟨A6, c6, rfl, _, _⟩ := own_slice hown6
    have HO6 := Lib.hid hown6
    have Hr := Lib.hid hr
    clear hown6 hr
    go_wp2_with fail
    refine (rrun_any n A ps.length c ps w6 H6.out rfl (by omega)).mono ?_
    rintro e w7 ⟨hb7, hif⟩
    rw [Hr.out, if_pos rfl] at hif
    obtain ⟨v7, rfl, hown7⟩ := hif
    obtain ⟨A7, c7, rfl, _, _⟩ := own_slice hown7
    have HO7 := Lib.hid hown7
    have HB7 := Lib.hid hb7
    clear hown7 hb7
    have hlen : (runC n ps).length ≤ 144 := by
      have h1 := Hr.out
      simp [runOk] at h1
      simp [runC, fold_len]; omega
    have hk0 := HK.out.1.same ((HB6.out.block _ (by omega)).trans rfl) |>.same (HB7.out.block _ (by have := HB6.out.size; omega))
    have hk1 := HK.out.2.same ((HB6.out.block _ (by omega)).trans rfl) |>.same (HB7.out.block _ (by have := HB6.out.size; omega))
    have c0 := hk0.cell 0
    have c1 := hk0.cell 1
    have c2 := hk0.cell 2
    have d0 := hk1.cell 0
    have d1 := hk1.cell 1
    have d2 := hk1.cell 2
    have d3 := hk1.cell 3
    simp at c0 c1 c2 d0 d1 d2 d3
    clear hk0 hk1
    have hw7 : w.heap.size < w7.heap.size := by have := HB6.out.size; have := HB7.out.size; omega
    have hw7' : w.heap.size + 1 < w7.heap.size := by have := HB6.out.size; have := HB7.out.size; omega
    have HR6 := Lib.hid (Rd.of_own (own_grow HO6.out HB7.out))
    have HR7 := Lib.hid (Rd.of_own HO7.out)
    go_wp2_with fail
    refine wp_region_overL (by kernel_rfl) (by kernel_rfl) ?_
    repeat (go_big_quiet_step (first | (go_at_call 16; exact callsOver (awake_any _)) | (go_at_call 14; exact callsOver (feed_is _ _ _ _ _ _ _ _)) | (go_at_call 19; exact callsOver (rfeed_is _ _ _ _ _ _ _ _)) | (go_at_call 15; exact callsOver (report_any _ _ _ _)) | (go_at_call 20; exact callsOver (rreport_any _ _ _ _)) | (go_at_call 18; exact callsOver (reset_is _ _ _ _)) | (go_at_call 21; exact callsOver (rreset_is _ _ _ _)) | (go_at_call 25; exact callsOver (same_below _ _ _ _ _ _ (runC n ps) _ ((HR6.out.keep (fun k hk => (over_below _ _).block k hk)).more (over_size _ _)) ((HR7.out.keep (fun k hk => (over_below _ _).block k hk)).more (over_size _ _)) rfl rfl (by first | (simp; done) | omega)))))
    refine wpQuiet_nil ?_
    intro w8 hb8
    go_wp2_with fail
    go_ret
    have b0 := HB0.out
    have b6 := HB6.out
    have b7 := HB7.out
    have s0 := b0.size
    have s6 := b6.size
    have s7 := b7.size
    exact ⟨rfl, (by repeat (first | exact Below.refl _ _ | (with_reducible refine Below.drew ?_) | (with_reducible refine below_drewN ?_ _) | (with_reducible refine Below.alloc ?_ (by first | omega | (simp; done) | (simp; omega)) _) | (with_reducible refine Below.setCell ?_ (by first | omega | (simp; done) | (simp; omega)) _) | (refine Below.trans ?_ (Below.mono (by with_reducible assumption) (by first | omega | (simp; done) | (simp; omega))))))⟩
end Go.Proofs.Ytpapembikcnhpaa
