import Derived.Test.YthfifejjfnmpoaaTp7
import Derived.Deep.RegionHeld3
import Derived.Deep.RegionLaw
namespace Go.Proofs.Ythfifejjfnmpoaa
open Go.RowKit
theorem Kp.two {B b1 b2 : Nat} {w w' : World} {t1 t2 : TypeId} {c1 c2 : Array Value} (h1 : Blk w b1 t1 c1) (h2 : Blk w b2 t2 c2) (n1 : t1 ≠ 3) (n2 : t2 ≠ 3) (hB1 : B ≤ b1) (hB2 : B ≤ b2) (hs : w.heap.size ≤ w'.heap.size) (h : ∀ k, k ≠ b1 → k ≠ b2 → w'.heap[k]? = w.heap[k]?) : Kp B w w' := by
  refine ⟨hs, fun k hk hc => h k (fun e => ?_) (fun e => ?_)⟩
  · subst e
    rcases hc with hc | ⟨cs, hc⟩
    · omega
    · unfold Blk at h1 hc; rw [h1] at hc; injection hc with hc; injection hc with _ hc; exact n1 hc
  · subst e
    rcases hc with hc | ⟨cs, hc⟩
    · omega
    · unfold Blk at h2 hc; rw [h2] at hc; injection hc with hc; injection hc with _ hc; exact n2 hc
theorem size_set (w : World) (p : Addr) (u : Value) : (w.setCell p u).heap.size = w.heap.size := by simp [World.setCell]
section
variable {w : World} {b : Nat} {t : TypeId} {a0 a1 a2 a3 u0 u1 u2 u3 : Value}
theorem Blk.st4 (h : Blk w b t #[a0, a1, a2, a3]) : Blk ((((w.setCell ⟨b, 0, none⟩ u0).setCell ⟨b, 1, none⟩ u1).setCell ⟨b, 2, none⟩ u2).setCell ⟨b, 3, none⟩ u3) b t #[u0, u1, u2, u3] := by
  simpa using (((h.set_ 0 u0).set_ 1 u1).set_ 2 u2).set_ 3 u3
theorem Blk.st23 (h : Blk w b t #[a0, a1, a2, a3]) : Blk ((w.setCell ⟨b, 2, none⟩ u2).setCell ⟨b, 3, none⟩ u3) b t #[a0, a1, u2, u3] := by
  simpa using (h.set_ 2 u2).set_ 3 u3
end
def ClOut (t : CT) (w : World) (e : Ending) (w' : World) : Prop :=
  ∃ t' : CT, e = .returned (.agg #[.int .i64 (t').ln, .int .i64 (t').dy, .slice (t').Ad (t').dep.length (t').cd, .slice (t').Aa (t').arr.length (t').ca]) ∧ t'.pt = t.pt ∧ TM w' 0 t' ∧ Below w.heap.size w w'
set_option maxRecDepth 100000 in
set_option maxHeartbeats 3200000 in
theorem clone_any (t : CT) (w : World) (h : TM w w.heap.size t) :
    Calls Try.prog 37 #[.agg #[.int .i64 (t).ln, .int .i64 (t).dy, .slice (t).Ad (t).dep.length (t).cd, .slice (t).Aa (t).arr.length (t).ca]] w (ClOut t w) := by
  have H := Lib.hid h
  clear h
  go_enter Try.func37, Try.ntmps37
  go_upto_region 1 with fail
  refine world_gen (fun w0 => Below w.heap.size w w0 ∧ w0.heap.size = w.heap.size + 2 ∧ Blk w0 w.heap.size 28 #[.int .i64 (t).ln, .int .i64 (t).dy, .slice (t).Ad (t).dep.length (t).cd, .slice (t).Aa (t).arr.length (t).ca] ∧ Blk w0 (w.heap.size + 1) 28 #[.int .i64 0, .int .i64 0, .slice none 0 0, .slice none 0 0]) ⟨(by repeat (first | exact Below.refl _ _ | (with_reducible refine Below.drew ?_) | (with_reducible refine below_drewN ?_ _) | (with_reducible refine Below.alloc ?_ (by first | omega | (simp; done) | (simp; omega)) _) | (with_reducible refine Below.setCell ?_ (by first | omega | (simp; done) | (simp; omega)) _) | (refine Below.trans ?_ (Below.mono (by with_reducible assumption) (by first | omega | (simp; done) | (simp; omega)))))), by simp, (Blk.new w _ _).al _, by simpa using Blk.new (w.alloc _) 28 _⟩ ?_
  rintro w0 ⟨hb0, hs0, hx0, hr0⟩
  have HB0 := Lib.hid hb0
  have HS0 := Lib.hid hs0
  have HX0 := Lib.hid hx0
  have HR0 := Lib.hid hr0
  have x2 := hx0.cell 2
  have x3 := hx0.cell 3
  simp at x2 x3
  have hxl := hx0.lt
  clear hb0 hs0 hx0 hr0
  have HD : Hid (∀ W, Below w0.heap.size w0 W → IRd W W.heap.size t.Ad t.cd t.dep) := fun W hW => (H.out.go (HB0.out.trans (hW.mono HB0.out.size))).d
  have HA : Hid (∀ W, Below w0.heap.size w0 W → IRd W W.heap.size t.Aa t.ca t.arr) := fun W hW => (H.out.go (HB0.out.trans (hW.mono HB0.out.size))).a
  go_region_law (first | (go_simp; go_at_call 52; refine (cln_any t.Ad t.cd t.dep _ (HD.out _ (by repeat (first | exact Below.refl _ _ | (with_reducible refine Below.drew ?_) | (with_reducible refine below_drewN ?_ _) | (with_reducible refine Below.alloc ?_ (by first | omega | (simp; done) | (simp; omega)) _) | (with_reducible refine Below.setCell ?_ (by first | omega | (simp; done) | (simp; omega)) _) | (refine Below.trans ?_ (Below.mono (by with_reducible assumption) (by first | omega | (simp; done) | (simp; omega)))))))).mono ?_; rintro e w8 ⟨A8, c8, rfl, hi8, hb8⟩; have hB8 : Below w0.heap.size w0 w8 := (by repeat (first | exact Below.refl _ _ | (with_reducible refine Below.drew ?_) | (with_reducible refine below_drewN ?_ _) | (with_reducible refine Below.alloc ?_ (by first | omega | (simp; done) | (simp; omega)) _) | (with_reducible refine Below.setCell ?_ (by first | omega | (simp; done) | (simp; omega)) _) | (refine Below.trans ?_ (Below.mono (by with_reducible assumption) (by first | omega | (simp; done) | (simp; omega)))))); have HI8 := Lib.hid hi8; have u3 := cell_bel hB8 x3) | (go_simp; go_at_call 52; refine (cln_any t.Aa t.ca t.arr _ (HA.out _ hB8)).mono ?_; rintro e w9 ⟨A9, c9, rfl, hi9, hb9⟩; have hB9 : Below w0.heap.size w0 w9 := (hB8.trans (hb9.mono hB8.size)); have hx9 := HX0.out.bel hB9; have hr9 := HR0.out.bel hB9; have v0 := hx9.cell 0; have v1 := hx9.cell 1; have v2 := hx9.cell 2; have v3 := hx9.cell 3; have g0 := hx9.frozen 0; have g1 := hx9.frozen 1; have g2 := hx9.frozen 2; have g3 := hx9.frozen 3; have r0 := hr9.cell 0; have r1 := hr9.cell 1; have r2 := hr9.cell 2; have r3 := hr9.cell 3; have f0 := hr9.frozen 0; have f1 := hr9.frozen 1; have f2 := hr9.frozen 2; have f3 := hr9.frozen 3; have hl9 := hx9.lt; have hm9 := hr9.lt; have hne : w.heap.size ≠ w.heap.size + 1 := (by omega); simp only [List.getElem?_toArray, List.getElem?_cons_succ, List.getElem?_cons_zero] at v0 v1 v2 v3 r0 r1 r2 r3))
  all_goals
    have HB9 := Lib.hid hB9
    have HI9 := Lib.hid (hi9)
    have HI8' := Lib.hid (HI8.out.kp (Kp.bel hb9))
    have HX9 := Lib.hid hx9
    have HR9 := Lib.hid hr9
    have hfin : Below w.heap.size w w9 := HB0.out.trans (HB9.out.mono HB0.out.size)
    go_upto_region 2 with fail
    refine world_gen (fun w5 => Below w.heap.size w w5 ∧ Blk w5 w.heap.size 28 #[.int .i64 t.ln, .int .i64 t.dy, .slice A8 t.dep.length c8, .slice A9 t.arr.length c9] ∧ Blk w5 (w.heap.size + 1) 28 #[.int .i64 0, .int .i64 0, .slice none 0 0, .slice none 0 0] ∧ TM w5 0 ⟨t.ln, t.dy, A8, c8, A9, c9, t.dep, t.arr⟩) ⟨(by have hbelh := hfin; have hbels := hbelh.size; exact (by repeat (first | exact Below.refl _ _ | (with_reducible refine Below.drew ?_) | (with_reducible refine below_drewN ?_ _) | (with_reducible refine Below.alloc ?_ (by first | omega | (simp; done) | (simp; omega)) _) | (with_reducible refine Below.setCell ?_ (by first | omega | (simp; done) | (simp; omega)) _) | (refine Below.trans ?_ (Below.mono (by with_reducible assumption) (by first | omega | (simp; done) | (simp; omega))))))), HX9.out.st23, (HR9.out.far hne).far hne, ⟨HI8'.out.kp (Kp.two HX9.out HR9.out (by decide) (by decide) (Nat.zero_le _) (Nat.zero_le _) (by simp [World.setCell]) (fun k hk1 hk2 => by repeat (first | rfl | rw [Below.heap_setCell _ _ _ _ (by first | exact hk1 | exact hk2)]))), HI9.out.kp (Kp.two HX9.out HR9.out (by decide) (by decide) (Nat.zero_le _) (Nat.zero_le _) (by simp [World.setCell]) (fun k hk1 hk2 => by repeat (first | rfl | rw [Below.heap_setCell _ _ _ _ (by first | exact hk1 | exact hk2)])))⟩⟩ ?_
    clear HI9 HI8' HX9 HR9 HB9 hB9 hx9 hr9 v0 v1 v2 v3 g0 g1 g2 g3 r0 r1 r2 r3 f0 f1 f2 f3 hl9 hm9 HI8 hi9 hb9 hfin u3 hB8 HX0 HR0 HB0 HD HA HS0 x2 x3 hxl
    rintro w5 ⟨hb5, hx5, hr5, ht5⟩
    have HB5 := Lib.hid hb5
    have HT5 := Lib.hid ht5
    have HR5 := Lib.hid hr5
    have x0 := hx5.cell 0
    have x1 := hx5.cell 1
    have x2 := hx5.cell 2
    have x3 := hx5.cell 3
    have f0 := hr5.frozen 0
    have f1 := hr5.frozen 1
    have f2 := hr5.frozen 2
    have f3 := hr5.frozen 3
    have r0 := hr5.cell 0
    have r1 := hr5.cell 1
    have r2 := hr5.cell 2
    have r3 := hr5.cell 3
    simp at x0 x1 x2 x3 r0 r1 r2 r3
    have HX5 := Lib.hid hx5
    clear hb5 hx5 hr5 ht5
    go_wp2_with fail
    (try simp only [Exit.inBlock, Exit.then])
    refine bodyPost_ret (results_cell_row rfl _ _ (w.heap.size + 1) 28 #[.int .i64 t.ln, .int .i64 t.dy, .slice A8 t.dep.length c8, .slice A9 t.arr.length c9] (0, 0) _ rfl (HR5.out.st4) Try.underlying28 rfl (by kernel_rfl)) rfl ?_
    exact ⟨⟨t.ln, t.dy, A8, c8, A9, c9, t.dep, t.arr⟩, rfl, rfl, HT5.out.kp (Kp.two HX5.out HR5.out (by decide) (by decide) (Nat.zero_le _) (Nat.zero_le _) (by simp [World.setCell]) (fun k hk1 hk2 => by repeat (first | rfl | rw [Below.heap_setCell _ _ _ _ (by first | exact hk1 | exact hk2)]))), (by have hbelh := HB5.out; have hbels := hbelh.size; exact (by repeat (first | exact Below.refl _ _ | (with_reducible refine Below.drew ?_) | (with_reducible refine below_drewN ?_ _) | (with_reducible refine Below.alloc ?_ (by first | omega | (simp; done) | (simp; omega)) _) | (with_reducible refine Below.setCell ?_ (by first | omega | (simp; done) | (simp; omega)) _) | (refine Below.trans ?_ (Below.mono (by with_reducible assumption) (by first | omega | (simp; done) | (simp; omega)))))))⟩
end Go.Proofs.Ythfifejjfnmpoaa
