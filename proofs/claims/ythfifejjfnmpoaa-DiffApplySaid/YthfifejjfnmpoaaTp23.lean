import Derived.Test.YthfifejjfnmpoaaTp15
import Derived.Test.YthfifejjfnmpoaaTp19
import Derived.Test.YthfifejjfnmpoaaTp20
namespace Go.Proofs.Ythfifejjfnmpoaa
open Go.RowKit
theorem IRd.b1 {w : World} {g B : Nat} {x : Int} (h : Blk w g 3 #[.int .i64 x]) : IRd w B (some ⟨g, 0, none⟩) 1 [x] :=
  ⟨⟨rfl, fun _ => ⟨g, 0, rfl, h.lt, fun j u hu => by
    rw [Nat.zero_add, h.cell j]
    simpa using hu⟩⟩, fun _ a ha => by injection ha with ha; subst ha; exact .inr ⟨_, h⟩, fun e => (by cases e), (by simp), (by simp), (by simp [maxLen])⟩
theorem Blk.at_ {w : World} {g : Nat} {t : TypeId} {cs : Array Value} (h : w.heap.size = g) : Blk (w.alloc (.cells cs t)) g t cs := by subst h; exact Blk.new _ _ _
def awA : PT := ⟨0, 0, [100], [150]⟩
def awB : PT := ⟨0, 0, [100], [160]⟩
def awC : PT := ⟨1, 0, [100], [140]⟩
theorem aw_diff : dfV [awA] [awB, awC] = [⟨3, awA, awB⟩, ⟨1, zeroT, awC⟩] := by
  unfold dfV
  rw [if_pos ⟨by decide, by decide⟩, dM_ne (by decide) (by decide), dM_b]
  unfold diffM
  rfl
theorem aw_code : dfC [awA] [awB, awC] = 0 := by
  unfold dfC
  rw [if_pos ⟨by decide, by decide⟩]
theorem aw_app : apV [awA] [⟨3, awA, awB⟩, ⟨1, zeroT, awC⟩] = (0, [awB, awC]) := by
  unfold apV
  rw [if_pos (by decide), if_pos (by decide)]
  rfl
set_option maxRecDepth 100000 in
set_option maxHeartbeats 6400000 in
theorem awake_any (w : World) : Calls Try.prog 15 #[] w fun e w' => e = .returned (.bool true) ∧ Below w.heap.size w w' := by
  go_enter Try.func15, Try.ntmps15
  go_upto_region 3 with fail
  refine world_gen (fun w0 => Below w.heap.size w w0 ∧ Blk w0 w.heap.size 3 #[.int .i64 100] ∧ Blk w0 (w.heap.size + 1) 3 #[.int .i64 150] ∧ Blk w0 (w.heap.size + 2) 28 #[.int .i64 0, .int .i64 0, .slice (some ⟨w.heap.size, 0, none⟩) 1 1, .slice (some ⟨w.heap.size + 1, 0, none⟩) 1 1] ∧ Blk w0 (w.heap.size + 3) 3 #[.int .i64 100] ∧ Blk w0 (w.heap.size + 4) 3 #[.int .i64 160] ∧ Blk w0 (w.heap.size + 5) 3 #[.int .i64 100] ∧ Blk w0 (w.heap.size + 6) 3 #[.int .i64 140] ∧ Blk w0 (w.heap.size + 7) 28 #[.int .i64 0, .int .i64 0, .slice (some ⟨w.heap.size + 3, 0, none⟩) 1 1, .slice (some ⟨w.heap.size + 4, 0, none⟩) 1 1, .int .i64 1, .int .i64 0, .slice (some ⟨w.heap.size + 5, 0, none⟩) 1 1, .slice (some ⟨w.heap.size + 6, 0, none⟩) 1 1]) ⟨(by repeat (first | exact Below.refl _ _ | (with_reducible refine Below.drew ?_) | (with_reducible refine below_drewN ?_ _) | (with_reducible refine Below.alloc ?_ (by first | omega | (simp; done) | (simp; omega)) _) | (with_reducible refine Below.setCell ?_ (by first | omega | (simp; done) | (simp; omega)) _) | (refine Below.trans ?_ (Below.mono (by with_reducible assumption) (by first | omega | (simp; done) | (simp; omega)))))), (((((((Blk.at_ (by simp)).al _).al _).al _).al _).al _).al _).al _, ((((((Blk.at_ (by simp)).al _).al _).al _).al _).al _).al _, (((((Blk.at_ (by simp)).al _).al _).al _).al _).al _, ((((Blk.at_ (by simp)).al _).al _).al _).al _, (((Blk.at_ (by simp)).al _).al _).al _, ((Blk.at_ (by simp)).al _).al _, (Blk.at_ (by simp)).al _, Blk.at_ (by simp)⟩ ?_
  rintro w0 ⟨hb0, h0, h1, h2, h3, h4, h5, h6, h7⟩
  have HB0 := Lib.hid hb0
  have HLA := Lib.hid (show TL w0 (some ⟨w.heap.size + 2, 0, none⟩) 1 [⟨0, 0, some ⟨w.heap.size, 0, none⟩, 1, some ⟨w.heap.size + 1, 0, none⟩, 1, [100], [150]⟩] from
    ⟨⟨rfl, fun _ => ⟨_, 0, rfl, h2.lt, fun j u hu => by rw [Nat.zero_add, h2.cell j]; simpa [CT.cells] using hu⟩⟩, fun t ht => by simp at ht; subst ht; exact ⟨IRd.b1 h0, IRd.b1 h1⟩, fun e => (by cases e), (by simp), (by simp), (by simp [maxLen])⟩)
  have HLB := Lib.hid (show TL w0 (some ⟨w.heap.size + 7, 0, none⟩) 2 [⟨0, 0, some ⟨w.heap.size + 3, 0, none⟩, 1, some ⟨w.heap.size + 4, 0, none⟩, 1, [100], [160]⟩, ⟨1, 0, some ⟨w.heap.size + 5, 0, none⟩, 1, some ⟨w.heap.size + 6, 0, none⟩, 1, [100], [140]⟩] from
    ⟨⟨rfl, fun _ => ⟨_, 0, rfl, h7.lt, fun j u hu => by rw [Nat.zero_add, h7.cell j]; simpa [CT.cells] using hu⟩⟩, fun t ht => by
      simp at ht
      rcases ht with rfl | rfl
      · exact ⟨IRd.b1 h3, IRd.b1 h4⟩
      · exact ⟨IRd.b1 h5, IRd.b1 h6⟩, fun e => (by cases e), (by simp), (by simp), (by simp [maxLen])⟩)
  clear hb0 h0 h1 h2 h3 h4 h5 h6 h7
  go_wp2_with fail
  refine (diff_any _ _ _ _ _ _ w0 HLA.out HLB.out).mono ?_
  rintro e w1 ⟨A1, c1, es, rfl, ho1, hm1, hl1, hb1⟩
  have hm1' : es.map CE.pe = [⟨3, awA, awB⟩, ⟨1, zeroT, awC⟩] := hm1.trans aw_diff
  have hlen : es.length = 2 := by have := congrArg List.length hm1'; simpa using this
  have hE1 := Lib.hid (ho1.el (by omega))
  have HM := Lib.hid hm1'
  have HB1 := Lib.hid hb1
  have hcc : dfC [awA] [awB, awC] = 0 := aw_code
  have hk0 : ∀ (h : 0 < es.length), (es[0]).k = 3 := fun h => by
    have := congrArg (fun l => l[0]?.map PE.k) hm1'
    simpa [h, CE.pe] using this
  have hk1 : ∀ (h : 1 < es.length), (es[1]).k = 1 := fun h => by
    have := congrArg (fun l => l[1]?.map PE.k) hm1'
    simpa [h, CE.pe] using this
  have HK0 := Lib.hid hk0
  have HK1 := Lib.hid hk1
  have HLEN := Lib.hid hlen
  clear ho1 hm1 hb1 hm1' hk0 hk1 hl1 hlen
  rw [show dfC (List.map CT.pt [⟨0, 0, some ⟨w.heap.size, 0, none⟩, 1, some ⟨w.heap.size + 1, 0, none⟩, 1, [100], [150]⟩]) (List.map CT.pt [⟨0, 0, some ⟨w.heap.size + 3, 0, none⟩, 1, some ⟨w.heap.size + 4, 0, none⟩, 1, [100], [160]⟩, ⟨1, 0, some ⟨w.heap.size + 5, 0, none⟩, 1, some ⟨w.heap.size + 6, 0, none⟩, 1, [100], [140]⟩]) = 0 from hcc]
  clear hcc
  go_wp2_with fail
  refine (app_any _ _ _ _ _ es w1 (HLA.out.go HB1.out) hE1.out (.inr ⟨_, rfl⟩)).mono ?_
  rintro e w2 ⟨A2, c2, ts, rfl, ht2, hm2, hb2⟩
  have hap : apV (List.map CT.pt [⟨0, 0, some ⟨w.heap.size, 0, none⟩, 1, some ⟨w.heap.size + 1, 0, none⟩, 1, [100], [150]⟩]) (es.map CE.pe) = (0, [awB, awC]) := by rw [HM.out]; exact aw_app
  rw [hap] at hm2 ⊢
  have HT2 := Lib.hid ht2.l
  have HM2 := Lib.hid hm2
  have HBB := Lib.hid (HB1.out.trans (hb2.mono HB1.out.size))
  have HE2 := Lib.hid (hE1.out.go hb2)
  clear ht2 hm2 hb2 hap HB1 hE1
  obtain ⟨be, oe, rfl, hbe, q0, _⟩ := rdE HE2.out.r rfl 0 (by rw [HLEN.out]; omega)
  obtain ⟨be2, oe2, hbe2, _, q1, _⟩ := rdE HE2.out.r rfl 1 (by rw [HLEN.out]; omega)
  cases hbe2
  rw [HK0.out (by rw [HLEN.out]; omega)] at q0
  rw [HK1.out (by rw [HLEN.out]; omega)] at q1
  have hql : be < w2.heap.size := World.block_lt_of_cell? _ _ q0
  have hl2 := HLEN.out
  simp at q0 q1
  go_wp2_with fail
  refine (sameT_yes A2 _ c2 _ 2 ts [⟨0, 0, some ⟨w.heap.size + 3, 0, none⟩, 1, some ⟨w.heap.size + 4, 0, none⟩, 1, [100], [160]⟩, ⟨1, 0, some ⟨w.heap.size + 5, 0, none⟩, 1, some ⟨w.heap.size + 6, 0, none⟩, 1, [100], [140]⟩] w2 HT2.out (HLB.out.go HBB.out) rfl HM2.out.symm).mono ?_
  rintro e w3 ⟨rfl, hb3⟩
  have HB3 := Lib.hid (HBB.out.trans (hb3.mono HBB.out.size))
  clear hb3 q0 q1 HBB HT2 HM2
  go_wp2_with fail
  refine (check_any _ _ [⟨0, 0, some ⟨w.heap.size + 3, 0, none⟩, 1, some ⟨w.heap.size + 4, 0, none⟩, 1, [100], [160]⟩, ⟨1, 0, some ⟨w.heap.size + 5, 0, none⟩, 1, some ⟨w.heap.size + 6, 0, none⟩, 1, [100], [140]⟩] w3 (HLB.out.go HB3.out)).mono ?_
  rintro e w4 ⟨rfl, hb4⟩
  have HB4 := Lib.hid (HB0.out.trans ((HB3.out.trans (hb4.mono HB3.out.size)).mono HB0.out.size))
  clear hb4
  rw [show chkT (List.map CT.pt [⟨0, 0, some ⟨w.heap.size + 3, 0, none⟩, 1, some ⟨w.heap.size + 4, 0, none⟩, 1, [100], [160]⟩, ⟨1, 0, some ⟨w.heap.size + 5, 0, none⟩, 1, some ⟨w.heap.size + 6, 0, none⟩, 1, [100], [140]⟩]) = true from (show chkT [awB, awC] = true by decide)]
  go_wp2_with fail
  go_ret
  exact ⟨rfl, HB4.out⟩
end Go.Proofs.Ythfifejjfnmpoaa
