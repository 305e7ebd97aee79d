import Derived.Test.YthfifejjfnmpoaaTp21
import Derived.Deep.RegionLaw
namespace Go.Proofs.Ythfifejjfnmpoaa
open Go.RowKit
theorem Sb.set {b bx p o : Nat} {w w' : World} {u : Value} (h : Sb b bx w w') (hp : bx ≤ p) : Sb b bx w (w'.setCell ⟨p, o, none⟩ u) :=
  ⟨h.os, h.tape, h.output, by have := h.size; simpa [World.setCell] using this, fun k hk hn => by rw [Below.heap_setCell _ _ _ _ (by simp; omega)]; exact h.block k hk hn⟩
theorem Src.set {w : World} {b p o : Nat} {l : List Int} {u : Value} (h : Src w b l) (hp : b < p) : Src (w.setCell ⟨p, o, none⟩ u) b l := h.keep fun k hk => Below.heap_setCell _ _ _ _ (by simp; omega)
theorem IRd.of_blk1 {w : World} {g B : Nat} {x : Int} (h : Blk w g 3 #[.int .i64 x]) : IRd w B (some ⟨g, 0, none⟩) 1 [x] :=
  ⟨⟨rfl, fun _ => ⟨g, 0, rfl, h.lt, fun j u hu => by
    rw [Nat.zero_add, h.cell j]
    simpa using hu⟩⟩, fun _ a ha => by injection ha with ha; subst ha; exact .inr ⟨_, h⟩, fun e => (by cases e), (by simp), (by simp), (by simp [maxLen])⟩
structure OtP (xs ts : List CT) (j : Nat) : Prop where
  asc : (ts.map CT.pt).Pairwise fun x y => k1 x < k1 y
  ok : ∀ t ∈ ts, okT t.pt = true ∧ k1 t.pt ≤ 60
  lt : ∀ t ∈ ts, ∀ (i : Nat) (h : i < xs.length), j ≤ i → k1 t.pt < k1 (xs[i]).pt
theorem OtP.skip {xs ts : List CT} {j : Nat} (h : OtP xs ts j) : OtP xs ts (j + 1) := ⟨h.asc, h.ok, fun t ht i hi hji => h.lt t ht i hi (by omega)⟩
theorem OtP.step {xs ts : List CT} {j : Nat} (h : OtP xs ts j) (hj : j < xs.length) (hx : (xs.map CT.pt).Pairwise fun x y => k1 x < k1 y) (h60 : k1 (xs[j]).pt ≤ 60) (t : CT) (hk : k1 t.pt = k1 (xs[j]).pt) (ho : okT t.pt = true) : OtP xs (ts ++ [t]) (j + 1) := by
  refine ⟨?_, fun y hy => ?_, fun y hy i hi hji => ?_⟩
  · rw [List.map_append]
    refine List.pairwise_append.2 ⟨h.asc, by simp, fun x hx' y hy => ?_⟩
    simp at hy
    subst hy
    obtain ⟨x', hx'', rfl⟩ := List.mem_map.1 hx'
    rw [hk]
    exact h.lt x' hx'' j hj (Nat.le_refl _)
  · rcases List.mem_append.1 hy with hy | hy
    · exact h.ok y hy
    · simp at hy; subst hy; exact ⟨ho, by omega⟩
  · rcases List.mem_append.1 hy with hy | hy
    · exact h.lt y hy i hi (by omega)
    · simp at hy
      subst hy
      rw [hk]
      have := List.pairwise_iff_getElem.1 hx j i (by simpa using hj) (by simpa using hi) (by omega)
      simpa using this
def OtOut (w : World) (e : Ending) (w' : World) : Prop :=
  ∃ (A : Option Addr) (c : Nat) (ts : List CT), e = .returned (.slice A ts.length c) ∧ TO w' w.heap.size (.slice A ts.length c) ts ∧ ts.length ≤ 8 ∧ chkT (ts.map CT.pt) = true ∧ Below w.heap.size w w'
def Ot1 (w : World) (b : Nat) (xs : List CT) (k : Nat) (v6 v : Value) (wr : World) : Prop :=
  ∃ (j : Nat) (ts : List CT) (l : List Int), v = .int .i64 j ∧ j + k = xs.length ∧ OtP xs ts j ∧ ts.length ≤ j ∧ GnS w b v6 ts l wr
structure OtQ (ts : List CT) (z : Int) : Prop where
  asc : (ts.map CT.pt).Pairwise fun x y => k1 x < k1 y
  ok : ∀ t ∈ ts, okT t.pt = true ∧ k1 t.pt ≤ z
theorem OtQ.step {ts : List CT} {z z' : Int} (h : OtQ ts z) (t : CT) (hz : z < z') (hk : k1 t.pt = z') (ho : okT t.pt = true) : OtQ (ts ++ [t]) z' := by
  refine ⟨?_, fun y hy => ?_⟩
  · rw [List.map_append]
    refine List.pairwise_append.2 ⟨h.asc, by simp, fun x hx' y hy => ?_⟩
    simp at hy
    subst hy
    obtain ⟨x', hx'', rfl⟩ := List.mem_map.1 hx'
    have := (h.ok x' hx'').2
    omega
  · rcases List.mem_append.1 hy with hy | hy
    · have := h.ok y hy; exact ⟨this.1, by omega⟩
    · simp at hy; subst hy; exact ⟨ho, by omega⟩
theorem OtQ.chk {ts : List CT} {z : Int} (h : OtQ ts z) (hl : ts.length ≤ 1024) : chkT (ts.map CT.pt) = true :=
  chkT_iff.2 ⟨by simpa using hl, fun t ht => by obtain ⟨x, hx, rfl⟩ := List.mem_map.1 ht; exact (h.ok x hx).1, List.Pairwise.imp (fun h => .inl h) h.asc⟩
def Ot2 (w : World) (b : Nat) (k : Nat) (v6 v9 v10 : Value) (wr : World) : Prop :=
  ∃ (ts : List CT) (z : Int) (l : List Int), v9 = .int .i64 z ∧ v10 = .int .i64 k ∧ ts.length + k ≤ 8 ∧ k ≤ 3 ∧ 0 ≤ z ∧ z ≤ 1000 - 10 * k ∧ OtQ ts z ∧ GnS w b v6 ts l wr
set_option maxRecDepth 100000 in
set_option maxHeartbeats 6400000 in
theorem other_any (A B : Option Addr) (c m c' : Nat) (xs : List CT) (zs : List Int) (w : World) (ha : TL w A c xs) (hx : (xs.map CT.pt).Pairwise fun x y => k1 x < k1 y) (hok : ∀ t ∈ xs, okT t.pt = true ∧ k1 t.pt ≤ 45 ∧ t.dy ≤ 1) (hn : xs.length ≤ 5) (h : Rd w w.heap.size 1 B m (zs.map (Value.int .i64))) (hm : m ≤ maxLen) :
    Calls Try.prog 17 #[.slice A xs.length c, .slice B m c'] w (OtOut w) := by
  have HA := Lib.hid ha
  have HXP := Lib.hid hx
  have HOK := Lib.hid hok
  have H := Lib.hid h
  have Hn := Lib.hid hm
  clear ha hx hok h hm
  obtain ⟨iT, b1, b2, b3, b4⟩ := info_parts infoTr
  have HIT := Lib.hid (And.intro b1 (And.intro b2 (And.intro b3 b4)))
  clear b1 b2 b3 b4
  obtain ⟨i0, a1, a2, a3, a4⟩ := info_parts infoInt
  have HI := Lib.hid (And.intro a1 (And.intro a2 (And.intro a3 a4)))
  clear a1 a2 a3 a4
  go_enter Try.func17, Try.ntmps17
  go_wp2_with fail
  refine (from_any B m c' zs w H.out Hn.out).mono ?_
  rintro e w1 ⟨rfl, hs1, hb1, hz1⟩
  obtain ⟨b, hb⟩ : ∃ b, b = w.heap.size := ⟨_, rfl⟩
  have HS1 := Lib.hid (show GnS w b (.slice none 0 0) [] zs w1 from ⟨by rw [hb]; exact hs1, World.ownsRow_nil _ _ _ _, by simp, hb1, by omega, by omega⟩)
  rw [← hb] at ⊢
  clear hs1 hb1 hz1 hb
  go_wp2_with fail
  go_loopg [6, 8, 15, 21, 23, 31] xs.length (fun k v6 _ v _ _ _ wr => Ot1 w b xs k v6 v wr)
  case atStart => exact ⟨0, [], zs, rfl, by omega, ⟨List.Pairwise.nil, by simp, by simp⟩, by simp, HS1.out⟩
  case round =>
    clear HS1
    obtain ⟨j, ts, l, rfl, hj, hp, htl, hs⟩ := hrel
    have Hj := Lib.hid hj
    have HP := Lib.hid hp
    have HG := Lib.hid hs
    clear hj hp hs
    obtain ⟨Ao, co, rfl, _, _⟩ := own_slice HG.out.o
    by_cases hlt : j < xs.length
    · obtain ⟨bb, off, rfl, hbb, d0, d1, d2, d3⟩ := rdT (HA.out.r.grow HG.out.bel) rfl j hlt
      have HTX := Lib.hid (HA.out.m _ (List.getElem_mem hlt))
      have hok := HOK.out _ (List.getElem_mem hlt)
      have HSTEP := Lib.hid (HP.out.step hlt HXP.out (by omega))
      generalize xs[j] = t at *
      have HT := Lib.hid (okT_iff.1 hok.1)
      have hdy0 : 0 ≤ t.dy := HT.out.2.1
      have hdy1 : t.dy ≤ 1 := hok.2.2
      have ha1 : 1 ≤ t.arr.length := by have h1 : t.dep.length = t.arr.length := HT.out.2.2.1; have h2 : 1 ≤ t.dep.length := HT.out.2.2.2.1; omega
      have ha2 : t.arr.length ≤ 12 := by have h1 : t.dep.length = t.arr.length := HT.out.2.2.1; have h2 : t.dep.length ≤ 12 := HT.out.2.2.2.2.1; omega
      have hbl := HG.out.bl
      clear hok
      go_upto_region 6 with fail
      refine world_gen (fun w5 => Blk w5 wr.heap.size 28 #[.int .i64 (t).ln, .int .i64 (t).dy, .slice (t).Ad (t).dep.length (t).cd, .slice (t).Aa (t).arr.length (t).ca] ∧ Below wr.heap.size wr w5) ⟨Blk.new wr _ _, (by repeat (first | exact Below.refl _ _ | (with_reducible refine Below.drew ?_) | (with_reducible refine below_drewN ?_ _) | (with_reducible refine Below.alloc ?_ (by first | omega | (simp; done) | (simp; omega)) _) | (with_reducible refine Below.setCell ?_ (by first | omega | (simp; done) | (simp; omega)) _) | (refine Below.trans ?_ (Below.mono (by with_reducible assumption) (by first | omega | (simp; done) | (simp; omega))))))⟩ ?_
      rintro w5 ⟨hx5, hb5⟩
      have HX5 := Lib.hid hx5
      have HSB5 := Lib.hid ((Sb.refl b wr.heap.size wr).bel hb5 (Nat.le_refl _))
      have HSR5 := Lib.hid (HG.out.src.below hb5 hbl)
      have HNL := Lib.hid (show ts.length ≤ 5 by omega)
      clear d0 d1 d2 d3 hx5 hb5
      go_wp2_with fail
      refine (next_any b l 4 _ HSR5.out (by omega) (by omega)).mono ?_
      rintro e w6 ⟨rfl, hsq, htq⟩
      have hqq := nextV_bd l 4 (by omega) (by omega)
      generalize nextV l 4 = q at *
      obtain ⟨q0, q1⟩ := hqq
      generalize (l).tail = l6 at *
      have HX := Lib.hid (HX5.out.same (htq.block wr.heap.size (by omega)))
      have HSB := Lib.hid (HSB5.out.turn htq)
      have HSR := Lib.hid hsq
      clear hsq htq HX5 HSB5 HSR5
      by_cases hq0 : q = 0
      · subst hq0
        have HGS := Lib.hid (Sb.gns HG.out HSR.out HSB.out)
        have HP9 := Lib.hid HP.out.skip
        clear HX HSB HSR HG
        go_wp2_with fail
        go_roundg (xs.length - j - 1)
        case measure => have := Hj.out; omega
        case rel => exact ⟨j + 1, ts, l6, by first | rfl | go_num, by omega, HP9.out, by omega, HGS.out⟩
      have hq0' : (q == 0) = false := by simpa using hq0
      by_cases hq1 : q = 1
      · subst hq1
        have x1 := HX.out.cell 1
        simp at x1
        have hxl := HX.out.lt
        go_upto_region 9 with fail
        go_region_law (first | (go_simp; go_at_call 32; refine (next_any b l6 3 _ (HSR.out.drewN 1) (by omega) (by omega)).mono ?_; rintro e w7 ⟨rfl, hsq, htq⟩; have hx7 := (show Blk w6.drew wr.heap.size 28 #[.int .i64 (t).ln, .int .i64 (t).dy, .slice (t).Ad (t).dep.length (t).cd, .slice (t).Aa (t).arr.length (t).ca] from HX.out).same (htq.block wr.heap.size (by omega)); have y1 := hx7.cell 1; have g1 := hx7.frozen 1; have hyl := hx7.lt; simp only [List.getElem?_toArray, List.getElem?_cons_succ, List.getElem?_cons_zero] at y1))
        all_goals
          have hqq := nextV_bd l6 3 (by omega) (by omega)
          generalize nextV l6 3 = q3 at *
          obtain ⟨q30, q31⟩ := hqq
          have ew : IntKind.i64.wrap (t.dy + q3) = t.dy + q3 := IntWalk.i64_in _ (by omega)
          rw [ew]
          clear ew
          have HS7 := Lib.hid (show Src (w7.setCell ⟨wr.heap.size, 1, none⟩ (.int .i64 (t.dy + q3))) b l6.tail from hsq.set hbl)
          have HB7 := Lib.hid (show Sb b wr.heap.size wr (w7.setCell ⟨wr.heap.size, 1, none⟩ (.int .i64 (t.dy + q3))) from (HSB.out.turn ⟨htq.os, htq.tape, htq.output, htq.size, htq.block⟩).set (Nat.le_refl _))
          have HX7 := Lib.hid (show Blk (w7.setCell ⟨wr.heap.size, 1, none⟩ (.int .i64 (t.dy + q3))) wr.heap.size 28 #[.int .i64 t.ln, .int .i64 (t.dy + q3), .slice t.Ad t.dep.length t.cd, .slice t.Aa t.arr.length t.ca] from by simpa using hx7.set_ 1 (.int .i64 (t.dy + q3)))
          clear hsq htq hx7 y1 g1 hyl x1 hxl HX HSB HSR
          go_upto_region 13 with fail
          refine world_gen (fun w8 => Src w8 b l6.tail ∧ Sb b wr.heap.size wr w8 ∧ Blk w8 wr.heap.size 28 #[.int .i64 t.ln, .int .i64 (t.dy + q3), .slice t.Ad t.dep.length t.cd, .slice t.Aa t.arr.length t.ca]) ⟨HS7.out, HB7.out, HX7.out⟩ ?_
          rintro w8 ⟨hs8, hb8, hx8⟩
          have HSR := Lib.hid hs8
          have HSB := Lib.hid hb8
          have HX := Lib.hid hx8
          clear hs8 hb8 hx8 HS7 HB7 HX7
          have HGS := Lib.hid (Sb.gns HG.out HSR.out HSB.out)
          have HTM := Lib.hid (show TM w8 w.heap.size (CT.mk t.ln (t.dy + q3) t.Ad t.cd t.Aa t.ca t.dep t.arr) from (⟨(HTX.out.kp (Kp.bel HGS.out.bel)).d, (HTX.out.kp (Kp.bel HGS.out.bel)).a⟩))
          have hnn := HNL.out
          have hgl := HGS.out.bl
          have y0 := HX.out.cell 0
          have y1 := HX.out.cell 1
          have y2 := HX.out.cell 2
          have y3 := HX.out.cell 3
          simp at y0 y1 y2 y3
          have hyl := HX.out.lt
          go_upto_region 14 with (at_builtin; refine wpList_append_own_at _ rfl _ _ 22 rfl ((b + 1)) 28 iT _ 4 64 Try.underlying22 HIT.out.1 HIT.out.2.1 HIT.out.2.2.1 HIT.out.2.2.2 rfl (by omega) _ (ts.length) _ rfl (World.ownsRow.alloc HGS.out.o _) ⟨(w8).heap.size, 0, none⟩ 1 1 (CT.cells (CT.mk t.ln (t.dy + q3) t.Ad t.cd t.Aa t.ca t.dep t.arr)) rfl rfl ?c0 ?c1 ?c2 ?c3 ?c4 ?_; rotate_right; intro v' w' hown' hg' _ hat')
          case c0 => first | exact news_new _ _ (CT.cells (CT.mk t.ln (t.dy + q3) t.Ad t.cd t.Aa t.ca t.dep t.arr)) | exact fun _ _ h => h
          case c1 => exact CT.one _
          case c2 => simp only [maxLen]; omega
          case c3 => omega
          case c4 => first | omega | (simp; omega)
          have HS9 := Lib.hid (HGS.out.app (x := CT.mk t.ln (t.dy + q3) t.Ad t.cd t.Aa t.ca t.dep t.arr) HTM.out hown' hg')
          have HP9 := Lib.hid (HSTEP.out (CT.mk t.ln (t.dy + q3) t.Ad t.cd t.Aa t.ca t.dep t.arr) rfl (okT_iff.2 ⟨HT.out.1, (show 0 ≤ t.dy + q3 by omega), HT.out.2.2⟩))
          clear hown' hg' hat' y0 y1 y2 y3 hyl HGS HTM
          go_wp2_with fail
          go_roundg (xs.length - j - 1)
          case measure => have := Hj.out; omega
          case rel => exact ⟨j + 1, ts ++ [(CT.mk t.ln (t.dy + q3) t.Ad t.cd t.Aa t.ca t.dep t.arr)], l6.tail, by first | rfl | go_num, by omega, HP9.out, by simp; omega, HS9.out⟩
      have hq1' : (q == 1) = false := by simpa using hq1
      by_cases hq2 : q = 2
      · subst hq2
        have x3 := HX.out.cell 3
        simp at x3
        have hxl := HX.out.lt
        have hle6 := HSB.out.size
        have HR6 := Lib.hid (((HTX.out.kp (Kp.bel (HG.out.bel))).a.r))
        have HGS6 := Lib.hid (Sb.gns HG.out HSR.out HSB.out)
        have HRA := Lib.hid (HTX.out.kp (Kp.bel HGS6.out.bel)).a.r
        have hnil := HTX.out.a.nl
        go_upto_region 12 with (at_builtin; refine wpList_append_any rfl _ _ 23 rfl w6.heap.size 3 i0 _ 1 8 Try.underlying23 HI.out.1 HI.out.2.1 HI.out.2.2.1 HI.out.2.2.2 rfl (by omega) (.slice none 0 0) 0 [] rfl (World.ownsRow_nil _ _ _ _) t.Aa t.arr.length _ w6.heap.size (t.arr.map (Value.int .i64)) rfl hnil HRA.out (fun u hu => by obtain ⟨_, _, rfl⟩ := List.mem_map.1 hu; rfl) ?r1 ?r2 (Nat.le_refl _) ?_; rotate_right; intro v' w' ho' hg' hat'; have HHO := Lib.hid ho'; have HHG := Lib.hid hg'; obtain ⟨A8, c8, hv8, _, _⟩ := own_slice ho'; rw [Nat.zero_add] at hv8; subst hv8; have hxx : Blk w' wr.heap.size 28 #[.int .i64 (t).ln, .int .i64 (t).dy, .slice (t).Ad (t).dep.length (t).cd, .slice (t).Aa (t).arr.length (t).ca] := HX.out.same (hg'.block wr.heap.size hxl (by simp [Value.ownBlock])); have y3 := hxx.cell 3; have g3 := hxx.frozen 3; have hyl := hxx.lt; simp only [List.getElem?_toArray, List.getElem?_cons_succ, List.getElem?_cons_zero] at y3)
        case r1 => simp only [maxLen]; omega
        case r2 => omega
        have ho8 := HHO.out
        rw [Nat.zero_add, List.nil_append] at ho8
        obtain ⟨g8, cc8, hv8, hg80, hg81⟩ := ho8.form (by omega)
        have hA8 : A8 = some ⟨g8, 0, none⟩ ∧ c8 = cc8 := by injection hv8 with e1 _ e2; exact ⟨e1, e2⟩
        obtain ⟨rfl, rfl⟩ := hA8
        have hb8 : Below w6.heap.size w6 w' := Below.grown (Below.refl _ _) HHG.out (Nat.le_refl _) (fun k hk => by simp [Value.ownBlock] at hk)
        have hg8l := (own_block ho8 g8 rfl).1
        have HS8 := Lib.hid (show Src (w'.setCell ⟨wr.heap.size, 3, none⟩ (.slice (some ⟨g8, 0, none⟩) t.arr.length c8)) b l6 from (HSR.out.below hb8 (by omega)).set hbl)
        have HB8 := Lib.hid (show Sb b wr.heap.size wr (w'.setCell ⟨wr.heap.size, 3, none⟩ (.slice (some ⟨g8, 0, none⟩) t.arr.length c8)) from (HSB.out.bel hb8 (by omega)).set (Nat.le_refl _))
        have HX8 := Lib.hid (show Blk (w'.setCell ⟨wr.heap.size, 3, none⟩ (.slice (some ⟨g8, 0, none⟩) t.arr.length c8)) wr.heap.size 28 #[.int .i64 t.ln, .int .i64 t.dy, .slice t.Ad t.dep.length t.cd, .slice (some ⟨g8, 0, none⟩) t.arr.length c8] from by simpa using hxx.set_ 3 (.slice (some ⟨g8, 0, none⟩) t.arr.length c8))
        have HO8 := Lib.hid (show (w'.setCell ⟨wr.heap.size, 3, none⟩ (.slice (some ⟨g8, 0, none⟩) t.arr.length c8)).ownsRow (wr.heap.size + 1) 3 1 (.slice (some ⟨g8, 0, none⟩) t.arr.length c8) t.arr.length (t.arr.map (Value.int .i64)) from own_base (own_far ho8 (own_nb ho8 hxx (by decide))) (by omega))
        clear HHO HHG hxx y3 g3 hyl ho8 hv8 hg80 hg81 hb8 x3 hxl HX HSB HSR HR6 HGS6 HRA hnil ho' hg' hat'
        refine world_gen (fun w8 => Src w8 b l6 ∧ Sb b wr.heap.size wr w8 ∧ Blk w8 wr.heap.size 28 #[.int .i64 t.ln, .int .i64 t.dy, .slice t.Ad t.dep.length t.cd, .slice (some ⟨g8, 0, none⟩) t.arr.length c8] ∧ w8.ownsRow (wr.heap.size + 1) 3 1 (.slice (some ⟨g8, 0, none⟩) t.arr.length c8) t.arr.length (t.arr.map (Value.int .i64))) ⟨HS8.out, HB8.out, HX8.out, HO8.out⟩ ?_
        clear HS8 HB8 HX8 HO8
        rintro w8 ⟨hs8, hb8, hx8, ho8⟩
        have HS8 := Lib.hid hs8
        have HB8 := Lib.hid hb8
        have HX8 := Lib.hid hx8
        have HO8 := Lib.hid ho8
        have x3 := hx8.cell 3
        simp at x3
        have hxl := hx8.lt
        have a0 := own1 ho8 0 (by omega)
        have hgl8 := (own_block ho8 g8 rfl).2
        have hgb8 := (own_block ho8 g8 rfl).1
        generalize t.arr[0] = y0 at *
        clear hs8 hb8 hx8 ho8
        have hgn : g8 ≠ wr.heap.size := by omega
        have ha0 : 0 < t.arr.length := by omega
        have ha0i : (0 : Int) < (t.arr.length : Int) := by omega
        have hbg : b ≠ g8 := by omega
        go_region_law (first | (go_simp; go_at_call 32; refine (next_any b l6 2 _ (HS8.out.drewN 1) (by omega) (by omega)).mono ?_; rintro e w9 ⟨rfl, hsq, htq⟩; have hx9 := (show Blk w8.drew wr.heap.size 28 _ from HX8.out).same (htq.block wr.heap.size (by omega)); have ho9 := own_turn (show w8.drew.ownsRow (wr.heap.size + 1) 3 1 (.slice (some ⟨g8, 0, none⟩) t.arr.length c8) t.arr.length (t.arr.map (Value.int .i64)) from HO8.out) htq (by omega); have y3 := hx9.cell 3; have hyl := hx9.lt; have b0 := (World.cell?_of_block (htq.block g8 (by omega))).trans (show w8.drew.cell? ⟨g8, 0, none⟩ = some (.int .i64 y0) from a0); have hgl9 := (own_block ho9 g8 rfl).2; obtain ⟨cur9, hcur9⟩ := own_blk ho9 (k := g8) rfl; have gf9 := (show Blk w9 g8 3 cur9 from hcur9).frozen 0; simp only [List.getElem?_toArray, List.getElem?_cons_succ, List.getElem?_cons_zero] at y3))
        all_goals
          generalize nextV l6 2 = q2 at *
          have HS9 := Lib.hid (fun u : Value => show Src (w9.setCell ⟨g8, 0, none⟩ u) b l6.tail from hsq.set (by omega))
          have HB9 := Lib.hid (fun u : Value => show Sb b wr.heap.size wr (w9.setCell ⟨g8, 0, none⟩ u) from (HB8.out.turn ⟨htq.os, htq.tape, htq.output, htq.size, htq.block⟩).set (by omega))
          have HX9 := Lib.hid (fun u : Value => show Blk (w9.setCell ⟨g8, 0, none⟩ u) wr.heap.size 28 #[.int .i64 t.ln, .int .i64 t.dy, .slice t.Ad t.dep.length t.cd, .slice (some ⟨g8, 0, none⟩) t.arr.length c8] from hx9.far hgn)
          have HO9 := Lib.hid (fun y : Int => own1_set (f := Value.int .i64) ho9 0 y)
          clear hsq htq hx9 ho9 y3 hyl b0 hgl9 hcur9 gf9 HS8 HB8 HX8 HO8 x3 hxl a0 hgl8
          go_upto_region 13 with fail
          refine world_gen (fun wz => ∃ ar : List Int, ar.length = t.arr.length ∧ Src wz b l6.tail ∧ Sb b wr.heap.size wr wz ∧ Blk wz wr.heap.size 28 #[.int .i64 t.ln, .int .i64 t.dy, .slice t.Ad t.dep.length t.cd, .slice (some ⟨g8, 0, none⟩) t.arr.length c8] ∧ wz.ownsRow (wr.heap.size + 1) 3 1 (.slice (some ⟨g8, 0, none⟩) t.arr.length c8) t.arr.length (ar.map (Value.int .i64))) ⟨t.arr.set 0 _, by simp, HS9.out _, HB9.out _, HX9.out _, HO9.out _⟩ ?_
          clear HS9 HB9 HX9 HO9
          rintro wz ⟨ar, hlen, hs8, hb8, hx8, ho8⟩
          have HSR := Lib.hid hs8
          have HSB := Lib.hid hb8
          rw [← hlen] at hx8 ho8
          have HX := Lib.hid hx8
          have HOZ := Lib.hid ho8
          have HLEN := Lib.hid hlen
          clear hs8 hb8 hx8 ho8 hlen
          have HGS := Lib.hid (Sb.gns HG.out HSR.out HSB.out)
          have HTM := Lib.hid (show TM wz w.heap.size (CT.mk t.ln t.dy t.Ad t.cd (some ⟨g8, 0, none⟩) c8 t.dep ar) from (⟨(HTX.out.kp (Kp.bel HGS.out.bel)).d, IRd.of_own HOZ.out (by rw [HLEN.out]; omega)⟩))
          have hnn := HNL.out
          have hgl := HGS.out.bl
          have y0 := HX.out.cell 0
          have y1 := HX.out.cell 1
          have y2 := HX.out.cell 2
          have y3 := HX.out.cell 3
          simp at y0 y1 y2 y3
          have hyl := HX.out.lt
          go_upto_region 14 with (at_builtin; refine wpList_append_own_at _ rfl _ _ 22 rfl ((b + 1)) 28 iT _ 4 64 Try.underlying22 HIT.out.1 HIT.out.2.1 HIT.out.2.2.1 HIT.out.2.2.2 rfl (by omega) _ (ts.length) _ rfl (World.ownsRow.alloc HGS.out.o _) ⟨(wz).heap.size, 0, none⟩ 1 1 (CT.cells (CT.mk t.ln t.dy t.Ad t.cd (some ⟨g8, 0, none⟩) c8 t.dep ar)) rfl rfl ?c0 ?c1 ?c2 ?c3 ?c4 ?_; rotate_right; intro v' w' hown' hg' _ hat')
          case c0 => first | exact news_new _ _ (CT.cells (CT.mk t.ln t.dy t.Ad t.cd (some ⟨g8, 0, none⟩) c8 t.dep ar)) | exact fun _ _ h => h
          case c1 => exact CT.one _
          case c2 => simp only [maxLen]; omega
          case c3 => omega
          case c4 => first | omega | (simp; omega)
          have HS9 := Lib.hid (HGS.out.app (x := CT.mk t.ln t.dy t.Ad t.cd (some ⟨g8, 0, none⟩) c8 t.dep ar) HTM.out hown' hg')
          have HP9 := Lib.hid (HSTEP.out (CT.mk t.ln t.dy t.Ad t.cd (some ⟨g8, 0, none⟩) c8 t.dep ar) rfl (okT_iff.2 ⟨HT.out.1, HT.out.2.1, by have h := HT.out.2.2; refine ⟨h.1.trans HLEN.out.symm, h.2.1, h.2.2.1, h.2.2.2⟩⟩))
          clear hown' hg' hat' y0 y1 y2 y3 hyl HGS HTM
          go_wp2_with fail
          go_roundg (xs.length - j - 1)
          case measure => have := Hj.out; omega
          case rel => exact ⟨j + 1, ts ++ [(CT.mk t.ln t.dy t.Ad t.cd (some ⟨g8, 0, none⟩) c8 t.dep ar)], l6.tail, by first | rfl | go_num, by omega, HP9.out, by simp; omega, HS9.out⟩
      have hq2' : (q == 2) = false := by simpa using hq2
      have x0 := HX.out.cell 0
      simp at x0
      have HGS := Lib.hid (Sb.gns HG.out HSR.out HSB.out)
      have HTM := Lib.hid (show TM w6 w.heap.size (t) from (HTX.out.kp (Kp.bel HGS.out.bel)))
      have hnn := HNL.out
      have hgl := HGS.out.bl
      have y0 := HX.out.cell 0
      have y1 := HX.out.cell 1
      have y2 := HX.out.cell 2
      have y3 := HX.out.cell 3
      simp at y0 y1 y2 y3
      have hyl := HX.out.lt
      go_upto_region 14 with (at_builtin; refine wpList_append_own_at _ rfl _ _ 22 rfl ((b + 1)) 28 iT _ 4 64 Try.underlying22 HIT.out.1 HIT.out.2.1 HIT.out.2.2.1 HIT.out.2.2.2 rfl (by omega) _ (ts.length) _ rfl (World.ownsRow.alloc HGS.out.o _) ⟨(w6).heap.size, 0, none⟩ 1 1 (CT.cells (t)) rfl rfl ?c0 ?c1 ?c2 ?c3 ?c4 ?_; rotate_right; intro v' w' hown' hg' _ hat')
      case c0 => first | exact news_new _ _ (CT.cells (t)) | exact fun _ _ h => h
      case c1 => exact CT.one _
      case c2 => simp only [maxLen]; omega
      case c3 => omega
      case c4 => first | omega | (simp; omega)
      have HS9 := Lib.hid (HGS.out.app (x := t) HTM.out hown' hg')
      have HP9 := Lib.hid (HSTEP.out (t) rfl (okT_iff.2 HT.out))
      clear hown' hg' hat' y0 y1 y2 y3 hyl HGS HTM
      go_wp2_with fail
      go_roundg (xs.length - j - 1)
      case measure => have := Hj.out; omega
      case rel => exact ⟨j + 1, ts ++ [(t)], l6, by first | rfl | go_num, by omega, HP9.out, by simp; omega, HS9.out⟩
    · have HQ := Lib.hid (show OtQ ts 60 from ⟨HP.out.asc, HP.out.ok⟩)
      have htl5 : ts.length ≤ 5 := by have := Hj.out; omega
      clear HP
      go_wp2_with fail
      refine (next_any b l 3 _ HG.out.src (by omega) (by omega)).mono ?_
      rintro e w3 ⟨rfl, hsq, htq⟩
      have hqq := nextV_bd l 3 (by omega) (by omega)
      generalize nextV l 3 = q at *
      obtain ⟨q0, q1⟩ := hqq
      generalize (l).tail = l3 at *
      have HG3 := Lib.hid (HG.out.turn hsq htq)
      obtain ⟨k0, rfl⟩ : ∃ k0 : Nat, q = (k0 : Int) := ⟨q.toNat, by omega⟩
      clear hsq htq HG
      go_wp2_with fail
      go_loopg [6, 9, 10] k0 (fun k v6 v9 v10 wr => Ot2 w b k v6 v9 v10 wr)
      case atStart => exact ⟨ts, 60, l3, rfl, rfl, by omega, by omega, by omega, by omega, HQ.out, HG3.out⟩
      case round =>
        clear HQ HG3 hlt
        obtain ⟨ts, z, l, rfl, rfl, hk8, hk3, hz0, hz1, hq, hs⟩ := hrel
        rename World => wx
        have HQ := Lib.hid hq
        have HG := Lib.hid hs
        clear hq hs
        obtain ⟨Ao2, co2, rfl, _, _⟩ := own_slice HG.out.o
        by_cases h0 : gk = 0
        · subst h0
          go_wp2_with fail
          go_ret
          have hbw := HG.out.hb
          exact ⟨Ao2, co2, ts, rfl, ⟨own_base HG.out.o (by omega), HG.out.m⟩, by omega, HQ.out.chk (by omega), HG.out.bel⟩
        · obtain ⟨K2, hK2⟩ : ∃ K2, gk = K2 + 1 := ⟨gk - 1, by omega⟩
          subst hK2
          have hpos2 : (0 : Int) < ((K2 + 1 : Nat) : Int) := by omega
          clear h0
          go_wp2_with fail
          refine (next_any b l 5 _ HG.out.src (by omega) (by omega)).mono ?_
          rintro e w4 ⟨rfl, hsq, htq⟩
          have hqq := nextV_bd l 5 (by omega) (by omega)
          generalize nextV l 5 = qa at *
          obtain ⟨qa0, qa1⟩ := hqq
          generalize (l).tail = l4 at *
          have HG4 := Lib.hid (HG.out.turn hsq htq)
          clear hsq htq HG
          go_wp2_with fail
          refine (next_any b l4 3 _ HG4.out.src (by omega) (by omega)).mono ?_
          rintro e w5 ⟨rfl, hsq, htq⟩
          have hqq := nextV_bd l4 3 (by omega) (by omega)
          generalize nextV l4 3 = qb at *
          obtain ⟨qb0, qb1⟩ := hqq
          generalize (l4).tail = l5 at *
          have HG5 := Lib.hid (HG4.out.turn hsq htq)
          clear hsq htq HG4
          have HGA := Lib.hid (HG5.out.grow (((Below.refl w5.heap.size w5).alloc (Nat.le_refl _) (.cells #[.int .i64 (z + (1 + qa))] 3)).alloc (by simp) (.cells #[.int .i64 (z + (1 + qa) + 5)] 3)))
          have HTM := Lib.hid (show TM ((w5.alloc (.cells #[.int .i64 (z + (1 + qa))] 3)).alloc (.cells #[.int .i64 (z + (1 + qa) + 5)] 3)) w.heap.size ⟨qb, 0, some ⟨w5.heap.size, 0, none⟩, 1, some ⟨w5.heap.size + 1, 0, none⟩, 1, [z + (1 + qa)], [z + (1 + qa) + 5]⟩ from ⟨IRd.of_blk1 ((Blk.new w5 3 #[.int .i64 (z + (1 + qa))]).al _), IRd.of_blk1 (by simpa using Blk.new (w5.alloc (.cells #[.int .i64 (z + (1 + qa))] 3)) 3 #[.int .i64 (z + (1 + qa) + 5)])⟩)
          have HQ9 := Lib.hid (HQ.out.step ⟨qb, 0, some ⟨w5.heap.size, 0, none⟩, 1, some ⟨w5.heap.size + 1, 0, none⟩, 1, [z + (1 + qa)], [z + (1 + qa) + 5]⟩ (z' := z + (1 + qa)) (by omega) rfl (okT_iff.2 ⟨(show 0 ≤ qb by omega), (show (0 : Int) ≤ 0 by omega), rfl, (show 1 ≤ 1 by omega), (show 1 ≤ 12 by omega), (show 0 ≤ z + (1 + qa) by omega)⟩))
          have htl8 : ts.length ≤ 8 := by omega
          have hbl5 := HG5.out.bl
          go_wp2_with (at_builtin; refine wpList_append_own_at _ rfl _ _ 22 rfl (b + 1) 28 iT _ 4 64 Try.underlying22 HIT.out.1 HIT.out.2.1 HIT.out.2.2.1 HIT.out.2.2.2 rfl (by omega) _ ts.length _ rfl (World.ownsRow.alloc HGA.out.o _) ⟨w5.heap.size + 2, 0, none⟩ 1 1 (CT.cells ⟨qb, 0, some ⟨w5.heap.size, 0, none⟩, 1, some ⟨w5.heap.size + 1, 0, none⟩, 1, [z + (1 + qa)], [z + (1 + qa) + 5]⟩) rfl rfl ?c0 ?c1 ?c2 ?c3 ?c4 ?_; rotate_right; intro v' w' hown' hg' _ hat')
          case c0 =>
            intro jj u hu
            have h := news_new ((w5.alloc (.cells #[.int .i64 (z + (1 + qa))] 3)).alloc (.cells #[.int .i64 (z + (1 + qa) + 5)] 3)) 28 (CT.cells ⟨qb, 0, some ⟨w5.heap.size, 0, none⟩, 1, some ⟨w5.heap.size + 1, 0, none⟩, 1, [z + (1 + qa)], [z + (1 + qa) + 5]⟩) jj u hu
            first | exact h | (simpa [CT.cells, Addr.add] using h) | (have hs2 : ((w5.alloc (.cells #[.int .i64 (z + (1 + qa))] 3)).alloc (.cells #[.int .i64 (z + (1 + qa) + 5)] 3)).heap.size = w5.heap.size + 2 := (by simp); rw [hs2] at h; exact h)
          case c1 => exact CT.one _
          case c2 => simp only [maxLen]; omega
          case c3 => omega
          case c4 => first | omega | (simp; omega)
          have HS9 := Lib.hid (HGA.out.app HTM.out hown' hg')
          clear hown' hg' hat' HGA HTM HG5
          go_roundg K2
          case measure => omega
          case rel => exact ⟨_, z + (1 + qa), l5, by first | rfl | (congr 1; omega), by first | rfl | (congr 1; omega), by simp; omega, by omega, by omega, by omega, HQ9.out, HS9.out⟩
end Go.Proofs.Ythfifejjfnmpoaa
