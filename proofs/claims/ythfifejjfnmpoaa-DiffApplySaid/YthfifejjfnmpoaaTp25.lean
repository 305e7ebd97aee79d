import Derived.Test.YthfifejjfnmpoaaTp24
import Derived.Test.YthfifejjfnmpoaaTp9
namespace Go.Proofs.Ythfifejjfnmpoaa
open Go.RowKit
theorem below_st9 {n b : Nat} {w w' : World} {u0 u1 u2 u3 u4 u5 u6 u7 u8 : Value} (h : Below n w w') (hb : n ≤ b) : Below n w (((((((((w'.setCell ⟨b, 0, none⟩ u0).setCell ⟨b, 1, none⟩ u1).setCell ⟨b, 2, none⟩ u2).setCell ⟨b, 3, none⟩ u3).setCell ⟨b, 4, none⟩ u4).setCell ⟨b, 5, none⟩ u5).setCell ⟨b, 6, none⟩ u6).setCell ⟨b, 7, none⟩ u7).setCell ⟨b, 8, none⟩ u8) :=
  ((((((((h.setCell hb _).setCell hb _).setCell hb _).setCell hb _).setCell hb _).setCell hb _).setCell hb _).setCell hb _).setCell hb _
theorem below_st18 {n b : Nat} {w w' : World} {u1 u2 u3 u4 u5 u6 u7 u8 : Value} (h : Below n w w') (hb : n ≤ b) : Below n w ((((((((w'.setCell ⟨b, 1, none⟩ u1).setCell ⟨b, 2, none⟩ u2).setCell ⟨b, 3, none⟩ u3).setCell ⟨b, 4, none⟩ u4).setCell ⟨b, 5, none⟩ u5).setCell ⟨b, 6, none⟩ u6).setCell ⟨b, 7, none⟩ u7).setCell ⟨b, 8, none⟩ u8) :=
  (((((((h.setCell hb _).setCell hb _).setCell hb _).setCell hb _).setCell hb _).setCell hb _).setCell hb _).setCell hb _
set_option maxRecDepth 100000 in
set_option maxHeartbeats 12800000 in
theorem inv_any (A : Option Addr) (c : Nat) (es : List CE) (w : World) (h : EL w A c es) :
    Calls Try.prog 27 #[.slice A es.length c] w (InvOut es w) := by
  have HE := Lib.hid h
  have hsz := h.sz
  clear h
  obtain ⟨iE, b1, b2, b3, b4⟩ := info_parts infoEd
  have HIE := Lib.hid (And.intro b1 (And.intro b2 (And.intro b3 b4)))
  clear b1 b2 b3 b4
  go_enter Try.func27, Try.ntmps27
  go_wp2_with fail
  go_loopg [3, 5, 8, 22, 25] es.length (fun k v3 _ v _ _ wr => InvL w es k v3 v wr)
  case atStart => exact ⟨0, [], rfl, by omega, rfl, ⟨EO.nil _ _, by simp, Below.refl _ _⟩⟩
  case round =>
    obtain ⟨j, os, rfl, hj, hos, hs⟩ := hrel
    have Hj := Lib.hid hj
    have HOS := Lib.hid hos
    have HS0 := Lib.hid hs
    clear hj hos hs
    obtain ⟨Ao, co, rfl⟩ := HS0.out.o.sl
    by_cases hlt : j < es.length
    · have HST := Lib.hid (take_map_step invE (es.map CE.pe) j (by simpa using hlt))
      rw [List.getElem_map] at HST
      obtain ⟨bb, off, rfl, hbb, d0, d1, d2, d3, d4, d5, d6, d7, d8⟩ := rdE (HE.out.r.grow HS0.out.b) rfl j hlt
      have HTM := Lib.hid ((HE.out.m _ (List.getElem_mem hlt)).kp (Kp.bel HS0.out.b)).top
      generalize es[j] = t at *
      go_upto_region 5 with fail
      refine world_gen (fun w5 => Blk w5 wr.heap.size 40 #[.int .i64 (t).k, .int .i64 (t).o.ln, .int .i64 (t).o.dy, .slice (t).o.Ad (t).o.dep.length (t).o.cd, .slice (t).o.Aa (t).o.arr.length (t).o.ca, .int .i64 (t).n.ln, .int .i64 (t).n.dy, .slice (t).n.Ad (t).n.dep.length (t).n.cd, .slice (t).n.Aa (t).n.arr.length (t).n.ca] ∧ Below wr.heap.size wr w5) ⟨Blk.new wr _ _, (by repeat (first | exact Below.refl _ _ | (with_reducible refine Below.drew ?_) | (with_reducible refine below_drewN ?_ _) | (with_reducible refine Below.alloc ?_ (by first | omega | (simp; done) | (simp; omega)) _) | (with_reducible refine Below.setCell ?_ (by first | omega | (simp; done) | (simp; omega)) _) | (refine Below.trans ?_ (Below.mono (by with_reducible assumption) (by first | omega | (simp; done) | (simp; omega))))))⟩ ?_
      rintro w5 ⟨hx5, hb5⟩
      have HX5 := Lib.hid hx5
      have HB5 := Lib.hid hb5
      have HTM5 := Lib.hid (HTM.out.go hb5)
      have x0 := hx5.cell 0
      have x1 := hx5.cell 1
      have x2 := hx5.cell 2
      have x3 := hx5.cell 3
      have x4 := hx5.cell 4
      have x5 := hx5.cell 5
      have x6 := hx5.cell 6
      have x7 := hx5.cell 7
      have x8 := hx5.cell 8
      simp at x0 x1 x2 x3 x4 x5 x6 x7 x8
      have hxl := hx5.lt
      clear d0 d1 d2 d3 d4 d5 d6 d7 d8 hx5 hb5 HTM
      go_wp2_with fail
      refine (cloneE_any t _ HTM5.out).mono ?_
      rintro r w6 ⟨u, rfl, hp6, hm6, hb6⟩
      have HP := Lib.hid hp6
      have HM6 := Lib.hid hm6
      have HB6 := Lib.hid (HB5.out.trans (hb6.mono HB5.out.size))
      have HX6 := Lib.hid (HX5.out.bel hb6)
      clear x0 x1 x2 x3 x4 x5 x6 x7 x8 hxl hp6 hm6 hb6 HX5 HB5 HTM5
      have v0 := HX6.out.cell 0
      have v1 := HX6.out.cell 1
      have v2 := HX6.out.cell 2
      have v3 := HX6.out.cell 3
      have v4 := HX6.out.cell 4
      have v5 := HX6.out.cell 5
      have v6 := HX6.out.cell 6
      have v7 := HX6.out.cell 7
      have v8 := HX6.out.cell 8
      have g0 := HX6.out.frozen 0
      have g1 := HX6.out.frozen 1
      have g2 := HX6.out.frozen 2
      have g3 := HX6.out.frozen 3
      have g4 := HX6.out.frozen 4
      have g5 := HX6.out.frozen 5
      have g6 := HX6.out.frozen 6
      have g7 := HX6.out.frozen 7
      have g8 := HX6.out.frozen 8
      simp only [List.getElem?_toArray, List.getElem?_cons_succ, List.getElem?_cons_zero] at v0 v1 v2 v3 v4 v5 v6 v7 v8
      have hl9 := HX6.out.lt
      go_upto_region 6 with fail
      refine world_gen (fun w7 => Blk w7 wr.heap.size 40 #[.int .i64 (u).k, .int .i64 (u).o.ln, .int .i64 (u).o.dy, .slice (u).o.Ad (u).o.dep.length (u).o.cd, .slice (u).o.Aa (u).o.arr.length (u).o.ca, .int .i64 (u).n.ln, .int .i64 (u).n.dy, .slice (u).n.Ad (u).n.dep.length (u).n.cd, .slice (u).n.Aa (u).n.arr.length (u).n.ca] ∧ Below wr.heap.size wr w7 ∧ EM w7 0 u) ⟨HX6.out.st9, below_st9 HB6.out (Nat.le_refl _), HM6.out.kp (HX6.out.kst9 (by decide) (Nat.zero_le _))⟩ ?_
      rintro w7 ⟨hx7, hb7, hm7⟩
      have HX7 := Lib.hid hx7
      have HB7 := Lib.hid hb7
      have HM7 := Lib.hid hm7
      clear v0 v1 v2 v3 v4 v5 v6 v7 v8 g0 g1 g2 g3 g4 g5 g6 g7 g8 hl9 hx7 hb7 hm7 HX6 HB6 HM6
      have v0 := HX7.out.cell 0
      have v1 := HX7.out.cell 1
      have v2 := HX7.out.cell 2
      have v3 := HX7.out.cell 3
      have v4 := HX7.out.cell 4
      have v5 := HX7.out.cell 5
      have v6 := HX7.out.cell 6
      have v7 := HX7.out.cell 7
      have v8 := HX7.out.cell 8
      have g0 := HX7.out.frozen 0
      have g1 := HX7.out.frozen 1
      have g2 := HX7.out.frozen 2
      have g3 := HX7.out.frozen 3
      have g4 := HX7.out.frozen 4
      have g5 := HX7.out.frozen 5
      have g6 := HX7.out.frozen 6
      have g7 := HX7.out.frozen 7
      have g8 := HX7.out.frozen 8
      simp only [List.getElem?_toArray, List.getElem?_cons_succ, List.getElem?_cons_zero] at v0 v1 v2 v3 v4 v5 v6 v7 v8
      have hl9 := HX7.out.lt
      go_upto_region 7 with fail
      refine world_gen (fun w8 => Blk w8 wr.heap.size 40 #[.int .i64 (CE.mk u.k u.n u.o).k, .int .i64 (CE.mk u.k u.n u.o).o.ln, .int .i64 (CE.mk u.k u.n u.o).o.dy, .slice (CE.mk u.k u.n u.o).o.Ad (CE.mk u.k u.n u.o).o.dep.length (CE.mk u.k u.n u.o).o.cd, .slice (CE.mk u.k u.n u.o).o.Aa (CE.mk u.k u.n u.o).o.arr.length (CE.mk u.k u.n u.o).o.ca, .int .i64 (CE.mk u.k u.n u.o).n.ln, .int .i64 (CE.mk u.k u.n u.o).n.dy, .slice (CE.mk u.k u.n u.o).n.Ad (CE.mk u.k u.n u.o).n.dep.length (CE.mk u.k u.n u.o).n.cd, .slice (CE.mk u.k u.n u.o).n.Aa (CE.mk u.k u.n u.o).n.arr.length (CE.mk u.k u.n u.o).n.ca] ∧ Below wr.heap.size wr w8 ∧ EM w8 0 ⟨u.k, u.n, u.o⟩) ⟨HX7.out.st18, below_st18 HB7.out (Nat.le_refl _), ⟨HM7.out.n.kp (HX7.out.kst18 (by decide) (Nat.zero_le _)), HM7.out.o.kp (HX7.out.kst18 (by decide) (Nat.zero_le _))⟩⟩ ?_
      rintro w8 ⟨hx8, hb8, hm8⟩
      have HX8 := Lib.hid hx8
      have HB8 := Lib.hid hb8
      have HM8 := Lib.hid hm8
      clear v0 v1 v2 v3 v4 v5 v6 v7 v8 g0 g1 g2 g3 g4 g5 g6 g7 g8 hl9 hx8 hb8 hm8 HX7 HB7 HM7
      have v0 := HX8.out.cell 0
      have g0 := HX8.out.frozen 0
      simp only [List.getElem?_toArray, List.getElem?_cons_zero] at v0
      have hl9 := HX8.out.lt
      by_cases hk1 : u.k = 1
      · have hk1' : (u.k == 1) = true := by simpa using hk1
        have hk2' : (u.k == 2) = false := by simp [hk1]
        have HPE := Lib.hid (show CE.pe (CE.mk 2 u.n u.o) = invE t.pe by rw [← HP.out]; unfold invE CE.pe; simp [hk1])
        clear hk1
        try clear hk2
        go_upto_region 12 with fail
        refine world_gen (fun w9 => Blk w9 wr.heap.size 40 #[.int .i64 (CE.mk 2 u.n u.o).k, .int .i64 (CE.mk 2 u.n u.o).o.ln, .int .i64 (CE.mk 2 u.n u.o).o.dy, .slice (CE.mk 2 u.n u.o).o.Ad (CE.mk 2 u.n u.o).o.dep.length (CE.mk 2 u.n u.o).o.cd, .slice (CE.mk 2 u.n u.o).o.Aa (CE.mk 2 u.n u.o).o.arr.length (CE.mk 2 u.n u.o).o.ca, .int .i64 (CE.mk 2 u.n u.o).n.ln, .int .i64 (CE.mk 2 u.n u.o).n.dy, .slice (CE.mk 2 u.n u.o).n.Ad (CE.mk 2 u.n u.o).n.dep.length (CE.mk 2 u.n u.o).n.cd, .slice (CE.mk 2 u.n u.o).n.Aa (CE.mk 2 u.n u.o).n.arr.length (CE.mk 2 u.n u.o).n.ca] ∧ Below wr.heap.size wr w9 ∧ EM w9 0 ⟨2, u.n, u.o⟩) ⟨by simpa using HX8.out.set_ 0 (.int .i64 2), HB8.out.setCell (Nat.le_refl _) _, ⟨HM8.out.o.kp (Kp.set HX8.out (by decide) (Nat.zero_le _)), HM8.out.n.kp (Kp.set HX8.out (by decide) (Nat.zero_le _))⟩⟩ ?_
        rintro w9 ⟨hx9, hb9, hm9⟩
        have HX := Lib.hid hx9
        have HS := Lib.hid (HS0.out.bel hb9)
        have HEM := Lib.hid (show EM w9 w.heap.size (CE.mk 2 u.n u.o) from hm9.up (Nat.zero_le _))
        clear hx9 hb9 hm9 HX8 HB8 HM8 HS0 v0 g0 hl9
        have x0 := HX.out.cell 0
        have x1 := HX.out.cell 1
        have x2 := HX.out.cell 2
        have x3 := HX.out.cell 3
        have x4 := HX.out.cell 4
        have x5 := HX.out.cell 5
        have x6 := HX.out.cell 6
        have x7 := HX.out.cell 7
        have x8 := HX.out.cell 8
        simp at x0 x1 x2 x3 x4 x5 x6 x7 x8
        have hxl := HX.out.lt
        have hnn := HS.out.n
        have hll := HS.out.b.size
        go_upto_region 13 with (at_builtin; refine wpList_append_own_at _ rfl _ _ 33 rfl (w.heap.size) 40 iE _ 9 136 Try.underlying33 HIE.out.1 HIE.out.2.1 HIE.out.2.2.1 HIE.out.2.2.2 rfl (by omega) _ (os.length) _ rfl (World.ownsRow.alloc HS.out.o.o _) ⟨(w9).heap.size, 0, none⟩ 1 1 (CE.cells (CE.mk 2 u.n u.o)) rfl rfl ?c0 ?c1 ?c2 ?c3 ?c4 ?_; rotate_right; intro v' w' hown' hg' _ hat')
        case c0 => first | exact news_new _ _ (CE.cells (CE.mk 2 u.n u.o)) | exact fun _ _ h => h
        case c1 => exact CE.one _
        case c2 => simp only [maxLen]; omega
        case c3 => omega
        case c4 => first | omega | (simp; omega)
        have HS9 := Lib.hid (HS.out.app (x := CE.mk 2 u.n u.o) HEM.out hown' hg')
        have HP9 := Lib.hid (show (os ++ [CE.mk 2 u.n u.o]).map CE.pe = ((es.map CE.pe).take (j + 1)).map invE by
          rw [HST.out, List.map_append, HOS.out]
          show _ ++ [CE.pe (CE.mk 2 u.n u.o)] = _
          rw [HPE.out])
        clear hown' hg' hat' x0 x1 x2 x3 x4 x5 x6 x7 x8 hxl
        go_wp2_with fail
        go_roundg (es.length - j - 1)
        case measure => have := Hj.out; omega
        case rel => exact ⟨j + 1, os ++ [CE.mk 2 u.n u.o], by first | rfl | go_num, by omega, HP9.out, HS9.out⟩
      have hk1' : (u.k == 1) = false := by simpa using hk1
      by_cases hk2 : u.k = 2
      · have hk2' : (u.k == 2) = true := by simpa using hk2
        have HPE := Lib.hid (show CE.pe (CE.mk 1 u.n u.o) = invE t.pe by rw [← HP.out]; unfold invE CE.pe; simp [hk2])
        clear hk1
        try clear hk2
        go_upto_region 12 with fail
        refine world_gen (fun w9 => Blk w9 wr.heap.size 40 #[.int .i64 (CE.mk 1 u.n u.o).k, .int .i64 (CE.mk 1 u.n u.o).o.ln, .int .i64 (CE.mk 1 u.n u.o).o.dy, .slice (CE.mk 1 u.n u.o).o.Ad (CE.mk 1 u.n u.o).o.dep.length (CE.mk 1 u.n u.o).o.cd, .slice (CE.mk 1 u.n u.o).o.Aa (CE.mk 1 u.n u.o).o.arr.length (CE.mk 1 u.n u.o).o.ca, .int .i64 (CE.mk 1 u.n u.o).n.ln, .int .i64 (CE.mk 1 u.n u.o).n.dy, .slice (CE.mk 1 u.n u.o).n.Ad (CE.mk 1 u.n u.o).n.dep.length (CE.mk 1 u.n u.o).n.cd, .slice (CE.mk 1 u.n u.o).n.Aa (CE.mk 1 u.n u.o).n.arr.length (CE.mk 1 u.n u.o).n.ca] ∧ Below wr.heap.size wr w9 ∧ EM w9 0 ⟨1, u.n, u.o⟩) ⟨by simpa using HX8.out.set_ 0 (.int .i64 1), HB8.out.setCell (Nat.le_refl _) _, ⟨HM8.out.o.kp (Kp.set HX8.out (by decide) (Nat.zero_le _)), HM8.out.n.kp (Kp.set HX8.out (by decide) (Nat.zero_le _))⟩⟩ ?_
        rintro w9 ⟨hx9, hb9, hm9⟩
        have HX := Lib.hid hx9
        have HS := Lib.hid (HS0.out.bel hb9)
        have HEM := Lib.hid (show EM w9 w.heap.size (CE.mk 1 u.n u.o) from hm9.up (Nat.zero_le _))
        clear hx9 hb9 hm9 HX8 HB8 HM8 HS0 v0 g0 hl9
        have x0 := HX.out.cell 0
        have x1 := HX.out.cell 1
        have x2 := HX.out.cell 2
        have x3 := HX.out.cell 3
        have x4 := HX.out.cell 4
        have x5 := HX.out.cell 5
        have x6 := HX.out.cell 6
        have x7 := HX.out.cell 7
        have x8 := HX.out.cell 8
        simp at x0 x1 x2 x3 x4 x5 x6 x7 x8
        have hxl := HX.out.lt
        have hnn := HS.out.n
        have hll := HS.out.b.size
        go_upto_region 13 with (at_builtin; refine wpList_append_own_at _ rfl _ _ 33 rfl (w.heap.size) 40 iE _ 9 136 Try.underlying33 HIE.out.1 HIE.out.2.1 HIE.out.2.2.1 HIE.out.2.2.2 rfl (by omega) _ (os.length) _ rfl (World.ownsRow.alloc HS.out.o.o _) ⟨(w9).heap.size, 0, none⟩ 1 1 (CE.cells (CE.mk 1 u.n u.o)) rfl rfl ?c0 ?c1 ?c2 ?c3 ?c4 ?_; rotate_right; intro v' w' hown' hg' _ hat')
        case c0 => first | exact news_new _ _ (CE.cells (CE.mk 1 u.n u.o)) | exact fun _ _ h => h
        case c1 => exact CE.one _
        case c2 => simp only [maxLen]; omega
        case c3 => omega
        case c4 => first | omega | (simp; omega)
        have HS9 := Lib.hid (HS.out.app (x := CE.mk 1 u.n u.o) HEM.out hown' hg')
        have HP9 := Lib.hid (show (os ++ [CE.mk 1 u.n u.o]).map CE.pe = ((es.map CE.pe).take (j + 1)).map invE by
          rw [HST.out, List.map_append, HOS.out]
          show _ ++ [CE.pe (CE.mk 1 u.n u.o)] = _
          rw [HPE.out])
        clear hown' hg' hat' x0 x1 x2 x3 x4 x5 x6 x7 x8 hxl
        go_wp2_with fail
        go_roundg (es.length - j - 1)
        case measure => have := Hj.out; omega
        case rel => exact ⟨j + 1, os ++ [CE.mk 1 u.n u.o], by first | rfl | go_num, by omega, HP9.out, HS9.out⟩
      have hk2' : (u.k == 2) = false := by simpa using hk2
      have HEM := Lib.hid (show EM w8 w.heap.size (CE.mk u.k u.n u.o) from HM8.out.up (Nat.zero_le _))
      have HPE := Lib.hid (show CE.pe (CE.mk u.k u.n u.o) = invE t.pe by rw [← HP.out]; unfold invE CE.pe; simp [hk1, hk2])
      have HX := Lib.hid HX8.out
      have HS := Lib.hid (HS0.out.bel HB8.out)
      clear hk1 hk2 HX8 HB8 HM8 HS0 v0 g0 hl9
      have x0 := HX.out.cell 0
      have x1 := HX.out.cell 1
      have x2 := HX.out.cell 2
      have x3 := HX.out.cell 3
      have x4 := HX.out.cell 4
      have x5 := HX.out.cell 5
      have x6 := HX.out.cell 6
      have x7 := HX.out.cell 7
      have x8 := HX.out.cell 8
      simp at x0 x1 x2 x3 x4 x5 x6 x7 x8
      have hxl := HX.out.lt
      have hnn := HS.out.n
      have hll := HS.out.b.size
      go_upto_region 13 with (at_builtin; refine wpList_append_own_at _ rfl _ _ 33 rfl (w.heap.size) 40 iE _ 9 136 Try.underlying33 HIE.out.1 HIE.out.2.1 HIE.out.2.2.1 HIE.out.2.2.2 rfl (by omega) _ (os.length) _ rfl (World.ownsRow.alloc HS.out.o.o _) ⟨(w8).heap.size, 0, none⟩ 1 1 (CE.cells (CE.mk u.k u.n u.o)) rfl rfl ?c0 ?c1 ?c2 ?c3 ?c4 ?_; rotate_right; intro v' w' hown' hg' _ hat')
      case c0 => first | exact news_new _ _ (CE.cells (CE.mk u.k u.n u.o)) | exact fun _ _ h => h
      case c1 => exact CE.one _
      case c2 => simp only [maxLen]; omega
      case c3 => omega
      case c4 => first | omega | (simp; omega)
      have HS9 := Lib.hid (HS.out.app (x := CE.mk u.k u.n u.o) HEM.out hown' hg')
      have HP9 := Lib.hid (show (os ++ [CE.mk u.k u.n u.o]).map CE.pe = ((es.map CE.pe).take (j + 1)).map invE by
        rw [HST.out, List.map_append, HOS.out]
        show _ ++ [CE.pe (CE.mk u.k u.n u.o)] = _
        rw [HPE.out])
      clear hown' hg' hat' x0 x1 x2 x3 x4 x5 x6 x7 x8 hxl
      go_wp2_with fail
      go_roundg (es.length - j - 1)
      case measure => have := Hj.out; omega
      case rel => exact ⟨j + 1, os ++ [CE.mk u.k u.n u.o], by first | rfl | go_num, by omega, HP9.out, HS9.out⟩
    · have HF := Lib.hid (show os.map CE.pe = (es.map CE.pe).map invE by rw [HOS.out, List.take_of_length_le (by simp; omega)])
      have hn := HS0.out.n
      have hje : j ≤ es.length := by have := Hj.out; omega
      go_wp2_with fail
      go_ret
      exact ⟨Ao, co, os, rfl, HS0.out.o.el (by omega), HF.out, HS0.out.b⟩
end Go.Proofs.Ythfifejjfnmpoaa
