import Derived.Test.YthfifejjfnmpoaaTp15
import Derived.Test.YthfifejjfnmpoaaTpMath6
namespace Go.Proofs.Ythfifejjfnmpoaa
open Go.RowKit
def InvOut (es : List CE) (w : World) (e : Ending) (w' : World) : Prop :=
  ∃ (A : Option Addr) (c : Nat) (os : List CE), e = .returned (.slice A os.length c) ∧ EL w' A c os ∧ os.map CE.pe = (es.map CE.pe).map invE ∧ Below w.heap.size w w'
def InvL (w : World) (es : List CE) (k : Nat) (v3 v : Value) (wr : World) : Prop :=
  ∃ (j : Nat) (os : List CE), v = .int .i64 j ∧ j + k = es.length ∧ os.map CE.pe = ((es.map CE.pe).take j).map invE ∧ SdS w wr v3 os j
theorem take_map_step {α β : Type} (f : α → β) (L : List α) (j : Nat) (h : j < L.length) : (L.take (j + 1)).map f = (L.take j).map f ++ [f L[j]] := by
  rw [List.take_succ_eq_append_getElem h, List.map_append]; rfl
set_option maxRecDepth 100000 in
set_option maxHeartbeats 6400000 in
theorem rinv_any (A : Option Addr) (c : Nat) (es : List CE) (w : World) (h : EL w A c es) :
    Calls Try.prog 28 #[.slice A es.length c] w (InvOut es w) := by
  have HE := Lib.hid h
  have hsz := h.sz
  clear h
  obtain ⟨iE, b1, b2, b3, b4⟩ := info_parts infoEd
  have HIE := Lib.hid (And.intro b1 (And.intro b2 (And.intro b3 b4)))
  clear b1 b2 b3 b4
  go_enter Try.func28, Try.ntmps28
  go_wp2_with fail
  go_loopg [3, 5, 6, 9, 17, 19] es.length (fun k v3 _ _ v _ _ wr => InvL w es k v3 v wr)
  case atStart => exact ⟨0, [], rfl, by omega, rfl, ⟨EO.nil _ _, by simp, Below.refl _ _⟩⟩
  case round =>
    obtain ⟨j, os, rfl, hj, hos, hs⟩ := hrel
    have Hj := Lib.hid hj
    have HOS := Lib.hid hos
    have HS0 := Lib.hid hs
    clear hj hos hs
    obtain ⟨Ao, co, rfl⟩ := HS0.out.o.sl
    by_cases hlt : j < es.length
    · have HST := Lib.hid (take_map_step invE (es.map CE.pe) j (by simpa using hlt))
      rw [List.getElem_map] at HST
      obtain ⟨bb, off, rfl, hbb, d0, d1, d2, d3, d4, d5, d6, d7, d8⟩ := rdE (HE.out.r.grow HS0.out.b) rfl j hlt
      have HTM := Lib.hid ((HE.out.m _ (List.getElem_mem hlt)).kp (Kp.bel HS0.out.b))
      generalize es[j] = t at *
      go_upto_region 5 with fail
      refine world_gen (fun w5 => Blk w5 wr.heap.size 40 #[.int .i64 (t).k, .int .i64 (t).o.ln, .int .i64 (t).o.dy, .slice (t).o.Ad (t).o.dep.length (t).o.cd, .slice (t).o.Aa (t).o.arr.length (t).o.ca, .int .i64 (t).n.ln, .int .i64 (t).n.dy, .slice (t).n.Ad (t).n.dep.length (t).n.cd, .slice (t).n.Aa (t).n.arr.length (t).n.ca] ∧ Below wr.heap.size wr w5) ⟨Blk.new wr _ _, (by repeat (first | exact Below.refl _ _ | (with_reducible refine Below.drew ?_) | (with_reducible refine below_drewN ?_ _) | (with_reducible refine Below.alloc ?_ (by first | omega | (simp; done) | (simp; omega)) _) | (with_reducible refine Below.setCell ?_ (by first | omega | (simp; done) | (simp; omega)) _) | (refine Below.trans ?_ (Below.mono (by with_reducible assumption) (by first | omega | (simp; done) | (simp; omega))))))⟩ ?_
      rintro w5 ⟨hx5, hb5⟩
      have HX := Lib.hid hx5
      have HS := Lib.hid (HS0.out.bel hb5)
      have HTM5 := Lib.hid (HTM.out.kp (Kp.bel hb5))
      clear d0 d1 d2 d3 d4 d5 d6 d7 d8 hx5 hb5 HS0 HTM
      by_cases hk1 : t.k = 1
      · have hk1' : (t.k == 1) = true := by simpa using hk1
        have HEM := Lib.hid (show EM w5 w.heap.size (CE.mk 2 t.n t.o) from ⟨HTM5.out.n, HTM5.out.o⟩)
        have HPE := Lib.hid (show CE.pe (CE.mk 2 t.n t.o) = invE t.pe by unfold invE CE.pe; simp [hk1])
        clear hk1
        have x0 := HX.out.cell 0
        have x1 := HX.out.cell 1
        have x2 := HX.out.cell 2
        have x3 := HX.out.cell 3
        have x4 := HX.out.cell 4
        have x5 := HX.out.cell 5
        have x6 := HX.out.cell 6
        have x7 := HX.out.cell 7
        have x8 := HX.out.cell 8
        simp at x0 x1 x2 x3 x4 x5 x6 x7 x8
        have hxl := HX.out.lt
        have hnn := HS.out.n
        have hll := HS.out.b.size
        go_upto_region 12 with (at_builtin; refine wpList_append_own_at _ rfl _ _ 33 rfl (w.heap.size) 40 iE _ 9 136 Try.underlying33 HIE.out.1 HIE.out.2.1 HIE.out.2.2.1 HIE.out.2.2.2 rfl (by omega) _ (os.length) _ rfl (World.ownsRow.alloc HS.out.o.o _) ⟨(w5).heap.size, 0, none⟩ 1 1 (CE.cells (CE.mk 2 t.n t.o)) rfl rfl ?c0 ?c1 ?c2 ?c3 ?c4 ?_; rotate_right; intro v' w' hown' hg' _ hat')
        case c0 => first | exact news_new _ _ (CE.cells (CE.mk 2 t.n t.o)) | exact fun _ _ h => h
        case c1 => exact CE.one _
        case c2 => simp only [maxLen]; omega
        case c3 => omega
        case c4 => first | omega | (simp; omega)
        have HS9 := Lib.hid (HS.out.app (x := CE.mk 2 t.n t.o) HEM.out hown' hg')
        have HP9 := Lib.hid (show (os ++ [CE.mk 2 t.n t.o]).map CE.pe = ((es.map CE.pe).take (j + 1)).map invE by
          rw [HST.out, List.map_append, HOS.out]
          show _ ++ [CE.pe (CE.mk 2 t.n t.o)] = _
          rw [HPE.out])
        clear hown' hg' hat' x0 x1 x2 x3 x4 x5 x6 x7 x8 hxl
        go_wp2_with fail
        go_roundg (es.length - j - 1)
        case measure => have := Hj.out; omega
        case rel => exact ⟨j + 1, os ++ [CE.mk 2 t.n t.o], by first | rfl | go_num, by omega, HP9.out, HS9.out⟩
      have hk1' : (t.k == 1) = false := by simpa using hk1
      by_cases hk2 : t.k = 2
      · have hk2' : (t.k == 2) = true := by simpa using hk2
        have HEM := Lib.hid (show EM w5 w.heap.size (CE.mk 1 t.n t.o) from ⟨HTM5.out.n, HTM5.out.o⟩)
        have HPE := Lib.hid (show CE.pe (CE.mk 1 t.n t.o) = invE t.pe by unfold invE CE.pe; simp [hk2])
        clear hk1 hk2
        have x0 := HX.out.cell 0
        have x1 := HX.out.cell 1
        have x2 := HX.out.cell 2
        have x3 := HX.out.cell 3
        have x4 := HX.out.cell 4
        have x5 := HX.out.cell 5
        have x6 := HX.out.cell 6
        have x7 := HX.out.cell 7
        have x8 := HX.out.cell 8
        simp at x0 x1 x2 x3 x4 x5 x6 x7 x8
        have hxl := HX.out.lt
        have hnn := HS.out.n
        have hll := HS.out.b.size
        go_upto_region 12 with (at_builtin; refine wpList_append_own_at _ rfl _ _ 33 rfl (w.heap.size) 40 iE _ 9 136 Try.underlying33 HIE.out.1 HIE.out.2.1 HIE.out.2.2.1 HIE.out.2.2.2 rfl (by omega) _ (os.length) _ rfl (World.ownsRow.alloc HS.out.o.o _) ⟨(w5).heap.size, 0, none⟩ 1 1 (CE.cells (CE.mk 1 t.n t.o)) rfl rfl ?c0 ?c1 ?c2 ?c3 ?c4 ?_; rotate_right; intro v' w' hown' hg' _ hat')
        case c0 => first | exact news_new _ _ (CE.cells (CE.mk 1 t.n t.o)) | exact fun _ _ h => h
        case c1 => exact CE.one _
        case c2 => simp only [maxLen]; omega
        case c3 => omega
        case c4 => first | omega | (simp; omega)
        have HS9 := Lib.hid (HS.out.app (x := CE.mk 1 t.n t.o) HEM.out hown' hg')
        have HP9 := Lib.hid (show (os ++ [CE.mk 1 t.n t.o]).map CE.pe = ((es.map CE.pe).take (j + 1)).map invE by
          rw [HST.out, List.map_append, HOS.out]
          show _ ++ [CE.pe (CE.mk 1 t.n t.o)] = _
          rw [HPE.out])
        clear hown' hg' hat' x0 x1 x2 x3 x4 x5 x6 x7 x8 hxl
        go_wp2_with fail
        go_roundg (es.length - j - 1)
        case measure => have := Hj.out; omega
        case rel => exact ⟨j + 1, os ++ [CE.mk 1 t.n t.o], by first | rfl | go_num, by omega, HP9.out, HS9.out⟩
      have hk2' : (t.k == 2) = false := by simpa using hk2
      have HEM := Lib.hid (show EM w5 w.heap.size (CE.mk t.k t.n t.o) from ⟨HTM5.out.n, HTM5.out.o⟩)
      have HPE := Lib.hid (show CE.pe (CE.mk t.k t.n t.o) = invE t.pe by unfold invE CE.pe; simp [hk1, hk2])
      clear hk1 hk2
      have x0 := HX.out.cell 0
      have x1 := HX.out.cell 1
      have x2 := HX.out.cell 2
      have x3 := HX.out.cell 3
      have x4 := HX.out.cell 4
      have x5 := HX.out.cell 5
      have x6 := HX.out.cell 6
      have x7 := HX.out.cell 7
      have x8 := HX.out.cell 8
      simp at x0 x1 x2 x3 x4 x5 x6 x7 x8
      have hxl := HX.out.lt
      have hnn := HS.out.n
      have hll := HS.out.b.size
      go_upto_region 12 with (at_builtin; refine wpList_append_own_at _ rfl _ _ 33 rfl (w.heap.size) 40 iE _ 9 136 Try.underlying33 HIE.out.1 HIE.out.2.1 HIE.out.2.2.1 HIE.out.2.2.2 rfl (by omega) _ (os.length) _ rfl (World.ownsRow.alloc HS.out.o.o _) ⟨(w5).heap.size, 0, none⟩ 1 1 (CE.cells (CE.mk t.k t.n t.o)) rfl rfl ?c0 ?c1 ?c2 ?c3 ?c4 ?_; rotate_right; intro v' w' hown' hg' _ hat')
      case c0 => first | exact news_new _ _ (CE.cells (CE.mk t.k t.n t.o)) | exact fun _ _ h => h
      case c1 => exact CE.one _
      case c2 => simp only [maxLen]; omega
      case c3 => omega
      case c4 => first | omega | (simp; omega)
      have HS9 := Lib.hid (HS.out.app (x := CE.mk t.k t.n t.o) HEM.out hown' hg')
      have HP9 := Lib.hid (show (os ++ [CE.mk t.k t.n t.o]).map CE.pe = ((es.map CE.pe).take (j + 1)).map invE by
        rw [HST.out, List.map_append, HOS.out]
        show _ ++ [CE.pe (CE.mk t.k t.n t.o)] = _
        rw [HPE.out])
      clear hown' hg' hat' x0 x1 x2 x3 x4 x5 x6 x7 x8 hxl
      go_wp2_with fail
      go_roundg (es.length - j - 1)
      case measure => have := Hj.out; omega
      case rel => exact ⟨j + 1, os ++ [CE.mk t.k t.n t.o], by first | rfl | go_num, by omega, HP9.out, HS9.out⟩
    · have HF := Lib.hid (show os.map CE.pe = (es.map CE.pe).map invE by rw [HOS.out, List.take_of_length_le (by simp; omega)])
      have hn := HS0.out.n
      have hje : j ≤ es.length := by have := Hj.out; omega
      go_wp2_with fail
      go_ret
      exact ⟨Ao, co, os, rfl, HS0.out.o.el (by omega), HF.out, HS0.out.b⟩
end Go.Proofs.Ythfifejjfnmpoaa
