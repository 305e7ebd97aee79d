import Derived.Test.YthfifejjfnmpoaaTp14
import Derived.Test.YthfifejjfnmpoaaTp8
namespace Go.Proofs.Ythfifejjfnmpoaa
open Go.RowKit
structure SdS (w : World) (wr : World) (v : Value) (es : List CE) (n : Nat) : Prop where
  o : EO wr w.heap.size v es
  n : es.length ≤ n
  b : Below w.heap.size w wr
section
variable {w wr w' : World} {v v' : Value} {es : List CE} {n : Nat}
theorem SdS.bel (h : SdS w wr v es n) (hb : Below wr.heap.size wr w') : SdS w w' v es n := ⟨h.o.bel hb, h.n, h.b.trans (hb.mono h.b.size)⟩
theorem SdS.more {n' : Nat} (h : SdS w wr v es n) (hn : n ≤ n') : SdS w wr v es n' := ⟨h.o, Nat.le_trans h.n hn, h.b⟩
theorem SdS.app {o : Obj} {x : CE} (h : SdS w wr v es n) (hx : EM wr w.heap.size x) (ho : w'.ownsRow w.heap.size 40 9 v' (es.length + 1) (es.flatMap CE.cells ++ x.cells)) (hg : (wr.alloc o).grownBy w' v.ownBlock) : SdS w w' v' (es ++ [x]) (n + 1) := by
  have hb : Below wr.heap.size wr (wr.alloc o) := (Below.refl _ _).alloc (Nat.le_refl _) _
  refine ⟨(h.o.bel hb).app (hx.kp (Kp.bel hb)) ho hg, by have := h.n; simp; omega, ?_⟩
  exact (h.b.alloc h.b.size _).grown hg (by have := h.b.size; simp; omega) (fun k hk => (own_block h.o.o k hk).1)
end
theorem dM_b (b : PT) (q : List PT) : diffM [] (b :: q) = ⟨1, zeroT, b⟩ :: diffM [] q := by unfold diffM; rfl
theorem dM_a (a : PT) (p : List PT) : diffM (a :: p) [] = ⟨2, a, zeroT⟩ :: diffM p [] := by rw [diffM]
theorem dM_lt {a b : PT} {p q : List PT} (h : ltK a b) : diffM (a :: p) (b :: q) = ⟨2, a, zeroT⟩ :: diffM p (b :: q) := by rw [diffM, if_pos h]
theorem dM_gt {a b : PT} {p q : List PT} (h : ltK b a) : diffM (a :: p) (b :: q) = ⟨1, zeroT, b⟩ :: diffM (a :: p) q := by rw [diffM, if_neg (ltK_asymm h), if_pos h]
theorem dM_eq {a b : PT} {p q : List PT} (h : eqK a b) (he : eqT a b = true) : diffM (a :: p) (b :: q) = diffM p q := by
  rw [diffM, if_neg (fun h' => ltK_neq h' h), if_neg (fun h' => gtK_neq h' h), if_pos he]
theorem dM_ne {a b : PT} {p q : List PT} (h : eqK a b) (he : ¬ eqT a b = true) : diffM (a :: p) (b :: q) = ⟨3, a, b⟩ :: diffM p q := by
  rw [diffM, if_neg (fun h' => ltK_neq h' h), if_neg (fun h' => gtK_neq h' h), if_neg he]
def DfL (w : World) (xs ys : List CT) (Z : List PE) (k : Nat) (v6 v7 v8 : Value) (wr : World) : Prop :=
  ∃ (i j : Nat) (es : List CE), v7 = .int .i64 i ∧ v8 = .int .i64 j ∧ i ≤ xs.length ∧ j ≤ ys.length ∧ (xs.length - i) + (ys.length - j) = k ∧ es.map CE.pe ++ diffM ((xs.map CT.pt).drop i) ((ys.map CT.pt).drop j) = Z ∧ SdS w wr v6 es (i + j)
theorem drop_pt (xs : List CT) (i : Nat) (h : i < xs.length) : (xs.map CT.pt).drop i = xs[i].pt :: (xs.map CT.pt).drop (i + 1) := by
  rw [List.drop_eq_getElem_cons (by simpa using h), List.getElem_map]
set_option maxRecDepth 100000 in
set_option maxHeartbeats 6400000 in
theorem diff_any (A B : Option Addr) (c c' : Nat) (xs ys : List CT) (w : World) (ha : TL w A c xs) (hb : TL w B c' ys) :
    Calls Try.prog 18 #[.slice A xs.length c, .slice B ys.length c'] w (DfOut xs ys w) := by
  have HA := Lib.hid ha
  have HB := Lib.hid hb
  clear ha hb
  obtain ⟨iE, b1, b2, b3, b4⟩ := info_parts infoEd
  have HIE := Lib.hid (And.intro b1 (And.intro b2 (And.intro b3 b4)))
  clear b1 b2 b3 b4
  go_enter Try.func18, Try.ntmps18
  go_wp2_with fail
  refine (check_any A c xs _ HA.out).mono ?_
  rintro e w1 ⟨rfl, hb1⟩
  have HB1 := Lib.hid hb1
  clear hb1
  by_cases h1 : chkT (xs.map CT.pt) = true
  case neg =>
    have h1' : chkT (xs.map CT.pt) = false := by simpa using h1
    have HV := Lib.hid (show dfV (xs.map CT.pt) (ys.map CT.pt) = [] by unfold dfV; rw [if_neg (fun h => h1 h.1)])
    have HC := Lib.hid (show dfC (xs.map CT.pt) (ys.map CT.pt) = 1 by unfold dfC; rw [if_neg (fun h => h1 h.1)])
    rw [h1']
    clear h1 h1'
    go_wp2_with fail
    go_ret2
    exact ⟨none, 0, [], by rw [HC.out]; rfl, EO.nil _ _, by rw [HV.out]; rfl, by simp, HB1.out⟩
  rw [h1]
  go_wp2_with fail
  refine (check_any B c' ys _ (HB.out.go HB1.out)).mono ?_
  rintro e w2 ⟨rfl, hb2⟩
  have HB2 := Lib.hid (HB1.out.trans (hb2.mono HB1.out.size))
  clear hb2 HB1
  by_cases h2 : chkT (ys.map CT.pt) = true
  case neg =>
    have h2' : chkT (ys.map CT.pt) = false := by simpa using h2
    have HV := Lib.hid (show dfV (xs.map CT.pt) (ys.map CT.pt) = [] by unfold dfV; rw [if_neg (fun h => h2 h.2)])
    have HC := Lib.hid (show dfC (xs.map CT.pt) (ys.map CT.pt) = 1 by unfold dfC; rw [if_neg (fun h => h2 h.2)])
    rw [h2']
    clear h1 h2 h2'
    go_wp2_with fail
    go_ret2
    exact ⟨none, 0, [], by rw [HC.out]; rfl, EO.nil _ _, by rw [HV.out]; rfl, by simp, HB2.out⟩
  rw [h2]
  obtain ⟨hna, hka, haa⟩ := chkT_len h1
  obtain ⟨hnb, hkb, hab⟩ := chkT_len h2
  have HV := Lib.hid (show diffM (xs.map CT.pt) (ys.map CT.pt) = dfV (xs.map CT.pt) (ys.map CT.pt) by unfold dfV; rw [if_pos ⟨h1, h2⟩])
  have HC := Lib.hid (show dfC (xs.map CT.pt) (ys.map CT.pt) = 0 by unfold dfC; rw [if_pos ⟨h1, h2⟩])
  have HKA := Lib.hid hka
  have HKB := Lib.hid hkb
  clear hka hkb haa hab h1 h2
  generalize hZ : dfV (xs.map CT.pt) (ys.map CT.pt) = Z at *
  have HVZ := Lib.hid hZ
  clear hZ
  go_wp2_with fail
  have HNA := Lib.hid hna
  have HNB := Lib.hid hnb
  go_loopg [6, 7, 8, 9, 37, 42, 75, 89] (xs.length + ys.length) (fun k v6 v7 v8 _ _ _ _ v wr => DfL w xs ys Z k v6 v7 v8 wr)
  case atStart => exact ⟨0, 0, [], rfl, rfl, by omega, by omega, by omega, by simpa using HV.out, EO.nil _ _, by simp, (by have hbelh := HB2.out; have hbels := hbelh.size; exact (by repeat (first | exact Below.refl _ _ | (with_reducible refine Below.drew ?_) | (with_reducible refine below_drewN ?_ _) | (with_reducible refine Below.alloc ?_ (by first | omega | (simp; done) | (simp; omega)) _) | (with_reducible refine Below.setCell ?_ (by first | omega | (simp; done) | (simp; omega)) _) | (refine Below.trans ?_ (Below.mono (by with_reducible assumption) (by first | omega | (simp; done) | (simp; omega)))))))⟩
  case round =>
    clear HB2 HV
    obtain ⟨i, j, es, rfl, rfl, hil, hjl, hk, hz, hs⟩ := hrel
    have Hk := Lib.hid hk
    have HZ := Lib.hid hz
    have HS := Lib.hid hs
    clear hk hz hs
    obtain ⟨Ao, co, rfl⟩ := HS.out.o.sl
    by_cases hi : i < xs.length
    · have hie : ((i : Int) == (xs.length : Int)) = false := by simp; omega
      obtain ⟨bb, off, rfl, hbb, d0, d1, d2, d3⟩ := rdT (HA.out.r.grow HS.out.b) rfl i hi
      have hbw : bb < wr.heap.size := World.block_lt_of_cell? _ _ d0
      have hz := HZ.out
      rw [drop_pt xs i hi] at hz
      clear HZ
      by_cases hj : j < ys.length
      · have hje : ((j : Int) == (ys.length : Int)) = false := by simp; omega
        obtain ⟨bb2, off2, rfl, hbb2, q0, q1, q2, q3⟩ := rdT (HB.out.r.grow HS.out.b) rfl j hj
        have hbw2 : bb2 < wr.heap.size := World.block_lt_of_cell? _ _ q0
        rw [drop_pt ys j hj] at hz
        have HZ := Lib.hid hz
        clear hz
        have HTM := Lib.hid ((HA.out.m _ (List.getElem_mem hi)).kp (Kp.bel HS.out.b))
        have HUM := Lib.hid ((HB.out.m _ (List.getElem_mem hj)).kp (Kp.bel HS.out.b))
        have ht1 := HKA.out _ (List.getElem_mem hi)
        have hu1 := HKB.out _ (List.getElem_mem hj)
        have HCM : Hid (∀ W, Below wr.heap.size wr W → Calls Try.prog 34 #[.agg #[.int .i64 (xs[i]).ln, .int .i64 (xs[i]).dy, .slice (xs[i]).Ad (xs[i]).dep.length (xs[i]).cd, .slice (xs[i]).Aa (xs[i]).arr.length (xs[i]).ca], .agg #[.int .i64 (ys[j]).ln, .int .i64 (ys[j]).dy, .slice (ys[j]).Ad (ys[j]).dep.length (ys[j]).cd, .slice (ys[j]).Aa (ys[j]).arr.length (ys[j]).ca]] W fun e w' => e = .returned (.int .i64 (cmpV (xs[i]).pt (ys[j]).pt)) ∧ Below W.heap.size W w') := fun W hW => cmp_any (xs[i]) (ys[j]) W (HTM.out.go hW) (HUM.out.go hW) ht1 hu1
        have HLT := Lib.hid (cmpV_lt (a := (xs[i]).pt) (b := (ys[j]).pt))
        have HGT := Lib.hid (cmpV_gt (a := (xs[i]).pt) (b := (ys[j]).pt))
        have HEQ := Lib.hid (cmpV_eq (a := (xs[i]).pt) (b := (ys[j]).pt))
        generalize cmpV (xs[i]).pt (ys[j]).pt = cv at *
        go_upto_region 7 with fail
        refine wp_region_overL (by kernel_rfl) (by kernel_rfl) ?_
        repeat (go_big_quiet_step ((go_at_call 34; exact callsOver (HCM.out _ (over_below _ _)))))
        refine wpQuiet_nil ?_
        intro w6 hb6
        have HS6 := Lib.hid (HS.out.bel hb6)
        replace d0 := cell_bel hb6 d0
        replace d1 := cell_bel hb6 d1
        replace d2 := cell_bel hb6 d2
        replace d3 := cell_bel hb6 d3
        replace q0 := cell_bel hb6 q0
        replace q1 := cell_bel hb6 q1
        replace q2 := cell_bel hb6 q2
        replace q3 := cell_bel hb6 q3
        replace hbw := Nat.lt_of_lt_of_le hbw hb6.size
        replace hbw2 := Nat.lt_of_lt_of_le hbw2 hb6.size
        clear hb6 HS HTM HUM HCM hie hje
        rcases Int.lt_trichotomy cv 0 with hc | hc | hc
        · have HZ2 := Lib.hid (show es.map CE.pe ++ (⟨2, (xs[i]).pt, zeroT⟩ :: diffM ((xs.map CT.pt).drop (i + 1)) ((ys.map CT.pt).drop j)) = Z by rw [drop_pt ys j hj, ← dM_lt (HLT.out.1 hc)]; exact HZ.out)
          have hc1 : decide (cv < 0) = true := by simpa using hc
          clear HLT HGT HEQ HZ q0 q1 q2 q3
          have HTW := Lib.hid ((HA.out.m _ (List.getElem_mem hi)).kp (Kp.bel HS6.out.b))
          generalize xs[i] = t at *
          go_wp2_with fail
          refine (clone_any t _ HTW.out.top).mono ?_
          rintro e w8 ⟨t8, rfl, hp8, hm8, hb8⟩
          have HS8 := Lib.hid (HS6.out.bel hb8)
          have HM8 := Lib.hid (hm8.up (Nat.zero_le w.heap.size))
          have HP8 := Lib.hid hp8
          have hl8 := HS8.out.b.size
          have hn8 := HS8.out.n
          clear hb8 hm8 hp8 d0 d1 d2 d3
          go_upto_region 18 with (at_builtin; refine wpList_append_own_at _ rfl _ _ 33 rfl (w.heap.size) 40 iE _ 9 136 Try.underlying33 HIE.out.1 HIE.out.2.1 HIE.out.2.2.1 HIE.out.2.2.2 rfl (by omega) _ (es.length) _ rfl (World.ownsRow.alloc HS8.out.o.o _) ⟨(w8).heap.size, 0, none⟩ 1 1 (CE.cells (CE.mk 2 t8 zT)) rfl rfl ?c0 ?c1 ?c2 ?c3 ?c4 ?_; rotate_right; intro v' w' hown' hg' _ hat')
          case c0 => first | exact news_new _ _ (CE.cells (CE.mk 2 t8 zT)) | exact fun _ _ h => h
          case c1 => exact CE.one _
          case c2 => simp only [maxLen]; omega
          case c3 => omega
          case c4 => first | omega | (simp; omega)
          have HS9 := Lib.hid (HS8.out.app (x := (CE.mk 2 t8 zT)) ⟨HM8.out, TM.zero _ _⟩ hown' hg')
          have HZ9 := Lib.hid (show (es ++ [CE.mk 2 t8 zT]).map CE.pe ++ diffM ((xs.map CT.pt).drop (i + 1)) ((ys.map CT.pt).drop j) = Z by
            rw [List.map_append, List.append_assoc]
            show es.map CE.pe ++ (PE.mk 2 t8.pt zeroT :: _) = Z
            rw [HP8.out]
            exact HZ2.out)
          clear hown' hg' hat' HS8 HM8 HP8
          go_wp2_with fail
          go_roundg (xs.length - i + (ys.length - j) - 1)
          case measure => have := Hk.out; omega
          case rel => exact ⟨i + 1, j, _, by first | rfl | go_num, by first | rfl | go_num, by omega, by omega, by omega, HZ9.out, by have := HS9.out; rwa [show i + 1 + j = i + j + 1 by omega]⟩
        · have heq := HEQ.out.1 hc
          subst hc
          have HQM : Hid (∀ W, Below w6.heap.size w6 W → Calls Try.prog 38 #[.agg #[.int .i64 (xs[i]).ln, .int .i64 (xs[i]).dy, .slice (xs[i]).Ad (xs[i]).dep.length (xs[i]).cd, .slice (xs[i]).Aa (xs[i]).arr.length (xs[i]).ca], .agg #[.int .i64 (ys[j]).ln, .int .i64 (ys[j]).dy, .slice (ys[j]).Ad (ys[j]).dep.length (ys[j]).cd, .slice (ys[j]).Aa (ys[j]).arr.length (ys[j]).ca]] W fun e w' => e = .returned (.bool (eqT (xs[i]).pt (ys[j]).pt)) ∧ Below W.heap.size W w') := fun W hW => eq_any (xs[i]) (ys[j]) W ((HA.out.m _ (List.getElem_mem hi)).go (HS6.out.b.trans (hW.mono HS6.out.b.size))) ((HB.out.m _ (List.getElem_mem hj)).go (HS6.out.b.trans (hW.mono HS6.out.b.size)))
          by_cases he : eqT (xs[i]).pt (ys[j]).pt = true
          · have HZ2 := Lib.hid (show es.map CE.pe ++ diffM ((xs.map CT.pt).drop (i + 1)) ((ys.map CT.pt).drop (j + 1)) = Z by rw [← dM_eq heq he]; exact HZ.out)
            rw [he] at HQM
            clear HLT HGT HEQ HZ he heq
            generalize xs[i] = t at *
            generalize ys[j] = u at *
            go_upto_region 12 with fail
            refine wp_region_overL (by kernel_rfl) (by kernel_rfl) ?_
            repeat (go_big_quiet_step ((go_at_call 38; exact callsOver (HQM.out _ (over_below _ _)))))
            refine wpQuiet_nil ?_
            intro w7 hb7
            have HS7 := Lib.hid ((HS6.out.bel hb7).more (show i + j ≤ i + 1 + (j + 1) by omega))
            clear hb7 d0 d1 d2 d3 q0 q1 q2 q3
            go_wp2_with fail
            go_roundg (xs.length - i + (ys.length - j) - 2)
            case measure => have := Hk.out; omega
            case rel => exact ⟨i + 1, j + 1, _, by first | rfl | go_num, by first | rfl | go_num, by omega, by omega, by omega, HZ2.out, HS7.out⟩
          · have HZ2 := Lib.hid (show es.map CE.pe ++ (⟨3, (xs[i]).pt, (ys[j]).pt⟩ :: diffM ((xs.map CT.pt).drop (i + 1)) ((ys.map CT.pt).drop (j + 1))) = Z by rw [← dM_ne heq he]; exact HZ.out)
            have he' : eqT (xs[i]).pt (ys[j]).pt = false := by simpa using he
            rw [he'] at HQM
            have HTM : Hid (∀ W, Below w6.heap.size w6 W → TM W W.heap.size xs[i]) := fun W hW => (HA.out.m _ (List.getElem_mem hi)).go (HS6.out.b.trans (hW.mono HS6.out.b.size))
            have HUM : Hid (∀ W, Below w6.heap.size w6 W → TM W W.heap.size ys[j]) := fun W hW => (HB.out.m _ (List.getElem_mem hj)).go (HS6.out.b.trans (hW.mono HS6.out.b.size))
            clear HLT HGT HEQ HZ he heq he'
            generalize xs[i] = t at *
            generalize ys[j] = u at *
            go_upto_region 12 with fail
            refine wp_region_overL (by kernel_rfl) (by kernel_rfl) ?_
            repeat (go_big_quiet_step ((go_at_call 38; exact callsOver (HQM.out _ (over_below _ _)))))
            refine wpQuiet_nil ?_
            intro w7 hb7
            have HB7 := Lib.hid hb7
            have HS7 := Lib.hid (HS6.out.bel hb7)
            replace d0 := cell_bel hb7 d0
            replace d1 := cell_bel hb7 d1
            replace d2 := cell_bel hb7 d2
            replace d3 := cell_bel hb7 d3
            replace q0 := cell_bel hb7 q0
            replace q1 := cell_bel hb7 q1
            replace q2 := cell_bel hb7 q2
            replace q3 := cell_bel hb7 q3
            clear hb7 HQM HS6
            go_upto_region 13 with fail
            have HT7 : Hid (∀ W, Below w7.heap.size w7 W → TM W W.heap.size t) := fun W hW => HTM.out W (HB7.out.trans (hW.mono HB7.out.size))
            have HU7 : Hid (∀ W, Below w7.heap.size w7 W → TM W W.heap.size u) := fun W hW => HUM.out W (HB7.out.trans (hW.mono HB7.out.size))
            have HFAR : Hid (∀ b, b < w.heap.size → (Value.slice Ao es.length co).ownBlock ≠ some b) := fun b hb e => by have := (own_block HS7.out.o.o b e).1; omega
            have hl7 := HS7.out.b.size
            have hn7 := HS7.out.n
            clear HTM HUM HB7
            go_region_held3 (fun w' => w'.cell? ⟨bb, off + i * 4, none⟩ = some (.int .i64 t.ln) ∧ w'.cell? ⟨bb, off + i * 4 + 1, none⟩ = some (.int .i64 t.dy) ∧ w'.cell? ⟨bb, off + i * 4 + 2, none⟩ = some (.slice t.Ad t.dep.length t.cd) ∧ w'.cell? ⟨bb, off + i * 4 + 3, none⟩ = some (.slice t.Aa t.arr.length t.ca) ∧ w'.cell? ⟨bb2, off2 + j * 4, none⟩ = some (.int .i64 u.ln) ∧ w'.cell? ⟨bb2, off2 + j * 4 + 1, none⟩ = some (.int .i64 u.dy) ∧ w'.cell? ⟨bb2, off2 + j * 4 + 2, none⟩ = some (.slice u.Ad u.dep.length u.cd) ∧ w'.cell? ⟨bb2, off2 + j * 4 + 3, none⟩ = some (.slice u.Aa u.arr.length u.ca))
              (first | (have hgx := hgrow; clear hgx; exact ⟨cell_app hgrow (cell_bel (w := w7) (by repeat (first | exact Below.refl _ _ | (with_reducible refine Below.drew ?_) | (with_reducible refine below_drewN ?_ _) | (with_reducible refine Below.alloc ?_ (by first | omega | (simp; done) | (simp; omega)) _) | (with_reducible refine Below.setCell ?_ (by first | omega | (simp; done) | (simp; omega)) _) | (refine Below.trans ?_ (Below.mono (by with_reducible assumption) (by first | omega | (simp; done) | (simp; omega)))))) d0) (HFAR.out _ hbb), cell_app hgrow (cell_bel (w := w7) (by repeat (first | exact Below.refl _ _ | (with_reducible refine Below.drew ?_) | (with_reducible refine below_drewN ?_ _) | (with_reducible refine Below.alloc ?_ (by first | omega | (simp; done) | (simp; omega)) _) | (with_reducible refine Below.setCell ?_ (by first | omega | (simp; done) | (simp; omega)) _) | (refine Below.trans ?_ (Below.mono (by with_reducible assumption) (by first | omega | (simp; done) | (simp; omega)))))) d1) (HFAR.out _ hbb), cell_app hgrow (cell_bel (w := w7) (by repeat (first | exact Below.refl _ _ | (with_reducible refine Below.drew ?_) | (with_reducible refine below_drewN ?_ _) | (with_reducible refine Below.alloc ?_ (by first | omega | (simp; done) | (simp; omega)) _) | (with_reducible refine Below.setCell ?_ (by first | omega | (simp; done) | (simp; omega)) _) | (refine Below.trans ?_ (Below.mono (by with_reducible assumption) (by first | omega | (simp; done) | (simp; omega)))))) d2) (HFAR.out _ hbb), cell_app hgrow (cell_bel (w := w7) (by repeat (first | exact Below.refl _ _ | (with_reducible refine Below.drew ?_) | (with_reducible refine below_drewN ?_ _) | (with_reducible refine Below.alloc ?_ (by first | omega | (simp; done) | (simp; omega)) _) | (with_reducible refine Below.setCell ?_ (by first | omega | (simp; done) | (simp; omega)) _) | (refine Below.trans ?_ (Below.mono (by with_reducible assumption) (by first | omega | (simp; done) | (simp; omega)))))) d3) (HFAR.out _ hbb), cell_app hgrow (cell_bel (w := w7) (by repeat (first | exact Below.refl _ _ | (with_reducible refine Below.drew ?_) | (with_reducible refine below_drewN ?_ _) | (with_reducible refine Below.alloc ?_ (by first | omega | (simp; done) | (simp; omega)) _) | (with_reducible refine Below.setCell ?_ (by first | omega | (simp; done) | (simp; omega)) _) | (refine Below.trans ?_ (Below.mono (by with_reducible assumption) (by first | omega | (simp; done) | (simp; omega)))))) q0) (HFAR.out _ hbb2), cell_app hgrow (cell_bel (w := w7) (by repeat (first | exact Below.refl _ _ | (with_reducible refine Below.drew ?_) | (with_reducible refine below_drewN ?_ _) | (with_reducible refine Below.alloc ?_ (by first | omega | (simp; done) | (simp; omega)) _) | (with_reducible refine Below.setCell ?_ (by first | omega | (simp; done) | (simp; omega)) _) | (refine Below.trans ?_ (Below.mono (by with_reducible assumption) (by first | omega | (simp; done) | (simp; omega)))))) q1) (HFAR.out _ hbb2), cell_app hgrow (cell_bel (w := w7) (by repeat (first | exact Below.refl _ _ | (with_reducible refine Below.drew ?_) | (with_reducible refine below_drewN ?_ _) | (with_reducible refine Below.alloc ?_ (by first | omega | (simp; done) | (simp; omega)) _) | (with_reducible refine Below.setCell ?_ (by first | omega | (simp; done) | (simp; omega)) _) | (refine Below.trans ?_ (Below.mono (by with_reducible assumption) (by first | omega | (simp; done) | (simp; omega)))))) q2) (HFAR.out _ hbb2), cell_app hgrow (cell_bel (w := w7) (by repeat (first | exact Below.refl _ _ | (with_reducible refine Below.drew ?_) | (with_reducible refine below_drewN ?_ _) | (with_reducible refine Below.alloc ?_ (by first | omega | (simp; done) | (simp; omega)) _) | (with_reducible refine Below.setCell ?_ (by first | omega | (simp; done) | (simp; omega)) _) | (refine Below.trans ?_ (Below.mono (by with_reducible assumption) (by first | omega | (simp; done) | (simp; omega)))))) q3) (HFAR.out _ hbb2)⟩) | exact ⟨cell_bel (w := w7) (by repeat (first | exact Below.refl _ _ | (with_reducible refine Below.drew ?_) | (with_reducible refine below_drewN ?_ _) | (with_reducible refine Below.alloc ?_ (by first | omega | (simp; done) | (simp; omega)) _) | (with_reducible refine Below.setCell ?_ (by first | omega | (simp; done) | (simp; omega)) _) | (refine Below.trans ?_ (Below.mono (by with_reducible assumption) (by first | omega | (simp; done) | (simp; omega)))))) d0, cell_bel (w := w7) (by repeat (first | exact Below.refl _ _ | (with_reducible refine Below.drew ?_) | (with_reducible refine below_drewN ?_ _) | (with_reducible refine Below.alloc ?_ (by first | omega | (simp; done) | (simp; omega)) _) | (with_reducible refine Below.setCell ?_ (by first | omega | (simp; done) | (simp; omega)) _) | (refine Below.trans ?_ (Below.mono (by with_reducible assumption) (by first | omega | (simp; done) | (simp; omega)))))) d1, cell_bel (w := w7) (by repeat (first | exact Below.refl _ _ | (with_reducible refine Below.drew ?_) | (with_reducible refine below_drewN ?_ _) | (with_reducible refine Below.alloc ?_ (by first | omega | (simp; done) | (simp; omega)) _) | (with_reducible refine Below.setCell ?_ (by first | omega | (simp; done) | (simp; omega)) _) | (refine Below.trans ?_ (Below.mono (by with_reducible assumption) (by first | omega | (simp; done) | (simp; omega)))))) d2, cell_bel (w := w7) (by repeat (first | exact Below.refl _ _ | (with_reducible refine Below.drew ?_) | (with_reducible refine below_drewN ?_ _) | (with_reducible refine Below.alloc ?_ (by first | omega | (simp; done) | (simp; omega)) _) | (with_reducible refine Below.setCell ?_ (by first | omega | (simp; done) | (simp; omega)) _) | (refine Below.trans ?_ (Below.mono (by with_reducible assumption) (by first | omega | (simp; done) | (simp; omega)))))) d3, cell_bel (w := w7) (by repeat (first | exact Below.refl _ _ | (with_reducible refine Below.drew ?_) | (with_reducible refine below_drewN ?_ _) | (with_reducible refine Below.alloc ?_ (by first | omega | (simp; done) | (simp; omega)) _) | (with_reducible refine Below.setCell ?_ (by first | omega | (simp; done) | (simp; omega)) _) | (refine Below.trans ?_ (Below.mono (by with_reducible assumption) (by first | omega | (simp; done) | (simp; omega)))))) q0, cell_bel (w := w7) (by repeat (first | exact Below.refl _ _ | (with_reducible refine Below.drew ?_) | (with_reducible refine below_drewN ?_ _) | (with_reducible refine Below.alloc ?_ (by first | omega | (simp; done) | (simp; omega)) _) | (with_reducible refine Below.setCell ?_ (by first | omega | (simp; done) | (simp; omega)) _) | (refine Below.trans ?_ (Below.mono (by with_reducible assumption) (by first | omega | (simp; done) | (simp; omega)))))) q1, cell_bel (w := w7) (by repeat (first | exact Below.refl _ _ | (with_reducible refine Below.drew ?_) | (with_reducible refine below_drewN ?_ _) | (with_reducible refine Below.alloc ?_ (by first | omega | (simp; done) | (simp; omega)) _) | (with_reducible refine Below.setCell ?_ (by first | omega | (simp; done) | (simp; omega)) _) | (refine Below.trans ?_ (Below.mono (by with_reducible assumption) (by first | omega | (simp; done) | (simp; omega)))))) q2, cell_bel (w := w7) (by repeat (first | exact Below.refl _ _ | (with_reducible refine Below.drew ?_) | (with_reducible refine below_drewN ?_ _) | (with_reducible refine Below.alloc ?_ (by first | omega | (simp; done) | (simp; omega)) _) | (with_reducible refine Below.setCell ?_ (by first | omega | (simp; done) | (simp; omega)) _) | (refine Below.trans ?_ (Below.mono (by with_reducible assumption) (by first | omega | (simp; done) | (simp; omega)))))) q3⟩)
              (first | (go_at_call 37; have hB8x := hB8; clear hB8x; refine (clone_any u _ (HU7.out _ hB8)).mono ?_; rintro e w9 ⟨t9, rfl, hp9, hm9, hb9⟩; have hB9 : Below w7.heap.size w7 w9 := hB8.trans (hb9.mono hB8.size); have HS9 := Lib.hid (HS7.out.bel hB9); have HM9 := Lib.hid hm9; have HM8 := Lib.hid (hm8.kp (Kp.bel hb9)); have hl9 := hB9.size) | (go_at_call 37; refine (clone_any t _ (HT7.out _ (by repeat (first | exact Below.refl _ _ | (with_reducible refine Below.drew ?_) | (with_reducible refine below_drewN ?_ _) | (with_reducible refine Below.alloc ?_ (by first | omega | (simp; done) | (simp; omega)) _) | (with_reducible refine Below.setCell ?_ (by first | omega | (simp; done) | (simp; omega)) _) | (refine Below.trans ?_ (Below.mono (by with_reducible assumption) (by first | omega | (simp; done) | (simp; omega)))))))).mono ?_; rintro e w8 ⟨t8, rfl, hp8, hm8, hb8⟩; have hB8 : Below w7.heap.size w7 w8 := (by repeat (first | exact Below.refl _ _ | (with_reducible refine Below.drew ?_) | (with_reducible refine below_drewN ?_ _) | (with_reducible refine Below.alloc ?_ (by first | omega | (simp; done) | (simp; omega)) _) | (with_reducible refine Below.setCell ?_ (by first | omega | (simp; done) | (simp; omega)) _) | (refine Below.trans ?_ (Below.mono (by with_reducible assumption) (by first | omega | (simp; done) | (simp; omega))))))) | (refine step_append_lies _ (by rfl) _ _ _ (by rfl) w.heap.size 40 iE _ 9 136 Try.underlying33 HIE.out.1 HIE.out.2.1 HIE.out.2.2.1 HIE.out.2.2.2 rfl (by omega) _ (es.length) _ (by rfl) (World.ownsRow.alloc HS9.out.o.o _) ⟨w9.heap.size, 0, none⟩ 1 1 (CE.cells (CE.mk 3 t8 t9)) (by rfl) (by rfl) (news_new _ _ (CE.cells (CE.mk 3 t8 t9))) (CE.one _) (by omega) (by simp only [maxLen]; omega) (by omega) (by simp; omega) (w9.heap.size + 1) (by simp) ?_; intro gg gcap w1 hown1 hgrow hat hgl))
            have HS10 := Lib.hid (HS9.out.app (x := CE.mk 3 t8 t9) ⟨HM8.out.up (Nat.zero_le _), HM9.out.up (Nat.zero_le _)⟩ hown1 hgrow)
            have HZ10 := Lib.hid (show (es ++ [CE.mk 3 t8 t9]).map CE.pe ++ diffM ((xs.map CT.pt).drop (i + 1)) ((ys.map CT.pt).drop (j + 1)) = Z by
              rw [List.map_append, List.append_assoc]
              show es.map CE.pe ++ (PE.mk 3 t8.pt t9.pt :: _) = Z
              rw [hp8, hp9]
              exact HZ2.out)
            clear hown1 hgrow hat hgl HS9 HM8 HM9 hp8 hp9 hm8 hm9 hb8 hb9 hB8 hB9
            go_wp2_with fail
            go_roundg (xs.length - i + (ys.length - j) - 2)
            case measure => have := Hk.out; omega
            case rel => exact ⟨i + 1, j + 1, _, by first | rfl | go_num, by first | rfl | go_num, by omega, by omega, by omega, HZ10.out, by have := HS10.out.more (show i + j + 1 ≤ i + 1 + (j + 1) by omega); exact this⟩
        · have HZ2 := Lib.hid (show es.map CE.pe ++ (⟨1, zeroT, (ys[j]).pt⟩ :: diffM ((xs.map CT.pt).drop i) ((ys.map CT.pt).drop (j + 1))) = Z by rw [drop_pt xs i hi, ← dM_gt (HGT.out.1 hc)]; exact HZ.out)
          have hc1 : decide (cv > 0) = true := by simpa using hc
          have hc2 : decide (cv < 0) = false := by simp; omega
          clear HLT HGT HEQ HZ d0 d1 d2 d3
          have HTW := Lib.hid ((HB.out.m _ (List.getElem_mem hj)).kp (Kp.bel HS6.out.b))
          generalize ys[j] = t at *
          go_wp2_with fail
          refine (clone_any t _ HTW.out.top).mono ?_
          rintro e w8 ⟨t8, rfl, hp8, hm8, hb8⟩
          have HS8 := Lib.hid (HS6.out.bel hb8)
          have HM8 := Lib.hid (hm8.up (Nat.zero_le w.heap.size))
          have HP8 := Lib.hid hp8
          have hl8 := HS8.out.b.size
          have hn8 := HS8.out.n
          clear hb8 hm8 hp8 q0 q1 q2 q3
          go_upto_region 21 with (at_builtin; refine wpList_append_own_at _ rfl _ _ 33 rfl (w.heap.size) 40 iE _ 9 136 Try.underlying33 HIE.out.1 HIE.out.2.1 HIE.out.2.2.1 HIE.out.2.2.2 rfl (by omega) _ (es.length) _ rfl (World.ownsRow.alloc HS8.out.o.o _) ⟨(w8).heap.size, 0, none⟩ 1 1 (CE.cells (CE.mk 1 zT t8)) rfl rfl ?c0 ?c1 ?c2 ?c3 ?c4 ?_; rotate_right; intro v' w' hown' hg' _ hat')
          case c0 => first | exact news_new _ _ (CE.cells (CE.mk 1 zT t8)) | exact fun _ _ h => h
          case c1 => exact CE.one _
          case c2 => simp only [maxLen]; omega
          case c3 => omega
          case c4 => first | omega | (simp; omega)
          have HS9 := Lib.hid (HS8.out.app (x := (CE.mk 1 zT t8)) ⟨TM.zero _ _, HM8.out⟩ hown' hg')
          have HZ9 := Lib.hid (show (es ++ [CE.mk 1 zT t8]).map CE.pe ++ diffM ((xs.map CT.pt).drop i) ((ys.map CT.pt).drop (j + 1)) = Z by
            rw [List.map_append, List.append_assoc]
            show es.map CE.pe ++ (PE.mk 1 zeroT t8.pt :: _) = Z
            rw [HP8.out]
            exact HZ2.out)
          clear hown' hg' hat' HS8 HM8 HP8
          go_wp2_with fail
          go_roundg (xs.length - i + (ys.length - j) - 1)
          case measure => have := Hk.out; omega
          case rel => exact ⟨i, j + 1, _, by first | rfl | go_num, by first | rfl | go_num, by omega, by omega, by omega, HZ9.out, by have := HS9.out; rwa [show i + (j + 1) = i + j + 1 by omega]⟩
      · have hjm : j = ys.length := by omega
        subst hjm
        have hd0 : (ys.map CT.pt).drop ys.length = [] := List.drop_of_length_le (by simp)
        rw [hd0, dM_a, ← hd0] at hz
        have HZ2 := Lib.hid hz
        clear hz hd0 hj
        have hjj : ((ys.length : Int) == (ys.length : Int)) = true := by simp
        have HTW := Lib.hid ((HA.out.m _ (List.getElem_mem hi)).kp (Kp.bel HS.out.b))
        generalize xs[i] = t at *
        go_wp2_with fail
        refine (clone_any t _ HTW.out.top).mono ?_
        rintro e w8 ⟨t8, rfl, hp8, hm8, hb8⟩
        have HS8 := Lib.hid (HS.out.bel hb8)
        have HM8 := Lib.hid (hm8.up (Nat.zero_le w.heap.size))
        have HP8 := Lib.hid hp8
        have hl8 := HS8.out.b.size
        have hn8 := HS8.out.n
        clear hb8 hm8 hp8 d0 d1 d2 d3
        go_upto_region 18 with (at_builtin; refine wpList_append_own_at _ rfl _ _ 33 rfl (w.heap.size) 40 iE _ 9 136 Try.underlying33 HIE.out.1 HIE.out.2.1 HIE.out.2.2.1 HIE.out.2.2.2 rfl (by omega) _ (es.length) _ rfl (World.ownsRow.alloc HS8.out.o.o _) ⟨(w8).heap.size, 0, none⟩ 1 1 (CE.cells (CE.mk 2 t8 zT)) rfl rfl ?c0 ?c1 ?c2 ?c3 ?c4 ?_; rotate_right; intro v' w' hown' hg' _ hat')
        case c0 => first | exact news_new _ _ (CE.cells (CE.mk 2 t8 zT)) | exact fun _ _ h => h
        case c1 => exact CE.one _
        case c2 => simp only [maxLen]; omega
        case c3 => omega
        case c4 => first | omega | (simp; omega)
        have HS9 := Lib.hid (HS8.out.app (x := (CE.mk 2 t8 zT)) ⟨HM8.out, TM.zero _ _⟩ hown' hg')
        have HZ9 := Lib.hid (show (es ++ [CE.mk 2 t8 zT]).map CE.pe ++ diffM ((xs.map CT.pt).drop (i + 1)) ((ys.map CT.pt).drop ys.length) = Z by
          rw [List.map_append, List.append_assoc]
          show es.map CE.pe ++ (PE.mk 2 t8.pt zeroT :: _) = Z
          rw [HP8.out]
          exact HZ2.out)
        clear hown' hg' hat' HS8 HM8 HP8
        go_wp2_with fail
        go_roundg (xs.length - i + (ys.length - ys.length) - 1)
        case measure => have := Hk.out; omega
        case rel => exact ⟨i + 1, ys.length, _, by first | rfl | go_num, by first | rfl | go_num, by omega, by omega, by omega, HZ9.out, by have := HS9.out; rwa [show i + 1 + ys.length = i + ys.length + 1 by omega]⟩
    · have him : i = xs.length := by omega
      subst him
      by_cases hj : j < ys.length
      · obtain ⟨bb2, off2, rfl, hbb2, q0, q1, q2, q3⟩ := rdT (HB.out.r.grow HS.out.b) rfl j hj
        have hbw2 : bb2 < wr.heap.size := World.block_lt_of_cell? _ _ q0
        have hz := HZ.out
        have hd0 : (xs.map CT.pt).drop xs.length = [] := List.drop_of_length_le (by simp)
        rw [drop_pt ys j hj, hd0, dM_b, ← hd0] at hz
        have HZ2 := Lib.hid hz
        clear hz hd0 hi HZ
        have HTW := Lib.hid ((HB.out.m _ (List.getElem_mem hj)).kp (Kp.bel HS.out.b))
        generalize ys[j] = t at *
        go_wp2_with fail
        refine (clone_any t _ HTW.out.top).mono ?_
        rintro e w8 ⟨t8, rfl, hp8, hm8, hb8⟩
        have HS8 := Lib.hid (HS.out.bel hb8)
        have HM8 := Lib.hid (hm8.up (Nat.zero_le w.heap.size))
        have HP8 := Lib.hid hp8
        have hl8 := HS8.out.b.size
        have hn8 := HS8.out.n
        clear hb8 hm8 hp8 q0 q1 q2 q3
        go_upto_region 21 with (at_builtin; refine wpList_append_own_at _ rfl _ _ 33 rfl (w.heap.size) 40 iE _ 9 136 Try.underlying33 HIE.out.1 HIE.out.2.1 HIE.out.2.2.1 HIE.out.2.2.2 rfl (by omega) _ (es.length) _ rfl (World.ownsRow.alloc HS8.out.o.o _) ⟨(w8).heap.size, 0, none⟩ 1 1 (CE.cells (CE.mk 1 zT t8)) rfl rfl ?c0 ?c1 ?c2 ?c3 ?c4 ?_; rotate_right; intro v' w' hown' hg' _ hat')
        case c0 => first | exact news_new _ _ (CE.cells (CE.mk 1 zT t8)) | exact fun _ _ h => h
        case c1 => exact CE.one _
        case c2 => simp only [maxLen]; omega
        case c3 => omega
        case c4 => first | omega | (simp; omega)
        have HS9 := Lib.hid (HS8.out.app (x := (CE.mk 1 zT t8)) ⟨TM.zero _ _, HM8.out⟩ hown' hg')
        have HZ9 := Lib.hid (show (es ++ [CE.mk 1 zT t8]).map CE.pe ++ diffM ((xs.map CT.pt).drop xs.length) ((ys.map CT.pt).drop (j + 1)) = Z by
          rw [List.map_append, List.append_assoc]
          show es.map CE.pe ++ (PE.mk 1 zeroT t8.pt :: _) = Z
          rw [HP8.out]
          exact HZ2.out)
        clear hown' hg' hat' HS8 HM8 HP8
        go_wp2_with fail
        go_roundg (xs.length - xs.length + (ys.length - j) - 1)
        case measure => have := Hk.out; omega
        case rel => exact ⟨xs.length, j + 1, _, by first | rfl | go_num, by first | rfl | go_num, by omega, by omega, by omega, HZ9.out, by have := HS9.out; rwa [show xs.length + (j + 1) = xs.length + j + 1 by omega]⟩
      · have hjm : j = ys.length := by omega
        subst hjm
        have HF := Lib.hid (show es.map CE.pe = Z by
          have h := HZ.out
          rw [List.drop_of_length_le (by simp), List.drop_of_length_le (by simp)] at h
          simpa [diffM] using h)
        have hn := HS.out.n
        clear HZ
        go_wp2_with fail
        go_ret2
        exact ⟨Ao, co, es, by rw [HC.out]; rfl, HS.out.o, HF.out.trans HVZ.out.symm, by omega, HS.out.b⟩
end Go.Proofs.Ythfifejjfnmpoaa
