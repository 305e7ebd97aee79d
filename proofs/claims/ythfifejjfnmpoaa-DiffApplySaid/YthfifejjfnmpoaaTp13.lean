import Derived.Test.YthfifejjfnmpoaaTp12
namespace Go.Proofs.Ythfifejjfnmpoaa
open Go.RowKit
theorem infoEd : (Try.prog.info? 40).map (fun i => (i.zero, i.size, i.bytes)) = some (some (.agg #[.int .i64 0, .int .i64 0, .int .i64 0, .slice none 0 0, .slice none 0 0, .int .i64 0, .int .i64 0, .slice none 0 0, .slice none 0 0]), 9, 136) := by kernel_rfl
theorem infoTr : (Try.prog.info? 28).map (fun i => (i.zero, i.size, i.bytes)) = some (some (.agg #[.int .i64 0, .int .i64 0, .slice none 0 0, .slice none 0 0]), 4, 64) := by kernel_rfl
/-- the part of a slice ahead of p -/
theorem rd_take {w : World} {A : Option Addr} {B n p s : Nat} {xs : List Value} (h : Rd w B s A n xs) (hp : p ≤ n) : Rd w B s A p (xs.take (p * s)) := by
  refine ⟨by rw [List.length_take, h.1, Nat.min_eq_left (Nat.mul_le_mul_right _ hp)], fun h0 => ?_⟩
  obtain ⟨b, off, e1, hb, hc⟩ := h.2 (by omega)
  refine ⟨b, off, e1, hb, fun j u hu => hc j u ?_⟩
  rw [List.getElem?_take] at hu
  split at hu
  · exact hu
  · cases hu
/-- the part from l on -/
theorem rd_drop {w : World} {B n b off l s : Nat} {xs : List Value} (h : Rd w B s (some ⟨b, off, none⟩) n xs) (hl : l ≤ n) : Rd w B s (some ⟨b, off + l * s, none⟩) (n - l) (xs.drop (l * s)) := by
  refine ⟨by rw [List.length_drop, h.1, Nat.sub_mul], fun h0 => ?_⟩
  obtain ⟨b', off', e1, hb, hcc⟩ := h.2 (by omega)
  injection e1 with e1
  injection e1 with e1 e2
  subst e1 e2
  refine ⟨b, off + l * s, rfl, hb, fun j u hu => ?_⟩
  rw [List.getElem?_drop] at hu
  have := hcc (l * s + j) u hu
  rwa [← Nat.add_assoc] at this
theorem flat_take {α : Type} (f : α → List Value) (k : Nat) (hf : ∀ x, (f x).length = k) : ∀ (r : List α) (p : Nat), (r.flatMap f).take (p * k) = (r.take p).flatMap f
  | [], p => by simp
  | u :: r, 0 => by simp
  | u :: r, p + 1 => by
    rw [List.take_succ_cons, List.flatMap_cons, List.flatMap_cons, ← flat_take f k hf r p, List.take_append, hf, Nat.add_mul, Nat.one_mul, Nat.add_sub_cancel, List.take_of_length_le (by rw [hf]; omega)]
theorem flat_drop {α : Type} (f : α → List Value) (k : Nat) (hf : ∀ x, (f x).length = k) : ∀ (r : List α) (p : Nat), (r.flatMap f).drop (p * k) = (r.drop p).flatMap f
  | [], p => by simp
  | u :: r, 0 => by simp
  | u :: r, p + 1 => by
    rw [List.drop_succ_cons, List.flatMap_cons, ← flat_drop f k hf r p, List.drop_append, hf, Nat.add_mul, Nat.one_mul, Nat.add_sub_cancel, List.drop_of_length_le (by rw [hf]; omega), List.nil_append]
theorem es_one (es : List CE) : ∀ u ∈ es.flatMap CE.cells, u.oneCell' = true := by
  intro u hu
  obtain ⟨e, _, h⟩ := List.mem_flatMap.1 hu
  exact CE.one e u h
theorem ts_one (es : List CT) : ∀ u ∈ es.flatMap CT.cells, u.oneCell' = true := by
  intro u hu
  obtain ⟨e, _, h⟩ := List.mem_flatMap.1 hu
  exact CT.one e u h
theorem keyE_map (es : List CE) (p : Nat) (hp : p < es.length) : (es.map CE.pe)[p]? = some (es[p]).pe := by simp [hp]
theorem posE_on {l : List PE} {e x : PE} {p : Nat} (h : l[p]? = some x) (hlt : ltK (keyE e) (keyE x)) : posE l e (p + 1) = posE l e p := by
  rw [posE, h]; simp only; rw [if_pos hlt]
theorem posE_at {l : List PE} {e x : PE} {p : Nat} (h : l[p]? = some x) (hlt : ¬ ltK (keyE e) (keyE x)) : posE l e (p + 1) = p + 1 := by
  rw [posE, h]; simp only; rw [if_neg hlt]
def InsOut (es : List CE) (x : CE) (w : World) (e : Ending) (w' : World) : Prop :=
  ∃ (A : Option Addr) (c k : Nat), k ≤ es.length ∧ e = .returned (.slice A (es.length + 1) c) ∧ w'.ownsRow w.heap.size 40 9 (.slice A (es.length + 1) c) (es.length + 1) ((es.take k ++ x :: es.drop k).flatMap CE.cells) ∧ (es.take k ++ x :: es.drop k).map CE.pe = insE (es.map CE.pe) x.pe ∧ Below w.heap.size w w'
def InLE (w : World) (es : List CE) (x : CE) (k : Nat) (v : Value) (wr : World) : Prop :=
  ∃ j : Nat, v = .int .i64 j ∧ j = k ∧ j ≤ es.length ∧ posE (es.map CE.pe) x.pe j = posE (es.map CE.pe) x.pe es.length ∧ Blk wr w.heap.size 40 #[.int .i64 (x).k, .int .i64 (x).o.ln, .int .i64 (x).o.dy, .slice (x).o.Ad (x).o.dep.length (x).o.cd, .slice (x).o.Aa (x).o.arr.length (x).o.ca, .int .i64 (x).n.ln, .int .i64 (x).n.dy, .slice (x).n.Ad (x).n.dep.length (x).n.cd, .slice (x).n.Aa (x).n.arr.length (x).n.ca] ∧ Below w.heap.size w wr
set_option maxRecDepth 100000 in
set_option maxHeartbeats 3200000 in
theorem ins_any (A : Option Addr) (c : Nat) (es : List CE) (t : CE) (w : World) (h : EL w A c es) (ht : EM w w.heap.size t) (h1 : ∀ x ∈ es, 1 ≤ (keyC x).dep.length) (ht1 : 1 ≤ (keyC t).dep.length) (hn : es.length ≤ 1000000) (hA : A = none ∨ ∃ b, A = some ⟨b, 0, none⟩) :
    Calls Try.prog 39 #[.slice A es.length c, .agg #[.int .i64 (t).k, .int .i64 (t).o.ln, .int .i64 (t).o.dy, .slice (t).o.Ad (t).o.dep.length (t).o.cd, .slice (t).o.Aa (t).o.arr.length (t).o.ca, .int .i64 (t).n.ln, .int .i64 (t).n.dy, .slice (t).n.Ad (t).n.dep.length (t).n.cd, .slice (t).n.Aa (t).n.arr.length (t).n.ca]] w (InsOut es t w) := by
  have HE := Lib.hid h
  have HT := Lib.hid ht
  have H1 := Lib.hid h1
  clear h ht h1
  obtain ⟨iE, b1, b2, b3, b4⟩ := info_parts infoEd
  have HIE := Lib.hid (And.intro b1 (And.intro b2 (And.intro b3 b4)))
  clear b1 b2 b3 b4
  have HX0 := Lib.hid (Blk.new w 40 #[.int .i64 (t).k, .int .i64 (t).o.ln, .int .i64 (t).o.dy, .slice (t).o.Ad (t).o.dep.length (t).o.cd, .slice (t).o.Aa (t).o.arr.length (t).o.ca, .int .i64 (t).n.ln, .int .i64 (t).n.dy, .slice (t).n.Ad (t).n.dep.length (t).n.cd, .slice (t).n.Aa (t).n.arr.length (t).n.ca])
  have HL0 := Lib.hid (show Below w.heap.size w (w.alloc (.cells #[.int .i64 (t).k, .int .i64 (t).o.ln, .int .i64 (t).o.dy, .slice (t).o.Ad (t).o.dep.length (t).o.cd, .slice (t).o.Aa (t).o.arr.length (t).o.ca, .int .i64 (t).n.ln, .int .i64 (t).n.dy, .slice (t).n.Ad (t).n.dep.length (t).n.cd, .slice (t).n.Aa (t).n.arr.length (t).n.ca] 40)) from (Below.refl _ _).alloc (Nat.le_refl _) _)
  go_enter Try.func39, Try.ntmps39
  go_wp2_with fail
  go_loopg [5] es.length (fun k v wr => InLE w es t k v wr)
  case atStart => exact ⟨es.length, rfl, rfl, Nat.le_refl _, rfl, HX0.out, HL0.out⟩
  case round =>
    clear HX0 HL0
    obtain ⟨j, rfl, hj, hjl, hz, hx, hb⟩ := hrel
    have Hj := Lib.hid hj
    have HB := Lib.hid hb
    have HX := Lib.hid hx
    have HZ := Lib.hid hz
    clear hj hz hb hx
    have x0 := HX.out.cell 0
    have x1 := HX.out.cell 1
    have x2 := HX.out.cell 2
    have x3 := HX.out.cell 3
    have x4 := HX.out.cell 4
    have x5 := HX.out.cell 5
    have x6 := HX.out.cell 6
    have x7 := HX.out.cell 7
    have x8 := HX.out.cell 8
    simp at x0 x1 x2 x3 x4 x5 x6 x7 x8
    have hxl := HX.out.lt
    by_cases hgo : ∃ (p : Nat) (hp : p < es.length), p + 1 = j ∧ ltK (keyE t.pe) (keyE (es[p]).pe)
    · obtain ⟨p, hpl, hpj, hlk⟩ := hgo
      have hz := HZ.out
      rw [← hpj, posE_on (keyE_map es p hpl) hlk] at hz
      have HZ2 := Lib.hid hz
      clear hz HZ
      obtain ⟨bb, off, rfl, hbb, q0, q1, q2, q3, q4, q5, q6, q7, q8⟩ := rdE (HE.out.r.grow HB.out) rfl p hpl
      have hbw : bb < wr.heap.size := World.block_lt_of_cell? _ _ q0
      have e0 : IntKind.i64.wrap ((j : Int) - 1) = (p : Int) := by rw [IntWalk.i64_in _ (by omega)]; omega
      have hpos : decide ((j : Int) > 0) = true := by simp; omega
      have hpos' : decide (0 < j) = true := by simp; omega
      have Hp := Lib.hid hpj
      have hu1 := H1.out es[p] (List.getElem_mem hpl)
      have HTM : Hid (∀ W, Below wr.heap.size wr W → TM W W.heap.size (keyC t)) := fun W hW => keyC_tm (HT.out.go (HB.out.trans (hW.mono HB.out.size)))
      have HUM : Hid (∀ W, Below wr.heap.size wr W → TM W W.heap.size (keyC es[p])) := fun W hW => keyC_tm ((HE.out.m _ (List.getElem_mem hpl)).go (HB.out.trans (hW.mono HB.out.size)))
      clear hpj
      generalize es[p] = u at *
      have HCM : Hid (∀ W, Below wr.heap.size wr W → Calls Try.prog 36 #[.agg #[.int .i64 (keyC u).ln, .int .i64 (keyC u).dy, .slice (keyC u).Ad (keyC u).dep.length (keyC u).cd, .slice (keyC u).Aa (keyC u).arr.length (keyC u).ca], .agg #[.int .i64 (keyC t).ln, .int .i64 (keyC t).dy, .slice (keyC t).Ad (keyC t).dep.length (keyC t).cd, .slice (keyC t).Aa (keyC t).arr.length (keyC t).ca]] W fun e w' => e = .returned (.int .i64 (cmpV (keyE u.pe) (keyE t.pe))) ∧ Below W.heap.size W w') := fun W hW => by
        rw [← keyC_pt, ← keyC_pt]
        exact ord_any (keyC u) (keyC t) W (HUM.out W hW) (HTM.out W hW) hu1 ht1
      have hcv := cmpV_gt.2 hlk
      clear hlk
      generalize cmpV (keyE u.pe) (keyE t.pe) = cv at *
      have HK1 := Lib.hid (fun W => rkey_any u W)
      have HK2 := Lib.hid (fun W => rkey_any t W)
      generalize keyC u = ku at *
      generalize keyC t = kt at *
      have hc : decide (cv > 0) = true := by simp; omega
      have hc' : decide (0 < cv) = true := by simp; omega
      go_upto_region 2 with fail
      refine wp_region_overL (by kernel_rfl) (by kernel_rfl) ?_
      repeat (go_big_quiet_step (first | (go_at_call 47; with_reducible exact callsOver (HK1.out _)) | (go_at_call 47; with_reducible exact callsOver (HK2.out _)) | (go_at_call 36; exact callsOver (HCM.out _ (over_below _ _)))))
      refine wpQuiet_nil ?_
      intro w6 hb6
      have HB6 := Lib.hid (HB.out.trans (hb6.mono HB.out.size))
      have HX6 := Lib.hid (HX.out.bel hb6)
      clear hb6 x0 x1 x2 x3 x4 x5 x6 x7 x8 q0 q1 q2 q3 q4 q5 q6 q7 q8 hpos hpos'
      go_wp2_with fail
      go_roundg p
      case measure => have := Hj.out; have := Hp.out; omega
      case rel => exact ⟨p, by first | rfl | go_num, rfl, by omega, HZ2.out, HX6.out, HB6.out⟩
    · have HPOS := Lib.hid (show posE (es.map CE.pe) t.pe es.length = j by
        rw [← HZ.out]
        cases j with
        | zero => rfl
        | succ p => exact posE_at (keyE_map es p (by omega)) (fun h => hgo ⟨p, by omega, rfl, h⟩))
      clear HZ
      have HOUT := Lib.hid (show (es.take j ++ t :: es.drop j).map CE.pe = insE (es.map CE.pe) t.pe by
        unfold insE
        rw [List.length_map, HPOS.out]
        simp)
      clear HPOS
      by_cases hj0 : j = 0
      · subst hj0
        clear hgo
        go_upto_region 2 with fail
        refine wp_region_overL (by kernel_rfl) (by kernel_rfl) ?_
        repeat (go_big_quiet_step (fail))
        refine wpQuiet_nil ?_
        intro w6 hb6
        have HB6 := Lib.hid (HB.out.trans (hb6.mono HB.out.size))
        have HX6 := Lib.hid (HX.out.bel hb6)
        clear hb6 x0 x1 x2 x3 x4 x5 x6 x7 x8 hxl
        rcases hA with rfl | ⟨bb, rfl⟩
        · obtain ⟨hn0, rfl⟩ := HE.out.nl rfl
          have hes : es = [] := List.eq_nil_of_length_eq_zero hn0
          subst hes
          clear hn0
          have HRD1 : Hid (Rd w6 w.heap.size 9 (none) 0 (((([] : List CE)).take 0).flatMap CE.cells)) := by
            have := rd_take (HE.out.r.grow HB6.out) (show 0 ≤ (([] : List CE)).length by omega)
            rwa [flat_take CE.cells 9 CE.len] at this
          have HRD2 : Hid (∀ W, Below w.heap.size w W → Rd W w.heap.size 9 (none) (0) (((([] : List CE)).drop 0).flatMap CE.cells)) := fun W hW => by
            rw [← flat_drop CE.cells 9 CE.len]
            exact Rd.empty _ _ _
          go_upto_region 4 with fail
          go_upto_region 5 with (at_builtin; refine wpList_append_any rfl _ _ 33 rfl w.heap.size 40 iE _ 9 136 Try.underlying33 HIE.out.1 HIE.out.2.1 HIE.out.2.2.1 HIE.out.2.2.2 rfl (by omega) (.slice none 0 0) 0 [] rfl (World.ownsRow_nil _ _ _ _) (none) 0 _ w.heap.size (((([] : List CE)).take 0).flatMap CE.cells) rfl (fun _ => ⟨rfl, rfl⟩) HRD1.out (es_one _) ?r1 ?r2 HB6.out.size ?_; rotate_right; intro v1 w1 ho1 hg1 hat1)
          case r1 => simp only [maxLen]; omega
          case r2 => omega
          rw [Nat.zero_add, List.nil_append] at ho1
          have hb1 : Below w6.heap.size w6 w1 := Below.grown (Below.refl _ _) hg1 (Nat.le_refl _) (fun k hk => by simp [Value.ownBlock] at hk)
          have HB1 := Lib.hid (HB6.out.trans (hb1.mono HB6.out.size))
          have hx1 := HX6.out.bel hb1
          have x0 := hx1.cell 0
          have x1 := hx1.cell 1
          have x2 := hx1.cell 2
          have x3 := hx1.cell 3
          have x4 := hx1.cell 4
          have x5 := hx1.cell 5
          have x6 := hx1.cell 6
          have x7 := hx1.cell 7
          have x8 := hx1.cell 8
          simp at x0 x1 x2 x3 x4 x5 x6 x7 x8
          have hxl := hx1.lt
          obtain ⟨A1, c1, rfl, _, _⟩ := own_slice ho1
          have Ho1 := Lib.hid ho1
          have hle1 := HB1.out.size
          clear ho1 hg1 hat1 hb1 hx1 HRD1
          go_upto_region 6 with (at_builtin; refine wpList_append_own_at _ rfl _ _ 33 rfl (w.heap.size) 40 iE _ 9 136 Try.underlying33 HIE.out.1 HIE.out.2.1 HIE.out.2.2.1 HIE.out.2.2.2 rfl (by omega) _ (0) _ rfl (World.ownsRow.alloc Ho1.out _) ⟨(w1).heap.size, 0, none⟩ 1 1 (CE.cells t) rfl rfl ?c0 ?c1 ?c2 ?c3 ?c4 ?_; rotate_right; intro v' w' hown' hg' _ hat')
          case c0 => first | exact news_new _ _ (CE.cells t) | exact fun _ _ h => h
          case c1 => exact CE.one _
          case c2 => simp only [maxLen]; omega
          case c3 => omega
          case c4 => first | omega | (simp; omega)
          have HB2 := Lib.hid (show Below w.heap.size w w' from (HB1.out.alloc hle1 _).grown hg' (by simp; omega) (fun k hk => (own_block Ho1.out k hk).1))
          obtain ⟨A2, c2, rfl, _, _⟩ := own_slice hown'
          have Ho2 := Lib.hid hown'
          have hle2 := HB2.out.size
          clear hown' hg' hat' x0 x1 x2 x3 x4 x5 x6 x7 x8 hxl Ho1 HB1
          go_wp2_with (at_builtin; refine wpList_append_any rfl _ _ 33 rfl w.heap.size 40 iE _ 9 136 Try.underlying33 HIE.out.1 HIE.out.2.1 HIE.out.2.2.1 HIE.out.2.2.2 rfl (by omega) (.slice A2 (0 + 1) c2) (0 + 1) _ rfl Ho2.out (none) (0) _ w.heap.size (((([] : List CE)).drop 0).flatMap CE.cells) rfl (fun _ => ⟨rfl, rfl⟩) (HRD2.out _ HB2.out) (es_one _) ?s1 ?s2 HB2.out.size ?_; rotate_right; intro v3 w3 ho3 hg3 hat3)
          case s1 => simp only [maxLen]; omega
          case s2 => omega
          have HB3 := Lib.hid (show Below w.heap.size w w3 from HB2.out.grown hg3 hle2 (fun k hk => (own_block Ho2.out k hk).1))
          rw [show 0 + 1 + (0) = (([] : List CE)).length + 1 by first | omega | rfl] at ho3
          obtain ⟨A3, c3, rfl, _, _⟩ := own_slice ho3
          have Ho3 := Lib.hid ho3
          clear ho3 hg3 hat3
          go_ret
          refine ⟨A3, c3, 0, by omega, rfl, ?_, HOUT.out, HB3.out⟩
          have h3 := Ho3.out
          rw [List.flatMap_append, List.flatMap_cons]
          simpa using h3
        · by_cases hc0 : c = 0
          · subst hc0
            have hn0 : es.length = 0 := by have := HE.out.le; omega
            have hes : es = [] := List.eq_nil_of_length_eq_zero hn0
            subst hes
            clear hn0
            have HRD1 : Hid (Rd w6 w.heap.size 9 (some ⟨bb, 0, none⟩) 0 (((([] : List CE)).take 0).flatMap CE.cells)) := by
              have := rd_take (HE.out.r.grow HB6.out) (show 0 ≤ (([] : List CE)).length by omega)
              rwa [flat_take CE.cells 9 CE.len] at this
            have HRD2 : Hid (∀ W, Below w.heap.size w W → Rd W w.heap.size 9 (some ⟨bb, 0, none⟩) (0) (((([] : List CE)).drop 0).flatMap CE.cells)) := fun W hW => by
              rw [← flat_drop CE.cells 9 CE.len]
              exact Rd.empty _ _ _
            go_upto_region 4 with fail
            go_upto_region 5 with (at_builtin; refine wpList_append_any rfl _ _ 33 rfl w.heap.size 40 iE _ 9 136 Try.underlying33 HIE.out.1 HIE.out.2.1 HIE.out.2.2.1 HIE.out.2.2.2 rfl (by omega) (.slice none 0 0) 0 [] rfl (World.ownsRow_nil _ _ _ _) (some ⟨bb, 0, none⟩) 0 _ w.heap.size (((([] : List CE)).take 0).flatMap CE.cells) rfl (fun h => by cases h) HRD1.out (es_one _) ?r1 ?r2 HB6.out.size ?_; rotate_right; intro v1 w1 ho1 hg1 hat1)
            case r1 => simp only [maxLen]; omega
            case r2 => omega
            rw [Nat.zero_add, List.nil_append] at ho1
            have hb1 : Below w6.heap.size w6 w1 := Below.grown (Below.refl _ _) hg1 (Nat.le_refl _) (fun k hk => by simp [Value.ownBlock] at hk)
            have HB1 := Lib.hid (HB6.out.trans (hb1.mono HB6.out.size))
            have hx1 := HX6.out.bel hb1
            have x0 := hx1.cell 0
            have x1 := hx1.cell 1
            have x2 := hx1.cell 2
            have x3 := hx1.cell 3
            have x4 := hx1.cell 4
            have x5 := hx1.cell 5
            have x6 := hx1.cell 6
            have x7 := hx1.cell 7
            have x8 := hx1.cell 8
            simp at x0 x1 x2 x3 x4 x5 x6 x7 x8
            have hxl := hx1.lt
            obtain ⟨A1, c1, rfl, _, _⟩ := own_slice ho1
            have Ho1 := Lib.hid ho1
            have hle1 := HB1.out.size
            clear ho1 hg1 hat1 hb1 hx1 HRD1
            go_upto_region 6 with (at_builtin; refine wpList_append_own_at _ rfl _ _ 33 rfl (w.heap.size) 40 iE _ 9 136 Try.underlying33 HIE.out.1 HIE.out.2.1 HIE.out.2.2.1 HIE.out.2.2.2 rfl (by omega) _ (0) _ rfl (World.ownsRow.alloc Ho1.out _) ⟨(w1).heap.size, 0, none⟩ 1 1 (CE.cells t) rfl rfl ?c0 ?c1 ?c2 ?c3 ?c4 ?_; rotate_right; intro v' w' hown' hg' _ hat')
            case c0 => first | exact news_new _ _ (CE.cells t) | exact fun _ _ h => h
            case c1 => exact CE.one _
            case c2 => simp only [maxLen]; omega
            case c3 => omega
            case c4 => first | omega | (simp; omega)
            have HB2 := Lib.hid (show Below w.heap.size w w' from (HB1.out.alloc hle1 _).grown hg' (by simp; omega) (fun k hk => (own_block Ho1.out k hk).1))
            obtain ⟨A2, c2, rfl, _, _⟩ := own_slice hown'
            have Ho2 := Lib.hid hown'
            have hle2 := HB2.out.size
            clear hown' hg' hat' x0 x1 x2 x3 x4 x5 x6 x7 x8 hxl Ho1 HB1
            go_wp2_with (at_builtin; refine wpList_append_any rfl _ _ 33 rfl w.heap.size 40 iE _ 9 136 Try.underlying33 HIE.out.1 HIE.out.2.1 HIE.out.2.2.1 HIE.out.2.2.2 rfl (by omega) (.slice A2 (0 + 1) c2) (0 + 1) _ rfl Ho2.out (some ⟨bb, 0, none⟩) (0) _ w.heap.size (((([] : List CE)).drop 0).flatMap CE.cells) rfl (fun h => by cases h) (HRD2.out _ HB2.out) (es_one _) ?s1 ?s2 HB2.out.size ?_; rotate_right; intro v3 w3 ho3 hg3 hat3)
            case s1 => simp only [maxLen]; omega
            case s2 => omega
            have HB3 := Lib.hid (show Below w.heap.size w w3 from HB2.out.grown hg3 hle2 (fun k hk => (own_block Ho2.out k hk).1))
            rw [show 0 + 1 + (0) = (([] : List CE)).length + 1 by first | omega | rfl] at ho3
            obtain ⟨A3, c3, rfl, _, _⟩ := own_slice ho3
            have Ho3 := Lib.hid ho3
            clear ho3 hg3 hat3
            go_ret
            refine ⟨A3, c3, 0, by omega, rfl, ?_, HOUT.out, HB3.out⟩
            have h3 := Ho3.out
            rw [List.flatMap_append, List.flatMap_cons]
            simpa using h3
          · have hcl := HE.out.le
            have hnc : (es.length : Int) ≤ (c : Int) := by omega
            have HRD1 : Hid (Rd w6 w.heap.size 9 (some ⟨bb, 0, none⟩) 0 (((es).take 0).flatMap CE.cells)) := by
              have := rd_take (HE.out.r.grow HB6.out) (show 0 ≤ (es).length by omega)
              rwa [flat_take CE.cells 9 CE.len] at this
            have HRD2 : Hid (∀ W, Below w.heap.size w W → Rd W w.heap.size 9 (some ⟨bb, 0, none⟩) (es.length - 0) (((es).drop 0).flatMap CE.cells)) := fun W hW => by
              rw [← flat_drop CE.cells 9 CE.len]
              (have h := rd_drop (HE.out.r.grow hW) (Nat.zero_le es.length); simpa using h)
            go_upto_region 4 with fail
            go_upto_region 5 with (at_builtin; refine wpList_append_any rfl _ _ 33 rfl w.heap.size 40 iE _ 9 136 Try.underlying33 HIE.out.1 HIE.out.2.1 HIE.out.2.2.1 HIE.out.2.2.2 rfl (by omega) (.slice none 0 0) 0 [] rfl (World.ownsRow_nil _ _ _ _) (some ⟨bb, 0, none⟩) 0 _ w.heap.size (((es).take 0).flatMap CE.cells) rfl (fun h => by cases h) HRD1.out (es_one _) ?r1 ?r2 HB6.out.size ?_; rotate_right; intro v1 w1 ho1 hg1 hat1)
            case r1 => simp only [maxLen]; omega
            case r2 => omega
            rw [Nat.zero_add, List.nil_append] at ho1
            have hb1 : Below w6.heap.size w6 w1 := Below.grown (Below.refl _ _) hg1 (Nat.le_refl _) (fun k hk => by simp [Value.ownBlock] at hk)
            have HB1 := Lib.hid (HB6.out.trans (hb1.mono HB6.out.size))
            have hx1 := HX6.out.bel hb1
            have x0 := hx1.cell 0
            have x1 := hx1.cell 1
            have x2 := hx1.cell 2
            have x3 := hx1.cell 3
            have x4 := hx1.cell 4
            have x5 := hx1.cell 5
            have x6 := hx1.cell 6
            have x7 := hx1.cell 7
            have x8 := hx1.cell 8
            simp at x0 x1 x2 x3 x4 x5 x6 x7 x8
            have hxl := hx1.lt
            obtain ⟨A1, c1, rfl, _, _⟩ := own_slice ho1
            have Ho1 := Lib.hid ho1
            have hle1 := HB1.out.size
            clear ho1 hg1 hat1 hb1 hx1 HRD1
            go_upto_region 6 with (at_builtin; refine wpList_append_own_at _ rfl _ _ 33 rfl (w.heap.size) 40 iE _ 9 136 Try.underlying33 HIE.out.1 HIE.out.2.1 HIE.out.2.2.1 HIE.out.2.2.2 rfl (by omega) _ (0) _ rfl (World.ownsRow.alloc Ho1.out _) ⟨(w1).heap.size, 0, none⟩ 1 1 (CE.cells t) rfl rfl ?c0 ?c1 ?c2 ?c3 ?c4 ?_; rotate_right; intro v' w' hown' hg' _ hat')
            case c0 => first | exact news_new _ _ (CE.cells t) | exact fun _ _ h => h
            case c1 => exact CE.one _
            case c2 => simp only [maxLen]; omega
            case c3 => omega
            case c4 => first | omega | (simp; omega)
            have HB2 := Lib.hid (show Below w.heap.size w w' from (HB1.out.alloc hle1 _).grown hg' (by simp; omega) (fun k hk => (own_block Ho1.out k hk).1))
            obtain ⟨A2, c2, rfl, _, _⟩ := own_slice hown'
            have Ho2 := Lib.hid hown'
            have hle2 := HB2.out.size
            clear hown' hg' hat' x0 x1 x2 x3 x4 x5 x6 x7 x8 hxl Ho1 HB1
            go_wp2_with (at_builtin; refine wpList_append_any rfl _ _ 33 rfl w.heap.size 40 iE _ 9 136 Try.underlying33 HIE.out.1 HIE.out.2.1 HIE.out.2.2.1 HIE.out.2.2.2 rfl (by omega) (.slice A2 (0 + 1) c2) (0 + 1) _ rfl Ho2.out (some ⟨bb, 0, none⟩) (es.length - 0) _ w.heap.size (((es).drop 0).flatMap CE.cells) rfl (fun h => by cases h) (HRD2.out _ HB2.out) (es_one _) ?s1 ?s2 HB2.out.size ?_; rotate_right; intro v3 w3 ho3 hg3 hat3)
            case s1 => simp only [maxLen]; omega
            case s2 => omega
            have HB3 := Lib.hid (show Below w.heap.size w w3 from HB2.out.grown hg3 hle2 (fun k hk => (own_block Ho2.out k hk).1))
            rw [show 0 + 1 + (es.length - 0) = (es).length + 1 by first | omega | rfl] at ho3
            obtain ⟨A3, c3, rfl, _, _⟩ := own_slice ho3
            have Ho3 := Lib.hid ho3
            clear ho3 hg3 hat3
            go_ret
            refine ⟨A3, c3, 0, by omega, rfl, ?_, HOUT.out, HB3.out⟩
            have h3 := Ho3.out
            rw [List.flatMap_append, List.flatMap_cons]
            simpa using h3
      · obtain ⟨p, hpj⟩ : ∃ p, p + 1 = j := ⟨j - 1, by omega⟩
        have hpl : p < es.length := by omega
        have hlk : ¬ ltK (keyE t.pe) (keyE (es[p]).pe) := fun h => hgo ⟨p, hpl, hpj, h⟩
        clear hgo
        obtain ⟨bb, off, rfl, hbb, q0, q1, q2, q3, q4, q5, q6, q7, q8⟩ := rdE (HE.out.r.grow HB.out) rfl p hpl
        have hbw : bb < wr.heap.size := World.block_lt_of_cell? _ _ q0
        have e0 : IntKind.i64.wrap ((j : Int) - 1) = (p : Int) := by rw [IntWalk.i64_in _ (by omega)]; omega
        have hpos : decide ((j : Int) > 0) = true := by simp; omega
        have hpos' : decide (0 < j) = true := by simp; omega
        have Hp := Lib.hid hpj
        have hu1 := H1.out es[p] (List.getElem_mem hpl)
        have HTM : Hid (∀ W, Below wr.heap.size wr W → TM W W.heap.size (keyC t)) := fun W hW => keyC_tm (HT.out.go (HB.out.trans (hW.mono HB.out.size)))
        have HUM : Hid (∀ W, Below wr.heap.size wr W → TM W W.heap.size (keyC es[p])) := fun W hW => keyC_tm ((HE.out.m _ (List.getElem_mem hpl)).go (HB.out.trans (hW.mono HB.out.size)))
        clear hpj
        generalize es[p] = u at *
        have HCM : Hid (∀ W, Below wr.heap.size wr W → Calls Try.prog 36 #[.agg #[.int .i64 (keyC u).ln, .int .i64 (keyC u).dy, .slice (keyC u).Ad (keyC u).dep.length (keyC u).cd, .slice (keyC u).Aa (keyC u).arr.length (keyC u).ca], .agg #[.int .i64 (keyC t).ln, .int .i64 (keyC t).dy, .slice (keyC t).Ad (keyC t).dep.length (keyC t).cd, .slice (keyC t).Aa (keyC t).arr.length (keyC t).ca]] W fun e w' => e = .returned (.int .i64 (cmpV (keyE u.pe) (keyE t.pe))) ∧ Below W.heap.size W w') := fun W hW => by
          rw [← keyC_pt, ← keyC_pt]
          exact ord_any (keyC u) (keyC t) W (HUM.out W hW) (HTM.out W hW) hu1 ht1
        have hcv := fun h => hlk (cmpV_gt.1 h)
        clear hlk
        generalize cmpV (keyE u.pe) (keyE t.pe) = cv at *
        have HK1 := Lib.hid (fun W => rkey_any u W)
        have HK2 := Lib.hid (fun W => rkey_any t W)
        have hc : decide (cv > 0) = false := by simpa using hcv
        have hc' : decide (0 < cv) = false := by simpa using hcv
        generalize hku : keyC u = ku at *
        generalize hkt : keyC t = kt at *
        clear hku hkt hcv
        go_upto_region 2 with fail
        refine wp_region_overL (by kernel_rfl) (by kernel_rfl) ?_
        repeat (go_big_quiet_step (first | (go_at_call 47; with_reducible exact callsOver (HK1.out _)) | (go_at_call 47; with_reducible exact callsOver (HK2.out _)) | (go_at_call 36; exact callsOver (HCM.out _ (over_below _ _)))))
        refine wpQuiet_nil ?_
        intro w6 hb6
        have HB6 := Lib.hid (HB.out.trans (hb6.mono HB.out.size))
        have HX6 := Lib.hid (HX.out.bel hb6)
        clear hb6 x0 x1 x2 x3 x4 x5 x6 x7 x8 q0 q1 q2 q3 q4 q5 q6 q7 q8 hpos hpos' hc hc' HK1 HK2 HCM HUM HTM hxl
        rcases hA with hA | ⟨b', hA⟩
        · cases hA
        · injection hA with hA
          injection hA with e1 e2
          subst e1 e2
          have hA : (some (⟨bb, 0, none⟩ : Addr) = none) ∨ ∃ b, (some (⟨bb, 0, none⟩ : Addr)) = some ⟨b, 0, none⟩ := .inr ⟨bb, rfl⟩
          have hcl := HE.out.le
          have hcj : (j : Int) ≤ (c : Int) := by omega
          have hnj : (j : Int) ≤ (es.length : Int) := by omega
          have hnc : (es.length : Int) ≤ (c : Int) := by omega
          have hc0 : ¬ c = 0 := by omega
          by_cases hce : c = j
          · subst hce
            have HRD1 : Hid (Rd w6 w.heap.size 9 (some ⟨bb, 0, none⟩) c (((es).take c).flatMap CE.cells)) := by
              have := rd_take (HE.out.r.grow HB6.out) (show c ≤ (es).length by omega)
              rwa [flat_take CE.cells 9 CE.len] at this
            have HRD2 : Hid (∀ W, Below w.heap.size w W → Rd W w.heap.size 9 (some ⟨bb, 0, none⟩) (0) (((es).drop c).flatMap CE.cells)) := fun W hW => by
              rw [← flat_drop CE.cells 9 CE.len]
              (have h0 : (es.drop c) = [] := List.drop_of_length_le (by omega); rw [flat_drop CE.cells 9 CE.len, h0]; exact Rd.empty _ _ _)
            go_upto_region 4 with fail
            go_upto_region 5 with (at_builtin; refine wpList_append_any rfl _ _ 33 rfl w.heap.size 40 iE _ 9 136 Try.underlying33 HIE.out.1 HIE.out.2.1 HIE.out.2.2.1 HIE.out.2.2.2 rfl (by omega) (.slice none 0 0) 0 [] rfl (World.ownsRow_nil _ _ _ _) (some ⟨bb, 0, none⟩) c _ w.heap.size (((es).take c).flatMap CE.cells) rfl (fun h => by cases h) HRD1.out (es_one _) ?r1 ?r2 HB6.out.size ?_; rotate_right; intro v1 w1 ho1 hg1 hat1)
            case r1 => simp only [maxLen]; omega
            case r2 => omega
            rw [Nat.zero_add, List.nil_append] at ho1
            have hb1 : Below w6.heap.size w6 w1 := Below.grown (Below.refl _ _) hg1 (Nat.le_refl _) (fun k hk => by simp [Value.ownBlock] at hk)
            have HB1 := Lib.hid (HB6.out.trans (hb1.mono HB6.out.size))
            have hx1 := HX6.out.bel hb1
            have x0 := hx1.cell 0
            have x1 := hx1.cell 1
            have x2 := hx1.cell 2
            have x3 := hx1.cell 3
            have x4 := hx1.cell 4
            have x5 := hx1.cell 5
            have x6 := hx1.cell 6
            have x7 := hx1.cell 7
            have x8 := hx1.cell 8
            simp at x0 x1 x2 x3 x4 x5 x6 x7 x8
            have hxl := hx1.lt
            obtain ⟨A1, c1, rfl, _, _⟩ := own_slice ho1
            have Ho1 := Lib.hid ho1
            have hle1 := HB1.out.size
            clear ho1 hg1 hat1 hb1 hx1 HRD1
            go_upto_region 6 with (at_builtin; refine wpList_append_own_at _ rfl _ _ 33 rfl (w.heap.size) 40 iE _ 9 136 Try.underlying33 HIE.out.1 HIE.out.2.1 HIE.out.2.2.1 HIE.out.2.2.2 rfl (by omega) _ (c) _ rfl (World.ownsRow.alloc Ho1.out _) ⟨(w1).heap.size, 0, none⟩ 1 1 (CE.cells t) rfl rfl ?c0 ?c1 ?c2 ?c3 ?c4 ?_; rotate_right; intro v' w' hown' hg' _ hat')
            case c0 => first | exact news_new _ _ (CE.cells t) | exact fun _ _ h => h
            case c1 => exact CE.one _
            case c2 => simp only [maxLen]; omega
            case c3 => omega
            case c4 => first | omega | (simp; omega)
            have HB2 := Lib.hid (show Below w.heap.size w w' from (HB1.out.alloc hle1 _).grown hg' (by simp; omega) (fun k hk => (own_block Ho1.out k hk).1))
            obtain ⟨A2, c2, rfl, _, _⟩ := own_slice hown'
            have Ho2 := Lib.hid hown'
            have hle2 := HB2.out.size
            clear hown' hg' hat' x0 x1 x2 x3 x4 x5 x6 x7 x8 hxl Ho1 HB1
            go_wp2_with (at_builtin; refine wpList_append_any rfl _ _ 33 rfl w.heap.size 40 iE _ 9 136 Try.underlying33 HIE.out.1 HIE.out.2.1 HIE.out.2.2.1 HIE.out.2.2.2 rfl (by omega) (.slice A2 (c + 1) c2) (c + 1) _ rfl Ho2.out (some ⟨bb, 0, none⟩) (0) _ w.heap.size (((es).drop c).flatMap CE.cells) rfl (fun h => by cases h) (HRD2.out _ HB2.out) (es_one _) ?s1 ?s2 HB2.out.size ?_; rotate_right; intro v3 w3 ho3 hg3 hat3)
            case s1 => simp only [maxLen]; omega
            case s2 => omega
            have HB3 := Lib.hid (show Below w.heap.size w w3 from HB2.out.grown hg3 hle2 (fun k hk => (own_block Ho2.out k hk).1))
            rw [show c + 1 + (0) = (es).length + 1 by first | omega | rfl] at ho3
            obtain ⟨A3, c3, rfl, _, _⟩ := own_slice ho3
            have Ho3 := Lib.hid ho3
            clear ho3 hg3 hat3
            go_ret
            refine ⟨A3, c3, c, by omega, rfl, ?_, HOUT.out, HB3.out⟩
            have h3 := Ho3.out
            rw [List.flatMap_append, List.flatMap_cons]
            simpa using h3
          · skip
            have HRD1 : Hid (Rd w6 w.heap.size 9 (some ⟨bb, 0, none⟩) j (((es).take j).flatMap CE.cells)) := by
              have := rd_take (HE.out.r.grow HB6.out) (show j ≤ (es).length by omega)
              rwa [flat_take CE.cells 9 CE.len] at this
            have HRD2 : Hid (∀ W, Below w.heap.size w W → Rd W w.heap.size 9 (some ⟨bb, j * 9, none⟩) (es.length - j) (((es).drop j).flatMap CE.cells)) := fun W hW => by
              rw [← flat_drop CE.cells 9 CE.len]
              (have h := rd_drop (HE.out.r.grow hW) (show j ≤ es.length by omega); rwa [Nat.zero_add] at h)
            go_upto_region 4 with fail
            go_upto_region 5 with (at_builtin; refine wpList_append_any rfl _ _ 33 rfl w.heap.size 40 iE _ 9 136 Try.underlying33 HIE.out.1 HIE.out.2.1 HIE.out.2.2.1 HIE.out.2.2.2 rfl (by omega) (.slice none 0 0) 0 [] rfl (World.ownsRow_nil _ _ _ _) (some ⟨bb, 0, none⟩) j _ w.heap.size (((es).take j).flatMap CE.cells) rfl (fun h => by cases h) HRD1.out (es_one _) ?r1 ?r2 HB6.out.size ?_; rotate_right; intro v1 w1 ho1 hg1 hat1)
            case r1 => simp only [maxLen]; omega
            case r2 => omega
            rw [Nat.zero_add, List.nil_append] at ho1
            have hb1 : Below w6.heap.size w6 w1 := Below.grown (Below.refl _ _) hg1 (Nat.le_refl _) (fun k hk => by simp [Value.ownBlock] at hk)
            have HB1 := Lib.hid (HB6.out.trans (hb1.mono HB6.out.size))
            have hx1 := HX6.out.bel hb1
            have x0 := hx1.cell 0
            have x1 := hx1.cell 1
            have x2 := hx1.cell 2
            have x3 := hx1.cell 3
            have x4 := hx1.cell 4
            have x5 := hx1.cell 5
            have x6 := hx1.cell 6
            have x7 := hx1.cell 7
            have x8 := hx1.cell 8
            simp at x0 x1 x2 x3 x4 x5 x6 x7 x8
            have hxl := hx1.lt
            obtain ⟨A1, c1, rfl, _, _⟩ := own_slice ho1
            have Ho1 := Lib.hid ho1
            have hle1 := HB1.out.size
            clear ho1 hg1 hat1 hb1 hx1 HRD1
            go_upto_region 6 with (at_builtin; refine wpList_append_own_at _ rfl _ _ 33 rfl (w.heap.size) 40 iE _ 9 136 Try.underlying33 HIE.out.1 HIE.out.2.1 HIE.out.2.2.1 HIE.out.2.2.2 rfl (by omega) _ (j) _ rfl (World.ownsRow.alloc Ho1.out _) ⟨(w1).heap.size, 0, none⟩ 1 1 (CE.cells t) rfl rfl ?c0 ?c1 ?c2 ?c3 ?c4 ?_; rotate_right; intro v' w' hown' hg' _ hat')
            case c0 => first | exact news_new _ _ (CE.cells t) | exact fun _ _ h => h
            case c1 => exact CE.one _
            case c2 => simp only [maxLen]; omega
            case c3 => omega
            case c4 => first | omega | (simp; omega)
            have HB2 := Lib.hid (show Below w.heap.size w w' from (HB1.out.alloc hle1 _).grown hg' (by simp; omega) (fun k hk => (own_block Ho1.out k hk).1))
            obtain ⟨A2, c2, rfl, _, _⟩ := own_slice hown'
            have Ho2 := Lib.hid hown'
            have hle2 := HB2.out.size
            clear hown' hg' hat' x0 x1 x2 x3 x4 x5 x6 x7 x8 hxl Ho1 HB1
            go_wp2_with (at_builtin; refine wpList_append_any rfl _ _ 33 rfl w.heap.size 40 iE _ 9 136 Try.underlying33 HIE.out.1 HIE.out.2.1 HIE.out.2.2.1 HIE.out.2.2.2 rfl (by omega) (.slice A2 (j + 1) c2) (j + 1) _ rfl Ho2.out (some ⟨bb, j * 9, none⟩) (es.length - j) _ w.heap.size (((es).drop j).flatMap CE.cells) rfl (fun h => by cases h) (HRD2.out _ HB2.out) (es_one _) ?s1 ?s2 HB2.out.size ?_; rotate_right; intro v3 w3 ho3 hg3 hat3)
            case s1 => simp only [maxLen]; omega
            case s2 => omega
            have HB3 := Lib.hid (show Below w.heap.size w w3 from HB2.out.grown hg3 hle2 (fun k hk => (own_block Ho2.out k hk).1))
            rw [show j + 1 + (es.length - j) = (es).length + 1 by first | omega | rfl] at ho3
            obtain ⟨A3, c3, rfl, _, _⟩ := own_slice ho3
            have Ho3 := Lib.hid ho3
            clear ho3 hg3 hat3
            go_ret
            refine ⟨A3, c3, j, by omega, rfl, ?_, HOUT.out, HB3.out⟩
            have h3 := Ho3.out
            rw [List.flatMap_append, List.flatMap_cons]
            simpa using h3
end Go.Proofs.Ythfifejjfnmpoaa
