import Derived.Test.YthfifejjfnmpoaaTp13
namespace Go.Proofs.Ythfifejjfnmpoaa
open Go.RowKit
theorem own_at0 {w : World} {base n c : Nat} {e : TypeId} {sz : Nat} {A : Option Addr} {zs : List Value} (h : w.ownsRow base e sz (.slice A n c) n zs) : A = none ∨ ∃ b, A = some ⟨b, 0, none⟩ := by
  rcases h.2 with ⟨hv, _⟩ | ⟨g, cap, cur, hv, _⟩
  · injection hv with h1; exact .inl h1
  · injection hv with h1; exact .inr ⟨g, h1⟩
theorem EO.ins {w w' : World} {base : Nat} {v : Value} {es : List CE} {x : CE} {A : Option Addr} {c k : Nat} (h : EO w base v es) (hx : EM w base x) (hb : Below w.heap.size w w') (hw : base ≤ w.heap.size) (hk : k ≤ es.length)
    (ho : w'.ownsRow w.heap.size 40 9 (.slice A (es.length + 1) c) (es.length + 1) ((es.take k ++ x :: es.drop k).flatMap CE.cells)) : EO w' base (.slice A (es.length + 1) c) (es.take k ++ x :: es.drop k) := by
  have hl : (es.take k ++ x :: es.drop k).length = es.length + 1 := by simp; omega
  refine ⟨by rw [hl]; exact own_base ho hw, fun y hy => ?_⟩
  rcases List.mem_append.1 hy with hy | hy
  · exact (h.m y (List.mem_of_mem_take hy)).kp (Kp.bel hb)
  · rcases List.mem_cons.1 hy with rfl | hy
    · exact hx.kp (Kp.bel hb)
    · exact (h.m y (List.mem_of_mem_drop hy)).kp (Kp.bel hb)
theorem mem_ins {es : List CE} {x y : CE} {k : Nat} (h : y ∈ es.take k ++ x :: es.drop k) : y = x ∨ y ∈ es := by
  rcases List.mem_append.1 h with h | h
  · exact .inr (List.mem_of_mem_take h)
  · rcases List.mem_cons.1 h with h | h
    · exact .inl h
    · exact .inr (List.mem_of_mem_drop h)
def dfV (a b : List PT) : List PE := if chkT a = true ∧ chkT b = true then diffM a b else []
def dfC (a b : List PT) : Int := if chkT a = true ∧ chkT b = true then 0 else 1
theorem chkT_len {ts : List CT} (h : chkT (ts.map CT.pt) = true) : ts.length ≤ 1024 ∧ (∀ t ∈ ts, 1 ≤ t.dep.length) ∧ Asc (ts.map CT.pt) := by
  obtain ⟨h1, h2, h3⟩ := chkT_iff.1 h
  exact ⟨by simpa using h1, fun t ht => (okT_iff.1 (h2 t.pt (List.mem_map.2 ⟨t, ht, rfl⟩))).2.2.2.1, h3⟩
def DfOut (xs ys : List CT) (w : World) (e : Ending) (w' : World) : Prop :=
  ∃ (A : Option Addr) (c : Nat) (es : List CE), e = .returned (.tuple #[.slice A es.length c, .int .i64 (dfC (xs.map CT.pt) (ys.map CT.pt))]) ∧ EO w' w.heap.size (.slice A es.length c) es ∧ es.map CE.pe = dfV (xs.map CT.pt) (ys.map CT.pt) ∧ es.length ≤ 2048 ∧ Below w.heap.size w w'
/-- what the loops hold -/
structure RdS (w : World) (wr : World) (v : Value) (es : List CE) (n : Nat) : Prop where
  o : EO wr w.heap.size v es
  k : ∀ x ∈ es, 1 ≤ (keyC x).dep.length
  n : es.length ≤ n
  b : Below w.heap.size w wr
theorem RdS.bel {w wr w' : World} {v : Value} {es : List CE} {n : Nat} (h : RdS w wr v es n) (hb : Below wr.heap.size wr w') : RdS w w' v es n := ⟨h.o.bel hb, h.k, h.n, h.b.trans (hb.mono h.b.size)⟩
theorem RdS.more {w wr : World} {v : Value} {es : List CE} {n n' : Nat} (h : RdS w wr v es n) (hn : n ≤ n') : RdS w wr v es n' := ⟨h.o, h.k, Nat.le_trans h.n hn, h.b⟩
theorem RdS.ins {w wr w' : World} {v : Value} {es : List CE} {n : Nat} {x : CE} {A : Option Addr} {c k : Nat} (h : RdS w wr v es n) (hx : EM wr w.heap.size x) (hx1 : 1 ≤ (keyC x).dep.length) (hb : Below wr.heap.size wr w') (hk : k ≤ es.length)
    (ho : w'.ownsRow wr.heap.size 40 9 (.slice A (es.length + 1) c) (es.length + 1) ((es.take k ++ x :: es.drop k).flatMap CE.cells)) : RdS w w' (.slice A (es.length + 1) c) (es.take k ++ x :: es.drop k) (n + 1) :=
  ⟨h.o.ins hx hb h.b.size hk ho, fun y hy => (mem_ins hy).elim (fun e => e ▸ hx1) (h.k y), by have := h.n; simp; omega, h.b.trans (hb.mono h.b.size)⟩
def RdL1 (w : World) (xs ys : List CT) (k : Nat) (v6 v : Value) (wr : World) : Prop :=
  ∃ (j : Nat) (es : List CE), v = .int .i64 j ∧ j + k = xs.length ∧ es.map CE.pe = ((xs.map CT.pt).take j).foldl (stA (ys.map CT.pt)) [] ∧ RdS w wr v6 es j
def RdL2 (w : World) (xs ys : List CT) (k : Nat) (v6 v : Value) (wr : World) : Prop :=
  ∃ (j : Nat) (es : List CE), v = .int .i64 j ∧ j + k = ys.length ∧ es.map CE.pe = ((ys.map CT.pt).take j).foldl (stB (xs.map CT.pt)) ((xs.map CT.pt).foldl (stA (ys.map CT.pt)) []) ∧ RdS w wr v6 es (xs.length + j)
theorem foldl_step {α β : Type} (f : β → α → β) (L : List α) (b : β) (j : Nat) (h : j < L.length) : (L.take (j + 1)).foldl f b = f ((L.take j).foldl f b) L[j] := by
  rw [List.take_succ_eq_append_getElem h, List.foldl_append]; rfl
set_option maxRecDepth 100000 in
set_option maxHeartbeats 3200000 in
theorem rdiff_any (A B : Option Addr) (c c' : Nat) (xs ys : List CT) (w : World) (ha : TL w A c xs) (hb : TL w B c' ys) :
    Calls Try.prog 19 #[.slice A xs.length c, .slice B ys.length c'] w (DfOut xs ys w) := by
  have HA := Lib.hid ha
  have HB := Lib.hid hb
  clear ha hb
  go_enter Try.func19, Try.ntmps19
  go_wp2_with fail
  refine (rcheck_any A c xs _ HA.out).mono ?_
  rintro e w1 ⟨rfl, hb1⟩
  have HB1 := Lib.hid hb1
  clear hb1
  by_cases h1 : chkT (xs.map CT.pt) = true
  case neg =>
    have h1' : chkT (xs.map CT.pt) = false := by simpa using h1
    have HV := Lib.hid (show dfV (xs.map CT.pt) (ys.map CT.pt) = [] by unfold dfV; rw [if_neg (fun h => h1 h.1)])
    have HC := Lib.hid (show dfC (xs.map CT.pt) (ys.map CT.pt) = 1 by unfold dfC; rw [if_neg (fun h => h1 h.1)])
    rw [h1']
    clear h1 h1'
    go_wp2_with fail
    go_ret2
    exact ⟨none, 0, [], by rw [HC.out]; rfl, EO.nil _ _, by rw [HV.out]; rfl, by simp, HB1.out⟩
  rw [h1]
  go_wp2_with fail
  refine (rcheck_any B c' ys _ (HB.out.go HB1.out)).mono ?_
  rintro e w2 ⟨rfl, hb2⟩
  have HB2 := Lib.hid (HB1.out.trans (hb2.mono HB1.out.size))
  clear hb2 HB1
  by_cases h2 : chkT (ys.map CT.pt) = true
  case neg =>
    have h2' : chkT (ys.map CT.pt) = false := by simpa using h2
    have HV := Lib.hid (show dfV (xs.map CT.pt) (ys.map CT.pt) = [] by unfold dfV; rw [if_neg (fun h => h2 h.2)])
    have HC := Lib.hid (show dfC (xs.map CT.pt) (ys.map CT.pt) = 1 by unfold dfC; rw [if_neg (fun h => h2 h.2)])
    rw [h2']
    clear h1 h2 h2'
    go_wp2_with fail
    go_ret2
    exact ⟨none, 0, [], by rw [HC.out]; rfl, EO.nil _ _, by rw [HV.out]; rfl, by simp, HB2.out⟩
  rw [h2]
  obtain ⟨hna, hka, haa⟩ := chkT_len h1
  obtain ⟨hnb, hkb, hab⟩ := chkT_len h2
  have HV := Lib.hid (show (ys.map CT.pt).foldl (stB (xs.map CT.pt)) ((xs.map CT.pt).foldl (stA (ys.map CT.pt)) []) = dfV (xs.map CT.pt) (ys.map CT.pt) by unfold dfV; rw [if_pos ⟨h1, h2⟩, ← diff_eq haa hab]; rfl)
  have HC := Lib.hid (show dfC (xs.map CT.pt) (ys.map CT.pt) = 0 by unfold dfC; rw [if_pos ⟨h1, h2⟩])
  have HKA := Lib.hid hka
  have HKB := Lib.hid hkb
  clear hka hkb haa hab h1 h2
  go_wp2_with fail
  go_loopg [6, 8, 9, 22] xs.length (fun k v6 _ _ v wr => RdL1 w xs ys k v6 v wr)
  case atStart => exact ⟨0, [], rfl, by omega, rfl, EO.nil _ _, fun x hx => by simp at hx, by simp, (by have hbelh := HB2.out; have hbels := hbelh.size; exact (by repeat (first | exact Below.refl _ _ | (with_reducible refine Below.drew ?_) | (with_reducible refine below_drewN ?_ _) | (with_reducible refine Below.alloc ?_ (by first | omega | (simp; done) | (simp; omega)) _) | (with_reducible refine Below.setCell ?_ (by first | omega | (simp; done) | (simp; omega)) _) | (refine Below.trans ?_ (Below.mono (by with_reducible assumption) (by first | omega | (simp; done) | (simp; omega)))))))⟩
  case round =>
    clear HB2
    obtain ⟨j, es, rfl, hj, hes, hs⟩ := hrel
    have Hj := Lib.hid hj
    have HES := Lib.hid hes
    have HS := Lib.hid hs
    clear hj hes hs
    obtain ⟨Ao, co, rfl⟩ := HS.out.o.sl
    have hA0 := Lib.hid (own_at0 HS.out.o.o)
    by_cases hlt : j < xs.length
    · have hltm : j < (xs.map CT.pt).length := by simpa using hlt
      have HST := Lib.hid (foldl_step (stA (ys.map CT.pt)) (xs.map CT.pt) [] j hltm)
      rw [List.getElem_map, ← HES.out] at HST
      obtain ⟨bb, off, rfl, hbb, d0, d1, d2, d3⟩ := rdT (HA.out.r.grow HS.out.b) rfl j hlt
      have HTM := Lib.hid ((HA.out.m _ (List.getElem_mem hlt)).kp (Kp.bel HS.out.b))
      have ht1 := HKA.out _ (List.getElem_mem hlt)
      generalize xs[j] = t at *
      go_upto_region 7 with fail
      refine world_gen (fun w5 => Blk w5 wr.heap.size 28 #[.int .i64 (t).ln, .int .i64 (t).dy, .slice (t).Ad (t).dep.length (t).cd, .slice (t).Aa (t).arr.length (t).ca] ∧ Below wr.heap.size wr w5) ⟨Blk.new wr _ _, (by repeat (first | exact Below.refl _ _ | (with_reducible refine Below.drew ?_) | (with_reducible refine below_drewN ?_ _) | (with_reducible refine Below.alloc ?_ (by first | omega | (simp; done) | (simp; omega)) _) | (with_reducible refine Below.setCell ?_ (by first | omega | (simp; done) | (simp; omega)) _) | (refine Below.trans ?_ (Below.mono (by with_reducible assumption) (by first | omega | (simp; done) | (simp; omega))))))⟩ ?_
      rintro w5 ⟨hx5, hb5⟩
      have HB5 := Lib.hid hb5
      have HX5 := Lib.hid hx5
      have x0 := hx5.cell 0
      have x1 := hx5.cell 1
      have x2 := hx5.cell 2
      have x3 := hx5.cell 3
      simp at x0 x1 x2 x3
      have hxl := hx5.lt
      clear d0 d1 d2 d3 hb5 hx5
      go_wp2_with fail
      refine (find_any B c' ys t _ (HB.out.go (HS.out.b.trans (HB5.out.mono HS.out.b.size))) (HTM.out.top.go HB5.out) HKB.out ht1).mono ?_
      rintro e w6 ⟨rfl, hb6⟩
      have HS6 := Lib.hid (HS.out.bel (HB5.out.trans (hb6.mono HB5.out.size)))
      have HX6 := Lib.hid (HX5.out.bel hb6)
      have HTM6 := Lib.hid ((HTM.out.kp (Kp.bel HB5.out)).kp (Kp.bel hb6))
      clear hb6 x0 x1 x2 x3 hxl HX5 HB5 HTM HS
      have x0 := HX6.out.cell 0
      have x1 := HX6.out.cell 1
      have x2 := HX6.out.cell 2
      have x3 := HX6.out.cell 3
      simp at x0 x1 x2 x3
      have hxl := HX6.out.lt
      rcases findK_spec (ys.map CT.pt) t.pt 0 with ⟨hf, hf2⟩ | ⟨i, hi, hf, hf2⟩
      · have HN := Lib.hid (show stA (ys.map CT.pt) (es.map CE.pe) t.pt = insE (es.map CE.pe) ⟨2, t.pt, zeroT⟩ by unfold stA; rw [hf2])
        rw [hf]
        clear hf hf2
        go_wp2_with fail
        refine (ins_any Ao co es ⟨2, t, zT⟩ w6 (HS6.out.o.el (by have := HS6.out.n; omega)) ⟨HTM6.out.top, TM.zero _ _⟩ HS6.out.k ht1 (by have := HS6.out.n; omega) hA0.out).mono ?_
        rintro e w7 ⟨A7, c7, k7, hk7, rfl, ho7, hp7, hb7⟩
        have HS7 := Lib.hid (HS6.out.ins (x := ⟨2, t, zT⟩) ⟨HTM6.out, TM.zero _ _⟩ ht1 hb7 hk7 ho7)
        have HP7 := Lib.hid (hp7.trans (HN.out.symm.trans HST.out.symm))
        clear ho7 hp7 hb7 HN HST x0 x1 x2 x3 hxl
        go_wp2_with fail
        go_roundg (xs.length - j - 1)
        case measure => have := Hj.out; omega
        case rel => exact ⟨j + 1, _, by first | rfl | go_num, by omega, HP7.out, HS7.out⟩
      · simp only [List.length_map] at hi
        rw [List.getElem_map] at hf2
        rw [Nat.zero_add] at hf
        obtain ⟨bb2, off2, rfl, hbb2, q0, q1, q2, q3⟩ := rdT (HB.out.r.grow HS6.out.b) rfl i hi
        have HUM := Lib.hid ((HB.out.m _ (List.getElem_mem hi)).kp (Kp.bel HS6.out.b))
        have hu1 := HKB.out _ (List.getElem_mem hi)
        generalize ys[i] = u at *
        have HN := Lib.hid (show stA (ys.map CT.pt) (es.map CE.pe) t.pt = if eqT t.pt u.pt = true then es.map CE.pe else insE (es.map CE.pe) ⟨3, t.pt, u.pt⟩ by unfold stA; rw [hf2])
        rw [hf]
        clear hf hf2
        have hbw2 : bb2 < w6.heap.size := World.block_lt_of_cell? _ _ q0
        have HCM : Hid (∀ W, Below w6.heap.size w6 W → Calls Try.prog 25 #[.agg #[.int .i64 (t).ln, .int .i64 (t).dy, .slice (t).Ad (t).dep.length (t).cd, .slice (t).Aa (t).arr.length (t).ca], .agg #[.int .i64 (u).ln, .int .i64 (u).dy, .slice (u).Ad (u).dep.length (u).cd, .slice (u).Aa (u).arr.length (u).ca]] W fun e w' => e = .returned (.bool (eqT t.pt u.pt)) ∧ Below W.heap.size W w') := fun W hW => req_any t u W (HTM6.out.go hW) (HUM.out.go hW)
        go_upto_region 10 with fail
        generalize eqT t.pt u.pt = q at *
        cases q with
        | true =>
          have HP7 := Lib.hid (HN.out.symm.trans HST.out.symm)
          clear HN HST
          refine wp_region_overL (by kernel_rfl) (by kernel_rfl) ?_
          repeat (go_big_quiet_step ((go_at_call 25; exact callsOver (HCM.out _ (over_below _ _)))))
          refine wpQuiet_nil ?_
          intro w7 hb7
          have HS7 := Lib.hid ((HS6.out.bel hb7).more (Nat.le_succ j))
          clear hb7 x0 x1 x2 x3 hxl q0 q1 q2 q3
          go_wp2_with fail
          go_roundg (xs.length - j - 1)
          case measure => have := Hj.out; omega
          case rel => exact ⟨j + 1, _, by first | rfl | go_num, by omega, by have := HP7.out; simpa using this, HS7.out⟩
        | false =>
          refine wp_region_overL (by kernel_rfl) (by kernel_rfl) ?_
          repeat (go_big_quiet_step ((go_at_call 25; exact callsOver (HCM.out _ (over_below _ _)))))
          refine wpQuiet_nil ?_
          intro w7 hb7
          have HS7 := Lib.hid (HS6.out.bel hb7)
          have HTM7 := Lib.hid (HTM6.out.kp (Kp.bel hb7))
          have HUM7 := Lib.hid (HUM.out.kp (Kp.bel hb7))
          replace x0 := cell_bel hb7 x0
          replace x1 := cell_bel hb7 x1
          replace x2 := cell_bel hb7 x2
          replace x3 := cell_bel hb7 x3
          replace q0 := cell_bel hb7 q0
          replace q1 := cell_bel hb7 q1
          replace q2 := cell_bel hb7 q2
          replace q3 := cell_bel hb7 q3
          replace hxl := Nat.lt_of_lt_of_le hxl hb7.size
          replace hbw2 := Nat.lt_of_lt_of_le hbw2 hb7.size
          clear hb7 HCM HS6 HTM6 HUM
          go_upto_region 11 with fail
          refine wp_region_overT2 7 (by kernel_rfl) (by kernel_rfl) ?_
          simp only [List.take_succ_cons, List.take_zero, List.drop_succ_cons, List.drop_zero]
          repeat (go_big_quiet_step ((fail)))
          refine wpQuiet_nil ?_
          intro w8 hb8
          have HS8 := Lib.hid (HS7.out.bel hb8)
          have HTM8 := Lib.hid (HTM7.out.kp (Kp.bel hb8))
          have HUM8 := Lib.hid (HUM7.out.kp (Kp.bel hb8))
          clear hb8 HS7 HTM7 HUM7 x0 x1 x2 x3 hxl q0 q1 q2 q3
          go_wp2_with fail
          refine (ins_any Ao co es ⟨3, t, u⟩ w8 (HS8.out.o.el (by have := HS8.out.n; omega)) ⟨HTM8.out.top, HUM8.out.top⟩ HS8.out.k ht1 (by have := HS8.out.n; omega) hA0.out).mono ?_
          rintro e w9 ⟨A9, c9, k9, hk9, rfl, ho9, hp9, hb9⟩
          have HS9 := Lib.hid (HS8.out.ins (x := ⟨3, t, u⟩) ⟨HTM8.out, HUM8.out⟩ ht1 hb9 hk9 ho9)
          have HP9 := Lib.hid (hp9.trans ((show insE (es.map CE.pe) ⟨3, t.pt, u.pt⟩ = stA (ys.map CT.pt) (es.map CE.pe) t.pt by rw [HN.out]; simp).trans HST.out.symm))
          clear ho9 hp9 hb9 HN HST
          go_wp2_with fail
          go_roundg (xs.length - j - 1)
          case measure => have := Hj.out; omega
          case rel => exact ⟨j + 1, _, by first | rfl | go_num, by omega, HP9.out, HS9.out⟩
    · have hje : j = xs.length := by have := Hj.out; omega
      subst hje
      have HES2 := Lib.hid (show es.map CE.pe = (xs.map CT.pt).foldl (stA (ys.map CT.pt)) [] by rw [HES.out, List.take_of_length_le (by simp)])
      clear HES
      go_wp2_with fail
      go_loopg [6, 11, 53] ys.length (fun k v6 _ v wr => RdL2 w xs ys k v6 v wr)
      case atStart => exact ⟨0, es, rfl, by omega, by rw [HES2.out]; rfl, HS.out⟩
      case round =>
        clear HES2 HS hA0
        obtain ⟨j, es, rfl, hj, hes, hs⟩ := hrel
        have Hj := Lib.hid hj
        have HES := Lib.hid hes
        have HS := Lib.hid hs
        clear hj hes hs
        obtain ⟨Ao, co, rfl⟩ := HS.out.o.sl
        have hA0 := Lib.hid (own_at0 HS.out.o.o)
        by_cases hlt : j < ys.length
        · have hltm : j < (ys.map CT.pt).length := by simpa using hlt
          have HST := Lib.hid (foldl_step (stB (xs.map CT.pt)) (ys.map CT.pt) ((xs.map CT.pt).foldl (stA (ys.map CT.pt)) []) j hltm)
          rw [List.getElem_map, ← HES.out] at HST
          obtain ⟨bb, off, rfl, hbb, d0, d1, d2, d3⟩ := rdT (HB.out.r.grow HS.out.b) rfl j hlt
          have HTM := Lib.hid ((HB.out.m _ (List.getElem_mem hlt)).kp (Kp.bel HS.out.b))
          have ht1 := HKB.out _ (List.getElem_mem hlt)
          generalize ys[j] = t at *
          go_upto_region 16 with fail
          refine world_gen (fun w5 => Blk w5 wr.heap.size 28 #[.int .i64 (t).ln, .int .i64 (t).dy, .slice (t).Ad (t).dep.length (t).cd, .slice (t).Aa (t).arr.length (t).ca] ∧ Below wr.heap.size wr w5) ⟨Blk.new wr _ _, (by repeat (first | exact Below.refl _ _ | (with_reducible refine Below.drew ?_) | (with_reducible refine below_drewN ?_ _) | (with_reducible refine Below.alloc ?_ (by first | omega | (simp; done) | (simp; omega)) _) | (with_reducible refine Below.setCell ?_ (by first | omega | (simp; done) | (simp; omega)) _) | (refine Below.trans ?_ (Below.mono (by with_reducible assumption) (by first | omega | (simp; done) | (simp; omega))))))⟩ ?_
          rintro w5 ⟨hx5, hb5⟩
          have HB5 := Lib.hid hb5
          have HX5 := Lib.hid hx5
          have x0 := hx5.cell 0
          have x1 := hx5.cell 1
          have x2 := hx5.cell 2
          have x3 := hx5.cell 3
          simp at x0 x1 x2 x3
          have hxl := hx5.lt
          clear d0 d1 d2 d3 hb5 hx5
          go_wp2_with fail
          refine (find_any A c xs t _ (HA.out.go (HS.out.b.trans (HB5.out.mono HS.out.b.size))) (HTM.out.top.go HB5.out) HKA.out ht1).mono ?_
          rintro e w6 ⟨rfl, hb6⟩
          have HS6 := Lib.hid (HS.out.bel (HB5.out.trans (hb6.mono HB5.out.size)))
          have HX6 := Lib.hid (HX5.out.bel hb6)
          have HTM6 := Lib.hid ((HTM.out.kp (Kp.bel HB5.out)).kp (Kp.bel hb6))
          clear hb6 x0 x1 x2 x3 hxl HX5 HB5 HTM HS
          have x0 := HX6.out.cell 0
          have x1 := HX6.out.cell 1
          have x2 := HX6.out.cell 2
          have x3 := HX6.out.cell 3
          simp at x0 x1 x2 x3
          have hxl := HX6.out.lt
          rcases findK_spec (xs.map CT.pt) t.pt 0 with ⟨hf, hf2⟩ | ⟨i, hi, hf, hf2⟩
          · have HN := Lib.hid (show stB (xs.map CT.pt) (es.map CE.pe) t.pt = insE (es.map CE.pe) ⟨1, zeroT, t.pt⟩ by unfold stB; rw [hf2])
            rw [hf]
            clear hf hf2
            go_wp2_with fail
            refine (ins_any Ao co es ⟨1, zT, t⟩ w6 (HS6.out.o.el (by have := HS6.out.n; omega)) ⟨TM.zero _ _, HTM6.out.top⟩ HS6.out.k ht1 (by have := HS6.out.n; omega) hA0.out).mono ?_
            rintro e w7 ⟨A7, c7, k7, hk7, rfl, ho7, hp7, hb7⟩
            have HS7 := Lib.hid (HS6.out.ins (x := ⟨1, zT, t⟩) ⟨TM.zero _ _, HTM6.out⟩ ht1 hb7 hk7 ho7)
            have HP7 := Lib.hid (hp7.trans (HN.out.symm.trans HST.out.symm))
            clear ho7 hp7 hb7 HN HST x0 x1 x2 x3 hxl
            go_wp2_with fail
            go_roundg (ys.length - j - 1)
            case measure => have := Hj.out; omega
            case rel => exact ⟨j + 1, _, by first | rfl | go_num, by omega, HP7.out, HS7.out⟩
          · have HN := Lib.hid (show stB (xs.map CT.pt) (es.map CE.pe) t.pt = es.map CE.pe by unfold stB; rw [hf2])
            rw [Nat.zero_add] at hf
            have HP7 := Lib.hid (HN.out.symm.trans HST.out.symm)
            have HS7 := Lib.hid (HS6.out.more (show xs.length + j ≤ xs.length + (j + 1) by omega))
            rw [hf]
            clear hf hf2 hi HN HST x0 x1 x2 x3 hxl
            go_wp2_with fail
            go_roundg (ys.length - j - 1)
            case measure => have := Hj.out; omega
            case rel => exact ⟨j + 1, _, by first | rfl | go_num, by omega, HP7.out, HS7.out⟩
        · have hje : j = ys.length := by have := Hj.out; omega
          subst hje
          have HF := Lib.hid (show es.map CE.pe = dfV (xs.map CT.pt) (ys.map CT.pt) by rw [HES.out, List.take_of_length_le (by simp), HV.out])
          clear HES
          have hn := HS.out.n
          go_wp2_with fail
          go_ret2
          exact ⟨Ao, co, es, by rw [HC.out]; rfl, HS.out.o, HF.out, by omega, HS.out.b⟩
end Go.Proofs.Ythfifejjfnmpoaa
