import Derived.Test.YthfifejjfnmpoaaTp18
import Derived.Test.YthfifejjfnmpoaaTp8
namespace Go.Proofs.Ythfifejjfnmpoaa
open Go.RowKit
theorem low_nil (k : PT) : lowT k [] = [] := rfl
theorem high_nil (k : PT) : highT k [] = [] := rfl
theorem low_lt' {k x : PT} {r : List PT} (h : ltK x k) : lowT k (x :: r) = x :: lowT k r := by unfold lowT; rw [List.takeWhile_cons_of_pos (by simpa using h)]
theorem high_lt' {k x : PT} {r : List PT} (h : ltK x k) : highT k (x :: r) = highT k r := by unfold highT; rw [List.dropWhile_cons_of_pos (by simpa using h)]
theorem low_ge' {k x : PT} {r : List PT} (h : ¬ ltK x k) : lowT k (x :: r) = [] := by unfold lowT; rw [List.takeWhile_cons_of_neg (by simpa using h)]
theorem high_ge' {k x : PT} {r : List PT} (h : ¬ ltK x k) : highT k (x :: r) = x :: r := by unfold highT; rw [List.dropWhile_cons_of_neg (by simpa using h)]
theorem appS_n1 {l : List PT} {e : PE} {es : List PE} (h : highT (keyE e) l = []) (hk : e.k = 1) : appS l (e :: es) = ((appS [] es).1, lowT (keyE e) l ++ e.n :: (appS [] es).2) := by
  rw [appS, h]; simp only; rw [if_pos hk]
theorem appS_n2 {l : List PT} {e : PE} {es : List PE} (h : highT (keyE e) l = []) (hk : ¬ e.k = 1) : appS l (e :: es) = (6, []) := by
  rw [appS, h]; simp only; rw [if_neg hk]
theorem appS_g1 {l r : List PT} {x : PT} {e : PE} {es : List PE} (h : highT (keyE e) l = x :: r) (hx : ¬ eqK x (keyE e)) (hk : e.k = 1) : appS l (e :: es) = ((appS (x :: r) es).1, lowT (keyE e) l ++ e.n :: (appS (x :: r) es).2) := by
  rw [appS, h]; simp only; rw [if_neg hx, if_pos hk]
theorem appS_g2 {l r : List PT} {x : PT} {e : PE} {es : List PE} (h : highT (keyE e) l = x :: r) (hx : ¬ eqK x (keyE e)) (hk : ¬ e.k = 1) : appS l (e :: es) = (6, []) := by
  rw [appS, h]; simp only; rw [if_neg hx, if_neg hk]
theorem appS_e1 {l r : List PT} {x : PT} {e : PE} {es : List PE} (h : highT (keyE e) l = x :: r) (hx : eqK x (keyE e)) (hk : e.k = 1) : appS l (e :: es) = (5, []) := by
  rw [appS, h]; simp only; rw [if_pos hx, if_pos hk]
theorem appS_e2 {l r : List PT} {x : PT} {e : PE} {es : List PE} (h : highT (keyE e) l = x :: r) (hx : eqK x (keyE e)) (hk : ¬ e.k = 1) (hq : ¬ eqT x e.o = true) : appS l (e :: es) = (20, []) := by
  rw [appS, h]; simp only; rw [if_pos hx, if_neg hk, if_neg hq]
theorem appS_e3 {l r : List PT} {x : PT} {e : PE} {es : List PE} (h : highT (keyE e) l = x :: r) (hx : eqK x (keyE e)) (hk : ¬ e.k = 1) (hq : eqT x e.o = true) : appS l (e :: es) = ((appS r es).1, lowT (keyE e) l ++ ((if e.k = 2 then [] else [e.n]) ++ (appS r es).2)) := by
  rw [appS, h]; simp only; rw [if_pos hx, if_neg hk, if_pos hq]
theorem appS_none1 {l D : List PT} {e : PE} {es : List PE} (h : highT (keyE e) l = D) (hx : ∀ x r, D = x :: r → ¬ eqK x (keyE e)) (hk : e.k = 1) : appS l (e :: es) = ((appS D es).1, lowT (keyE e) l ++ e.n :: (appS D es).2) := by
  cases D with
  | nil => exact appS_n1 h hk
  | cons x r => exact appS_g1 h (hx x r rfl) hk
theorem appS_none2 {l D : List PT} {e : PE} {es : List PE} (h : highT (keyE e) l = D) (hx : ∀ x r, D = x :: r → ¬ eqK x (keyE e)) (hk : ¬ e.k = 1) : appS l (e :: es) = (6, []) := by
  cases D with
  | nil => exact appS_n2 h hk
  | cons x r => exact appS_g2 h (hx x r rfl) hk
theorem sa_none1 {T : Nat × List PT} {l D P R : List PT} {e : PE} {es : List PE} (hz : T = ((appS l (e :: es)).1, P ++ (appS l (e :: es)).2)) (hl : P ++ lowT (keyE e) l = R) (h : highT (keyE e) l = D) (hx : ∀ x r, D = x :: r → ¬ eqK x (keyE e)) (hk : e.k = 1) : T = ((appS D es).1, R ++ (e.n :: (appS D es).2)) := by
  rw [hz, appS_none1 h hx hk, ← hl, List.append_assoc]
theorem sa_none2 {T : Nat × List PT} {l D P : List PT} {e : PE} {es : List PE} (hz : T = ((appS l (e :: es)).1, P ++ (appS l (e :: es)).2)) (h : highT (keyE e) l = D) (hx : ∀ x r, D = x :: r → ¬ eqK x (keyE e)) (hk : ¬ e.k = 1) : T.1 = 6 := by
  rw [hz, appS_none2 h hx hk]
theorem sa_e1 {T : Nat × List PT} {l r P : List PT} {x : PT} {e : PE} {es : List PE} (hz : T = ((appS l (e :: es)).1, P ++ (appS l (e :: es)).2)) (h : highT (keyE e) l = x :: r) (hx : eqK x (keyE e)) (hk : e.k = 1) : T.1 = 5 := by
  rw [hz, appS_e1 h hx hk]
theorem sa_e2 {T : Nat × List PT} {l r P : List PT} {x : PT} {e : PE} {es : List PE} (hz : T = ((appS l (e :: es)).1, P ++ (appS l (e :: es)).2)) (h : highT (keyE e) l = x :: r) (hx : eqK x (keyE e)) (hk : ¬ e.k = 1) (hq : ¬ eqT x e.o = true) : T.1 = 20 := by
  rw [hz, appS_e2 h hx hk hq]
theorem sa_e3 {T : Nat × List PT} {l r P R : List PT} {x : PT} {e : PE} {es : List PE} (hz : T = ((appS l (e :: es)).1, P ++ (appS l (e :: es)).2)) (hl : P ++ lowT (keyE e) l = R) (h : highT (keyE e) l = x :: r) (hx : eqK x (keyE e)) (hk : ¬ e.k = 1) (hq : eqT x e.o = true) : T = ((appS r es).1, R ++ ((if e.k = 2 then [] else [e.n]) ++ (appS r es).2)) := by
  rw [hz, appS_e3 h hx hk hq, ← hl, List.append_assoc]
theorem drop_pt' (xs : List CT) (i : Nat) (h : i < xs.length) : (xs.map CT.pt).drop i = xs[i].pt :: (xs.map CT.pt).drop (i + 1) := by
  rw [List.drop_eq_getElem_cons (by simpa using h), List.getElem_map]
def SaL (w : World) (xs : List CT) (es : List CE) (k : Nat) (v8 v9 v : Value) (wr : World) : Prop :=
  ∃ (j i : Nat) (rs : List CT), v = .int .i64 j ∧ j + k = es.length ∧ v9 = .int .i64 i ∧ i ≤ xs.length ∧ appS (xs.map CT.pt) (es.map CE.pe) = ((appS ((xs.map CT.pt).drop i) ((es.map CE.pe).drop j)).1, rs.map CT.pt ++ (appS ((xs.map CT.pt).drop i) ((es.map CE.pe).drop j)).2) ∧ StT w wr v8 rs (i + j)
def SaI (w : World) (xs : List CT) (kp : PT) (b1 b2 : Nat) (t : CE) (kc : CT) (Lo Hi : List PT) (m k : Nat) (v8 v9 : Value) (wx : World) : Prop :=
  ∃ (i : Nat) (rs : List CT), v9 = .int .i64 i ∧ i ≤ xs.length ∧ xs.length - i = k ∧ rs.map CT.pt ++ lowT kp ((xs.map CT.pt).drop i) = Lo ∧ highT kp ((xs.map CT.pt).drop i) = Hi ∧ (∀ g, v8.ownBlock = some g → g ≠ b2) ∧ StT w wx v8 rs (i + m) ∧ Blk wx b1 40 #[.int .i64 (t).k, .int .i64 (t).o.ln, .int .i64 (t).o.dy, .slice (t).o.Ad (t).o.dep.length (t).o.cd, .slice (t).o.Aa (t).o.arr.length (t).o.ca, .int .i64 (t).n.ln, .int .i64 (t).n.dy, .slice (t).n.Ad (t).n.dep.length (t).n.cd, .slice (t).n.Aa (t).n.arr.length (t).n.ca] ∧ Blk wx b2 28 #[.int .i64 (kc).ln, .int .i64 (kc).dy, .slice (kc).Ad (kc).dep.length (kc).cd, .slice (kc).Aa (kc).arr.length (kc).ca]
def SaF0 (w : World) (R : List PT) (k : Nat) (v8 v : Value) (wr : World) : Prop :=
  ∃ (rs : List CT), v = .int .i64 0 ∧ k = 0 ∧ rs.map CT.pt = R ∧ StT w wr v8 rs rs.length
def SaF (w : World) (xs : List CT) (Z : List PT) (m k : Nat) (v8 v : Value) (wr : World) : Prop :=
  ∃ (q : Nat) (rs : List CT), v = .int .i64 q ∧ q + k = xs.length - m ∧ m ≤ xs.length ∧ rs.map CT.pt ++ (xs.map CT.pt).drop (m + q) = Z ∧ StT w wr v8 rs (rs.length)
set_option maxRecDepth 100000 in
set_option maxHeartbeats 12800000 in
theorem app_any (A B : Option Addr) (c c' : Nat) (xs : List CT) (es : List CE) (w : World) (ha : TL w A c xs) (hb : EL w B c' es) (hA : A = none ∨ ∃ b, A = some ⟨b, 0, none⟩) :
    Calls Try.prog 21 #[.slice A xs.length c, .slice B es.length c'] w (ApOut xs es w) := by
  have HA := Lib.hid ha
  have HE := Lib.hid hb
  have hsz := hb.sz
  clear ha hb
  obtain ⟨iT, b1, b2, b3, b4⟩ := info_parts infoTr
  have HIT := Lib.hid (And.intro b1 (And.intro b2 (And.intro b3 b4)))
  clear b1 b2 b3 b4
  go_enter Try.func21, Try.ntmps21
  go_wp2_with fail
  refine (check_any A c xs _ HA.out).mono ?_
  rintro e w1 ⟨rfl, hb1⟩
  have HB1 := Lib.hid hb1
  clear hb1
  by_cases h1 : chkT (xs.map CT.pt) = true
  case neg =>
    have h1' : chkT (xs.map CT.pt) = false := by simpa using h1
    have HV := Lib.hid (show apV (xs.map CT.pt) (es.map CE.pe) = (1, []) by unfold apV; rw [if_neg h1])
    rw [h1']
    clear h1 h1'
    go_wp2_with fail
    go_ret2
    exact ⟨none, 0, [], by rw [HV.out]; rfl, TLO.nil _, by rw [HV.out]; rfl, HB1.out⟩
  rw [h1]
  obtain ⟨hn, hk, hasc⟩ := chkT_len h1
  have HKA := Lib.hid hk
  have HVB := Lib.hid (show chkG okE keyE (es.map CE.pe) = false → apV (xs.map CT.pt) (es.map CE.pe) = (2, []) from fun h2 => by unfold apV; rw [if_pos h1, if_neg (by rw [h2]; decide)])
  have HVG := Lib.hid (show chkG okE keyE (es.map CE.pe) = true → apV (xs.map CT.pt) (es.map CE.pe) = if (appS (xs.map CT.pt) (es.map CE.pe)).1 = 0 then (if 1024 < (appS (xs.map CT.pt) (es.map CE.pe)).2.length then (7, []) else (0, (appS (xs.map CT.pt) (es.map CE.pe)).2)) else ((appS (xs.map CT.pt) (es.map CE.pe)).1, []) from fun h2 => by unfold apV; rw [if_pos h1, if_pos h2])
  have HEK := Lib.hid (show chkG okE keyE (es.map CE.pe) = true → ∀ e ∈ es, 1 ≤ (keyC e).dep.length from fun h2 e he => by
    have := okE_key ((chkG_iff.1 h2).1 _ (List.mem_map.2 ⟨e, he, rfl⟩))
    rw [← keyC_pt] at this
    exact this)
  clear hk hasc h1
  generalize hz : chkG okE keyE (es.map CE.pe) = z at *
  have HZ := Lib.hid hz.symm
  clear hz
  have HVG2 := HVG
  have HVB2 := HVB
  have HEK2 := HEK
  go_wp2_with fail
  go_loopg [6, 7, 21] es.length (fun k _ _ v wr => CkLE w es k v wr)
  case atStart => exact ⟨0, rfl, by omega, OkP.zero _ _ _, (by have hbelh := HB1.out; have hbels := hbelh.size; exact (by repeat (first | exact Below.refl _ _ | (with_reducible refine Below.drew ?_) | (with_reducible refine below_drewN ?_ _) | (with_reducible refine Below.alloc ?_ (by first | omega | (simp; done) | (simp; omega)) _) | (with_reducible refine Below.setCell ?_ (by first | omega | (simp; done) | (simp; omega)) _) | (refine Below.trans ?_ (Below.mono (by with_reducible assumption) (by first | omega | (simp; done) | (simp; omega)))))))⟩
  case round =>
    clear HB1
    obtain ⟨j, rfl, hj, hg, hb⟩ := hrel
    have Hj := Lib.hid hj
    have Hg := Lib.hid hg
    have HB := Lib.hid hb
    clear hj hg hb
    by_cases hlt : j < es.length
    · have hltm : j < (es.map CE.pe).length := by simpa using hlt
      have HBAD := Lib.hid (fun h => HZ.out.trans (chkG_bad1 (ok := okE) (key := keyE) (L := es.map CE.pe) j hltm h))
      have HSTEP := Lib.hid (Hg.out.step hltm)
      have HTM : Hid (∀ W, Below wr.heap.size wr W → EM W W.heap.size es[j]) := fun W hW => (HE.out.m _ (List.getElem_mem hlt)).go (HB.out.trans (hW.mono HB.out.size))
      have HPM : Hid (∀ p (hp : p < es.length), ∀ W, Below wr.heap.size wr W → EM W W.heap.size es[p]) := fun p hp W hW => (HE.out.m _ (List.getElem_mem hp)).go (HB.out.trans (hW.mono HB.out.size))
      obtain ⟨bb, off, rfl, hbb, d0, d1, d2, d3, d4, d5, d6, d7, d8⟩ := rdE (HE.out.r.grow HB.out) rfl j hlt
      have HBAD2 : Hid (∀ p (hp : p < es.length), p + 1 = j → ¬ ltK (keyE (es[p]).pe) (keyE (es[j]).pe) → z = false) := fun p hp hpj hn => HZ.out.trans (chkG_bad2 (ok := okE) (key := keyE) (L := es.map CE.pe) p j (by simpa using hp) hltm hpj (by simpa using hn))
      have HOP : Hid (∀ p (hp : p < es.length), p + 1 = j → okE (es[p]).pe = true) := fun p hp hpj => by have := Hg.out.1 p (by simpa using hp) (by omega); simpa using this
      have HS2 : Hid (okE (es[j]).pe = true → (∀ p (hp : p < es.length), p + 1 = j → ltK (keyE (es[p]).pe) (keyE (es[j]).pe)) → OkP okE keyE (es.map CE.pe) (j + 1)) := fun h1 h2 => HSTEP.out (by simpa using h1) (fun p hp hpj => by have := h2 p (by simpa using hp) hpj; simpa using this)
      have HBD : Hid (okE (es[j]).pe = false → z = false) := fun h => HBAD.out (by simpa using h)
      clear HBAD HSTEP
      generalize es[j] = t at *
      have hbw : bb < wr.heap.size := World.block_lt_of_cell? _ _ d0
      go_upto_region 6 with fail
      have HPC : Hid (∀ p (hp : p < es.length), (wr).cell? ⟨bb, off + p * 9, none⟩ = some (.int .i64 (es[p]).k) ∧ (wr).cell? ⟨bb, off + p * 9 + 1, none⟩ = some (.int .i64 (es[p]).o.ln) ∧ (wr).cell? ⟨bb, off + p * 9 + 2, none⟩ = some (.int .i64 (es[p]).o.dy) ∧ (wr).cell? ⟨bb, off + p * 9 + 3, none⟩ = some (.slice (es[p]).o.Ad (es[p]).o.dep.length (es[p]).o.cd) ∧ (wr).cell? ⟨bb, off + p * 9 + 4, none⟩ = some (.slice (es[p]).o.Aa (es[p]).o.arr.length (es[p]).o.ca) ∧ (wr).cell? ⟨bb, off + p * 9 + 5, none⟩ = some (.int .i64 (es[p]).n.ln) ∧ (wr).cell? ⟨bb, off + p * 9 + 6, none⟩ = some (.int .i64 (es[p]).n.dy) ∧ (wr).cell? ⟨bb, off + p * 9 + 7, none⟩ = some (.slice (es[p]).n.Ad (es[p]).n.dep.length (es[p]).n.cd) ∧ (wr).cell? ⟨bb, off + p * 9 + 8, none⟩ = some (.slice (es[p]).n.Aa (es[p]).n.arr.length (es[p]).n.ca)) := fun p hp => by
        obtain ⟨b', o', e', _, q⟩ := rdE (HE.out.r.grow HB.out) rfl p hp
        injection e' with e'
        injection e' with e1 e2
        subst e1 e2
        exact q
      refine world_gen (fun w5 => Blk w5 wr.heap.size 40 #[.int .i64 (t).k, .int .i64 (t).o.ln, .int .i64 (t).o.dy, .slice (t).o.Ad (t).o.dep.length (t).o.cd, .slice (t).o.Aa (t).o.arr.length (t).o.ca, .int .i64 (t).n.ln, .int .i64 (t).n.dy, .slice (t).n.Ad (t).n.dep.length (t).n.cd, .slice (t).n.Aa (t).n.arr.length (t).n.ca] ∧ Below wr.heap.size wr w5) ⟨Blk.new wr _ _, (by repeat (first | exact Below.refl _ _ | (with_reducible refine Below.drew ?_) | (with_reducible refine below_drewN ?_ _) | (with_reducible refine Below.alloc ?_ (by first | omega | (simp; done) | (simp; omega)) _) | (with_reducible refine Below.setCell ?_ (by first | omega | (simp; done) | (simp; omega)) _) | (refine Below.trans ?_ (Below.mono (by with_reducible assumption) (by first | omega | (simp; done) | (simp; omega))))))⟩ ?_
      rintro w5 ⟨hx5, hb5⟩
      have HB5 := Lib.hid hb5
      have x0 := hx5.cell 0
      have x1 := hx5.cell 1
      have x2 := hx5.cell 2
      have x3 := hx5.cell 3
      have x4 := hx5.cell 4
      have x5 := hx5.cell 5
      have x6 := hx5.cell 6
      have x7 := hx5.cell 7
      have x8 := hx5.cell 8
      simp at x0 x1 x2 x3 x4 x5 x6 x7 x8
      have hxl := hx5.lt
      have hbw5 := Nat.lt_of_lt_of_le hbw hb5.size
      clear d0 d1 d2 d3 d4 d5 d6 d7 d8 hb5 hx5
      have HIS : Hid (∀ W, Below w5.heap.size w5 W → Calls Try.prog 41 #[.agg #[.int .i64 (t).k, .int .i64 (t).o.ln, .int .i64 (t).o.dy, .slice (t).o.Ad (t).o.dep.length (t).o.cd, .slice (t).o.Aa (t).o.arr.length (t).o.ca, .int .i64 (t).n.ln, .int .i64 (t).n.dy, .slice (t).n.Ad (t).n.dep.length (t).n.cd, .slice (t).n.Aa (t).n.arr.length (t).n.ca]] W fun e w' => e = .returned (.bool (okE t.pe)) ∧ Below W.heap.size W w') := fun W hW => ise_any t W (HTM.out W (HB5.out.trans (hW.mono HB5.out.size)))
      have HL1 := Lib.hid (okE_key (e := t.pe))
      generalize hu : okE t.pe = u at *
      have HU := Lib.hid hu
      clear hu
      cases u with
      | false =>
        have hz := HBD.out rfl
        subst hz
        refine wp_region_overL (by kernel_rfl) (by kernel_rfl) ?_
        repeat (go_big_quiet_step ((go_at_call 41; exact callsOver (HIS.out _ (over_below _ _)))))
        refine wpQuiet_nil ?_
        intro w6 hb6
        have HB6 := Lib.hid (HB.out.trans ((HB5.out.trans (hb6.mono HB5.out.size)).mono HB.out.size))
        have HF := Lib.hid (HVB2.out rfl)
        go_wp2_with fail
        go_ret2
        exact ⟨none, 0, [], by rw [HF.out]; rfl, TLO.nil _, by rw [HF.out]; rfl, HB6.out⟩
      | true =>
        have ht1 : 1 ≤ (keyC t).dep.length := by
          have := HL1.out rfl
          rw [← keyC_pt] at this
          exact this
        clear HL1
        by_cases hj0 : j = 0
        · subst hj0
          have HS3 := Lib.hid (HS2.out rfl (fun p _ h => by omega))
          clear HBD HS2 HOP HBAD2 HPM HPC
          refine wp_region_overL (by kernel_rfl) (by kernel_rfl) ?_
          repeat (go_big_quiet_step ((go_at_call 41; exact callsOver (HIS.out _ (over_below _ _)))))
          refine wpQuiet_nil ?_
          intro w6 hb6
          have HB6 := Lib.hid (HB.out.trans ((HB5.out.trans (hb6.mono HB5.out.size)).mono HB.out.size))
          clear hb6
          go_wp2_with fail
          go_roundg (es.length - 0 - 1)
          case measure => have := Hj.out; omega
          case rel => exact ⟨1, by first | rfl | go_num, by omega, HS3.out, HB6.out⟩
        · obtain ⟨p, hp⟩ : ∃ p, p + 1 = j := ⟨j - 1, by omega⟩
          have hpl : p < es.length := by omega
          have e0 : IntKind.i64.wrap ((j : Int) - 1) = (p : Int) := by rw [IntWalk.i64_in _ (by omega)]; omega
          have hpos : decide ((j : Int) > 0) = true := by simp; omega
          have hpos' : decide (0 < j) = true := by simp; omega
          obtain ⟨q0, q1, q2, q3, q4, q5, q6, q7, q8⟩ := HPC.out p hpl
          replace q0 := cell_bel HB5.out q0
          replace q1 := cell_bel HB5.out q1
          replace q2 := cell_bel HB5.out q2
          replace q3 := cell_bel HB5.out q3
          replace q4 := cell_bel HB5.out q4
          replace q5 := cell_bel HB5.out q5
          replace q6 := cell_bel HB5.out q6
          replace q7 := cell_bel HB5.out q7
          replace q8 := cell_bel HB5.out q8
          have HUM := Lib.hid (HPM.out p hpl)
          have ho := okE_key (HOP.out p hpl hp)
          rw [← keyC_pt] at ho
          have hu1 : 1 ≤ (keyC (es[p])).dep.length := ho
          have HBD2 := Lib.hid (HBAD2.out p hpl hp)
          have hs3 : ltK (keyE (es[p]).pe) (keyE t.pe) → OkP okE keyE (es.map CE.pe) (j + 1) := by
            intro h
            refine HS2.out rfl fun p' hp' h' => ?_
            have e : p' = p := by omega
            subst e
            exact h
          have HS3 := Lib.hid hs3
          clear hs3 ho
          have Hp := Lib.hid hp
          clear HBD HS2 HOP HBAD2 HPM HPC hp hj0
          generalize es[p] = u at *
          have HCM : Hid (∀ W, Below w5.heap.size w5 W → Calls Try.prog 34 #[.agg #[.int .i64 (keyC u).ln, .int .i64 (keyC u).dy, .slice (keyC u).Ad (keyC u).dep.length (keyC u).cd, .slice (keyC u).Aa (keyC u).arr.length (keyC u).ca], .agg #[.int .i64 (keyC t).ln, .int .i64 (keyC t).dy, .slice (keyC t).Ad (keyC t).dep.length (keyC t).cd, .slice (keyC t).Aa (keyC t).arr.length (keyC t).ca]] W fun e w' => e = .returned (.int .i64 (cmpV (keyE u.pe) (keyE t.pe))) ∧ Below W.heap.size W w') := fun W hW => by
            rw [← keyC_pt, ← keyC_pt]
            exact cmp_any (keyC u) (keyC t) W (keyC_tm (HUM.out W (HB5.out.trans (hW.mono HB5.out.size)))) (keyC_tm (HTM.out W (HB5.out.trans (hW.mono HB5.out.size)))) hu1 ht1
          have HLT := Lib.hid (cmpV_lt (a := keyE u.pe) (b := keyE t.pe))
          generalize cmpV (keyE u.pe) (keyE t.pe) = cv at *
          have HK1 := Lib.hid (fun W => key_any u W)
          have HK2 := Lib.hid (fun W => key_any t W)
          generalize keyC u = ku at *
          generalize keyC t = kt at *
          by_cases hcv : cv < 0
          · have hc : decide (cv ≥ 0) = false := by simp; omega
            have hc' : decide (0 ≤ cv) = false := by simp; omega
            have HS4 := Lib.hid (HS3.out (HLT.out.1 hcv))
            clear HS3 HLT HBD2
            refine wp_region_overL (by kernel_rfl) (by kernel_rfl) ?_
            repeat (go_big_quiet_step (first | (go_at_call 41; exact callsOver (HIS.out _ (over_below _ _))) | (go_at_call 42; with_reducible exact callsOver (HK1.out _)) | (go_at_call 42; with_reducible exact callsOver (HK2.out _)) | (go_at_call 34; exact callsOver (HCM.out _ (over_below _ _)))))
            refine wpQuiet_nil ?_
            intro w6 hb6
            have HB6 := Lib.hid (HB.out.trans ((HB5.out.trans (hb6.mono HB5.out.size)).mono HB.out.size))
            clear hb6 x0 x1 x2 x3 x4 x5 x6 x7 x8 q0 q1 q2 q3 q4 q5 q6 q7 q8 e0 hpos
            go_wp2_with fail
            go_roundg (es.length - j - 1)
            case measure => have := Hj.out; omega
            case rel => exact ⟨j + 1, by first | rfl | go_num, by omega, HS4.out, HB6.out⟩
          · have hc : decide (cv ≥ 0) = true := by simp; omega
            have hc' : decide (0 ≤ cv) = true := by simp; omega
            have hz := HBD2.out (fun h => hcv (HLT.out.2 h))
            subst hz
            clear HS3 HLT HBD2
            refine wp_region_overL (by kernel_rfl) (by kernel_rfl) ?_
            repeat (go_big_quiet_step (first | (go_at_call 41; exact callsOver (HIS.out _ (over_below _ _))) | (go_at_call 42; with_reducible exact callsOver (HK1.out _)) | (go_at_call 42; with_reducible exact callsOver (HK2.out _)) | (go_at_call 34; exact callsOver (HCM.out _ (over_below _ _)))))
            refine wpQuiet_nil ?_
            intro w6 hb6
            have HB6 := Lib.hid (HB.out.trans ((HB5.out.trans (hb6.mono HB5.out.size)).mono HB.out.size))
            clear hb6 x0 x1 x2 x3 x4 x5 x6 x7 x8 q0 q1 q2 q3 q4 q5 q6 q7 q8 e0 hpos
            have HF := Lib.hid (HVB2.out rfl)
            go_wp2_with fail
            go_ret2
            exact ⟨none, 0, [], by rw [HF.out]; rfl, TLO.nil _, by rw [HF.out]; rfl, HB6.out⟩
    · have HT := Lib.hid (show z = true from HZ.out.trans (Hg.out.all (by simp; omega)))
      have hz := HT.out
      subst hz
      clear HT
      have HV := Lib.hid (HVG2.out rfl)
      have HKE := Lib.hid (HEK2.out rfl)
      clear HVG HVB HEK HVG2 HVB2 HEK2 Hj Hg HZ
      have HVF := Lib.hid (show ∀ n : Nat, n ≠ 0 → (appS (xs.map CT.pt) (es.map CE.pe)).1 = n → apV (xs.map CT.pt) (es.map CE.pe) = (n, []) from fun n hn h => by rw [HV.out, if_neg (by rw [h]; exact hn), h])
      go_wp2_with fail
      clear hlt
      go_loopg [8, 9, 11, 12, 13, 48, 90, 97, 105] es.length (fun k v8 v9 _ _ _ v _ _ _ wx => SaL w xs es k v8 v9 v wx)
      case atStart => exact ⟨0, 0, [], rfl, by omega, rfl, by omega, by simp, ⟨TO.nil _ _, by simp, (by have hbelh := HB.out; have hbels := hbelh.size; exact (by repeat (first | exact Below.refl _ _ | (with_reducible refine Below.drew ?_) | (with_reducible refine below_drewN ?_ _) | (with_reducible refine Below.alloc ?_ (by first | omega | (simp; done) | (simp; omega)) _) | (with_reducible refine Below.setCell ?_ (by first | omega | (simp; done) | (simp; omega)) _) | (refine Below.trans ?_ (Below.mono (by with_reducible assumption) (by first | omega | (simp; done) | (simp; omega)))))))⟩⟩
      case round =>
        clear HB
        obtain ⟨j, i, rs, rfl, hj, rfl, hil, hz, hs⟩ := hrel
        rename World => wy
        have Hj := Lib.hid hj
        have HZ := Lib.hid hz
        have HS := Lib.hid hs
        clear hj hz hs
        obtain ⟨Ao, co, rfl⟩ := HS.out.o.sl
        by_cases hlt : j < es.length
        · have hd := List.drop_eq_getElem_cons (l := es.map CE.pe) (i := j) (by simpa using hlt)
          rw [List.getElem_map] at hd
          have hz := HZ.out
          rw [hd] at hz
          have HZ1 := Lib.hid hz
          clear hz hd HZ
          obtain ⟨bb, off, rfl, hbb, d0, d1, d2, d3, d4, d5, d6, d7, d8⟩ := rdE (HE.out.r.grow HS.out.b) rfl j hlt
          have HTN := Lib.hid (HE.out.m _ (List.getElem_mem hlt))
          have hk1 := HKE.out _ (List.getElem_mem hlt)
          generalize es[j] = t at *
          go_upto_region 14 with fail
          refine world_gen (fun w5 => Blk w5 wy.heap.size 40 #[.int .i64 (t).k, .int .i64 (t).o.ln, .int .i64 (t).o.dy, .slice (t).o.Ad (t).o.dep.length (t).o.cd, .slice (t).o.Aa (t).o.arr.length (t).o.ca, .int .i64 (t).n.ln, .int .i64 (t).n.dy, .slice (t).n.Ad (t).n.dep.length (t).n.cd, .slice (t).n.Aa (t).n.arr.length (t).n.ca] ∧ Below wy.heap.size wy w5) ⟨Blk.new wy _ _, (by repeat (first | exact Below.refl _ _ | (with_reducible refine Below.drew ?_) | (with_reducible refine below_drewN ?_ _) | (with_reducible refine Below.alloc ?_ (by first | omega | (simp; done) | (simp; omega)) _) | (with_reducible refine Below.setCell ?_ (by first | omega | (simp; done) | (simp; omega)) _) | (refine Below.trans ?_ (Below.mono (by with_reducible assumption) (by first | omega | (simp; done) | (simp; omega))))))⟩ ?_
          rintro w5 ⟨hx5, hb5⟩
          have HS5 := Lib.hid (HS.out.bel hb5)
          have HX5 := Lib.hid hx5
          have x0 := hx5.cell 0
          have x1 := hx5.cell 1
          have x2 := hx5.cell 2
          have x3 := hx5.cell 3
          have x4 := hx5.cell 4
          have x5 := hx5.cell 5
          have x6 := hx5.cell 6
          have x7 := hx5.cell 7
          have x8 := hx5.cell 8
          simp at x0 x1 x2 x3 x4 x5 x6 x7 x8
          have hxl := hx5.lt
          have HNB := Lib.hid (show ∀ g, (Value.slice Ao rs.length co).ownBlock = some g → g < w5.heap.size from fun g hg => (own_block HS5.out.o.o g hg).2)
          clear d0 d1 d2 d3 d4 d5 d6 d7 d8 hx5 hb5 HS
          go_wp2_with fail
          refine (key_any t _).mono ?_
          rintro e w6 ⟨rfl, hb6⟩
          have HS6 := Lib.hid (HS5.out.bel hb6)
          have HX6 := Lib.hid (HX5.out.bel hb6)
          have hle6 := hb6.size
          clear hb6 HS5 HX5 x0 x1 x2 x3 x4 x5 x6 x7 x8 hxl
          have HKT := Lib.hid (keyC_tm HTN.out)
          have HKP := Lib.hid (keyC_pt t)
          generalize keyC t = kt at *
          go_wp2_with fail
          refine world_gen (fun w7 => Blk w7 w6.heap.size 28 #[.int .i64 (kt).ln, .int .i64 (kt).dy, .slice (kt).Ad (kt).dep.length (kt).cd, .slice (kt).Aa (kt).arr.length (kt).ca] ∧ Below w6.heap.size w6 w7) ⟨Blk.new w6 _ _, (by repeat (first | exact Below.refl _ _ | (with_reducible refine Below.drew ?_) | (with_reducible refine below_drewN ?_ _) | (with_reducible refine Below.alloc ?_ (by first | omega | (simp; done) | (simp; omega)) _) | (with_reducible refine Below.setCell ?_ (by first | omega | (simp; done) | (simp; omega)) _) | (refine Below.trans ?_ (Below.mono (by with_reducible assumption) (by first | omega | (simp; done) | (simp; omega))))))⟩ ?_
          rintro w7 ⟨hk7, hb7⟩
          have HS7 := Lib.hid (HS6.out.bel hb7)
          have HX7 := Lib.hid (HX6.out.bel hb7)
          have HK7 := Lib.hid hk7
          have hne7 : ∀ g, (Value.slice Ao rs.length co).ownBlock = some g → g ≠ w6.heap.size := fun g hg => by have := HNB.out g hg; omega
          clear hk7 hb7 HS6 HX6 HNB
          have HNE := Lib.hid hne7
          clear hne7
          generalize w6.heap.size = kb at *
          generalize wy.heap.size = eb at *
          go_loopg [8, 9] (xs.length - i) (fun k v8 v9 wx => SaI w xs (keyE t.pe) eb kb t kt (rs.map CT.pt ++ lowT (keyE t.pe) ((xs.map CT.pt).drop i)) (highT (keyE t.pe) ((xs.map CT.pt).drop i)) j k v8 v9 wx)
          case atStart => exact ⟨i, rs, rfl, hil, rfl, rfl, rfl, HNE.out, HS7.out, HX7.out, HK7.out⟩
          case round =>
            obtain ⟨i2, rs2, rfl, hil2, hk2, hlo, hhi, hne, hs2, hx2, hkx2⟩ := hrel
            rename World => wx
            obtain ⟨Ao2, co2, rfl⟩ := hs2.o.sl
            have Hk2 := Lib.hid hk2
            have HLO := Lib.hid hlo
            have HHI := Lib.hid hhi
            have HNE2 := Lib.hid hne
            have HS := Lib.hid hs2
            have HX := Lib.hid hx2
            have HKX := Lib.hid hkx2
            clear hk2 hlo hhi hne hs2 hx2 hkx2 HS7 HX7 HK7 HNE
            have u0 := HKX.out.cell 0
            have u1 := HKX.out.cell 1
            have u2 := HKX.out.cell 2
            have u3 := HKX.out.cell 3
            simp at u0 u1 u2 u3
            have hkl := HKX.out.lt
            by_cases hi : i2 < xs.length
            · have HDR := Lib.hid (drop_pt' xs i2 hi)
              obtain ⟨bb2, off2, hAe, hbb2, d0, d1, d2, d3⟩ := rdT (HA.out.r.grow HS.out.b) rfl i2 hi
              cases hAe
              have hbw2 : bb2 < wx.heap.size := World.block_lt_of_cell? _ _ d0
              have HTX := Lib.hid (HA.out.m _ (List.getElem_mem hi))
              have hx1 := HKA.out _ (List.getElem_mem hi)
              generalize xs[i2] = x at *
              have HCM : Hid (∀ W, Below wx.heap.size wx W → Calls Try.prog 34 #[.agg #[.int .i64 (x).ln, .int .i64 (x).dy, .slice (x).Ad (x).dep.length (x).cd, .slice (x).Aa (x).arr.length (x).ca], .agg #[.int .i64 (kt).ln, .int .i64 (kt).dy, .slice (kt).Ad (kt).dep.length (kt).cd, .slice (kt).Aa (kt).arr.length (kt).ca]] W fun e w' => e = .returned (.int .i64 (cmpV x.pt (keyE t.pe))) ∧ Below W.heap.size W w') := fun W hW => by
                rw [← HKP.out]
                exact cmp_any x kt W (HTX.out.go (HS.out.b.trans (hW.mono HS.out.b.size))) (HKT.out.go (HS.out.b.trans (hW.mono HS.out.b.size))) hx1 hk1
              have HLT := Lib.hid (cmpV_lt (a := x.pt) (b := keyE t.pe))
              have HEQ := Lib.hid (cmpV_eq (a := x.pt) (b := keyE t.pe))
              generalize cmpV x.pt (keyE t.pe) = cv at *
              have hle' : decide ((i2 : Int) < (xs.length : Int)) = true := by simp; omega
              by_cases hc : cv < 0
              · have hc' : decide (cv < 0) = true := by simpa using hc
                have hlt' := HLT.out.1 hc
                have HLO2 := Lib.hid (show rs2.map CT.pt ++ (x.pt :: lowT (keyE t.pe) ((xs.map CT.pt).drop (i2 + 1))) = rs.map CT.pt ++ lowT (keyE t.pe) ((xs.map CT.pt).drop i) from by rw [← low_lt' hlt', ← HDR.out]; exact HLO.out)
                have HHI2 := Lib.hid (show highT (keyE t.pe) ((xs.map CT.pt).drop (i2 + 1)) = highT (keyE t.pe) ((xs.map CT.pt).drop i) from by rw [← high_lt' hlt', ← HDR.out]; exact HHI.out)
                clear HLO HHI HLT HEQ hlt' HDR
                go_upto_region 15 with fail
                refine wp_region_overL (by kernel_rfl) (by kernel_rfl) ?_
                repeat (go_big_quiet_step ((go_at_call 34; exact callsOver (HCM.out _ (over_below _ _)))))
                refine wpQuiet_nil ?_
                intro wz hbz
                have HSz := Lib.hid (HS.out.bel hbz)
                have HXz := Lib.hid (HX.out.bel hbz)
                have HKz := Lib.hid (HKX.out.bel hbz)
                replace d0 := cell_bel hbz d0
                replace d1 := cell_bel hbz d1
                replace d2 := cell_bel hbz d2
                replace d3 := cell_bel hbz d3
                replace hbw2 := Nat.lt_of_lt_of_le hbw2 hbz.size
                clear hbz HS HX HKX u0 u1 u2 u3 hkl hle'
                go_wp2_with fail
                refine (clone_any x _ (HTX.out.go HSz.out.b)).mono ?_
                rintro e w8 ⟨t8, rfl, hp8, hm8, hb8⟩
                have HS8 := Lib.hid (HSz.out.bel hb8)
                have HX8 := Lib.hid (HXz.out.bel hb8)
                have HK8 := Lib.hid (HKz.out.bel hb8)
                have HM8 := Lib.hid (hm8.up (Nat.zero_le w.heap.size))
                have HP8 := Lib.hid hp8
                have hl8 := HS8.out.b.size
                have hn8 := HS8.out.n
                clear hb8 hm8 hp8 HSz HXz HKz d0 d1 d2 d3
                go_upto_region 17 with (at_builtin; refine wpList_append_own_at _ rfl _ _ 22 rfl (w.heap.size) 28 iT _ 4 64 Try.underlying22 HIT.out.1 HIT.out.2.1 HIT.out.2.2.1 HIT.out.2.2.2 rfl (by omega) _ (rs2.length) _ rfl (World.ownsRow.alloc HS8.out.o.o _) ⟨(w8).heap.size, 0, none⟩ 1 1 (CT.cells t8) rfl rfl ?c0 ?c1 ?c2 ?c3 ?c4 ?_; rotate_right; intro v' w' hown' hg' _ hat')
                case c0 => first | exact news_new _ _ (CT.cells t8) | exact fun _ _ h => h
                case c1 => exact CT.one _
                case c2 => simp only [maxLen]; omega
                case c3 => omega
                case c4 => first | omega | (simp; omega)
                have HS9 := Lib.hid (HS8.out.app (x := t8) HM8.out hown' hg')
                have HX9 := Lib.hid (show Blk w' eb 40 #[.int .i64 (t).k, .int .i64 (t).o.ln, .int .i64 (t).o.dy, .slice (t).o.Ad (t).o.dep.length (t).o.cd, .slice (t).o.Aa (t).o.arr.length (t).o.ca, .int .i64 (t).n.ln, .int .i64 (t).n.dy, .slice (t).n.Ad (t).n.dep.length (t).n.cd, .slice (t).n.Aa (t).n.arr.length (t).n.ca] from (HX8.out.al _).same (hg'.block eb (by have := HX8.out.lt; simp; omega) (fun h => (own_nb HS8.out.o.o HX8.out (by decide)) h.symm)))
                have HK9 := Lib.hid (show Blk w' kb 28 #[.int .i64 (kt).ln, .int .i64 (kt).dy, .slice (kt).Ad (kt).dep.length (kt).cd, .slice (kt).Aa (kt).arr.length (kt).ca] from (HK8.out.al _).same (hg'.block kb (by have := HK8.out.lt; simp; omega) (fun h => HNE2.out kb h.symm rfl)))
                have HNE9 := Lib.hid (show ∀ g, v'.ownBlock = some g → g ≠ kb from fun g hg e => by
                  rcases hat' with h | h
                  · exact HNE2.out g (h.symm.trans hg) e
                  · rw [hg] at h
                    injection h with h
                    have := HK8.out.lt
                    simp at h
                    omega)
                have HLO9 := Lib.hid (show (rs2 ++ [t8]).map CT.pt ++ lowT (keyE t.pe) ((xs.map CT.pt).drop (i2 + 1)) = rs.map CT.pt ++ lowT (keyE t.pe) ((xs.map CT.pt).drop i) from by
                  rw [List.map_append, List.append_assoc]
                  show rs2.map CT.pt ++ (t8.pt :: _) = _
                  rw [HP8.out]
                  exact HLO2.out)
                clear hown' hg' hat' HS8 HX8 HK8 HM8 HP8 HLO2
                go_wp2_with fail
                go_roundg (xs.length - i2 - 1)
                case measure => have := Hk2.out; omega
                case rel => exact ⟨i2 + 1, rs2 ++ [t8], by first | rfl | go_num, by omega, by omega, HLO9.out, HHI2.out, HNE9.out, by have := HS9.out; rwa [show i2 + 1 + j = i2 + j + 1 by omega], HX9.out, HK9.out⟩
              · have hnl : ¬ ltK x.pt (keyE t.pe) := fun h => hc (HLT.out.2 h)
                have HL0 := Lib.hid (show rs.map CT.pt ++ lowT (keyE t.pe) ((xs.map CT.pt).drop i) = rs2.map CT.pt by rw [← HLO.out, HDR.out, low_ge' hnl, List.append_nil])
                have HH0 := Lib.hid (show highT (keyE t.pe) ((xs.map CT.pt).drop i) = (xs.map CT.pt).drop i2 by rw [← HHI.out, HDR.out, high_ge' hnl])
                have hcl' : decide (cv < 0) = false := by simpa using hc
                clear HLO HHI HLT hnl
                go_upto_region 15 with fail
                refine wp_region_overL (by kernel_rfl) (by kernel_rfl) ?_
                repeat (go_big_quiet_step ((go_at_call 34; exact callsOver (HCM.out _ (over_below _ _)))))
                refine wpQuiet_nil ?_
                intro wz hbz
                have HSz := Lib.hid (HS.out.bel hbz)
                have HXz := Lib.hid (HX.out.bel hbz)
                have HKz := Lib.hid (HKX.out.bel hbz)
                replace d0 := cell_bel hbz d0
                replace d1 := cell_bel hbz d1
                replace d2 := cell_bel hbz d2
                replace d3 := cell_bel hbz d3
                replace hbw2 := Nat.lt_of_lt_of_le hbw2 hbz.size
                have HCZ : Hid (∀ W, Below wz.heap.size wz W → Calls Try.prog 34 #[.agg #[.int .i64 (x).ln, .int .i64 (x).dy, .slice (x).Ad (x).dep.length (x).cd, .slice (x).Aa (x).arr.length (x).ca], .agg #[.int .i64 (kt).ln, .int .i64 (kt).dy, .slice (kt).Ad (kt).dep.length (kt).cd, .slice (kt).Aa (kt).arr.length (kt).ca]] W fun e w' => e = .returned (.int .i64 cv) ∧ Below W.heap.size W w') := fun W hW => HCM.out W (hbz.trans (hW.mono hbz.size))
                clear hbz HS HX HKX u0 u1 u2 u3 hkl HCM
                have HKX := HKz
                clear HKz
                have u0 := HKX.out.cell 0
                have u1 := HKX.out.cell 1
                have u2 := HKX.out.cell 2
                have u3 := HKX.out.cell 3
                simp at u0 u1 u2 u3
                have hkl := HKX.out.lt
                go_upto_region 18 with fail
                by_cases hc0 : cv = 0
                · have hcq : (cv == 0) = true := by simpa using hc0
                  have HEQK := Lib.hid (HEQ.out.1 hc0)
                  clear HEQ hc0
                  refine wp_region_overL (by kernel_rfl) (by kernel_rfl) ?_
                  repeat (go_big_quiet_step ((go_at_call 34; exact callsOver (HCZ.out _ (over_below _ _)))))
                  refine wpQuiet_nil ?_
                  intro wv hbv
                  have HS := Lib.hid (HSz.out.bel hbv)
                  have HX := Lib.hid (HXz.out.bel hbv)
                  replace d0 := cell_bel hbv d0
                  replace d1 := cell_bel hbv d1
                  replace d2 := cell_bel hbv d2
                  replace d3 := cell_bel hbv d3
                  replace hbw2 := Nat.lt_of_lt_of_le hbw2 hbv.size
                  clear hbv HSz HXz HCZ u0 u1 u2 u3 hkl HKX
                  have x0 := HX.out.cell 0
                  have x1 := HX.out.cell 1
                  have x2 := HX.out.cell 2
                  have x3 := HX.out.cell 3
                  have x4 := HX.out.cell 4
                  have x5 := HX.out.cell 5
                  have x6 := HX.out.cell 6
                  have x7 := HX.out.cell 7
                  have x8 := HX.out.cell 8
                  simp at x0 x1 x2 x3 x4 x5 x6 x7 x8
                  have hxl := HX.out.lt
                  rw [HDR.out] at HH0
                  by_cases hk1 : t.k = 1
                  · have hk1' : (t.k == 1) = true := by simpa using hk1
                    have HF := Lib.hid (HVF.out 5 (by decide) (sa_e1 HZ1.out HH0.out HEQK.out hk1))
                    clear hk1
                    go_wp2_with fail
                    go_ret2
                    exact ⟨none, 0, [], by rw [HF.out]; rfl, TLO.nil _, by rw [HF.out]; rfl, HS.out.b⟩
                  · have hk1' : (t.k == 1) = false := by simpa using hk1
                    have hk1'' : (t.k != 1) = true := by simpa using hk1
                    have HQM : Hid (∀ W, Below wv.heap.size wv W → Calls Try.prog 38 #[.agg #[.int .i64 (x).ln, .int .i64 (x).dy, .slice (x).Ad (x).dep.length (x).cd, .slice (x).Aa (x).arr.length (x).ca], .agg #[.int .i64 (t.o).ln, .int .i64 (t.o).dy, .slice (t.o).Ad (t.o).dep.length (t.o).cd, .slice (t.o).Aa (t.o).arr.length (t.o).ca]] W fun e w' => e = .returned (.bool (eqT x.pt t.o.pt)) ∧ Below W.heap.size W w') := fun W hW => eq_any x t.o W (HTX.out.go (HS.out.b.trans (hW.mono HS.out.b.size))) (HTN.out.o.go (HS.out.b.trans (hW.mono HS.out.b.size)))
                    by_cases hq : eqT x.pt t.o.pt = true
                    · have HZ3 := Lib.hid (sa_e3 HZ1.out HL0.out HH0.out HEQK.out hk1 hq)
                      rw [hq] at HQM
                      clear hk1 hq HL0 HH0 HEQK HDR
                      go_upto_region 23 with fail
                      refine wp_region_overL (by kernel_rfl) (by kernel_rfl) ?_
                      repeat (go_big_quiet_step ((go_at_call 38; exact callsOver (HQM.out _ (over_below _ _)))))
                      refine wpQuiet_nil ?_
                      intro wz hbz
                      have HSz := Lib.hid ((HS.out.bel hbz).more (show i2 + j ≤ i2 + 1 + j by omega))
                      have HXz := Lib.hid (HX.out.bel hbz)
                      clear hbz HS HX x0 x1 x2 x3 x4 x5 x6 x7 x8 hxl d0 d1 d2 d3 hbw2 HQM
                      have HS := HSz
                      have HX := HXz
                      clear HSz HXz
                      have x0 := HX.out.cell 0
                      have x1 := HX.out.cell 1
                      have x2 := HX.out.cell 2
                      have x3 := HX.out.cell 3
                      have x4 := HX.out.cell 4
                      have x5 := HX.out.cell 5
                      have x6 := HX.out.cell 6
                      have x7 := HX.out.cell 7
                      have x8 := HX.out.cell 8
                      simp at x0 x1 x2 x3 x4 x5 x6 x7 x8
                      have hxl := HX.out.lt
                      by_cases hk2 : t.k = 2
                      · have hk2' : (t.k != 2) = false := by simpa using hk2
                        have HZ4 := Lib.hid (show appS (xs.map CT.pt) (es.map CE.pe) = ((appS ((xs.map CT.pt).drop (i2 + 1)) ((es.map CE.pe).drop (j + 1))).1, rs2.map CT.pt ++ (appS ((xs.map CT.pt).drop (i2 + 1)) ((es.map CE.pe).drop (j + 1))).2) by
                          have h := HZ3.out
                          rw [if_pos (show t.pe.k = 2 from hk2), List.nil_append] at h
                          exact h)
                        clear hk2 HZ3
                        go_wp2_with fail
                        go_roundg (es.length - j - 1)
                        case measure => have := Hj.out; omega
                        case rel => exact ⟨j + 1, i2 + 1, rs2, by first | rfl | go_num, by omega, by first | rfl | go_num, by omega, HZ4.out, HS.out.more (by omega)⟩
                      · have hk2' : (t.k != 2) = true := by simpa using hk2
                        have HZ2 := Lib.hid (show appS (xs.map CT.pt) (es.map CE.pe) = ((appS ((xs.map CT.pt).drop (i2 + 1)) ((es.map CE.pe).drop (j + 1))).1, rs2.map CT.pt ++ (t.pe.n :: (appS ((xs.map CT.pt).drop (i2 + 1)) ((es.map CE.pe).drop (j + 1))).2)) by
                          have h := HZ3.out
                          rw [if_neg (show ¬ t.pe.k = 2 from hk2)] at h
                          exact h)
                        clear hk2 HZ3
                        go_wp2_with fail
                        refine (clone_any t.n _ (HTN.out.n.kp (Kp.bel HS.out.b)).top).mono ?_
                        rintro e w8 ⟨t8, rfl, hp8, hm8, hb8⟩
                        have HS8 := Lib.hid (HS.out.bel hb8)
                        have HM8 := Lib.hid (hm8.up (Nat.zero_le w.heap.size))
                        have HP8 := Lib.hid hp8
                        have hl8 := HS8.out.b.size
                        have hn8 := HS8.out.n
                        clear hb8 hm8 hp8 x0 x1 x2 x3 x4 x5 x6 x7 x8 hxl
                        go_upto_region 29 with (at_builtin; refine wpList_append_own_at _ rfl _ _ 22 rfl (w.heap.size) 28 iT _ 4 64 Try.underlying22 HIT.out.1 HIT.out.2.1 HIT.out.2.2.1 HIT.out.2.2.2 rfl (by omega) _ (rs2.length) _ rfl (World.ownsRow.alloc HS8.out.o.o _) ⟨(w8).heap.size, 0, none⟩ 1 1 (CT.cells t8) rfl rfl ?c0 ?c1 ?c2 ?c3 ?c4 ?_; rotate_right; intro v' w' hown' hg' _ hat')
                        case c0 => first | exact news_new _ _ (CT.cells t8) | exact fun _ _ h => h
                        case c1 => exact CT.one _
                        case c2 => simp only [maxLen]; omega
                        case c3 => omega
                        case c4 => first | omega | (simp; omega)
                        have HS9 := Lib.hid (HS8.out.app (x := t8) HM8.out hown' hg')
                        have HZ9 := Lib.hid (show appS (xs.map CT.pt) (es.map CE.pe) = ((appS ((xs.map CT.pt).drop (i2 + 1)) ((es.map CE.pe).drop (j + 1))).1, (rs2 ++ [t8]).map CT.pt ++ (appS ((xs.map CT.pt).drop (i2 + 1)) ((es.map CE.pe).drop (j + 1))).2) by
                          rw [HZ2.out, List.map_append, List.append_assoc]
                          show _ = (_, rs2.map CT.pt ++ (t8.pt :: _))
                          rw [HP8.out]
                          rfl)
                        clear hown' hg' hat' HS8 HM8 HP8
                        go_wp2_with fail
                        go_roundg (es.length - j - 1)
                        case measure => have := Hj.out; omega
                        case rel => exact ⟨j + 1, (i2 + 1), rs2 ++ [t8], by first | rfl | go_num, by omega, by first | rfl | go_num, by omega, HZ9.out, HS9.out.more (by omega)⟩
                    · have hq' : eqT x.pt t.o.pt = false := by simpa using hq
                      have HF := Lib.hid (HVF.out 20 (by decide) (sa_e2 HZ1.out HH0.out HEQK.out hk1 hq))
                      rw [hq'] at HQM
                      clear hk1 hq hq'
                      go_upto_region 23 with fail
                      refine wp_region_overL (by kernel_rfl) (by kernel_rfl) ?_
                      repeat (go_big_quiet_step ((go_at_call 38; exact callsOver (HQM.out _ (over_below _ _)))))
                      refine wpQuiet_nil ?_
                      intro wz hbz
                      have HB9 := Lib.hid (HS.out.b.trans (hbz.mono HS.out.b.size))
                      clear hbz
                      go_wp2_with fail
                      go_ret2
                      exact ⟨none, 0, [], by rw [HF.out]; rfl, TLO.nil _, by rw [HF.out]; rfl, HB9.out⟩
                · have hcq : (cv == 0) = false := by simpa using hc0
                  have hnq : ¬ eqK x.pt (keyE t.pe) := fun h => hc0 (HEQ.out.2 h)
                  have HNX := Lib.hid (show ∀ y r, (xs.map CT.pt).drop i2 = y :: r → ¬ eqK y (keyE t.pe) from fun y r h => by rw [HDR.out] at h; injection h with h _; rw [← h]; exact hnq)
                  have HNONE1 := Lib.hid (sa_none1 HZ1.out HL0.out HH0.out HNX.out)
                  have HNONE2 := Lib.hid (sa_none2 HZ1.out HH0.out HNX.out)
                  clear HEQ hc0 hnq HNX HL0 HH0
                  refine wp_region_overL (by kernel_rfl) (by kernel_rfl) ?_
                  repeat (go_big_quiet_step ((go_at_call 34; exact callsOver (HCZ.out _ (over_below _ _)))))
                  refine wpQuiet_nil ?_
                  intro wv hbv
                  have HS := Lib.hid (HSz.out.bel hbv)
                  have HX := Lib.hid (HXz.out.bel hbv)
                  clear hbv HSz HXz HCZ u0 u1 u2 u3 hkl HKX d0 d1 d2 d3 hbw2
                  have x0 := HX.out.cell 0
                  have x1 := HX.out.cell 1
                  have x2 := HX.out.cell 2
                  have x3 := HX.out.cell 3
                  have x4 := HX.out.cell 4
                  have x5 := HX.out.cell 5
                  have x6 := HX.out.cell 6
                  have x7 := HX.out.cell 7
                  have x8 := HX.out.cell 8
                  simp at x0 x1 x2 x3 x4 x5 x6 x7 x8
                  have hxl := HX.out.lt
                  by_cases hk1 : t.k = 1
                  · have hk1' : (t.k == 1) = true := by simpa using hk1
                    have hk1'' : (t.k != 1) = false := by simpa using hk1
                    have hk2 : (t.k != 2) = true := by simp; omega
                    have HZ2 := Lib.hid (HNONE1.out hk1)
                    clear HNONE1 HNONE2 hk1
                    go_upto_region 23 with fail
                    refine wp_region_overL (by kernel_rfl) (by kernel_rfl) ?_
                    repeat (go_big_quiet_step (fail))
                    refine wpQuiet_nil ?_
                    intro wz hbz
                    have HSz := Lib.hid (HS.out.bel hbz)
                    have HXz := Lib.hid (HX.out.bel hbz)
                    clear hbz HS HX x0 x1 x2 x3 x4 x5 x6 x7 x8 hxl
                    have HS := HSz
                    have HX := HXz
                    clear HSz HXz
                    have x0 := HX.out.cell 0
                    have x1 := HX.out.cell 1
                    have x2 := HX.out.cell 2
                    have x3 := HX.out.cell 3
                    have x4 := HX.out.cell 4
                    have x5 := HX.out.cell 5
                    have x6 := HX.out.cell 6
                    have x7 := HX.out.cell 7
                    have x8 := HX.out.cell 8
                    simp at x0 x1 x2 x3 x4 x5 x6 x7 x8
                    have hxl := HX.out.lt
                    have HZ2 := HZ2
                    go_wp2_with fail
                    refine (clone_any t.n _ (HTN.out.n.kp (Kp.bel HS.out.b)).top).mono ?_
                    rintro e w8 ⟨t8, rfl, hp8, hm8, hb8⟩
                    have HS8 := Lib.hid (HS.out.bel hb8)
                    have HM8 := Lib.hid (hm8.up (Nat.zero_le w.heap.size))
                    have HP8 := Lib.hid hp8
                    have hl8 := HS8.out.b.size
                    have hn8 := HS8.out.n
                    clear hb8 hm8 hp8 x0 x1 x2 x3 x4 x5 x6 x7 x8 hxl
                    go_upto_region 29 with (at_builtin; refine wpList_append_own_at _ rfl _ _ 22 rfl (w.heap.size) 28 iT _ 4 64 Try.underlying22 HIT.out.1 HIT.out.2.1 HIT.out.2.2.1 HIT.out.2.2.2 rfl (by omega) _ (rs2.length) _ rfl (World.ownsRow.alloc HS8.out.o.o _) ⟨(w8).heap.size, 0, none⟩ 1 1 (CT.cells t8) rfl rfl ?c0 ?c1 ?c2 ?c3 ?c4 ?_; rotate_right; intro v' w' hown' hg' _ hat')
                    case c0 => first | exact news_new _ _ (CT.cells t8) | exact fun _ _ h => h
                    case c1 => exact CT.one _
                    case c2 => simp only [maxLen]; omega
                    case c3 => omega
                    case c4 => first | omega | (simp; omega)
                    have HS9 := Lib.hid (HS8.out.app (x := t8) HM8.out hown' hg')
                    have HZ9 := Lib.hid (show appS (xs.map CT.pt) (es.map CE.pe) = ((appS ((xs.map CT.pt).drop i2) ((es.map CE.pe).drop (j + 1))).1, (rs2 ++ [t8]).map CT.pt ++ (appS ((xs.map CT.pt).drop i2) ((es.map CE.pe).drop (j + 1))).2) by
                      rw [HZ2.out, List.map_append, List.append_assoc]
                      show _ = (_, rs2.map CT.pt ++ (t8.pt :: _))
                      rw [HP8.out]
                      rfl)
                    clear hown' hg' hat' HS8 HM8 HP8
                    go_wp2_with fail
                    go_roundg (es.length - j - 1)
                    case measure => have := Hj.out; omega
                    case rel => exact ⟨j + 1, i2, rs2 ++ [t8], by first | rfl | go_num, by omega, by first | rfl | go_num, by omega, HZ9.out, HS9.out.more (by omega)⟩
                  · have hk1' : (t.k == 1) = false := by simpa using hk1
                    have hk1'' : (t.k != 1) = true := by simpa using hk1
                    have HF := Lib.hid (HVF.out 6 (by decide) (HNONE2.out hk1))
                    clear HNONE1 HNONE2 hk1
                    go_wp2_with fail
                    go_ret2
                    exact ⟨none, 0, [], by rw [HF.out]; rfl, TLO.nil _, by rw [HF.out]; rfl, HS.out.b⟩
            · have hie : i2 = xs.length := by omega
              subst hie
              have hd0 : (xs.map CT.pt).drop xs.length = [] := List.drop_of_length_le (by simp)
              have HL0 := Lib.hid (show rs.map CT.pt ++ lowT (keyE t.pe) ((xs.map CT.pt).drop i) = rs2.map CT.pt by rw [← HLO.out, hd0, low_nil, List.append_nil])
              have HH0 := Lib.hid (show highT (keyE t.pe) ((xs.map CT.pt).drop i) = (xs.map CT.pt).drop xs.length by rw [← HHI.out, hd0, high_nil])
              have HNX := Lib.hid (show ∀ y r, (xs.map CT.pt).drop xs.length = y :: r → ¬ eqK y (keyE t.pe) from fun y r h => by rw [hd0] at h; cases h)
              have HNONE1 := Lib.hid (sa_none1 HZ1.out HL0.out HH0.out HNX.out)
              have HNONE2 := Lib.hid (sa_none2 HZ1.out HH0.out HNX.out)
              clear HLO HHI HL0 HH0 HNX hd0
              go_upto_region 15 with fail
              refine wp_region_overL (by kernel_rfl) (by kernel_rfl) ?_
              repeat (go_big_quiet_step (fail))
              refine wpQuiet_nil ?_
              intro wz hbz
              have HSz := Lib.hid (HS.out.bel hbz)
              have HXz := Lib.hid (HX.out.bel hbz)
              clear hbz HS HX HKX u0 u1 u2 u3 hkl
              go_upto_region 18 with fail
              refine wp_region_overL (by kernel_rfl) (by kernel_rfl) ?_
              repeat (go_big_quiet_step (fail))
              refine wpQuiet_nil ?_
              intro wv hbv
              have HS := Lib.hid (HSz.out.bel hbv)
              have HX := Lib.hid (HXz.out.bel hbv)
              clear hbv HSz HXz
              have x0 := HX.out.cell 0
              have x1 := HX.out.cell 1
              have x2 := HX.out.cell 2
              have x3 := HX.out.cell 3
              have x4 := HX.out.cell 4
              have x5 := HX.out.cell 5
              have x6 := HX.out.cell 6
              have x7 := HX.out.cell 7
              have x8 := HX.out.cell 8
              simp at x0 x1 x2 x3 x4 x5 x6 x7 x8
              have hxl := HX.out.lt
              by_cases hk1 : t.k = 1
              · have hk1' : (t.k == 1) = true := by simpa using hk1
                have hk1'' : (t.k != 1) = false := by simpa using hk1
                have hk2 : (t.k != 2) = true := by simp; omega
                have HZ2 := Lib.hid (HNONE1.out hk1)
                clear HNONE1 HNONE2 hk1
                go_upto_region 23 with fail
                refine wp_region_overL (by kernel_rfl) (by kernel_rfl) ?_
                repeat (go_big_quiet_step (fail))
                refine wpQuiet_nil ?_
                intro wz hbz
                have HSz := Lib.hid (HS.out.bel hbz)
                have HXz := Lib.hid (HX.out.bel hbz)
                clear hbz HS HX x0 x1 x2 x3 x4 x5 x6 x7 x8 hxl
                have HS := HSz
                have HX := HXz
                clear HSz HXz
                have x0 := HX.out.cell 0
                have x1 := HX.out.cell 1
                have x2 := HX.out.cell 2
                have x3 := HX.out.cell 3
                have x4 := HX.out.cell 4
                have x5 := HX.out.cell 5
                have x6 := HX.out.cell 6
                have x7 := HX.out.cell 7
                have x8 := HX.out.cell 8
                simp at x0 x1 x2 x3 x4 x5 x6 x7 x8
                have hxl := HX.out.lt
                have HZ2 := HZ2
                go_wp2_with fail
                refine (clone_any t.n _ (HTN.out.n.kp (Kp.bel HS.out.b)).top).mono ?_
                rintro e w8 ⟨t8, rfl, hp8, hm8, hb8⟩
                have HS8 := Lib.hid (HS.out.bel hb8)
                have HM8 := Lib.hid (hm8.up (Nat.zero_le w.heap.size))
                have HP8 := Lib.hid hp8
                have hl8 := HS8.out.b.size
                have hn8 := HS8.out.n
                clear hb8 hm8 hp8 x0 x1 x2 x3 x4 x5 x6 x7 x8 hxl
                go_upto_region 29 with (at_builtin; refine wpList_append_own_at _ rfl _ _ 22 rfl (w.heap.size) 28 iT _ 4 64 Try.underlying22 HIT.out.1 HIT.out.2.1 HIT.out.2.2.1 HIT.out.2.2.2 rfl (by omega) _ (rs2.length) _ rfl (World.ownsRow.alloc HS8.out.o.o _) ⟨(w8).heap.size, 0, none⟩ 1 1 (CT.cells t8) rfl rfl ?c0 ?c1 ?c2 ?c3 ?c4 ?_; rotate_right; intro v' w' hown' hg' _ hat')
                case c0 => first | exact news_new _ _ (CT.cells t8) | exact fun _ _ h => h
                case c1 => exact CT.one _
                case c2 => simp only [maxLen]; omega
                case c3 => omega
                case c4 => first | omega | (simp; omega)
                have HS9 := Lib.hid (HS8.out.app (x := t8) HM8.out hown' hg')
                have HZ9 := Lib.hid (show appS (xs.map CT.pt) (es.map CE.pe) = ((appS ((xs.map CT.pt).drop xs.length) ((es.map CE.pe).drop (j + 1))).1, (rs2 ++ [t8]).map CT.pt ++ (appS ((xs.map CT.pt).drop xs.length) ((es.map CE.pe).drop (j + 1))).2) by
                  rw [HZ2.out, List.map_append, List.append_assoc]
                  show _ = (_, rs2.map CT.pt ++ (t8.pt :: _))
                  rw [HP8.out]
                  rfl)
                clear hown' hg' hat' HS8 HM8 HP8
                go_wp2_with fail
                go_roundg (es.length - j - 1)
                case measure => have := Hj.out; omega
                case rel => exact ⟨j + 1, xs.length, rs2 ++ [t8], by first | rfl | go_num, by omega, by first | rfl | go_num, by omega, HZ9.out, HS9.out.more (by omega)⟩
              · have hk1' : (t.k == 1) = false := by simpa using hk1
                have hk1'' : (t.k != 1) = true := by simpa using hk1
                have HF := Lib.hid (HVF.out 6 (by decide) (HNONE2.out hk1))
                clear HNONE1 HNONE2 hk1
                go_wp2_with fail
                go_ret2
                exact ⟨none, 0, [], by rw [HF.out]; rfl, TLO.nil _, by rw [HF.out]; rfl, HS.out.b⟩
        · have HZF := Lib.hid (show appS (xs.map CT.pt) (es.map CE.pe) = (0, rs.map CT.pt ++ (xs.map CT.pt).drop i) by
            rw [HZ.out, List.drop_of_length_le (show (es.map CE.pe).length ≤ j by simp; omega)]
            rfl)
          clear HZ
          have HV2 := Lib.hid (show apV (xs.map CT.pt) (es.map CE.pe) = if 1024 < (rs.map CT.pt ++ (xs.map CT.pt).drop i).length then (7, []) else (0, rs.map CT.pt ++ (xs.map CT.pt).drop i) by rw [HV.out, HZF.out]; rfl)
          clear HV HVF HZF HKE
          generalize hR : rs.map CT.pt ++ (xs.map CT.pt).drop i = R at *
          have HR := Lib.hid hR
          clear hR
          have HRL := Lib.hid HR.out
          have hjle : j ≤ es.length := by have := Hj.out; omega
          have hrsn := HS.out.n
          have HRN := Lib.hid (show R.length ≤ 1034834481400 by have h := congrArg List.length HR.out; simp at h; omega)
          rcases hA with rfl | ⟨bb, rfl⟩
          · obtain ⟨hn0, rfl⟩ := HA.out.nl rfl
            have hes : xs = [] := List.eq_nil_of_length_eq_zero hn0
            subst hes
            have hi0 : i = 0 := by simpa using hil
            subst hi0
            clear hn0
            go_wp2_with fail
            clear hlt
            go_loopg [8, 15, 134] 0 (fun k v8 _ v wx => SaF0 w R k v8 v wx)
            case atStart => exact ⟨rs, rfl, rfl, by have := HR.out; simpa using this, ⟨HS.out.o, Nat.le_refl _, HS.out.b⟩⟩
            case round =>
              clear HS HR HRL
              obtain ⟨rs2, rfl, hk0, hz, hs⟩ := hrel
              rename World => wx
              have HRF := Lib.hid hz
              have HS := Lib.hid hs
              clear hk0 hz hs
              obtain ⟨Ao2, co2, rfl⟩ := HS.out.o.sl
              skip
              have HRLn := Lib.hid (show R.length = rs2.length by rw [← HRF.out, List.length_map])
              have hrs9 : rs2.length ≤ 2199023255488 := by have h := HRN.out; have h2 := HRLn.out; omega
              by_cases hbig : 1024 < rs2.length
              · have HF := Lib.hid (HV2.out.trans (if_pos (by rw [HRLn.out]; exact hbig)))
                go_wp2_with fail
                go_ret2
                exact ⟨none, 0, [], by rw [HF.out]; rfl, TLO.nil _, by rw [HF.out]; rfl, HS.out.b⟩
              · have HF := Lib.hid (HV2.out.trans (if_neg (by rw [HRLn.out]; exact hbig)))
                go_wp2_with fail
                go_ret2
                exact ⟨Ao2, co2, rs2, by rw [HF.out]; rfl, HS.out.tlo (by omega), by rw [HF.out]; exact HRF.out, HS.out.b⟩
          · by_cases hc0 : c = 0
            · subst hc0
              have hn0 : xs.length = 0 := by have := HA.out.le; omega
              have hes : xs = [] := List.eq_nil_of_length_eq_zero hn0
              subst hes
              have hi0 : i = 0 := by simpa using hil
              subst hi0
              clear hn0
              go_wp2_with fail
              clear hlt
              go_loopg [8, 15, 134] 0 (fun k v8 _ v wx => SaF0 w R k v8 v wx)
              case atStart => exact ⟨rs, rfl, rfl, by have := HR.out; simpa using this, ⟨HS.out.o, Nat.le_refl _, HS.out.b⟩⟩
              case round =>
                clear HS HR HRL
                obtain ⟨rs2, rfl, hk0, hz, hs⟩ := hrel
                rename World => wx
                have HRF := Lib.hid hz
                have HS := Lib.hid hs
                clear hk0 hz hs
                obtain ⟨Ao2, co2, rfl⟩ := HS.out.o.sl
                skip
                have HRLn := Lib.hid (show R.length = rs2.length by rw [← HRF.out, List.length_map])
                have hrs9 : rs2.length ≤ 2199023255488 := by have h := HRN.out; have h2 := HRLn.out; omega
                by_cases hbig : 1024 < rs2.length
                · have HF := Lib.hid (HV2.out.trans (if_pos (by rw [HRLn.out]; exact hbig)))
                  go_wp2_with fail
                  go_ret2
                  exact ⟨none, 0, [], by rw [HF.out]; rfl, TLO.nil _, by rw [HF.out]; rfl, HS.out.b⟩
                · have HF := Lib.hid (HV2.out.trans (if_neg (by rw [HRLn.out]; exact hbig)))
                  go_wp2_with fail
                  go_ret2
                  exact ⟨Ao2, co2, rs2, by rw [HF.out]; rfl, HS.out.tlo (by omega), by rw [HF.out]; exact HRF.out, HS.out.b⟩
            · have hcl := HA.out.le
              have hcj : (i : Int) ≤ (c : Int) := by omega
              have hnj : (i : Int) ≤ (xs.length : Int) := by omega
              have hnc : (xs.length : Int) ≤ (c : Int) := by omega
              by_cases hce : c = i
              · subst hce
                have hdz : (xs.map CT.pt).drop c = [] := List.drop_of_length_le (by simp; omega)
                rw [hdz] at HR
                clear hdz
                go_wp2_with fail
                clear hlt
                go_loopg [8, 15, 134] 0 (fun k v8 _ v wx => SaF0 w R k v8 v wx)
                case atStart => exact ⟨rs, rfl, rfl, by have := HR.out; simpa using this, ⟨HS.out.o, Nat.le_refl _, HS.out.b⟩⟩
                case round =>
                  clear HS HR HRL
                  obtain ⟨rs2, rfl, hk0, hz, hs⟩ := hrel
                  rename World => wx
                  have HRF := Lib.hid hz
                  have HS := Lib.hid hs
                  clear hk0 hz hs
                  obtain ⟨Ao2, co2, rfl⟩ := HS.out.o.sl
                  skip
                  have HRLn := Lib.hid (show R.length = rs2.length by rw [← HRF.out, List.length_map])
                  have hrs9 : rs2.length ≤ 2199023255488 := by have h := HRN.out; have h2 := HRLn.out; omega
                  by_cases hbig : 1024 < rs2.length
                  · have HF := Lib.hid (HV2.out.trans (if_pos (by rw [HRLn.out]; exact hbig)))
                    go_wp2_with fail
                    go_ret2
                    exact ⟨none, 0, [], by rw [HF.out]; rfl, TLO.nil _, by rw [HF.out]; rfl, HS.out.b⟩
                  · have HF := Lib.hid (HV2.out.trans (if_neg (by rw [HRLn.out]; exact hbig)))
                    go_wp2_with fail
                    go_ret2
                    exact ⟨Ao2, co2, rs2, by rw [HF.out]; rfl, HS.out.tlo (by omega), by rw [HF.out]; exact HRF.out, HS.out.b⟩
              · go_wp2_with fail
                go_loopg [8, 15, 134] (xs.length - i) (fun k v8 _ v wx => SaF w xs R i k v8 v wx)
                case atStart => exact ⟨0, rs, rfl, by omega, hil, HR.out, ⟨HS.out.o, Nat.le_refl _, HS.out.b⟩⟩
                case round =>
                  clear HS HR
                  obtain ⟨q, rs2, rfl, hq, _, hz, hs⟩ := hrel
                  rename World => wx
                  have Hq := Lib.hid hq
                  have HZ := Lib.hid hz
                  have HS := Lib.hid hs
                  clear hq hz hs
                  obtain ⟨Ao2, co2, rfl⟩ := HS.out.o.sl
                  by_cases hlt : q < xs.length - i
                  · have hiq : i + q < xs.length := by omega
                    have HDR := Lib.hid (drop_pt' xs (i + q) hiq)
                    obtain ⟨bb2, off2, hAe, hbb2, d0, d1, d2, d3⟩ := rdT (HA.out.r.grow HS.out.b) rfl (i + q) hiq
                    cases hAe
                    rw [Nat.zero_add, Nat.add_mul] at d0 d1 d2 d3
                    have HTX := Lib.hid (HA.out.m _ (List.getElem_mem hiq))
                    generalize xs[i + q] = x at *
                    have hbw2 : bb < wx.heap.size := World.block_lt_of_cell? _ _ d0
                    go_upto_region 33 with fail
                    refine world_gen (fun w5 => Blk w5 wx.heap.size 28 #[.int .i64 (x).ln, .int .i64 (x).dy, .slice (x).Ad (x).dep.length (x).cd, .slice (x).Aa (x).arr.length (x).ca] ∧ Below wx.heap.size wx w5) ⟨Blk.new wx _ _, (by repeat (first | exact Below.refl _ _ | (with_reducible refine Below.drew ?_) | (with_reducible refine below_drewN ?_ _) | (with_reducible refine Below.alloc ?_ (by first | omega | (simp; done) | (simp; omega)) _) | (with_reducible refine Below.setCell ?_ (by first | omega | (simp; done) | (simp; omega)) _) | (refine Below.trans ?_ (Below.mono (by with_reducible assumption) (by first | omega | (simp; done) | (simp; omega))))))⟩ ?_
                    rintro w5 ⟨hx5, hb5⟩
                    have HS5 := Lib.hid (HS.out.bel hb5)
                    have x0 := hx5.cell 0
                    have x1 := hx5.cell 1
                    have x2 := hx5.cell 2
                    have x3 := hx5.cell 3
                    simp at x0 x1 x2 x3
                    have hxl := hx5.lt
                    clear d0 d1 d2 d3 hx5 hb5 HS
                    go_wp2_with fail
                    refine (clone_any x _ (HTX.out.go HS5.out.b)).mono ?_
                    rintro e w8 ⟨t8, rfl, hp8, hm8, hb8⟩
                    have HS8 := Lib.hid (HS5.out.bel hb8)
                    have HM8 := Lib.hid (hm8.up (Nat.zero_le w.heap.size))
                    have HP8 := Lib.hid hp8
                    have hl8 := HS8.out.b.size
                    have hn8 : rs2.length ≤ 1034834481400 := by
                      have h := congrArg List.length HZ.out
                      have h2 := HRN.out
                      simp at h
                      omega
                    clear hb8 hm8 hp8 x0 x1 x2 x3 hxl HS5
                    go_upto_region 34 with (at_builtin; refine wpList_append_own_at _ rfl _ _ 22 rfl (w.heap.size) 28 iT _ 4 64 Try.underlying22 HIT.out.1 HIT.out.2.1 HIT.out.2.2.1 HIT.out.2.2.2 rfl (by omega) _ (rs2.length) _ rfl (World.ownsRow.alloc HS8.out.o.o _) ⟨(w8).heap.size, 0, none⟩ 1 1 (CT.cells t8) rfl rfl ?c0 ?c1 ?c2 ?c3 ?c4 ?_; rotate_right; intro v' w' hown' hg' _ hat')
                    case c0 => first | exact news_new _ _ (CT.cells t8) | exact fun _ _ h => h
                    case c1 => exact CT.one _
                    case c2 => simp only [maxLen]; omega
                    case c3 => omega
                    case c4 => first | omega | (simp; omega)
                    have HS9 := Lib.hid (HS8.out.app (x := t8) HM8.out hown' hg')
                    have HZ9 := Lib.hid (show (rs2 ++ [t8]).map CT.pt ++ (xs.map CT.pt).drop (i + (q + 1)) = R by
                      rw [List.map_append, List.append_assoc]
                      show rs2.map CT.pt ++ (t8.pt :: (xs.map CT.pt).drop (i + (q + 1))) = R
                      rw [HP8.out, show i + (q + 1) = i + q + 1 by omega, ← HDR.out]
                      exact HZ.out)
                    clear hown' hg' hat' HS8 HM8 HP8
                    go_wp2_with fail
                    go_roundg (xs.length - i - q - 1)
                    case measure => have := Hq.out; omega
                    case rel => exact ⟨q + 1, rs2 ++ [t8], by first | rfl | go_num, by omega, hil, HZ9.out, ⟨HS9.out.o, Nat.le_refl _, HS9.out.b⟩⟩
                  · have HRF := Lib.hid (show rs2.map CT.pt = R by
                      rw [← HZ.out, List.drop_of_length_le (by simp; omega), List.append_nil])
                    clear HZ
                    skip
                    have HRLn := Lib.hid (show R.length = rs2.length by rw [← HRF.out, List.length_map])
                    have hrs9 : rs2.length ≤ 2199023255488 := by have h := HRN.out; have h2 := HRLn.out; omega
                    by_cases hbig : 1024 < rs2.length
                    · have HF := Lib.hid (HV2.out.trans (if_pos (by rw [HRLn.out]; exact hbig)))
                      go_wp2_with fail
                      go_ret2
                      exact ⟨none, 0, [], by rw [HF.out]; rfl, TLO.nil _, by rw [HF.out]; rfl, HS.out.b⟩
                    · have HF := Lib.hid (HV2.out.trans (if_neg (by rw [HRLn.out]; exact hbig)))
                      go_wp2_with fail
                      go_ret2
                      exact ⟨Ao2, co2, rs2, by rw [HF.out]; rfl, HS.out.tlo (by omega), by rw [HF.out]; exact HRF.out, HS.out.b⟩
end Go.Proofs.Ythfifejjfnmpoaa
