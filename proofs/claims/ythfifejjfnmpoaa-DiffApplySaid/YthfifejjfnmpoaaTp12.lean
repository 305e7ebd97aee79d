import Derived.Test.YthfifejjfnmpoaaTp11
namespace Go.Proofs.Ythfifejjfnmpoaa
open Go.RowKit
/-- the first place of a key -/
def findK : List PT → PT → Nat → Int
  | [], _, _ => -1
  | x :: r, t, j => if eqK x t then j else findK r t (j + 1)
theorem findK_spec : ∀ (L : List PT) (t : PT) (j : Nat), (findK L t j = -1 ∧ findT L t = none) ∨ (∃ (i : Nat) (h : i < L.length), findK L t j = ((j + i : Nat) : Int) ∧ findT L t = some L[i])
  | [], t, j => .inl ⟨rfl, rfl⟩
  | x :: r, t, j => by
    unfold findK
    by_cases h : eqK x t
    · right
      refine ⟨0, by simp, by rw [if_pos h]; simp, ?_⟩
      unfold findT
      rw [List.find?_cons_of_pos (by simpa using h)]
      rfl
    · rw [if_neg h]
      have e : findT (x :: r) t = findT r t := by unfold findT; rw [List.find?_cons_of_neg (by simpa using h)]
      rcases findK_spec r t (j + 1) with ⟨h1, h2⟩ | ⟨i, hi, h1, h2⟩
      · exact .inl ⟨h1, by rw [e, h2]⟩
      · exact .inr ⟨i + 1, by simpa using hi, by rw [h1]; congr 1; omega, by rw [e, h2]; rfl⟩
def FdLT (w : World) (ts : List CT) (t : CT) (z : Int) (k : Nat) (v : Value) (wr : World) : Prop :=
  ∃ j : Nat, v = .int .i64 j ∧ j + k = ts.length ∧ findK ((ts.map CT.pt).drop j) t.pt j = z ∧ Blk wr w.heap.size 28 #[.int .i64 (t).ln, .int .i64 (t).dy, .slice (t).Ad (t).dep.length (t).cd, .slice (t).Aa (t).arr.length (t).ca] ∧ Below w.heap.size w wr
set_option maxRecDepth 100000 in
set_option maxHeartbeats 3200000 in
theorem find_any (A : Option Addr) (c : Nat) (ts : List CT) (t : CT) (w : World) (h : TL w A c ts) (ht : TM w w.heap.size t) (h1 : ∀ x ∈ ts, 1 ≤ x.dep.length) (ht1 : 1 ≤ t.dep.length) :
    Calls Try.prog 24 #[.slice A ts.length c, .agg #[.int .i64 (t).ln, .int .i64 (t).dy, .slice (t).Ad (t).dep.length (t).cd, .slice (t).Aa (t).arr.length (t).ca]] w fun e w' => e = .returned (.int .i64 (findK (ts.map CT.pt) t.pt 0)) ∧ Below w.heap.size w w' := by
  have H := Lib.hid h
  have HT := Lib.hid ht
  have H1 := Lib.hid h1
  clear h ht h1
  have hz0 : ∀ z, findK (ts.map CT.pt) t.pt 0 = z → findK ((ts.map CT.pt).drop 0) t.pt 0 = z := fun z h => by simpa using h
  have hsz := H.out.sz
  generalize hz : findK (ts.map CT.pt) t.pt 0 = z at *
  have HZ := Lib.hid (hz0 z rfl)
  clear hz hz0
  have HX0 := Lib.hid (Blk.new w 28 #[.int .i64 (t).ln, .int .i64 (t).dy, .slice (t).Ad (t).dep.length (t).cd, .slice (t).Aa (t).arr.length (t).ca])
  have HL0 := Lib.hid (show Below w.heap.size w (w.alloc (.cells #[.int .i64 (t).ln, .int .i64 (t).dy, .slice (t).Ad (t).dep.length (t).cd, .slice (t).Aa (t).arr.length (t).ca] 28)) from (Below.refl _ _).alloc (Nat.le_refl _) _)
  go_enter Try.func24, Try.ntmps24
  go_wp2_with fail
  go_loopg [5, 8] ts.length (fun k _ v wr => FdLT w ts t z k v wr)
  case atStart => exact ⟨0, rfl, by omega, HZ.out, HX0.out, HL0.out⟩
  case round =>
    clear HX0 HL0 HZ
    obtain ⟨j, rfl, hj, hz, hx, hb⟩ := hrel
    have Hj := Lib.hid hj
    have HB := Lib.hid hb
    have HX := Lib.hid hx
    have HZ := Lib.hid hz
    clear hj hz hb hx
    by_cases hlt : j < ts.length
    · have hd := List.drop_eq_getElem_cons (l := ts.map CT.pt) (i := j) (by simpa using hlt)
      rw [List.getElem_map] at hd
      obtain ⟨bb, off, rfl, hbb, d0, d1, d2, d3⟩ := rdT (H.out.r.grow HB.out) rfl j hlt
      have hz := HZ.out
      rw [hd] at hz
      unfold findK at hz
      have HTM : Hid (∀ W, Below wr.heap.size wr W → TM W W.heap.size t) := fun W hW => HT.out.go (HB.out.trans (hW.mono HB.out.size))
      have HPM : Hid (∀ W, Below wr.heap.size wr W → TM W W.heap.size ts[j]) := fun W hW => (H.out.m _ (List.getElem_mem hlt)).go (HB.out.trans (hW.mono HB.out.size))
      have hp1 := H1.out ts[j] (List.getElem_mem hlt)
      have HZ2 := Lib.hid hz
      clear hz hd HZ
      generalize ts[j] = u at *
      have HCM : Hid (∀ W, Below wr.heap.size wr W → Calls Try.prog 36 #[.agg #[.int .i64 (u).ln, .int .i64 (u).dy, .slice (u).Ad (u).dep.length (u).cd, .slice (u).Aa (u).arr.length (u).ca], .agg #[.int .i64 (t).ln, .int .i64 (t).dy, .slice (t).Ad (t).dep.length (t).cd, .slice (t).Aa (t).arr.length (t).ca]] W fun e w' => e = .returned (.int .i64 (cmpV u.pt t.pt)) ∧ Below W.heap.size W w') := fun W hW => ord_any u t W (HPM.out W hW) (HTM.out W hW) hp1 ht1
      have HQ := Lib.hid (cmpV_eq (a := u.pt) (b := t.pt))
      generalize cmpV u.pt t.pt = cv at *
      have hbw : bb < wr.heap.size := World.block_lt_of_cell? _ _ d0
      have x0 := HX.out.cell 0
      have x1 := HX.out.cell 1
      have x2 := HX.out.cell 2
      have x3 := HX.out.cell 3
      simp at x0 x1 x2 x3
      have hxl := HX.out.lt
      go_upto_region 4 with fail
      by_cases hc : cv = 0
      · have hc' : (cv == 0) = true := by simpa using hc
        have hz := HZ2.out
        rw [if_pos (HQ.out.1 hc)] at hz
        clear HQ HZ2 hc
        subst hz
        refine wp_region_overL (by kernel_rfl) (by kernel_rfl) ?_
        repeat (go_big_quiet_step ((go_at_call 36; exact callsOver (HCM.out _ (over_below _ _)))))
        refine wpQuiet_nil ?_
        intro w6 hb6
        have HB6 := Lib.hid (HB.out.trans (hb6.mono HB.out.size))
        clear hb6 x0 x1 x2 x3 d0 d1 d2 d3
        go_wp2_with fail
        go_ret
        exact ⟨rfl, HB6.out⟩
      · have hc' : (cv == 0) = false := by simpa using hc
        have hz := HZ2.out
        rw [if_neg (fun h => hc (HQ.out.2 h))] at hz
        clear HQ HZ2 hc
        have HZ := Lib.hid hz
        clear hz
        refine wp_region_overL (by kernel_rfl) (by kernel_rfl) ?_
        repeat (go_big_quiet_step ((go_at_call 36; exact callsOver (HCM.out _ (over_below _ _)))))
        refine wpQuiet_nil ?_
        intro w6 hb6
        have HB6 := Lib.hid (HB.out.trans (hb6.mono HB.out.size))
        have HX6 := Lib.hid (HX.out.bel hb6)
        clear hb6 x0 x1 x2 x3 d0 d1 d2 d3
        go_wp2_with fail
        go_roundg (ts.length - j - 1)
        case measure => have := Hj.out; omega
        case rel => exact ⟨j + 1, by first | rfl | go_num, by omega, HZ.out, HX6.out, HB6.out⟩
    · have hz := HZ.out
      rw [List.drop_of_length_le (by simp; omega)] at hz
      have hz2 : z = -1 := hz.symm
      subst hz2
      clear hz HZ
      go_wp2_with fail
      go_ret
      exact ⟨rfl, HB.out⟩
end Go.Proofs.Ythfifejjfnmpoaa
