import Derived.Test.YtinjdcefagaaeaaGreatDoorQBn
set_option linter.unusedVariables false
set_option linter.unusedSimpArgs false
namespace Go.Proofs.YtinjdcefagaaeaaGreatDoor
open Go.RowKit
/-! search: the state; add -/
abbrev srC (N : NtA) (vl vc vt : Value) (used : Int) (res : Value) (cost : Int) (fd : Bool) : Array Value :=
  #[.int .i64 300, .slice (some ⟨N.ev, 0, none⟩) 2 N.ce, .slice (some ⟨N.ac, 0, none⟩) 1 N.ca, vl, vc, vt, .bool true, .int .i64 1000, .int .i64 used, .bool false, res, .int .i64 cost, .bool fd]
/-- two blocks may have turned; there may be new ones -/
structure T2 (a b : Nat) (w w' : World) : Prop where
  os : w'.os = w.os
  tape : w'.tape = w.tape
  output : w'.output = w.output
  size : w.heap.size ≤ w'.heap.size
  block : ∀ k, k < w.heap.size → k ≠ a → k ≠ b → w'.heap[k]? = w.heap[k]?
theorem T2.rf (a b : Nat) (w : World) : T2 a b w w := ⟨rfl, rfl, rfl, Nat.le_refl _, fun _ _ _ _ => rfl⟩
theorem T2.of {a b : Nat} {w w' : World} (h : Below w.heap.size w w') : T2 a b w w' := ⟨h.os, h.tape, h.output, h.size, fun k hk _ _ => h.block k hk⟩
theorem T2.l {a b : Nat} {w w' : World} (h : Tw a w w') : T2 a b w w' := ⟨h.os, h.tape, h.output, h.size, fun k hk ha _ => h.block k hk ha⟩
theorem T2.r {a b : Nat} {w w' : World} (h : Tw b w w') : T2 a b w w' := ⟨h.os, h.tape, h.output, h.size, fun k hk _ hb => h.block k hk hb⟩
theorem T2.tr {x y z : World} {a b : Nat} (h : T2 a b x y) (k : T2 a b y z) : T2 a b x z := ⟨k.os.trans h.os, k.tape.trans h.tape, k.output.trans h.output, Nat.le_trans h.size k.size, fun q hq ha hb => (k.block q (Nat.lt_of_lt_of_le hq h.size) ha hb).trans (h.block q hq ha hb)⟩
theorem T2.below {B a b : Nat} {x w w' : World} (h : Below B x w) (t : T2 a b w w') (ha : B ≤ a) (hb : B ≤ b) (hB : B ≤ w.heap.size) : Below B x w' :=
  ⟨t.os.trans h.os, t.tape.trans h.tape, t.output.trans h.output, Nat.le_trans h.size t.size, fun k hk => (t.block k (by omega) (by omega) (by omega)).trans (h.block k hk)⟩
theorem Cs.t2 {w w' : World} {g a b : Nat} {L : List Value} (h : Cs w g L) (ht : T2 a b w w') (ha : g ≠ a) (hb : g ≠ b) : Cs w' g L := h.same (ht.block _ h.lt ha hb) ht.size
structure SrA where
  N : NtA
  S : Nat
  gt : Nat
  gl : Nat
  cl : Nat
  gc : Nat
  gq : Nat
  cq : Nat
/-- what the search reads only -/
structure SrR (w : World) (A : SrA) : Prop where
  n : NtM w A.N
  l : Cs w A.gl [.int .i64 1, .int .i64 300]
  c : Cs w A.gc [.slice none 0 0, .slice (some ⟨A.gq, 0, none⟩) 1 A.cq]
  q : Cs w A.gq [.int .i64 0]
structure SrN (A : SrA) : Prop where
  st : A.S ≠ A.gt
  e1 : A.N.ev ≠ A.S
  e2 : A.N.ev ≠ A.gt
  a1 : A.N.ac ≠ A.S
  a2 : A.N.ac ≠ A.gt
  l1 : A.gl ≠ A.S
  l2 : A.gl ≠ A.gt
  c1 : A.gc ≠ A.S
  c2 : A.gc ≠ A.gt
  q1 : A.gq ≠ A.S
  q2 : A.gq ≠ A.gt
theorem SrR.t2 {w w' : World} {A : SrA} (h : SrR w A) (hn : SrN A) (ht : T2 A.S A.gt w w') : SrR w' A :=
  ⟨⟨h.n.ev.t2 ht hn.e1 hn.e2, h.n.ac.t2 ht hn.a1 hn.a2⟩, h.l.t2 ht hn.l1 hn.l2, h.c.t2 ht hn.c1 hn.c2, h.q.t2 ht hn.q1 hn.q2⟩
structure StM (w : World) (A : SrA) (t0 t1 used : Int) (res : Value) (cost : Int) (fd : Bool) : Prop where
  x : Blk w A.S 227 (srC A.N (.slice (some ⟨A.gl, 0, none⟩) 2 A.cl) (.slice (some ⟨A.gc, 0, none⟩) 2 2) (.slice (some ⟨A.gt, 0, none⟩) 2 2) used res cost fd)
  t : Blk w A.gt 3 (i2 t0 t1)
  r : SrR w A
  n : SrN A
  hl : 2 ≤ A.cl
theorem StM.go {w w' : World} {A : SrA} {t0 t1 used cost : Int} {res : Value} {fd : Bool} (h : StM w A t0 t1 used res cost fd) (hb : Below w.heap.size w w') : StM w' A t0 t1 used res cost fd :=
  ⟨h.x.same (hb.block _ h.x.lt), h.t.same (hb.block _ h.t.lt), h.r.t2 h.n (T2.of hb), h.n, h.hl⟩
theorem StM.stS {w : World} {A : SrA} {t0 t1 used cost used' cost' : Int} {res res' : Value} {fd fd' : Bool} (h : StM w A t0 t1 used res cost fd) (i : Nat) (u : Value)
    (he : (srC A.N (.slice (some ⟨A.gl, 0, none⟩) 2 A.cl) (.slice (some ⟨A.gc, 0, none⟩) 2 2) (.slice (some ⟨A.gt, 0, none⟩) 2 2) used res cost fd).setIfInBounds i u = srC A.N (.slice (some ⟨A.gl, 0, none⟩) 2 A.cl) (.slice (some ⟨A.gc, 0, none⟩) 2 2) (.slice (some ⟨A.gt, 0, none⟩) 2 2) used' res' cost' fd') :
    StM (w.setCell ⟨A.S, i, none⟩ u) A t0 t1 used' res' cost' fd' :=
  ⟨by have := h.x.set_ i u; rw [he] at this; exact this, h.t.far h.n.st, h.r.t2 h.n (T2.l (Tw.set _ _ _ _)), h.n, h.hl⟩
theorem StM.stT {w : World} {A : SrA} {t0 t1 used cost t0' t1' : Int} {res : Value} {fd : Bool} (h : StM w A t0 t1 used res cost fd) (i : Nat) (u : Value) (he : (i2 t0 t1).setIfInBounds i u = i2 t0' t1') :
    StM (w.setCell ⟨A.gt, i, none⟩ u) A t0' t1' used res cost fd :=
  ⟨h.x.far (fun e => h.n.st e.symm), by have := h.t.set_ i u; rw [he] at this; exact this, h.r.t2 h.n (T2.r (Tw.set _ _ _ _)), h.n, h.hl⟩
set_option maxRecDepth 100000 in
set_option maxHeartbeats 3200000 in
theorem sadd0_ok (A : SrA) (t0 t1 used cost c : Int) (res : Value) (fd : Bool) (w : World) (h : StM w A t0 t1 used res cost fd) :
    Calls Tryz.prog 211 #[.pointer (some ⟨A.S, 0, none⟩), .int .i64 0, .int .i64 c] w fun e w' => e = .returned (.tuple #[.int .i64 c, .bool true]) ∧ w' = w := by
  have x4 := h.x.cell 4
  have xl := h.x.lt
  have c0 : w.cell? ⟨A.gc, 0, none⟩ = some (.slice none 0 0) := h.r.c.c 0 _ rfl
  have cl := h.r.c.lt
  simp at x4
  clear h
  go_enter Tryz.func211, Tryz.ntmps211
  go_wp2_with fail
  go_loopg [2, 20] 0 (fun k v2 v wr => v2 = .int .i64 c ∧ v = .int .i64 0 ∧ wr = w)
  case atStart => exact ⟨rfl, rfl, rfl⟩
  case round =>
    obtain ⟨rfl, rfl, hw⟩ := hrel
    obtain rfl := hw
    go_wp2_with fail
    go_ret2
    exact ⟨rfl, rfl⟩
def SaL (A : SrA) (t used cost : Int) (res : Value) (fd : Bool) (w : World) (k : Nat) (v2 v : Value) (wr : World) : Prop :=
  Below w.heap.size w wr ∧ StM wr A 0 t used res cost fd ∧ ((k = 1 ∧ v = .int .i64 0 ∧ v2 = .int .i64 82) ∨ (k = 0 ∧ v = .int .i64 1 ∧ v2 = .int .i64 (82 + 2 * ((t - 41) % 300)) ∧ (t - 41) % 300 ≤ 5))
def saV (t : Int) : Value := if (t - 41) % 300 ≤ 5 then .tuple #[.int .i64 (82 + 2 * ((t - 41) % 300)), .bool true] else .tuple #[.int .i64 0, .bool false]
set_option maxRecDepth 100000 in
set_option maxHeartbeats 3200000 in
theorem sadd1_ok (A : SrA) (t used cost : Int) (res : Value) (fd : Bool) (w : World) (h : StM w A 0 t used res cost fd) (ht0 : 0 ≤ t) (ht1 : t < 300) :
    Calls Tryz.prog 211 #[.pointer (some ⟨A.S, 0, none⟩), .int .i64 1, .int .i64 82] w fun e w' => e = .returned (saV t) ∧ Below w.heap.size w w' := by
  have HS := Lib.hid h
  have x4 := h.x.cell 4
  have xl := h.x.lt
  have c1 : w.cell? ⟨A.gc, 1, none⟩ = some (.slice (some ⟨A.gq, 0, none⟩) 1 A.cq) := h.r.c.c 1 _ rfl
  have cl := h.r.c.lt
  simp at x4
  clear h
  go_enter Tryz.func211, Tryz.ntmps211
  go_wp2_with fail
  clear x4 c1 cl xl
  go_loopg [2, 20] 1 (fun k v2 v wr => SaL A t used cost res fd w k v2 v wr)
  case atStart => exact ⟨Below.refl _ _, HS.out, .inl ⟨rfl, rfl, rfl⟩⟩
  case round =>
    obtain ⟨hb, hs, hor⟩ := hrel
    have HB := Lib.hid hb
    have HS1 := Lib.hid hs
    clear hb hs HS
    rcases hor with ⟨rfl, rfl, rfl⟩ | ⟨rfl, rfl, rfl, hm⟩
    · have q0 : wr.cell? ⟨A.gq, 0, none⟩ = some (.int .i64 0) := HS1.out.r.q.c 0 _ rfl
      have ql := HS1.out.r.q.lt
      have x2 := HS1.out.x.cell 2
      have xl := HS1.out.x.lt
      have hnm := HS1.out.r.n
      simp at x2
      obtain ⟨a0, a1, a2, a3, a4, a5⟩ := (hnm).act
      have al := (hnm).ac.lt
      clear hnm
      go_upto_region 5 with fail
      refine world_gen (fun w2 => Below w.heap.size w w2 ∧ StM w2 A 0 t used res cost fd ∧ Blk w2 wr.heap.size 138 acL.toArray) ⟨HB.out.trans (Below.mono ((Below.refl _ _).alloc (Nat.le_refl _) _) HB.out.size), HS1.out.go ((Below.refl _ _).alloc (Nat.le_refl _) _), (by repeat (first | (refine Blk.new' _ _ _ _ ?_; first | rfl | (simp <;> omega)) | refine Blk.al ?_ _ | refine Blk.dr ?_ | refine Blk.drN ?_ _ | refine Blk.far ?_ (by first | omega | (simp; omega))))⟩ ?_
      rintro w2 ⟨hb2, hs2, hz2⟩
      have HB2 := Lib.hid hb2
      have HS2 := Lib.hid hs2
      have HZ2 := Lib.hid hz2
      clear hb2 hs2 hz2 HB HS1 q0 ql x2 xl
      clear a0 a1 a2 a3 a4 a5 al
      generalize wr.heap.size = Z at *
      have z1 := HZ2.out.cell 1
      have z2 := HZ2.out.cell 2
      have z3 := HZ2.out.cell 3
      have zl := HZ2.out.lt
      have x0 := HS2.out.x.cell 0
      have x5 := HS2.out.x.cell 5
      have xl := HS2.out.x.lt
      have t0 := HS2.out.t.cell 0
      have t1 := HS2.out.t.cell 1
      have tl := HS2.out.t.lt
      simp at z1 z2 z3 x0 x5 t0 t1
      have HM := Lib.hid (fun W => mod_any (t - 41) 300 W (by omega) (by omega))
      refine wp_region_overL (by kernel_rfl) (by kernel_rfl) ?_
      repeat (go_big_quiet_step ((go_at_call 62; exact callsOverSame (HM.out _))))
      refine wpQuiet_nil ?_
      intro w3 hb3
      have HB3 := Lib.hid (HB2.out.trans (hb3.mono HB2.out.size))
      have HS3 := Lib.hid (HS2.out.go hb3)
      have HZ3 := Lib.hid (HZ2.out.same (hb3.block _ HZ2.out.lt))
      clear hb3 HB2 HS2 HZ2 z1 z2 z3 zl x0 x5 xl t0 t1 tl HM
      have z3 := HZ3.out.cell 3
      have z4 := HZ3.out.cell 4
      have z5 := HZ3.out.cell 5
      have zl := HZ3.out.lt
      simp at z3 z4 z5
      have hm0 : 0 ≤ (t - 41) % 300 := Int.emod_nonneg _ (by omega)
      have hm1 : (t - 41) % 300 < 300 := Int.emod_lt_of_pos _ (by omega)
      have HV : Hid (saV t = if (t - 41) % 300 ≤ 5 then .tuple #[.int .i64 (82 + 2 * ((t - 41) % 300)), .bool true] else .tuple #[.int .i64 0, .bool false]) := rfl
      have HQ : Hid (∀ v2, v2 = (t - 41) % 300 → v2 ≤ 5 → SaL A t used cost res fd w 0 (.int .i64 (82 + 2 * v2)) (.int .i64 1) w3) := fun v2 e h5 => by subst e; exact ⟨HB3.out, HS3.out, .inr ⟨rfl, rfl, rfl, h5⟩⟩
      generalize hm : (t - 41) % 300 = m at *
      by_cases h5 : m ≤ 5
      · have h5' : ¬ (5 < m) := by omega
        go_wp2_with fail
        go_roundg 0
        case measure => omega
        case rel => exact HQ.out m rfl h5
      · have h5' : 5 < m := by omega
        go_wp2_with fail
        go_ret2
        exact ⟨by rw [HV.out, if_neg (by omega)]; rfl, HB3.out⟩
    · go_wp2_with fail
      go_ret2
      exact ⟨by rw [saV, if_pos hm]; rfl, HB.out⟩
end Go.Proofs.YtinjdcefagaaeaaGreatDoor
namespace Go.Proofs.YtinjdcefagaaeaaGreatDoor
open Go.RowKit
/-! search: extend, run -/
/-- behind the first result -/
structure SrF (w : World) (A : SrA) (res : Value) : Prop where
  r : ∃ g c, res = .slice (some ⟨g, 0, none⟩) 2 c ∧ 2 ≤ c ∧ Cs w g tmL ∧ g ≠ A.S ∧ g ≠ A.gt
theorem SrF.t2 {w w' : World} {A : SrA} {res : Value} (h : SrF w A res) (ht : T2 A.S A.gt w w') : SrF w' A res := by
  obtain ⟨g, c, rfl, hc, hg, h1, h2⟩ := h.r
  exact ⟨g, c, rfl, hc, hg.t2 ht h1 h2, h1, h2⟩
set_option maxRecDepth 100000 in
set_option maxHeartbeats 3200000 in
theorem ext2_ok (A : SrA) (used : Int) (w : World) (h : StM w A 0 41 used (.slice none 0 0) 0 false) :
    Calls Tryz.prog 172 #[.pointer (some ⟨A.S, 0, none⟩), .int .i64 2, .int .i64 82] w fun e w' => e = .returned (.bool true) ∧ T2 A.S A.gt w w' ∧ ∃ res, StM w' A 0 41 used res 82 true ∧ SrF w' A res := by
  have HS := Lib.hid h
  have x5 := h.x.cell 5
  have xl := h.x.lt
  simp at x5
  clear h
  go_enter Tryz.func172, Tryz.ntmps172
  have hrd : Rd w w.heap.size 1 (some ⟨A.gt, 0, none⟩) ([0, 41] : List Int).length (([0, 41] : List Int).map (Value.int .i64)) := ⟨rfl, fun _ => ⟨A.gt, 0, rfl, HS.out.t.lt, fun i u hu => by
    have := (HS.out.t.cell i).trans (by simpa using hu)
    simpa using this⟩⟩
  have HR := Lib.hid hrd
  clear hrd
  go_upto_region 3 with (go_at_call 61; refine (clone_any (some ⟨A.gt, 0, none⟩) 2 [0, 41] w HR.out (by simp) (by simp)).mono ?_; rintro e w1 ⟨A1, c1, rfl, ho1, hb1⟩; obtain ⟨g1, c1', hv, hc1, hg1, hcc⟩ := own_cs ho1 (by simp); obtain ⟨rfl, rfl⟩ : A1 = some ⟨g1, 0, none⟩ ∧ c1 = c1' := (by simp at hv; exact hv); have HC1 := Lib.hid (show Cs w1 g1 tmL from hc1); have HB1 := Lib.hid hb1; have HCC := Lib.hid (show 2 ≤ c1 from hcc); clear ho1 hb1 hc1 hv hcc x5 xl; have x10 := (HS.out.go HB1.out).x.cell 10; have x11 := (HS.out.go HB1.out).x.cell 11; have x12 := (HS.out.go HB1.out).x.cell 12; have f10 := (HS.out.go HB1.out).x.frozen 10; have f11 := (HS.out.go HB1.out).x.frozen 11; have f12 := (HS.out.go HB1.out).x.frozen 12; have xl := (HS.out.go HB1.out).x.lt; simp at x10 x11 x12)
  have hs3 := (((HS.out.go HB1.out).stS 10 (.slice (some ⟨g1, 0, none⟩) 2 c1) (used' := used) (res' := .slice (some ⟨g1, 0, none⟩) 2 c1) (cost' := 0) (fd' := false) rfl).stS 11 (.int .i64 82) (used' := used) (res' := .slice (some ⟨g1, 0, none⟩) 2 c1) (cost' := 82) (fd' := false) rfl).stS 12 (.bool true) (used' := used) (res' := .slice (some ⟨g1, 0, none⟩) 2 c1) (cost' := 82) (fd' := true) rfl
  have ht3 : T2 A.S A.gt w1 (((w1.setCell ⟨A.S, 10, none⟩ (.slice (some ⟨g1, 0, none⟩) 2 c1)).setCell ⟨A.S, 11, none⟩ (.int .i64 82)).setCell ⟨A.S, 12, none⟩ (.bool true)) := T2.l (((Tw.set _ _ _ _).tr (Tw.set _ _ _ _)).tr (Tw.set _ _ _ _))
  have hne1 : g1 ≠ A.S := by have := HS.out.x.lt; omega
  have hne2 : g1 ≠ A.gt := by have := HS.out.t.lt; omega
  have HF := Lib.hid (And.intro ((T2.of HB1.out).tr ht3) (⟨_, hs3, ⟨g1, c1, rfl, HCC.out, HC1.out.t2 ht3 hne1 hne2, hne1, hne2⟩⟩ : ∃ res, StM _ A 0 41 used res 82 true ∧ SrF _ A res))
  have x6 := hs3.x.cell 6
  have xl3 := hs3.x.lt
  simp only [List.getElem?_toArray, List.getElem?_cons_succ, List.getElem?_cons_zero] at x6
  clear hs3 ht3 x10 x11 x12 f10 f11 f12 xl
  generalize ((w1.setCell ⟨A.S, 10, none⟩ (.slice (some ⟨g1, 0, none⟩) 2 c1)).setCell ⟨A.S, 11, none⟩ (.int .i64 82)).setCell ⟨A.S, 12, none⟩ (.bool true) = w3 at *
  go_wp2_with fail
  go_ret
  exact ⟨rfl, HF.out⟩
def E1J (A : SrA) (w : World) (j : Nat) (wr : World) : Prop :=
  T2 A.S A.gt w wr ∧ ∃ (t1 u : Int) (res : Value), u = 1 + j ∧ ((j ≤ 41 ∧ StM wr A 0 t1 u (.slice none 0 0) 0 false) ∨ (41 < j ∧ StM wr A 0 t1 u res 82 true ∧ SrF wr A res))
def E1L (A : SrA) (w : World) (k : Nat) (v : Value) (wr : World) : Prop := ∃ j : Nat, v = .int .i64 j ∧ j + k = 300 ∧ E1J A w j wr
theorem saV_no (j : Nat) (hj : j < 300) (h : j < 41 ∨ 46 < j) : saV j = .tuple #[.int .i64 0, .bool false] := by
  unfold saV
  rw [if_neg (by omega)]
theorem saV_yes (j : Nat) (h : 41 ≤ j) (h2 : j ≤ 46) : saV j = .tuple #[.int .i64 (82 + 2 * ((j : Int) - 41)), .bool true] := by
  unfold saV
  rw [show ((j : Int) - 41) % 300 = (j : Int) - 41 by omega, if_pos (by omega)]
set_option maxRecDepth 100000 in
set_option maxHeartbeats 6400000 in
theorem ext1_ok (A : SrA) (w : World) (h : StM w A 0 0 1 (.slice none 0 0) 0 false) :
    Calls Tryz.prog 172 #[.pointer (some ⟨A.S, 0, none⟩), .int .i64 1, .int .i64 82] w fun e w' => e = .returned (.bool true) ∧ E1J A w 300 w' := by
  have HS := Lib.hid h
  have x3 := h.x.cell 3
  have x5 := h.x.cell 5
  have xl := h.x.lt
  have l1 : w.cell? ⟨A.gl, 1, none⟩ = some (.int .i64 300) := h.r.l.c 1 _ rfl
  have ll := h.r.l.lt
  have hl := h.hl
  simp at x3 x5
  clear h
  go_enter Tryz.func172, Tryz.ntmps172
  go_wp2_with fail
  clear x3 x5 xl l1 ll
  go_loopg [43] 300 (fun k v wr => E1L A w k v wr)
  case atStart => exact ⟨0, rfl, rfl, T2.rf _ _ _, 0, 1, .slice none 0 0, by omega, .inl ⟨by omega, HS.out⟩⟩
  case round =>
    obtain ⟨j, rfl, hj, ht, t1, u, res, hu, hor⟩ := hrel
    have HT := Lib.hid ht
    have Hj := Lib.hid hj
    have HU := Lib.hid hu
    have hu0 : 0 ≤ u := by omega
    have hu1 : u ≤ 301 := by omega
    clear hj ht hu HS
    by_cases hlt : j < 300
    · have hne : ¬ (u = 1000) := by omega
      have hj0 : (0 : Int) ≤ (j : Int) := by omega
      have hj3 : (j : Int) < 300 := by omega
      rcases hor with ⟨hle, hst⟩ | ⟨hgt, hst, hsf⟩
      · have H0 := Lib.hid hst
        clear hst
        have x3 := H0.out.x.cell 3
        have x5 := H0.out.x.cell 5
        have x6 := H0.out.x.cell 6
        have x7 := H0.out.x.cell 7
        have x8 := H0.out.x.cell 8
        have x11 := H0.out.x.cell 11
        have x12 := H0.out.x.cell 12
        have f8 := H0.out.x.frozen 8
        have xl := H0.out.x.lt
        have t1c := H0.out.t.cell 1
        have ft1 := H0.out.t.frozen 1
        have tl := H0.out.t.lt
        simp at x3 x5 x6 x7 x8 x11 x12 t1c
        go_upto_region 7 with fail
        refine wp_region_overL (by kernel_rfl) (by kernel_rfl) ?_
        repeat (go_big_quiet_step (fail))
        refine wpQuiet_nil ?_
        intro w2 hb2
        have HQ2 := Lib.hid (H0.out.go hb2)
        have HT2 := Lib.hid (HT.out.tr (T2.of hb2))
        have HB2 := Lib.hid hb2
        clear hb2 H0
        clear x3 x5 x6 x7 x8 x11 x12 f8 xl t1c ft1 tl
        have x3 := HQ2.out.x.cell 3
        have x5 := HQ2.out.x.cell 5
        have x6 := HQ2.out.x.cell 6
        have x7 := HQ2.out.x.cell 7
        have x8 := HQ2.out.x.cell 8
        have x11 := HQ2.out.x.cell 11
        have x12 := HQ2.out.x.cell 12
        have f8 := HQ2.out.x.frozen 8
        have xl := HQ2.out.x.lt
        have t1c := HQ2.out.t.cell 1
        have ft1 := HQ2.out.t.frozen 1
        have tl := HQ2.out.t.lt
        simp at x3 x5 x6 x7 x8 x11 x12 t1c
        go_wp2_with fail
        have H3 := Lib.hid ((HQ2.out.stS 8 (.int .i64 (u + 1)) (used' := u + 1) (res' := .slice none 0 0) (cost' := 0) (fd' := false) rfl).stT 1 (.int .i64 j) (t0' := 0) (t1' := j) rfl)
        by_cases hj4 : j < 41
        · have hv := saV_no j hlt (.inl hj4)
          have HT3 := Lib.hid (HT2.out.tr ((T2.l (Tw.set A.S 8 w2 (.int .i64 (u + 1)))).tr (T2.r (Tw.set A.gt 1 _ (.int .i64 j)))))
          refine (sadd1_ok A j _ _ _ _ _ H3.out hj0 hj3).mono ?_
          rintro e w4 ⟨rfl, hb4⟩
          rw [hv]
          have H4 := Lib.hid (H3.out.go hb4)
          have HT4 := Lib.hid (HT3.out.tr (T2.of hb4))
          clear hb4 hv HT2 HT3 H3 HQ2
          clear x3 x5 x6 x7 x8 x11 x12 f8 xl t1c ft1 tl
          go_wp2_with fail
          go_roundg (300 - j - 1)
          case measure => have := Hj.out; omega
          case rel => exact ⟨j + 1, by first | rfl | go_num, by have := Hj.out; omega, HT4.out, j, u + 1, .slice none 0 0, by have := HU.out; omega, .inl ⟨by omega, H4.out⟩⟩
        · have hj41 : j = 41 := by omega
          have hv : saV j = .tuple #[.int .i64 82, .bool true] := by rw [hj41, saV_yes 41 (by omega) (by omega)]; rfl
          have HJ := Lib.hid hj41
          clear hj41 hj4
          have HT3 := Lib.hid (HT2.out.tr ((T2.l (Tw.set A.S 8 w2 (.int .i64 (u + 1)))).tr (T2.r (Tw.set A.gt 1 _ (.int .i64 j)))))
          refine (sadd1_ok A j _ _ _ _ _ H3.out hj0 hj3).mono ?_
          rintro e w4 ⟨rfl, hb4⟩
          rw [hv]
          have H4 := Lib.hid (H3.out.go hb4)
          have HT4 := Lib.hid (HT3.out.tr (T2.of hb4))
          clear hb4 hv HT2 HT3 H3 HQ2
          clear x3 x5 x6 x7 x8 x11 x12 f8 xl t1c ft1 tl
          have H5 := Lib.hid (show StM w4 A 0 41 (u + 1) (.slice none 0 0) 0 false by have := H4.out; rw [show (41 : Int) = (j : Int) by have := HJ.out; omega]; exact this)
          clear H4
          have x3 := H5.out.x.cell 3
          have x5 := H5.out.x.cell 5
          have x6 := H5.out.x.cell 6
          have x7 := H5.out.x.cell 7
          have x8 := H5.out.x.cell 8
          have x11 := H5.out.x.cell 11
          have x12 := H5.out.x.cell 12
          have f8 := H5.out.x.frozen 8
          have xl := H5.out.x.lt
          have t1c := H5.out.t.cell 1
          have ft1 := H5.out.t.frozen 1
          have tl := H5.out.t.lt
          simp at x3 x5 x6 x7 x8 x11 x12 t1c
          go_wp2_with fail
          refine (ext2_ok A (u + 1) _ H5.out).mono ?_
          rintro e w5 ⟨rfl, ht5, res5, hs5, hf5⟩
          have HT5 := Lib.hid (HT4.out.tr ht5)
          have HF5 := Lib.hid (And.intro hs5 hf5)
          clear ht5 hs5 hf5 H5 HT4
          clear x3 x5 x6 x7 x8 x11 x12 f8 xl t1c ft1 tl
          go_wp2_with fail
          go_roundg (300 - j - 1)
          case measure => have := Hj.out; omega
          case rel => exact ⟨j + 1, by first | rfl | go_num, by have := Hj.out; have := HJ.out; omega, HT5.out, 41, u + 1, res5, by have := HU.out; omega, .inr ⟨by have := HJ.out; omega, HF5.out⟩⟩
      · have H0 := Lib.hid hst
        have HSF := Lib.hid hsf
        clear hsf
        clear hst
        have x3 := H0.out.x.cell 3
        have x5 := H0.out.x.cell 5
        have x6 := H0.out.x.cell 6
        have x7 := H0.out.x.cell 7
        have x8 := H0.out.x.cell 8
        have x11 := H0.out.x.cell 11
        have x12 := H0.out.x.cell 12
        have f8 := H0.out.x.frozen 8
        have xl := H0.out.x.lt
        have t1c := H0.out.t.cell 1
        have ft1 := H0.out.t.frozen 1
        have tl := H0.out.t.lt
        simp at x3 x5 x6 x7 x8 x11 x12 t1c
        go_upto_region 7 with fail
        refine wp_region_overL (by kernel_rfl) (by kernel_rfl) ?_
        repeat (go_big_quiet_step (fail))
        refine wpQuiet_nil ?_
        intro w2 hb2
        have HQ2 := Lib.hid (H0.out.go hb2)
        have HT2 := Lib.hid (HT.out.tr (T2.of hb2))
        have HB2 := Lib.hid hb2
        clear hb2 H0
        clear x3 x5 x6 x7 x8 x11 x12 f8 xl t1c ft1 tl
        have x3 := HQ2.out.x.cell 3
        have x5 := HQ2.out.x.cell 5
        have x6 := HQ2.out.x.cell 6
        have x7 := HQ2.out.x.cell 7
        have x8 := HQ2.out.x.cell 8
        have x11 := HQ2.out.x.cell 11
        have x12 := HQ2.out.x.cell 12
        have f8 := HQ2.out.x.frozen 8
        have xl := HQ2.out.x.lt
        have t1c := HQ2.out.t.cell 1
        have ft1 := HQ2.out.t.frozen 1
        have tl := HQ2.out.t.lt
        simp at x3 x5 x6 x7 x8 x11 x12 t1c
        go_wp2_with fail
        have H3 := Lib.hid ((HQ2.out.stS 8 (.int .i64 (u + 1)) (used' := u + 1) (res' := res) (cost' := 82) (fd' := true) rfl).stT 1 (.int .i64 j) (t0' := 0) (t1' := j) rfl)
        have hfin : ∀ w9, T2 A.S A.gt w w9 → T2 A.S A.gt wr w9 → StM w9 A 0 j (u + 1) res 82 true → E1L A w (300 - j - 1) (.int .i64 ((j + 1 : Nat) : Int)) w9 := fun w9 h1 h2 h3 => ⟨j + 1, rfl, by omega, h1, j, u + 1, res, by have := HU.out; omega, .inr ⟨by omega, h3, HSF.out.t2 h2⟩⟩
        have HFIN := Lib.hid hfin
        clear hfin
        by_cases hj4 : j ≤ 46
        · have hv := saV_yes j (by omega) hj4
          have HT3 := Lib.hid (HT2.out.tr ((T2.l (Tw.set A.S 8 w2 (.int .i64 (u + 1)))).tr (T2.r (Tw.set A.gt 1 _ (.int .i64 j)))))
          refine (sadd1_ok A j _ _ _ _ _ H3.out hj0 hj3).mono ?_
          rintro e w4 ⟨rfl, hb4⟩
          rw [hv]
          have H4 := Lib.hid (H3.out.go hb4)
          have HT4 := Lib.hid (HT3.out.tr (T2.of hb4))
          have HW := Lib.hid (((T2.of HB2.out).tr ((T2.l (Tw.set A.S 8 w2 (.int .i64 (u + 1)))).tr (T2.r (Tw.set A.gt 1 _ (.int .i64 j))))).tr (T2.of hb4))
          clear hb4 hv HT2 HT3 H3 HQ2
          clear x3 x5 x6 x7 x8 x11 x12 f8 xl t1c ft1 tl
          have x3 := H4.out.x.cell 3
          have x5 := H4.out.x.cell 5
          have x6 := H4.out.x.cell 6
          have x7 := H4.out.x.cell 7
          have x8 := H4.out.x.cell 8
          have x11 := H4.out.x.cell 11
          have x12 := H4.out.x.cell 12
          have f8 := H4.out.x.frozen 8
          have xl := H4.out.x.lt
          have t1c := H4.out.t.cell 1
          have ft1 := H4.out.t.frozen 1
          have tl := H4.out.t.lt
          simp at x3 x5 x6 x7 x8 x11 x12 t1c
          have hge : 82 ≤ 82 + 2 * ((j : Int) - 41) := by omega
          go_wp2_with fail
          go_roundg (300 - j - 1)
          case measure => have := Hj.out; omega
          case rel => exact HFIN.out w4 HT4.out HW.out H4.out
        · have hv := saV_no j hlt (.inr (by omega))
          have HT3 := Lib.hid (HT2.out.tr ((T2.l (Tw.set A.S 8 w2 (.int .i64 (u + 1)))).tr (T2.r (Tw.set A.gt 1 _ (.int .i64 j)))))
          refine (sadd1_ok A j _ _ _ _ _ H3.out hj0 hj3).mono ?_
          rintro e w4 ⟨rfl, hb4⟩
          rw [hv]
          have H4 := Lib.hid (H3.out.go hb4)
          have HT4 := Lib.hid (HT3.out.tr (T2.of hb4))
          have HW := Lib.hid (((T2.of HB2.out).tr ((T2.l (Tw.set A.S 8 w2 (.int .i64 (u + 1)))).tr (T2.r (Tw.set A.gt 1 _ (.int .i64 j))))).tr (T2.of hb4))
          clear hb4 hv HT2 HT3 H3 HQ2
          clear x3 x5 x6 x7 x8 x11 x12 f8 xl t1c ft1 tl
          go_wp2_with fail
          go_roundg (300 - j - 1)
          case measure => have := Hj.out; omega
          case rel => exact HFIN.out w4 HT4.out HW.out H4.out
    · obtain rfl : j = 300 := by have := Hj.out; omega
      have HOR := Lib.hid hor
      clear hor
      go_wp2_with fail
      go_ret
      exact ⟨rfl, HT.out, t1, u, res, HU.out, HOR.out⟩
end Go.Proofs.YtinjdcefagaaeaaGreatDoor
