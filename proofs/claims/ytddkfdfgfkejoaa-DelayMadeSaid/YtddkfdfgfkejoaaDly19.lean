import Derived.Test.YtddkfdfgfkejoaaDly18
namespace Go.Proofs.Ytddkfdfgfkejoaa
open Go.RowKit

/-- what Propagate, Cause and Check give, one answer for each problem -/
def PRes (ms : List Mom) (ws : List Wt) (ps : List Pri) (sec : List Int) (kept : List Bool) (err : Int) : Prop :=
  (Valid ms ws ps ∧ err = 0 ∧ ∃ base, Sol ms ws ps base sec kept) ∨ (¬ Valid ms ws ps ∧ err = 1 ∧ sec = [] ∧ kept = [])
def CRes (ms : List Mom) (ws : List Wt) (ps : List Pri) (i : Int) (L : List Int) (err : Int) : Prop :=
  (¬ Valid ms ws ps ∧ err = 1 ∧ L = []) ∨ (Valid ms ws ps ∧ ¬ (0 ≤ i ∧ i < (ms.length : Int)) ∧ err = 4 ∧ L = []) ∨
    (Valid ms ws ps ∧ (0 ≤ i ∧ i < (ms.length : Int)) ∧ err = 0 ∧ L.length < ms.length ∧ ∃ base sec kept, Sol ms ws ps base sec kept ∧ Chain ms ws base sec kept i L)
section
variable {ms : List Mom} {ws : List Wt} {ps : List Pri} {sec sec' : List Int} {kept kept' : List Bool} {err err' i : Int} {L L' : List Int}
theorem Valid.uni {b s b' s' : List Int} {k k' : List Bool} (hv : Valid ms ws ps) (h : Sol ms ws ps b s k) (h' : Sol ms ws ps b' s' k') : b = b' ∧ s = s' ∧ k = k' :=
  h.unique h' (fun k hk => (wtB_ok _ _).1 (hv.1.wAll k hk)) hv.2
theorem PRes.uni (h : PRes ms ws ps sec kept err) (h' : PRes ms ws ps sec' kept' err') : sec = sec' ∧ kept = kept' ∧ err = err' := by
  rcases h with ⟨hv, rfl, b, hs⟩ | ⟨hv, rfl, rfl, rfl⟩ <;> rcases h' with ⟨hv', rfl, b', hs'⟩ | ⟨hv', rfl, rfl, rfl⟩
  · obtain ⟨_, h2, h3⟩ := hv.uni hs hs'; exact ⟨h2, h3, rfl⟩
  · exact absurd hv hv'
  · exact absurd hv' hv
  · exact ⟨rfl, rfl, rfl⟩
theorem PRes.len (h : PRes ms ws ps sec kept err) : sec.length ≤ 64 ∧ kept.length ≤ 200 := by
  rcases h with ⟨hv, rfl, b, hs⟩ | ⟨hv, rfl, rfl, rfl⟩
  · exact ⟨by rw [hs.ls]; exact hv.1.m, by rw [hs.lk]; exact hv.1.w⟩
  · simp
theorem CRes.uni (h : CRes ms ws ps i L err) (h' : CRes ms ws ps i L' err') : L = L' ∧ err = err' := by
  rcases h with ⟨hv, rfl, rfl⟩ | ⟨hv, hi, rfl, rfl⟩ | ⟨hv, hi, rfl, _, b, s, k, hs, hc⟩ <;> rcases h' with ⟨hv', rfl, rfl⟩ | ⟨hv', hi', rfl, rfl⟩ | ⟨hv', hi', rfl, _, b', s', k', hs', hc'⟩
  · exact ⟨rfl, rfl⟩
  · exact absurd hv' hv
  · exact absurd hv' hv
  · exact absurd hv hv'
  · exact ⟨rfl, rfl⟩
  · exact absurd hi' hi
  · exact absurd hv hv'
  · exact absurd hi hi'
  · obtain ⟨rfl, rfl, rfl⟩ := hv.uni hs hs'
    exact ⟨hc.unique hc', rfl⟩
theorem CRes.len (h : CRes ms ws ps i L err) : L.length ≤ 64 := by
  rcases h with ⟨hv, rfl, rfl⟩ | ⟨hv, hi, rfl, rfl⟩ | ⟨hv, hi, rfl, hl, _⟩
  · simp
  · simp
  · have := hv.1.m; omega
end
def PropaO (ms : List Mom) (ws : List Wt) (ps : List Pri) (w : World) (e : Ending) (w' : World) : Prop :=
  ∃ (A B : Option Addr) (a b : Nat) (sec : List Int) (kept : List Bool) (err : Int), e = .returned (.tuple #[.slice A sec.length a, .slice B kept.length b, .int .i64 err]) ∧ PRes ms ws ps sec kept err ∧
    Rd w' w'.heap.size 1 A sec.length (sec.map (Value.int .i64)) ∧ Rd w' w'.heap.size 1 B kept.length (kept.map Value.bool) ∧ Below w.heap.size w w'
theorem PropaOut.o {ms : List Mom} {ws : List Wt} {ps : List Pri} {w w' : World} {e : Ending} (h : PropaOut ms ws ps w e w') : PropaO ms ws ps w e w' := by
  obtain ⟨hb, h⟩ := h
  rcases h with ⟨hv, vs, vk, base, sec, kept, rfl, hsol, hos, hok⟩ | ⟨hv, rfl⟩
  · obtain ⟨As, cs, rfl, _, _⟩ := own_slice hos
    obtain ⟨Ak, ck, rfl, _, _⟩ := own_slice hok
    have h1 := hsol.ls
    have h2 := hsol.lk
    rw [← h1] at hos
    rw [← h2] at hok
    exact ⟨As, Ak, cs, ck, sec, kept, 0, by rw [h1, h2], .inl ⟨hv, rfl, base, hsol⟩, Rd.of_own hos, Rd.of_own hok, hb⟩
  · exact ⟨none, none, 0, 0, [], [], 1, rfl, .inr ⟨hv, rfl, rfl, rfl⟩, Rd.empty _ _ _, Rd.empty _ _ _, hb⟩
def CauseO (ms : List Mom) (ws : List Wt) (ps : List Pri) (i : Int) (w : World) (e : Ending) (w' : World) : Prop :=
  ∃ (A : Option Addr) (a : Nat) (L : List Int) (err : Int), e = .returned (.tuple #[.slice A L.length a, .int .i64 err]) ∧ CRes ms ws ps i L err ∧ Rd w' w'.heap.size 1 A L.length (L.map (Value.int .i64)) ∧ Below w.heap.size w w'
theorem CauseOut.o {ms : List Mom} {ws : List Wt} {ps : List Pri} {i : Int} {w w' : World} {e : Ending} (h : CauseOut ms ws ps i w e w') : CauseO ms ws ps i w e w' := by
  obtain ⟨hb, h⟩ := h
  rcases h with ⟨hv, rfl⟩ | ⟨hv, hi, rfl⟩ | ⟨hv, hi, v, L, base, sec, kept, rfl, hsol, hc, hl, ho⟩
  · exact ⟨none, 0, [], 1, rfl, .inl ⟨hv, rfl, rfl⟩, Rd.empty _ _ _, hb⟩
  · exact ⟨none, 0, [], 4, rfl, .inr (.inl ⟨hv, hi, rfl, rfl⟩), Rd.empty _ _ _, hb⟩
  · obtain ⟨As, cs, rfl, _, _⟩ := own_slice ho
    exact ⟨As, cs, L, 0, rfl, .inr (.inr ⟨hv, hi, rfl, hl, base, sec, kept, hsol, hc⟩), Rd.of_own ho, hb⟩
open Classical in
noncomputable def validB (ms : List Mom) (ws : List Wt) (ps : List Pri) : Bool := decide (Valid ms ws ps)
theorem CheckOut.o {ms : List Mom} {ws : List Wt} {ps : List Pri} {w w' : World} {e : Ending} (h : CheckOut ms ws ps w e w') : e = .returned (.bool (validB ms ws ps)) ∧ Below w.heap.size w w' := by
  obtain ⟨hb, h⟩ := h
  rcases h with ⟨hv, rfl⟩ | ⟨hv, rfl⟩
  · exact ⟨by simp [validB, hv], hb⟩
  · exact ⟨by simp [validB, hv], hb⟩
/-- a problem that is read in a world -/
structure Prb (w : World) (A B C : Option Addr) (ms : List Mom) (ws : List Wt) (ps : List Pri) (c' : Nat) : Prop where
  a : Rd w w.heap.size 2 A ms.length (ms.flatMap Mom.cells)
  b : Rd w w.heap.size 4 B ws.length (ws.flatMap Wt.cells)
  c : Rd w w.heap.size 2 C ps.length (ps.flatMap Pri.cells)
  al : ms.length ≤ 4611686018427387904
  bl : ws.length ≤ 4611686018427387904
  cl : ps.length ≤ 4611686018427387904
  cc : ps.length ≤ c'
  cm : c' ≤ maxLen
theorem Prb.grow {w w' : World} {A B C : Option Addr} {ms : List Mom} {ws : List Wt} {ps : List Pri} {c' : Nat} (h : Prb w A B C ms ws ps c') (hb : Below w.heap.size w w') : Prb w' A B C ms ws ps c' :=
  ⟨(h.a.grow hb).more hb.size, (h.b.grow hb).more hb.size, (h.c.grow hb).more hb.size, h.al, h.bl, h.cl, h.cc, h.cm⟩
section
variable {w : World} {A B C : Option Addr} {ms : List Mom} {ws : List Wt} {ps : List Pri} {c' : Nat}
theorem Prb.propa (h : Prb w A B C ms ws ps c') (a' b' : Nat) : Calls Try.prog 13 #[.slice A ms.length a', .slice B ws.length b', .slice C ps.length c'] w (PropaO ms ws ps w) :=
  (propa_any A B C _ _ _ a' b' c' ms ws ps w h.a h.b h.c rfl rfl rfl h.al h.bl h.cl).mono fun _ _ h => h.o
theorem Prb.rpropa (h : Prb w A B C ms ws ps c') (a' b' : Nat) : Calls Try.prog 16 #[.slice A ms.length a', .slice B ws.length b', .slice C ps.length c'] w (PropaO ms ws ps w) :=
  (rpropa_any A B C _ _ _ a' b' c' ms ws ps w h.a h.b h.c rfl rfl rfl h.al h.bl h.cl h.cc h.cm).mono fun _ _ h => h.o
theorem Prb.cause (h : Prb w A B C ms ws ps c') (a' b' : Nat) (i : Int) : Calls Try.prog 20 #[.slice A ms.length a', .slice B ws.length b', .slice C ps.length c', .int .i64 i] w (CauseO ms ws ps i w) :=
  (cause_any A B C _ _ _ a' b' c' ms ws ps i w h.a h.b h.c rfl rfl rfl h.al h.bl h.cl).mono fun _ _ h => h.o
theorem Prb.rcause (h : Prb w A B C ms ws ps c') (a' b' : Nat) (i : Int) : Calls Try.prog 21 #[.slice A ms.length a', .slice B ws.length b', .slice C ps.length c', .int .i64 i] w (CauseO ms ws ps i w) :=
  (rcause_any A B C _ _ _ a' b' c' ms ws ps i w h.a h.b h.c rfl rfl rfl h.al h.bl h.cl h.cc h.cm).mono fun _ _ h => h.o
theorem Prb.check (h : Prb w A B C ms ws ps c') (a' b' : Nat) : Calls Try.prog 22 #[.slice A ms.length a', .slice B ws.length b', .slice C ps.length c'] w fun e w' => e = .returned (.bool (validB ms ws ps)) ∧ Below w.heap.size w w' :=
  (check_any A B C _ _ _ a' b' c' ms ws ps w h.a h.b h.c rfl rfl rfl h.al h.bl h.cl).mono fun _ _ h => h.o
theorem Prb.rcheck (h : Prb w A B C ms ws ps c') (a' b' : Nat) : Calls Try.prog 23 #[.slice A ms.length a', .slice B ws.length b', .slice C ps.length c'] w fun e w' => e = .returned (.bool (validB ms ws ps)) ∧ Below w.heap.size w w' :=
  (rcheck_any A B C _ _ _ a' b' c' ms ws ps w h.a h.b h.c rfl rfl rfl h.al h.bl h.cl h.cc h.cm).mono fun _ _ h => h.o
end
/-- two slices of ints, or of bools, that read alike -/
theorem sameI (A B : Option Addr) (c c' : Nat) (cs : List Int) (w : World) (h : Rd w w.heap.size 1 A cs.length (cs.map (Value.int .i64))) (h' : Rd w w.heap.size 1 B cs.length (cs.map (Value.int .i64))) (hx : cs.length ≤ 200) :
    Calls Try.prog 19 #[.slice A cs.length c, .slice B cs.length c'] w fun e w' => e = .returned (.bool true) ∧ Below w.heap.size w w' := sameInt_yes A B _ _ c c' cs w h h' rfl rfl (by omega)
theorem sameB (A B : Option Addr) (c c' : Nat) (cs : List Bool) (w : World) (h : Rd w w.heap.size 1 A cs.length (cs.map Value.bool)) (h' : Rd w w.heap.size 1 B cs.length (cs.map Value.bool)) (hx : cs.length ≤ 200) :
    Calls Try.prog 24 #[.slice A cs.length c, .slice B cs.length c'] w fun e w' => e = .returned (.bool true) ∧ Below w.heap.size w w' := sameBool_yes A B _ _ c c' cs w h h' rfl rfl (by omega)

set_option maxRecDepth 100000 in
set_option maxHeartbeats 3200000 in
theorem delayRaw_true (x : SMom) (y : SWt) (z : SPri) (i : Int) (w : World) (hx : Rd w w.heap.size 2 x.A x.n (x.xs.flatMap Mom.cells) ∧ x.n = x.xs.length ∧ x.n ≤ x.c) (hxs : x.c * 16 ≤ 140737488351232)
    (hy : Rd w w.heap.size 4 y.A y.n (y.xs.flatMap Wt.cells) ∧ y.n = y.xs.length ∧ y.n ≤ y.c) (hys : y.c * 32 ≤ 140737488351232) (hz : Rd w w.heap.size 2 z.A z.n (z.xs.flatMap Pri.cells) ∧ z.n = z.xs.length ∧ z.n ≤ z.c) (hzs : z.c * 16 ≤ 140737488351232) (_wi : (Lit.int .i64 i).wf = true) :
    Calls Try.prog 8 #[.slice x.A x.n x.c, .slice y.A y.n y.c, .slice z.A z.n z.c, .int .i64 i] w fun e w' => e = .returned (.bool true) ∧ Below w.heap.size w w' := by
  obtain ⟨xA, xn, xc, ms⟩ := x
  obtain ⟨yA, yn, yc, ws⟩ := y
  obtain ⟨zA, zn, zc, ps⟩ := z
  simp only at hx hxs hy hys hz hzs ⊢
  obtain ⟨hx1, rfl, hx3⟩ := hx
  obtain ⟨hy1, rfl, hy3⟩ := hy
  obtain ⟨hz1, rfl, hz3⟩ := hz
  have HP := Lib.hid (show Prb w xA yA zA ms ws ps zc from ⟨hx1, hy1, hz1, by omega, by omega, by omega, hz3, by simp only [maxLen]; omega⟩)
  clear hx1 hx3 hy1 hy3 hz1 hz3 hxs hys hzs
  go_enter Try.func8, Try.ntmps8
  go_wp2_with fail
  refine (HP.out.propa xc yc).mono ?_
  rintro e w1 ⟨A1, B1, a1, b1, sec, kept, err, rfl, hr, hr1, hr2, hb1⟩
  have HP1 := Lib.hid (HP.out.grow hb1)
  have HR1 := Lib.hid (And.intro hr1 hr2)
  have Hr := Lib.hid hr
  have Hb1 := Lib.hid hb1
  have hls := hr.len.1
  have hlk := hr.len.2
  clear hr hr1 hr2 hb1 HP
  go_wp2_with fail
  refine (HP1.out.rpropa xc yc).mono ?_
  rintro e w2 ⟨A2, B2, a2, b2, sec2, kept2, err2, rfl, hr, hr1, hr2, hb2⟩
  obtain ⟨rfl, rfl, rfl⟩ := Hr.out.uni hr
  have HP2 := Lib.hid (HP1.out.grow hb2)
  have HR2 := Lib.hid (And.intro ((HR1.out.1.grow hb2).more hb2.size) (And.intro ((HR1.out.2.grow hb2).more hb2.size) (And.intro hr1 hr2)))
  have Hb2 := Lib.hid (Hb1.out.trans (hb2.mono Hb1.out.size))
  clear hr hr1 hr2 hb2 HP1 HR1 Hb1 Hr
  go_wp2_with fail
  refine (HP2.out.cause xc yc i).mono ?_
  rintro e w3 ⟨A3, a3, L, er3, rfl, hr, hr1, hb3⟩
  have HP3 := Lib.hid (HP2.out.grow hb3)
  have HR3 := Lib.hid (And.intro ((HR2.out.1.grow hb3).more hb3.size) (And.intro ((HR2.out.2.1.grow hb3).more hb3.size) (And.intro ((HR2.out.2.2.1.grow hb3).more hb3.size) (And.intro ((HR2.out.2.2.2.grow hb3).more hb3.size) hr1))))
  have Hb3 := Lib.hid (Hb2.out.trans (hb3.mono Hb2.out.size))
  have Hr := Lib.hid hr
  have hll := hr.len
  clear hr hr1 hb3 HP2 HR2 Hb2
  go_wp2_with fail
  refine (HP3.out.rcause xc yc i).mono ?_
  rintro e w4 ⟨A4, a4, L4, er4, rfl, hr, hr1, hb4⟩
  obtain ⟨rfl, rfl⟩ := Hr.out.uni hr
  have HP4 := Lib.hid (HP3.out.grow hb4)
  have HR4 := Lib.hid (And.intro ((HR3.out.1.grow hb4).more hb4.size) (And.intro ((HR3.out.2.1.grow hb4).more hb4.size) (And.intro ((HR3.out.2.2.1.grow hb4).more hb4.size) (And.intro ((HR3.out.2.2.2.1.grow hb4).more hb4.size) (And.intro ((HR3.out.2.2.2.2.grow hb4).more hb4.size) hr1)))))
  have Hb4 := Lib.hid (Hb3.out.trans (hb4.mono Hb3.out.size))
  clear hr hr1 hb4 HP3 HR3 Hb3 Hr
  go_wp2_with fail
  refine (awake_any _).mono ?_
  rintro e w5 ⟨rfl, hb5⟩
  have Hb5 := Lib.hid hb5
  clear hb5
  go_wp2_with fail
  refine ((HP4.out.grow Hb5.out).check xc yc).mono ?_
  rintro e w6 ⟨rfl, hb6⟩
  have Hb6 := Lib.hid (Hb5.out.trans (hb6.mono Hb5.out.size))
  clear hb6 Hb5
  go_wp2_with fail
  refine ((HP4.out.grow Hb6.out).rcheck xc yc).mono ?_
  rintro e w7 ⟨rfl, hb7⟩
  have Hb7 := Lib.hid (Hb6.out.trans (hb7.mono Hb6.out.size))
  clear hb7 Hb6
  have hvb : (validB ms ws ps == validB ms ws ps) = true := by simp
  generalize validB ms ws ps = vb at *
  go_wp2_with fail
  refine (sameI A1 A2 a1 a2 sec w7 ((HR4.out.1.grow Hb7.out).more Hb7.out.size) ((HR4.out.2.2.1.grow Hb7.out).more Hb7.out.size) (by omega)).mono ?_
  rintro e w8 ⟨rfl, hb8⟩
  have Hb8 := Lib.hid (Hb7.out.trans (hb8.mono Hb7.out.size))
  clear hb8 Hb7
  go_wp2_with fail
  refine (sameB B1 B2 b1 b2 kept w8 ((HR4.out.2.1.grow Hb8.out).more Hb8.out.size) ((HR4.out.2.2.2.1.grow Hb8.out).more Hb8.out.size) (by omega)).mono ?_
  rintro e w9 ⟨rfl, hb9⟩
  have Hb9 := Lib.hid (Hb8.out.trans (hb9.mono Hb8.out.size))
  clear hb9 Hb8
  have he1 : (err == err) = true := by simp
  have he2 : (er3 == er3) = true := by simp
  go_wp2_with fail
  refine (sameI A3 A4 a3 a4 L w9 ((HR4.out.2.2.2.2.1.grow Hb9.out).more Hb9.out.size) ((HR4.out.2.2.2.2.2.grow Hb9.out).more Hb9.out.size) (by omega)).mono ?_
  rintro e w10 ⟨rfl, hb10⟩
  have Hb10 := Lib.hid (Hb9.out.trans (hb10.mono Hb9.out.size))
  clear hb10 Hb9
  go_wp2_with fail
  go_ret
  exact ⟨rfl, Hb4.out.trans (Hb10.out.mono Hb4.out.size)⟩
end Go.Proofs.Ytddkfdfgfkejoaa
