import Derived.Test.YthfifejjfnmpoaaTpMath3
import Derived.Test.YthfifejjfnmpoaaBunA
import Derived.Lib.BufferMore
namespace Go.Proofs.Ythfifejjfnmpoaa
open Go.RowKit
theorem infoInt : (Try.prog.info? 3).map (fun i => (i.zero, i.size, i.bytes)) = some (some (.int .i64 0), 1, 8) := by kernel_rfl
/-- a trip that lies in memory -/
structure CT where
  ln : Int
  dy : Int
  Ad : Option Addr
  cd : Nat
  Aa : Option Addr
  ca : Nat
  dep : List Int
  arr : List Int
def CT.pt (t : CT) : PT := ⟨t.ln, t.dy, t.dep, t.arr⟩
def CT.cells (t : CT) : List Value := [.int .i64 t.ln, .int .i64 t.dy, .slice t.Ad t.dep.length t.cd, .slice t.Aa t.arr.length t.ca]
theorem CT.len (t : CT) : t.cells.length = 4 := rfl
theorem CT.one (x : CT) : ∀ u ∈ x.cells, u.oneCell' = true := by intro u hu; simp only [CT.cells, List.mem_cons, List.not_mem_nil, or_false] at hu; rcases hu with rfl | rfl | rfl | rfl <;> rfl
/-- an edit that lies in memory -/
structure CE where
  k : Int
  o : CT
  n : CT
def CE.pe (e : CE) : PE := ⟨e.k, e.o.pt, e.n.pt⟩
def CE.cells (e : CE) : List Value := [.int .i64 e.k, .int .i64 e.o.ln, .int .i64 e.o.dy, .slice e.o.Ad e.o.dep.length e.o.cd, .slice e.o.Aa e.o.arr.length e.o.ca, .int .i64 e.n.ln, .int .i64 e.n.dy, .slice e.n.Ad e.n.dep.length e.n.cd, .slice e.n.Aa e.n.arr.length e.n.ca]
theorem CE.len (t : CE) : t.cells.length = 9 := rfl
theorem CE.one (x : CE) : ∀ u ∈ x.cells, u.oneCell' = true := by intro u hu; simp only [CE.cells, List.mem_cons, List.not_mem_nil, or_false] at hu; rcases hu with rfl | rfl | rfl | rfl | rfl | rfl | rfl | rfl | rfl <;> rfl
def zT : CT := ⟨0, 0, none, 0, none, 0, [], []⟩
theorem own_blk {w : World} {base : Nat} {e : TypeId} {sz n : Nat} {v : Value} {xs : List Value} (h : w.ownsRow base e sz v n xs) {k : Nat} (hk : v.ownBlock = some k) : ∃ cur, w.heap[k]? = some (.cells cur e (0, 0)) := by
  rcases h.2 with ⟨rfl, _⟩ | ⟨g', cap, cur, rfl, _, hh, _⟩
  · cases hk
  · injection hk with hk; subst hk; exact ⟨cur, hh⟩
theorem cell_bel {w w' : World} (hb : Below w.heap.size w w') {b o : Nat} {u : Value} (h : w.cell? ⟨b, o, none⟩ = some u) : w'.cell? ⟨b, o, none⟩ = some u := (hb.cell (World.block_lt_of_cell? _ _ h)).trans h
/-- what lies below B, and every row of numbers, is not turned -/
structure Kp (B : Nat) (w w' : World) : Prop where
  sz : w.heap.size ≤ w'.heap.size
  k : ∀ k, k < w.heap.size → (k < B ∨ ∃ cs, Blk w k 3 cs) → w'.heap[k]? = w.heap[k]?
theorem Kp.refl (B : Nat) (w : World) : Kp B w w := ⟨Nat.le_refl _, fun _ _ _ => rfl⟩
theorem Kp.bel {B : Nat} {w w' : World} (h : Below w.heap.size w w') : Kp B w w' := ⟨h.size, fun k hk _ => h.block k hk⟩
theorem Kp.trans {B : Nat} {w w' w'' : World} (h : Kp B w w') (h' : Kp B w' w'') : Kp B w w'' := by
  refine ⟨Nat.le_trans h.sz h'.sz, fun k hk hc => ?_⟩
  have h1 := h.k k hk hc
  rw [h'.k k (Nat.lt_of_lt_of_le hk h.sz) ?_, h1]
  rcases hc with hc | ⟨cs, hc⟩
  · exact .inl hc
  · exact .inr ⟨cs, by unfold Blk at *; rw [h1]; exact hc⟩
theorem Kp.grown {B base : Nat} {w w' : World} {e : TypeId} {sz n : Nat} {v : Value} {xs : List Value} (ho : w.ownsRow base e sz v n xs) (hne : e ≠ 3) (hB : B ≤ base) (hg : w.grownBy w' v.ownBlock) : Kp B w w' := by
  obtain ⟨_, _, _, a4, a5⟩ := hg
  refine ⟨a4, fun k hk hc => a5 k hk fun e' => ?_⟩
  obtain ⟨cur, hcur⟩ := own_blk ho e'.symm
  rcases hc with hc | ⟨cs, hc⟩
  · have := (own_block ho k e'.symm).1; omega
  · unfold Blk at hc
    rw [hcur] at hc
    injection hc with hc
    injection hc with _ hc
    exact hne hc
theorem Kp.set {B b o : Nat} {w : World} {t : TypeId} {cs : Array Value} {u : Value} (h : Blk w b t cs) (hne : t ≠ 3) (hB : B ≤ b) : Kp B w (w.setCell ⟨b, o, none⟩ u) := by
  refine ⟨by simp [World.setCell], fun k hk hc => Below.heap_setCell _ _ _ _ fun e => ?_⟩
  simp only at e
  subst e
  rcases hc with hc | ⟨cs', hc⟩
  · omega
  · unfold Blk at h hc
    rw [h] at hc
    injection hc with hc
    injection hc with _ hc
    exact hne hc
/-- a row of numbers that is read: below B, or in a block of numbers -/
structure IRd (w : World) (B : Nat) (A : Option Addr) (c : Nat) (xs : List Int) : Prop where
  r : Rd w w.heap.size 1 A xs.length (xs.map (Value.int .i64))
  t : 0 < xs.length → ∀ a, A = some a → a.block < B ∨ ∃ cs, Blk w a.block 3 cs
  nl : A = none → xs.length = 0 ∧ c = 0
  le : xs.length ≤ c
  sz : xs.length ≤ 17592186044416
  cm : c ≤ maxLen
section
variable {w w' : World} {B B' : Nat} {A : Option Addr} {c : Nat} {xs : List Int}
theorem IRd.kp (h : IRd w B A c xs) (hk : Kp B w w') : IRd w' B A c xs := by
  refine ⟨⟨h.r.1, fun hn => ?_⟩, fun hn a ha => ?_, h.nl, h.le, h.sz, h.cm⟩
  · obtain ⟨b, off, e, hb, hc⟩ := h.r.2 hn
    exact ⟨b, off, e, Nat.lt_of_lt_of_le hb hk.sz, fun j u hu => (World.cell?_of_block (hk.k b hb (h.t hn _ e))).trans (hc j u hu)⟩
  · obtain ⟨b, off, e, hb, hc⟩ := h.r.2 hn
    rw [e] at ha
    injection ha with ha
    subst ha
    rcases h.t hn _ e with h1 | ⟨cs, h1⟩
    · exact .inl h1
    · exact .inr ⟨cs, by unfold Blk at *; rw [hk.k b hb (.inr ⟨cs, h1⟩)]; exact h1⟩
theorem IRd.up (h : IRd w B A c xs) (hB : B ≤ B') : IRd w B' A c xs :=
  ⟨h.r, fun hn a ha => (h.t hn a ha).imp (fun h => Nat.lt_of_lt_of_le h hB) id, h.nl, h.le, h.sz, h.cm⟩
theorem IRd.top (h : IRd w B A c xs) : IRd w w.heap.size A c xs := by
  refine ⟨h.r, fun hn a ha => ?_, h.nl, h.le, h.sz, h.cm⟩
  obtain ⟨b, off, e, hb, hc⟩ := h.r.2 hn
  rw [e] at ha
  injection ha with ha
  subst ha
  exact .inl hb
theorem IRd.nil (w : World) (B : Nat) : IRd w B none 0 [] := ⟨by simpa using Rd.empty w _ 1, fun h => absurd h (by simp), fun _ => ⟨rfl, rfl⟩, by simp, by simp, by simp [maxLen]⟩
end
/-- a trip that is read -/
structure TM (w : World) (B : Nat) (t : CT) : Prop where
  d : IRd w B t.Ad t.cd t.dep
  a : IRd w B t.Aa t.ca t.arr
section
variable {w w' : World} {B B' : Nat} {t : CT}
theorem TM.kp (h : TM w B t) (hk : Kp B w w') : TM w' B t := ⟨h.d.kp hk, h.a.kp hk⟩
theorem TM.up (h : TM w B t) (hB : B ≤ B') : TM w B' t := ⟨h.d.up hB, h.a.up hB⟩
theorem TM.top (h : TM w B t) : TM w w.heap.size t := ⟨h.d.top, h.a.top⟩
theorem TM.go (h : TM w B t) (hb : Below w.heap.size w w') : TM w' w'.heap.size t := (h.kp (Kp.bel hb)).top
theorem TM.zero (w : World) (B : Nat) : TM w B zT := ⟨IRd.nil w B, IRd.nil w B⟩
end
structure EM (w : World) (B : Nat) (e : CE) : Prop where
  o : TM w B e.o
  n : TM w B e.n
section
variable {w w' : World} {B B' : Nat} {e : CE}
theorem EM.kp (h : EM w B e) (hk : Kp B w w') : EM w' B e := ⟨h.o.kp hk, h.n.kp hk⟩
theorem EM.up (h : EM w B e) (hB : B ≤ B') : EM w B' e := ⟨h.o.up hB, h.n.up hB⟩
theorem EM.top (h : EM w B e) : EM w w.heap.size e := ⟨h.o.top, h.n.top⟩
theorem EM.go (h : EM w B e) (hb : Below w.heap.size w w') : EM w' w'.heap.size e := (h.kp (Kp.bel hb)).top
end
/-- a list of trips that is read -/
structure TL (w : World) (A : Option Addr) (c : Nat) (ts : List CT) : Prop where
  r : Rd w w.heap.size 4 A ts.length (ts.flatMap CT.cells)
  m : ∀ t ∈ ts, TM w w.heap.size t
  nl : A = none → ts.length = 0 ∧ c = 0
  le : ts.length ≤ c
  sz : ts.length ≤ 2199023255488
  cm : c ≤ maxLen
structure EL (w : World) (A : Option Addr) (c : Nat) (es : List CE) : Prop where
  r : Rd w w.heap.size 9 A es.length (es.flatMap CE.cells)
  m : ∀ e ∈ es, EM w w.heap.size e
  nl : A = none → es.length = 0 ∧ c = 0
  le : es.length ≤ c
  sz : es.length ≤ 1034834473170
  cm : c ≤ maxLen
section
variable {w w' : World} {A : Option Addr} {c : Nat} {ts : List CT} {es : List CE}
theorem TL.go (h : TL w A c ts) (hb : Below w.heap.size w w') : TL w' A c ts := ⟨(h.r.grow hb).more hb.size, fun t ht => (h.m t ht).go hb, h.nl, h.le, h.sz, h.cm⟩
theorem EL.go (h : EL w A c es) (hb : Below w.heap.size w w') : EL w' A c es := ⟨(h.r.grow hb).more hb.size, fun t ht => (h.m t ht).go hb, h.nl, h.le, h.sz, h.cm⟩
end
theorem rdT {w : World} {B n : Nat} {A : Option Addr} {xs : List CT} (h : Rd w B 4 A n (xs.flatMap CT.cells)) (hn : n = xs.length) (j : Nat) (hj : j < xs.length) :
    ∃ b off, A = some ⟨b, off, none⟩ ∧ b < B ∧ w.cell? ⟨b, off + j * 4, none⟩ = some (.int .i64 xs[j].ln) ∧ w.cell? ⟨b, off + j * 4 + 1, none⟩ = some (.int .i64 xs[j].dy) ∧ w.cell? ⟨b, off + j * 4 + 2, none⟩ = some (.slice xs[j].Ad xs[j].dep.length xs[j].cd) ∧ w.cell? ⟨b, off + j * 4 + 3, none⟩ = some (.slice xs[j].Aa xs[j].arr.length xs[j].ca) := by
  obtain ⟨b, off, rfl, hb, hc⟩ := h.2 (by omega)
  have h2 : ∀ i u, i < 4 → xs[j].cells[i]? = some u → w.cell? ⟨b, off + (j * 4 + i), none⟩ = some u := fun i u hi hu => hc _ u (by rw [flat_get CT.cells 4 CT.len xs j hj i hi]; exact hu)
  exact ⟨b, off, rfl, hb, h2 0 _ (by omega) rfl, h2 1 _ (by omega) rfl, h2 2 _ (by omega) rfl, h2 3 _ (by omega) rfl⟩
theorem rdE {w : World} {B n : Nat} {A : Option Addr} {xs : List CE} (h : Rd w B 9 A n (xs.flatMap CE.cells)) (hn : n = xs.length) (j : Nat) (hj : j < xs.length) :
    ∃ b off, A = some ⟨b, off, none⟩ ∧ b < B ∧ w.cell? ⟨b, off + j * 9, none⟩ = some (.int .i64 xs[j].k) ∧ w.cell? ⟨b, off + j * 9 + 1, none⟩ = some (.int .i64 xs[j].o.ln) ∧ w.cell? ⟨b, off + j * 9 + 2, none⟩ = some (.int .i64 xs[j].o.dy) ∧ w.cell? ⟨b, off + j * 9 + 3, none⟩ = some (.slice xs[j].o.Ad xs[j].o.dep.length xs[j].o.cd) ∧ w.cell? ⟨b, off + j * 9 + 4, none⟩ = some (.slice xs[j].o.Aa xs[j].o.arr.length xs[j].o.ca) ∧
      w.cell? ⟨b, off + j * 9 + 5, none⟩ = some (.int .i64 xs[j].n.ln) ∧ w.cell? ⟨b, off + j * 9 + 6, none⟩ = some (.int .i64 xs[j].n.dy) ∧ w.cell? ⟨b, off + j * 9 + 7, none⟩ = some (.slice xs[j].n.Ad xs[j].n.dep.length xs[j].n.cd) ∧ w.cell? ⟨b, off + j * 9 + 8, none⟩ = some (.slice xs[j].n.Aa xs[j].n.arr.length xs[j].n.ca) := by
  obtain ⟨b, off, rfl, hb, hc⟩ := h.2 (by omega)
  have h2 : ∀ i u, i < 9 → xs[j].cells[i]? = some u → w.cell? ⟨b, off + (j * 9 + i), none⟩ = some u := fun i u hi hu => hc _ u (by rw [flat_get CE.cells 9 CE.len xs j hj i hi]; exact hu)
  exact ⟨b, off, rfl, hb, h2 0 _ (by omega) rfl, h2 1 _ (by omega) rfl, h2 2 _ (by omega) rfl, h2 3 _ (by omega) rfl, h2 4 _ (by omega) rfl, h2 5 _ (by omega) rfl, h2 6 _ (by omega) rfl, h2 7 _ (by omega) rfl, h2 8 _ (by omega) rfl⟩
/-- owned lists -/
structure TO (w : World) (base : Nat) (v : Value) (ts : List CT) : Prop where
  o : w.ownsRow base 28 4 v ts.length (ts.flatMap CT.cells)
  m : ∀ t ∈ ts, TM w base t
structure EO (w : World) (base : Nat) (v : Value) (es : List CE) : Prop where
  o : w.ownsRow base 40 9 v es.length (es.flatMap CE.cells)
  m : ∀ t ∈ es, EM w base t
section
variable {w w' : World} {base : Nat} {v v' : Value} {ts : List CT} {es : List CE} {A : Option Addr} {c : Nat}
theorem TO.bel (h : TO w base v ts) (hb : Below w.heap.size w w') : TO w' base v ts := ⟨own_grow h.o hb, fun t ht => (h.m t ht).kp (Kp.bel hb)⟩
theorem EO.bel (h : EO w base v es) (hb : Below w.heap.size w w') : EO w' base v es := ⟨own_grow h.o hb, fun t ht => (h.m t ht).kp (Kp.bel hb)⟩
theorem TO.nil (w : World) (base : Nat) : TO w base (.slice none 0 0) [] := ⟨World.ownsRow_nil _ _ _ _, fun t ht => by simp at ht⟩
theorem EO.nil (w : World) (base : Nat) : EO w base (.slice none 0 0) [] := ⟨World.ownsRow_nil _ _ _ _, fun t ht => by simp at ht⟩
theorem TO.app {t : CT} (h : TO w base v ts) (ht : TM w base t) (ho : w'.ownsRow base 28 4 v' (ts.length + 1) (ts.flatMap CT.cells ++ t.cells)) (hg : w.grownBy w' v.ownBlock) : TO w' base v' (ts ++ [t]) := by
  have hk : Kp base w w' := Kp.grown h.o (by decide) (Nat.le_refl _) hg
  refine ⟨by rw [List.length_append, List.flatMap_append]; simpa using ho, fun x hx => ?_⟩
  rcases List.mem_append.1 hx with hx | hx
  · exact (h.m x hx).kp hk
  · simp at hx; subst hx; exact ht.kp hk
theorem EO.app {t : CE} (h : EO w base v es) (ht : EM w base t) (ho : w'.ownsRow base 40 9 v' (es.length + 1) (es.flatMap CE.cells ++ t.cells)) (hg : w.grownBy w' v.ownBlock) : EO w' base v' (es ++ [t]) := by
  have hk : Kp base w w' := Kp.grown h.o (by decide) (Nat.le_refl _) hg
  refine ⟨by rw [List.length_append, List.flatMap_append]; simpa using ho, fun x hx => ?_⟩
  rcases List.mem_append.1 hx with hx | hx
  · exact (h.m x hx).kp hk
  · simp at hx; subst hx; exact ht.kp hk
theorem TO.tl (h : TO w base (.slice A ts.length c) ts) (hs : ts.length ≤ 2199023255488) : TL w A c ts := ⟨Rd.of_own h.o, fun t ht => (h.m t ht).top, fun e => by subst e; exact own_nil h.o, (own_cap h.o).1, hs, (own_cap h.o).2⟩
theorem EO.el (h : EO w base (.slice A es.length c) es) (hs : es.length ≤ 1034834473170) : EL w A c es := ⟨Rd.of_own h.o, fun t ht => (h.m t ht).top, fun e => by subst e; exact own_nil h.o, (own_cap h.o).1, hs, (own_cap h.o).2⟩
theorem TO.sl (h : TO w base v ts) : ∃ A c, v = .slice A ts.length c := by obtain ⟨A, c, e, _⟩ := own_slice h.o; exact ⟨A, c, e⟩
theorem EO.sl (h : EO w base v es) : ∃ A c, v = .slice A es.length c := by obtain ⟨A, c, e, _⟩ := own_slice h.o; exact ⟨A, c, e⟩
end
def eqsRel (w : World) (xs ys : List Int) (k : Nat) (v : Value) (wr : World) : Prop :=
  ∃ s d : Nat, v = .int .i64 s ∧ s + k = xs.length ∧ xs.take s = ys.take s ∧ wr = w.drewN d
set_option maxHeartbeats 1600000 in
theorem eqs_any (A B : Option Addr) (c c' : Nat) (xs ys : List Int) (w : World) (h : Rd w w.heap.size 1 A xs.length (xs.map (Value.int .i64))) (h' : Rd w w.heap.size 1 B ys.length (ys.map (Value.int .i64))) (hx : xs.length ≤ 4611686018427387904) (hy : ys.length ≤ 4611686018427387904) :
    Calls Try.prog 53 #[.slice A xs.length c, .slice B ys.length c'] w fun e w' => e = .returned (.bool (decide (xs = ys))) ∧ Below w.heap.size w w' := by
  have H := Lib.hid h
  have H' := Lib.hid h'
  clear h h'
  have HZ := Lib.hid (show ∀ z, z = decide (xs = ys) → decide (xs = ys) = z from fun _ h => h.symm)
  have HZ1 := Lib.hid (fun h : xs = ys => decide_eq_true h)
  have HZ2 := Lib.hid (fun h : ¬ xs = ys => decide_eq_false h)
  generalize decide (xs = ys) = z at *
  clear HZ
  by_cases hl : xs.length = ys.length
  case neg =>
    have hne : ((xs.length : Int) != (ys.length : Int)) = true := by simp; omega
    have hz := HZ2.out (fun e => hl (by rw [e]))
    subst hz
    go_enter Try.func53, Try.ntmps53
    go_wp2_with fail
    go_ret
    exact ⟨rfl, (by repeat (first | exact Below.refl _ _ | (with_reducible refine Below.drew ?_) | (with_reducible refine below_drewN ?_ _) | (with_reducible refine Below.alloc ?_ (by first | omega | (simp; done) | (simp; omega)) _) | (with_reducible refine Below.setCell ?_ (by first | omega | (simp; done) | (simp; omega)) _) | (refine Below.trans ?_ (Below.mono (by with_reducible assumption) (by first | omega | (simp; done) | (simp; omega))))))⟩
  have hne : ((xs.length : Int) != (ys.length : Int)) = false := by simp; omega
  have HL := Lib.hid hl
  go_enter Try.func53, Try.ntmps53
  go_wp2_with fail
  go_loopg [5, 13] xs.length (fun k _ v wr => eqsRel w xs ys k v wr)
  case atStart => exact ⟨0, 0, rfl, by omega, rfl, rfl⟩
  case round =>
    obtain ⟨s, d, rfl, hs, ht, rfl⟩ := hrel
    have Hs := Lib.hid hs
    have HT := Lib.hid ht
    clear hs ht
    by_cases hlt : s < xs.length
    · have hlt' : s < ys.length := by omega
      obtain ⟨b, off, rfl, _, q0⟩ := rd1 H.out s hlt
      obtain ⟨b', off', rfl, _, r0⟩ := rd1 H'.out s hlt'
      have HN := Lib.hid (show xs[s] = ys[s] → xs.take (s + 1) = ys.take (s + 1) from fun e => by rw [List.take_succ_eq_append_getElem hlt, List.take_succ_eq_append_getElem hlt', HT.out, e])
      have HF := Lib.hid (show ¬ xs[s] = ys[s] → ¬ xs = ys from fun e h => e (by subst h; rfl))
      generalize xs[s] = q at *
      generalize ys[s] = r at *
      by_cases hqr : q = r
      · have hqf : (q != r) = false := by simp [hqr]
        have HN2 := Lib.hid (HN.out hqr)
        subst hqr
        clear HN HF
        go_upto_region 6 with fail
        go_quiet (fail)
        go_wp2_with fail
        go_roundg (xs.length - s - 1)
        case measure => have := Hs.out; omega
        case rel => exact ⟨s + 1, _, by first | rfl | go_num, by omega, HN2.out, rfl⟩
      · have hqf : (q != r) = true := by simp [hqr]
        have hz := HZ2.out (HF.out hqr)
        subst hz
        clear HN HF
        go_upto_region 6 with fail
        go_quiet (fail)
        go_wp2_with fail
        go_ret
        exact ⟨rfl, below_drewN (Below.refl _ _) _⟩
    · have hz := HZ1.out (by
        have h1 := HT.out
        rwa [List.take_of_length_le (by omega), List.take_of_length_le (by omega)] at h1)
      subst hz
      go_wp2_with fail
      go_ret
      exact ⟨rfl, below_drewN (Below.refl _ _) _⟩
def eqrRel (w : World) (xs ys : List Int) (k : Nat) (v : Value) (wr : World) : Prop :=
  ∃ s d : Nat, v = .int .i64 s ∧ s + k = xs.length ∧ xs.take s = ys.take s ∧ wr = w.drewN d
set_option maxHeartbeats 1600000 in
theorem eqr_any (A B : Option Addr) (c c' : Nat) (xs ys : List Int) (w : World) (h : Rd w w.heap.size 1 A xs.length (xs.map (Value.int .i64))) (h' : Rd w w.heap.size 1 B ys.length (ys.map (Value.int .i64))) (hx : xs.length ≤ 4611686018427387904) (hy : ys.length ≤ 4611686018427387904) :
    Calls Try.prog 45 #[.slice A xs.length c, .slice B ys.length c'] w fun e w' => e = .returned (.bool (decide (xs = ys))) ∧ Below w.heap.size w w' := by
  have H := Lib.hid h
  have H' := Lib.hid h'
  clear h h'
  have HZ := Lib.hid (show ∀ z, z = decide (xs = ys) → decide (xs = ys) = z from fun _ h => h.symm)
  have HZ1 := Lib.hid (fun h : xs = ys => decide_eq_true h)
  have HZ2 := Lib.hid (fun h : ¬ xs = ys => decide_eq_false h)
  generalize decide (xs = ys) = z at *
  clear HZ
  by_cases hl : xs.length = ys.length
  case neg =>
    have hne : ((xs.length : Int) != (ys.length : Int)) = true := by simp; omega
    have hz := HZ2.out (fun e => hl (by rw [e]))
    subst hz
    go_enter Try.func45, Try.ntmps45
    go_wp2_with fail
    go_ret
    exact ⟨rfl, (by repeat (first | exact Below.refl _ _ | (with_reducible refine Below.drew ?_) | (with_reducible refine below_drewN ?_ _) | (with_reducible refine Below.alloc ?_ (by first | omega | (simp; done) | (simp; omega)) _) | (with_reducible refine Below.setCell ?_ (by first | omega | (simp; done) | (simp; omega)) _) | (refine Below.trans ?_ (Below.mono (by with_reducible assumption) (by first | omega | (simp; done) | (simp; omega))))))⟩
  have hne : ((xs.length : Int) != (ys.length : Int)) = false := by simp; omega
  have HL := Lib.hid hl
  go_enter Try.func45, Try.ntmps45
  go_wp2_with fail
  go_loopg [5, 13] xs.length (fun k _ v wr => eqrRel w xs ys k v wr)
  case atStart => exact ⟨0, 0, rfl, by omega, rfl, rfl⟩
  case round =>
    obtain ⟨s, d, rfl, hs, ht, rfl⟩ := hrel
    have Hs := Lib.hid hs
    have HT := Lib.hid ht
    clear hs ht
    by_cases hlt : s < xs.length
    · have hlt' : s < ys.length := by omega
      obtain ⟨b, off, rfl, _, q0⟩ := rd1 H.out s hlt
      obtain ⟨b', off', rfl, _, r0⟩ := rd1 H'.out s hlt'
      have HN := Lib.hid (show xs[s] = ys[s] → xs.take (s + 1) = ys.take (s + 1) from fun e => by rw [List.take_succ_eq_append_getElem hlt, List.take_succ_eq_append_getElem hlt', HT.out, e])
      have HF := Lib.hid (show ¬ xs[s] = ys[s] → ¬ xs = ys from fun e h => e (by subst h; rfl))
      generalize xs[s] = q at *
      generalize ys[s] = r at *
      by_cases hqr : q = r
      · have hqf : (q != r) = false := by simp [hqr]
        have HN2 := Lib.hid (HN.out hqr)
        subst hqr
        clear HN HF
        go_upto_region 6 with fail
        go_quiet (fail)
        go_wp2_with fail
        go_roundg (xs.length - s - 1)
        case measure => have := Hs.out; omega
        case rel => exact ⟨s + 1, _, by first | rfl | go_num, by omega, HN2.out, rfl⟩
      · have hqf : (q != r) = true := by simp [hqr]
        have hz := HZ2.out (HF.out hqr)
        subst hz
        clear HN HF
        go_upto_region 6 with fail
        go_quiet (fail)
        go_wp2_with fail
        go_ret
        exact ⟨rfl, below_drewN (Below.refl _ _) _⟩
    · have hz := HZ1.out (by
        have h1 := HT.out
        rwa [List.take_of_length_le (by omega), List.take_of_length_le (by omega)] at h1)
      subst hz
      go_wp2_with fail
      go_ret
      exact ⟨rfl, below_drewN (Below.refl _ _) _⟩
def eqkRel (w : World) (xs ys : List Int) (k : Nat) (v : Value) (wr : World) : Prop :=
  ∃ s d : Nat, v = .int .i64 s ∧ s + k = xs.length ∧ xs.take s = ys.take s ∧ wr = w.drewN d
set_option maxHeartbeats 1600000 in
theorem eqk_any (A B : Option Addr) (c c' : Nat) (xs ys : List Int) (w : World) (h : Rd w w.heap.size 1 A xs.length (xs.map (Value.int .i64))) (h' : Rd w w.heap.size 1 B ys.length (ys.map (Value.int .i64))) (hx : xs.length ≤ 4611686018427387904) (hy : ys.length ≤ 4611686018427387904) :
    Calls Try.prog 44 #[.slice A xs.length c, .slice B ys.length c'] w fun e w' => e = .returned (.bool (decide (xs = ys))) ∧ Below w.heap.size w w' := by
  have H := Lib.hid h
  have H' := Lib.hid h'
  clear h h'
  have HZ := Lib.hid (show ∀ z, z = decide (xs = ys) → decide (xs = ys) = z from fun _ h => h.symm)
  have HZ1 := Lib.hid (fun h : xs = ys => decide_eq_true h)
  have HZ2 := Lib.hid (fun h : ¬ xs = ys => decide_eq_false h)
  generalize decide (xs = ys) = z at *
  clear HZ
  by_cases hl : xs.length = ys.length
  case neg =>
    have hne : ((xs.length : Int) != (ys.length : Int)) = true := by simp; omega
    have hz := HZ2.out (fun e => hl (by rw [e]))
    subst hz
    go_enter Try.func44, Try.ntmps44
    go_wp2_with fail
    go_ret
    exact ⟨rfl, (by repeat (first | exact Below.refl _ _ | (with_reducible refine Below.drew ?_) | (with_reducible refine below_drewN ?_ _) | (with_reducible refine Below.alloc ?_ (by first | omega | (simp; done) | (simp; omega)) _) | (with_reducible refine Below.setCell ?_ (by first | omega | (simp; done) | (simp; omega)) _) | (refine Below.trans ?_ (Below.mono (by with_reducible assumption) (by first | omega | (simp; done) | (simp; omega))))))⟩
  have hne : ((xs.length : Int) != (ys.length : Int)) = false := by simp; omega
  have HL := Lib.hid hl
  go_enter Try.func44, Try.ntmps44
  go_wp2_with fail
  go_loopg [5, 13] xs.length (fun k _ v wr => eqkRel w xs ys k v wr)
  case atStart => exact ⟨0, 0, rfl, by omega, rfl, rfl⟩
  case round =>
    obtain ⟨s, d, rfl, hs, ht, rfl⟩ := hrel
    have Hs := Lib.hid hs
    have HT := Lib.hid ht
    clear hs ht
    by_cases hlt : s < xs.length
    · have hlt' : s < ys.length := by omega
      obtain ⟨b, off, rfl, _, q0⟩ := rd1 H.out s hlt
      obtain ⟨b', off', rfl, _, r0⟩ := rd1 H'.out s hlt'
      have HN := Lib.hid (show xs[s] = ys[s] → xs.take (s + 1) = ys.take (s + 1) from fun e => by rw [List.take_succ_eq_append_getElem hlt, List.take_succ_eq_append_getElem hlt', HT.out, e])
      have HF := Lib.hid (show ¬ xs[s] = ys[s] → ¬ xs = ys from fun e h => e (by subst h; rfl))
      generalize xs[s] = q at *
      generalize ys[s] = r at *
      by_cases hqr : q = r
      · have hqf : (q != r) = false := by simp [hqr]
        have HN2 := Lib.hid (HN.out hqr)
        subst hqr
        clear HN HF
        go_upto_region 6 with fail
        go_quiet (fail)
        go_wp2_with fail
        go_roundg (xs.length - s - 1)
        case measure => have := Hs.out; omega
        case rel => exact ⟨s + 1, _, by first | rfl | go_num, by omega, HN2.out, rfl⟩
      · have hqf : (q != r) = true := by simp [hqr]
        have hz := HZ2.out (HF.out hqr)
        subst hz
        clear HN HF
        go_upto_region 6 with fail
        go_quiet (fail)
        go_wp2_with fail
        go_ret
        exact ⟨rfl, below_drewN (Below.refl _ _) _⟩
    · have hz := HZ1.out (by
        have h1 := HT.out
        rwa [List.take_of_length_le (by omega), List.take_of_length_le (by omega)] at h1)
      subst hz
      go_wp2_with fail
      go_ret
      exact ⟨rfl, below_drewN (Below.refl _ _) _⟩
theorem own_new0 {base : Nat} {e : TypeId} (w : World) (hb : base ≤ w.heap.size) : (w.alloc (.cells #[] e)).ownsRow base e 1 (.slice (some ⟨w.heap.size, 0, none⟩) 0 0) 0 [] :=
  ⟨rfl, .inr ⟨w.heap.size, 0, #[], rfl, hb, heap_alloc_new w _, Nat.le_refl _, by simp [maxLen], rfl, rfl⟩⟩
/-- owned numbers are read, in a block of numbers -/
theorem IRd.of_own {w : World} {base B : Nat} {A : Option Addr} {c : Nat} {xs : List Int} (h : w.ownsRow base 3 1 (.slice A xs.length c) xs.length (xs.map (Value.int .i64))) (hs : xs.length ≤ 17592186044416) : IRd w B A c xs := by
  refine ⟨Rd.of_own h, fun hn a ha => .inr ?_, fun e => by subst e; exact own_nil h, (own_cap h).1, hs, (own_cap h).2⟩
  obtain ⟨g, cap, hv, _, hlt⟩ := h.form hn
  have e : A = some ⟨g, 0, none⟩ := by injection hv
  rw [e] at ha
  injection ha with ha
  subst ha
  exact own_blk h (k := g) (by rw [hv]; rfl)
def CnOut (xs : List Int) (w : World) (e : Ending) (w' : World) : Prop :=
  ∃ (A : Option Addr) (c : Nat), e = .returned (.slice A xs.length c) ∧ IRd w' 0 A c xs ∧ Below w.heap.size w w'
set_option maxRecDepth 100000 in
set_option maxHeartbeats 1600000 in
theorem cln_any (A : Option Addr) (c : Nat) (zs : List Int) (w : World) (h : IRd w w.heap.size A c zs) :
    Calls Try.prog 52 #[.slice A zs.length c] w (CnOut zs w) := by
  have H := Lib.hid h
  clear h
  cases A with
  | none =>
    obtain ⟨e1, rfl⟩ := H.out.nl rfl
    have : zs = [] := List.eq_nil_of_length_eq_zero e1
    subst this
    have hnil : ∀ W, (binOp .eql 23 (.slice none 0 0) (.slice none 0 0)).run Try.prog W = .ok (.bool true) W := fun W => by rfl
    go_enter Try.func52, Try.ntmps52
    go_wp2_with fail
    go_ret
    exact ⟨none, 0, rfl, IRd.nil _ _, (by repeat (first | exact Below.refl _ _ | (with_reducible refine Below.drew ?_) | (with_reducible refine below_drewN ?_ _) | (with_reducible refine Below.alloc ?_ (by first | omega | (simp; done) | (simp; omega)) _) | (with_reducible refine Below.setCell ?_ (by first | omega | (simp; done) | (simp; omega)) _) | (refine Below.trans ?_ (Below.mono (by with_reducible assumption) (by first | omega | (simp; done) | (simp; omega))))))⟩
  | some ad =>
    obtain ⟨i0, a1, a2, a3, a4⟩ := info_parts infoInt
    have HI := Lib.hid (And.intro a1 (And.intro a2 (And.intro a3 a4)))
    clear a1 a2 a3 a4
    have hsz := H.out.sz
    have hnil : ∀ W, (binOp .eql 23 (.slice (some ad) zs.length c) (.slice none 0 0)).run Try.prog W = .ok (.bool false) W := fun W => Lib.run_eql_slice_some_nil W _ _ _ Try.underlying23
    go_enter Try.func52, Try.ntmps52
    go_wp2_with (at_builtin; refine wpList_append_any rfl _ _ 23 rfl w.heap.size 3 i0 _ 1 8 Try.underlying23 HI.out.1 HI.out.2.1 HI.out.2.2.1 HI.out.2.2.2 rfl (by omega) (.slice (some ⟨w.heap.size, 0, none⟩) 0 0) 0 [] rfl (own_new0 w (Nat.le_refl _)) (some ad) zs.length c _ (zs.map (Value.int .i64)) rfl (fun e => by cases e) (H.out.r.grow ((Below.refl _ _).alloc (Nat.le_refl _) _)) (fun u hu => by obtain ⟨_, _, rfl⟩ := List.mem_map.1 hu; rfl) ?r1 ?r2 ?r3 ?_; rotate_right; intro v8 w8 ho8 hg8 hat8)
    case r1 => simp only [maxLen]; omega
    case r2 => omega
    case r3 => simp
    rw [Nat.zero_add, List.nil_append] at ho8
    obtain ⟨A8, c8, rfl, _, _⟩ := own_slice ho8
    have Ho := Lib.hid ho8
    have HB := Lib.hid (show Below w.heap.size w w8 from ((Below.refl _ _).alloc (Nat.le_refl _) _).grown hg8 (by simp) (fun k hk => by simp [Value.ownBlock] at hk; omega))
    clear ho8 hg8 hat8
    go_ret
    exact ⟨A8, c8, rfl, IRd.of_own Ho.out hsz, HB.out⟩
end Go.Proofs.Ythfifejjfnmpoaa
