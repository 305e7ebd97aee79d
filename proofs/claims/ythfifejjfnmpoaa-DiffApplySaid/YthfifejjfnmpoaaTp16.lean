import Derived.Test.YthfifejjfnmpoaaTp14
namespace Go.Proofs.Ythfifejjfnmpoaa
open Go.RowKit
/-! The reference's perform. -/
structure StT (w : World) (wr : World) (v : Value) (ts : List CT) (n : Nat) : Prop where
  o : TO wr w.heap.size v ts
  n : ts.length ≤ n
  b : Below w.heap.size w wr
section
variable {w wr w' : World} {v v' : Value} {ts : List CT} {n : Nat}
theorem StT.bel (h : StT w wr v ts n) (hb : Below wr.heap.size wr w') : StT w w' v ts n := ⟨h.o.bel hb, h.n, h.b.trans (hb.mono h.b.size)⟩
theorem StT.more {n' : Nat} (h : StT w wr v ts n) (hn : n ≤ n') : StT w wr v ts n' := ⟨h.o, Nat.le_trans h.n hn, h.b⟩
theorem StT.app {o : Obj} {x : CT} (h : StT w wr v ts n) (hx : TM wr w.heap.size x) (ho : w'.ownsRow w.heap.size 28 4 v' (ts.length + 1) (ts.flatMap CT.cells ++ x.cells)) (hg : (wr.alloc o).grownBy w' v.ownBlock) : StT w w' v' (ts ++ [x]) (n + 1) := by
  have hb : Below wr.heap.size wr (wr.alloc o) := (Below.refl _ _).alloc (Nat.le_refl _) _
  refine ⟨(h.o.bel hb).app (hx.kp (Kp.bel hb)) ho hg, by have := h.n; simp; omega, ?_⟩
  exact (h.b.alloc h.b.size _).grown hg (by have := h.b.size; simp; omega) (fun k hk => (own_block h.o.o k hk).1)
end
/-- a list of trips of a call's own -/
structure TLO (w : World) (A : Option Addr) (c : Nat) (ts : List CT) : Prop where
  l : TL w A c ts
  a : A = none ∨ ∃ b, A = some ⟨b, 0, none⟩
theorem TLO.go {w w' : World} {A : Option Addr} {c : Nat} {ts : List CT} (h : TLO w A c ts) (hb : Below w.heap.size w w') : TLO w' A c ts := ⟨h.l.go hb, h.a⟩
theorem StT.tlo {w wr : World} {A : Option Addr} {c : Nat} {ts : List CT} {n : Nat} (h : StT w wr (.slice A ts.length c) ts n) (hs : n ≤ 2199023255488) : TLO wr A c ts := ⟨h.o.tl (Nat.le_trans h.n hs), own_at0 h.o.o⟩
theorem eqK_pt {a b : PT} : decide (eqK a b) = true ↔ eqK a b := by simp
/-- the loop that leaves one out -/
theorem filt_step {L : List PT} {kk : PT} {j : Nat} (hj : j < L.length) : (L.take (j + 1)).filter (fun y => !decide (eqK y kk)) = (L.take j).filter (fun y => !decide (eqK y kk)) ++ (if eqK L[j] kk then [] else [L[j]]) := by
  rw [List.take_succ_eq_append_getElem hj, List.filter_append]
  congr 1
  by_cases h : eqK L[j] kk
  · rw [if_pos h, List.filter_cons_of_neg (by simpa using h)]; rfl
  · rw [if_neg h, List.filter_cons_of_pos (by simpa using h)]; rfl
/-- where the key is found, and only there -/
theorem findK_only {L : List PT} {kk : PT} (hL : Asc L) : ∀ (j : Nat) (hj : j < L.length), ((j : Int) = findK L kk 0 ↔ eqK L[j] kk) := by
  intro j hj
  rcases findK_spec L kk 0 with ⟨h1, h2⟩ | ⟨i, hi, h1, h2⟩
  · rw [h1]
    constructor
    · intro h; omega
    · intro h; exact absurd h (findT_none.1 h2 _ (List.getElem_mem hj))
  · obtain ⟨_, hk⟩ := findT_some h2
    rw [h1, Nat.zero_add]
    constructor
    · intro h
      obtain rfl : j = i := by omega
      exact hk
    · intro h
      have he : eqK L[j] L[i] := ⟨by have := h.1; have := hk.1; omega, by have := h.2; have := hk.2; omega⟩
      rcases Nat.lt_trichotomy j i with hlt | heq | hgt
      · exact absurd he (ltK_neq (List.pairwise_iff_getElem.1 hL j i hj hi hlt))
      · omega
      · exact absurd he (gtK_neq (List.pairwise_iff_getElem.1 hL i j hi hj hgt))
theorem posT_on {l : List PT} {e x : PT} {p : Nat} (h : l[p]? = some x) (hlt : ltK e x) : posT l e (p + 1) = posT l e p := by
  rw [posT, h]; simp only; rw [if_pos hlt]
theorem posT_at {l : List PT} {e x : PT} {p : Nat} (h : l[p]? = some x) (hlt : ¬ ltK e x) : posT l e (p + 1) = p + 1 := by
  rw [posT, h]; simp only; rw [if_neg hlt]
end Go.Proofs.Ythfifejjfnmpoaa
