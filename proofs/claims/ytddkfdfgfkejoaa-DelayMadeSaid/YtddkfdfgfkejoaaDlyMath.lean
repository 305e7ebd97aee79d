namespace Go.Proofs.Ytddkfdfgfkejoaa
structure Mom where
  time : Int
  hold : Bool
structure Wt where
  fr : Int
  tt : Int
  mn : Int
  mx : Int
structure Pri where
  mo : Int
  sec : Int

def gi (l : List Int) (i : Int) : Int := l.getD i.toNat 0
theorem gi_nat (l : List Int) (i : Nat) (h : i < l.length) : gi l i = l[i] := by simp [gi, h]
theorem gi_set (l : List Int) (i j : Int) (v : Int) (hi : 0 ≤ i) (hil : i < l.length) (hj : 0 ≤ j) : gi (l.set i.toNat v) j = if j = i then v else gi l j := by
  unfold gi
  rw [List.getD_eq_getElem?_getD, List.getD_eq_getElem?_getD, List.getElem?_set]
  by_cases h : j = i
  · subst h; rw [if_pos rfl, if_pos rfl, if_pos (by omega)]; rfl
  · rw [if_neg (by omega), if_neg h]

structure WOk (n : Nat) (k : Wt) : Prop where
  f0 : 0 ≤ k.fr
  f1 : k.fr < n
  t0 : 0 ≤ k.tt
  t1 : k.tt < n
  ne : k.fr ≠ k.tt
  m0 : 0 ≤ k.mn
  m1 : k.mn ≤ 4194304
  x0 : -1 ≤ k.mx
  x1 : k.mx ≤ 4194304

/-- so many numbers below n -/
theorem nodup_le (n : Nat) : ∀ (l : List Int), l.Nodup → (∀ x ∈ l, 0 ≤ x ∧ x < (n : Int)) → l.length ≤ n := by
  induction n with
  | zero =>
    intro l _ h
    cases l with
    | nil => simp
    | cons x l => have := h x List.mem_cons_self; omega
  | succ n ih =>
    intro l hn h
    have h1 := ih (l.erase n) (hn.erase _) (fun x hx => by
      have hm := List.mem_of_mem_erase hx
      have := h x hm
      have hne : x ≠ (n : Int) := by
        intro e
        subst e
        exact absurd hx hn.not_mem_erase
      omega)
    have h2 := List.length_erase (a := (n : Int)) (l := l)
    split at h2 <;> omega
theorem full_mem {n : Nat} {l : List Int} (hn : l.Nodup) (h : ∀ x ∈ l, 0 ≤ x ∧ x < (n : Int)) (hl : l.length = n) {x : Int} (h0 : 0 ≤ x) (h1 : x < n) : x ∈ l := by
  refine Classical.byContradiction fun hx => ?_
  have := nodup_le n (x :: l) (List.nodup_cons.2 ⟨hx, hn⟩) (fun y hy => by
    rcases List.mem_cons.1 hy with rfl | hy
    · exact ⟨h0, h1⟩
    · exact h y hy)
  simp at this
  omega

theorem all_le (n : Nat) : ∀ l : List Int, (∀ i : Nat, i < n → (i : Int) ∈ l) → n ≤ l.length := by
  induction n with
  | zero => intro l _; omega
  | succ n ih =>
    intro l h
    have h1 := ih (l.erase n) (fun i hi => (List.mem_erase_of_ne (by omega)).2 (h i (by omega)))
    have h2 := List.length_erase (a := (n : Int)) (l := l)
    rw [if_pos (h n (by omega))] at h2
    have : 0 < l.length := List.length_pos_of_mem (h n (by omega))
    omega
def Acyc (w : List Wt) : Prop := ∃ rank : Int → Nat, ∀ k ∈ w, rank k.fr < rank k.tt
structure Topo (n : Nat) (w : List Wt) (ord : List Int) : Prop where
  nd : ord.Nodup
  lt : ∀ x ∈ ord, 0 ≤ x ∧ x < (n : Int)
  pre : ∀ t (h : t < ord.length), ∀ k ∈ w, k.tt = ord[t] → k.fr ∈ ord.take t

theorem Topo.acyc {n : Nat} {w : List Wt} {ord : List Int} (h : Topo n w ord) (hl : ord.length = n) (hw : ∀ k ∈ w, WOk n k) : Acyc w := by
  refine ⟨fun x => ord.idxOf x, fun k hk => ?_⟩
  have hm : k.tt ∈ ord := full_mem h.nd h.lt hl (hw k hk).t0 (hw k hk).t1
  have hi : ord.idxOf k.tt < ord.length := List.idxOf_lt_length_of_mem hm
  have h1 := h.pre (ord.idxOf k.tt) hi k hk (by simp)
  have h2 : (ord.take (ord.idxOf k.tt)).idxOf k.fr < (ord.take (ord.idxOf k.tt)).length := List.idxOf_lt_length_of_mem h1
  have h3 : ord.idxOf k.fr = (ord.take (ord.idxOf k.tt)).idxOf k.fr := by
    conv => lhs; rw [← List.take_append_drop (ord.idxOf k.tt) ord]
    rw [List.idxOf_append, if_pos h1]
  simp at h2
  show ord.idxOf k.fr < ord.idxOf k.tt
  omega

/-- waits of l to j whose first moment is not in P -/
def cnt (l : List Wt) (j : Int) (P : List Int) : Nat := l.countP fun k => decide (k.tt = j ∧ k.fr ∉ P)
theorem cnt_append (l l' : List Wt) (j : Int) (P : List Int) : cnt (l ++ l') j P = cnt l j P + cnt l' j P := List.countP_append
theorem cnt_congr (l : List Wt) (j : Int) (P P' : List Int) (h : ∀ x, x ∈ P ↔ x ∈ P') : cnt l j P = cnt l j P' := by
  unfold cnt; congr 1; funext k; simp [h]
theorem cnt_zero {l : List Wt} {j : Int} {P : List Int} : cnt l j P = 0 ↔ ∀ k ∈ l, k.tt = j → k.fr ∈ P := by
  unfold cnt
  rw [List.countP_eq_zero]
  constructor
  · intro h k hk e
    have := h k hk
    simp at this
    exact this e
  · intro h k hk
    simp
    exact h k hk
theorem cnt_cons (k : Wt) (l : List Wt) (j : Int) (P : List Int) : cnt (k :: l) j P = cnt l j P + if k.tt = j ∧ k.fr ∉ P then 1 else 0 := by
  unfold cnt
  rw [List.countP_cons]
  simp
theorem cnt_le (l : List Wt) (j : Int) (P : List Int) : cnt l j P ≤ l.length := List.countP_le_length

/-- the state of Kahn's loop: 'next' moments done, and of the waits of x = ord[next] the first a -/
structure Kahn (n : Nat) (w : List Wt) (P : List Int) (x : Int) (a : Nat) (op ord : List Int) : Prop where
  len : op.length = n
  val : ∀ j : Int, 0 ≤ j → j < (n : Int) → gi op j = ((cnt (w.take a) j (x :: P) + cnt (w.drop a) j P : Nat) : Int)
  topo : Topo n w ord
  mem : ∀ j : Int, 0 ≤ j → j < (n : Int) → (j ∈ ord ↔ gi op j = 0)
  sub : ∀ y, y ∈ x :: P → y ∈ ord

theorem split_at {α : Type} (w : List α) (a : Nat) (h : a < w.length) : w.take (a + 1) = w.take a ++ [w[a]] ∧ w.drop a = w[a] :: w.drop (a + 1) :=
  ⟨List.take_succ_eq_append_getElem h, List.drop_eq_getElem_cons h⟩

/-- a wait from another moment -/
theorem Kahn.skip {n : Nat} {w : List Wt} {P : List Int} {x : Int} {a : Nat} {op ord : List Int} (h : Kahn n w P x a op ord) (ha : a < w.length) (hk : w[a].fr ≠ x) : Kahn n w P x (a + 1) op ord := by
  refine ⟨h.len, fun j h0 h1 => ?_, h.topo, h.mem, h.sub⟩
  rw [h.val j h0 h1]
  obtain ⟨e1, e2⟩ := split_at w a ha
  rw [e1, e2, cnt_append, cnt_cons, cnt_cons]
  have : (w[a].fr ∉ x :: P) ↔ w[a].fr ∉ P := by simp [hk]
  simp only [this]
  simp [cnt]
  omega
/-- a wait from x: one less is open -/
theorem Kahn.dec {n : Nat} {w : List Wt} {P : List Int} {x : Int} {a : Nat} {op ord : List Int} (h : Kahn n w P x a op ord) (ha : a < w.length) (hk : w[a].fr = x) (hx : x ∉ P) (hw : ∀ k ∈ w, WOk n k) :
    1 ≤ gi op w[a].tt ∧ (gi op w[a].tt - 1 ≠ 0 → Kahn n w P x (a + 1) (op.set w[a].tt.toNat (gi op w[a].tt - 1)) ord) ∧
      (gi op w[a].tt - 1 = 0 → Kahn n w P x (a + 1) (op.set w[a].tt.toNat (gi op w[a].tt - 1)) (ord ++ [w[a].tt])) := by
  have hok := hw _ (List.getElem_mem ha)
  obtain ⟨e1, e2⟩ := split_at w a ha
  have hv : ∀ j, 0 ≤ j → j < (n : Int) → gi op j = ((cnt (w.take (a + 1)) j (x :: P) + cnt (w.drop (a + 1)) j P : Nat) : Int) + if w[a].tt = j then 1 else 0 := fun j h0 h1 => by
    rw [h.val j h0 h1, e1, e2, cnt_append, cnt_cons, cnt_cons]
    have h2 : ¬ (w[a].fr ∉ x :: P) := by simp [hk]
    have h3 : w[a].fr ∉ P := by rw [hk]; exact hx
    simp only [h2, h3, and_false, not_false_eq_true, and_true]
    simp [cnt]
    split <;> omega
  have ht := hv w[a].tt hok.t0 hok.t1
  rw [if_pos rfl] at ht
  have hlen : (w[a].tt) < (op.length : Int) := by rw [h.len]; exact hok.t1
  have hval : ∀ j, 0 ≤ j → j < (n : Int) → gi (op.set w[a].tt.toNat (gi op w[a].tt - 1)) j = ((cnt (w.take (a + 1)) j (x :: P) + cnt (w.drop (a + 1)) j P : Nat) : Int) := fun j h0 h1 => by
    rw [gi_set _ _ _ _ hok.t0 hlen h0]
    by_cases e : j = w[a].tt
    · subst e; rw [if_pos rfl]; omega
    · rw [if_neg e, hv j h0 h1, if_neg (fun h => e h.symm)]; simp
  have hnot : w[a].tt ∉ ord := fun hm => by
    have := (h.mem _ hok.t0 hok.t1).1 hm
    omega
  refine ⟨by omega, fun hne => ⟨by simp [h.len], hval, h.topo, fun j h0 h1 => ?_, h.sub⟩, fun he => ⟨by simp [h.len], hval, ⟨?_, ?_, ?_⟩, fun j h0 h1 => ?_, ?_⟩⟩
  · rw [gi_set _ _ _ _ hok.t0 hlen h0, h.mem j h0 h1]
    by_cases e : j = w[a].tt
    · subst e; rw [if_pos rfl]; constructor <;> intro h' <;> omega
    · rw [if_neg e]
  · rw [List.nodup_append]
    exact ⟨h.topo.nd, by simp, fun y hy z hz => by simp at hz; subst hz; intro e; subst e; exact hnot hy⟩
  · intro y hy
    rcases List.mem_append.1 hy with hy | hy
    · exact h.topo.lt y hy
    · simp at hy; subst hy; exact ⟨hok.t0, hok.t1⟩
  · intro t ht' k hk' ek
    rcases Nat.lt_or_ge t ord.length with h1 | h1
    · rw [List.getElem_append_left h1] at ek
      have := h.topo.pre t h1 k hk' ek
      rw [List.take_append_of_le_length (by omega)]
      exact this
    · have htt : t = ord.length := by simp at ht'; omega
      subst htt
      rw [List.getElem_append_right (by omega)] at ek
      simp at ek
      rw [List.take_append_of_le_length (by omega), List.take_length]
      have hz := hval w[a].tt hok.t0 hok.t1
      rw [gi_set _ _ _ _ hok.t0 hlen hok.t0, if_pos rfl, he] at hz
      have hz1 : cnt (w.take (a + 1)) w[a].tt (x :: P) = 0 := by omega
      have hz2 : cnt (w.drop (a + 1)) w[a].tt P = 0 := by omega
      rw [cnt_zero] at hz1 hz2
      rw [← List.take_append_drop (a + 1) w] at hk'
      rcases List.mem_append.1 hk' with hk' | hk'
      · exact h.sub _ (hz1 k hk' ek)
      · exact h.sub _ (List.mem_cons_of_mem _ (hz2 k hk' ek))
  · rw [gi_set _ _ _ _ hok.t0 hlen h0, List.mem_append, h.mem j h0 h1]
    by_cases e : j = w[a].tt
    · subst e; rw [if_pos rfl]; simp [he]
    · rw [if_neg e]; simp [e]
  · intro y hy
    exact List.mem_append_left _ (h.sub y hy)

/-- between two rounds: P = ord.take next -/
structure KahnO (n : Nat) (w : List Wt) (next : Nat) (op ord : List Int) : Prop where
  len : op.length = n
  val : ∀ j : Int, 0 ≤ j → j < (n : Int) → gi op j = ((cnt w j (ord.take next) : Nat) : Int)
  topo : Topo n w ord
  mem : ∀ j : Int, 0 ≤ j → j < (n : Int) → (j ∈ ord ↔ gi op j = 0)
theorem KahnO.enter {n : Nat} {w : List Wt} {next : Nat} {op ord : List Int} (h : KahnO n w next op ord) (hn : next < ord.length) : Kahn n w (ord.take next) ord[next] 0 op ord :=
  ⟨h.len, fun j h0 h1 => by rw [h.val j h0 h1]; simp [cnt], h.topo, h.mem, fun y hy => by
    rcases List.mem_cons.1 hy with rfl | hy
    · exact List.getElem_mem hn
    · exact List.mem_of_mem_take hy⟩
theorem Kahn.leave {n : Nat} {w : List Wt} {P : List Int} {x : Int} {op ord ord0 : List Int} {next : Nat} (h : Kahn n w P x w.length op ord) (hn : next < ord0.length) (hp : ord0 = ord.take ord0.length) (hP : P = ord0.take next) (hx : x = ord0[next]) : KahnO n w (next + 1) op ord := by
  refine ⟨h.len, fun j h0 h1 => ?_, h.topo, h.mem⟩
  rw [h.val j h0 h1]
  simp only [List.take_length, List.drop_length]
  have e : ord.take (next + 1) = ord0.take next ++ [ord0[next]] := by
    rw [← List.take_succ_eq_append_getElem hn]
    conv => rhs; rw [hp]
    rw [List.take_take, Nat.min_eq_left (by omega)]
  rw [e, ← hP, ← hx]
  rw [cnt_congr w j (P ++ [x]) (x :: P) (by simp [or_comm])]
  simp [cnt]
theorem KahnO.done {n : Nat} {w : List Wt} {op ord : List Int} {next : Nat} (h : KahnO n w next op ord) (hn : ord.length ≤ next) (hw : ∀ k ∈ w, WOk n k) (ha : Acyc w) : ord.length = n := by
  obtain ⟨rank, hr⟩ := ha
  have hle := nodup_le n ord h.topo.nd h.topo.lt
  refine Classical.byContradiction fun hne => ?_
  have key : ∀ r (j : Int), rank j ≤ r → 0 ≤ j → j < n → j ∈ ord := by
    intro r
    induction r with
    | zero =>
      intro j hj h0 h1
      rw [h.mem j h0 h1, h.val j h0 h1]
      have : cnt w j (ord.take next) = 0 := by
        rw [cnt_zero]
        intro k hk e
        have := hr k hk
        rw [e] at this
        omega
      omega
    | succ r ih =>
      intro j hj h0 h1
      rw [h.mem j h0 h1, h.val j h0 h1]
      have : cnt w j (ord.take next) = 0 := by
        rw [cnt_zero]
        intro k hk e
        rw [List.take_of_length_le hn]
        have := hr k hk
        rw [e] at this
        exact ih k.fr (by omega) (hw k hk).f0 (hw k hk).f1
      omega
  have := all_le n ord (fun i hi => key (rank i) i (Nat.le_refl _) (by omega) (by omega))
  omega
end Go.Proofs.Ytddkfdfgfkejoaa
