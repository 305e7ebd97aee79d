import Derived.Test.YtddkfdfgfkejoaaDlyMath6
namespace Go.Proofs.Ytddkfdfgfkejoaa

theorem countP_lt {α : Type} (p q : α → Bool) : ∀ (l : List α), (∀ x ∈ l, p x = true → q x = true) → ∀ y ∈ l, q y = true → p y = false → l.countP p < l.countP q
  | x :: l, h, y, hy, hq, hp => by
    rw [List.countP_cons, List.countP_cons]
    have hle : l.countP p ≤ l.countP q := List.countP_mono_left (fun z hz => h z (List.mem_cons_of_mem _ hz))
    rcases List.mem_cons.1 hy with rfl | hy
    · rw [hq, hp]; simp; omega
    · have := countP_lt p q l (fun z hz => h z (List.mem_cons_of_mem _ hz)) y hy hq hp
      have hx := h x List.mem_cons_self
      cases h1 : p x <;> cases h2 : q x <;> simp [h1, h2] at hx ⊢ <;> omega
/-- a rank below n -/
theorem acyc_rank {n : Nat} {ws : List Wt} (ha : Acyc ws) (hw : ∀ k ∈ ws, WOk n k) : ∃ rank : Int → Nat, (∀ k ∈ ws, rank k.fr < rank k.tt) ∧ ∀ i : Int, 0 ≤ i → i < (n : Int) → rank i < n := by
  obtain ⟨rank, hr⟩ := ha
  refine ⟨fun i => (List.range n).countP (fun (j : Nat) => decide (rank (j : Int) < rank i)), fun k hk => ?_, fun i h0 h1 => ?_⟩
  · have hok := hw k hk
    refine countP_lt _ _ _ (fun x _ hx => ?_) k.fr.toNat (List.mem_range.2 (by have := hok.f0; have := hok.f1; omega)) ?_ ?_
    · simp at hx ⊢; have := hr k hk; omega
    · simp only [decide_eq_true_eq]; rw [show ((k.fr.toNat : Nat) : Int) = k.fr by have := hok.f0; omega]; exact hr k hk
    · rw [show ((k.fr.toNat : Nat) : Int) = k.fr by have := hok.f0; omega]; simp
  · have : (List.range n).countP (fun (j : Nat) => decide (rank (j : Int) < rank i)) < (List.range n).countP (fun _ => true) :=
      countP_lt _ _ _ (fun _ _ _ => rfl) i.toNat (List.mem_range.2 (by omega)) rfl (by rw [show ((i.toNat : Nat) : Int) = i by omega]; simp)
    simpa using this

/-- the wait a explains the base of i -/
def rsB (ws : List Wt) (base sec : List Int) (kept : List Bool) (i : Int) (a : Nat) : Bool :=
  match ws[a]? with
  | some k => k.tt == i && (kept.getD a false && (gi sec k.fr + k.mn == gi base i))
  | none => false
def blkB (ms : List Mom) (base : List Int) (i : Int) : Bool := hd ms i && decide (gi base i ≤ tm ms i)
def rsn (ms : List Mom) (ws : List Wt) (base sec : List Int) (kept : List Bool) (i : Int) : Option Nat :=
  if blkB ms base i = true then none else (List.range ws.length).find? (rsB ws base sec kept i)
def rsnV (ms : List Mom) (ws : List Wt) (base sec : List Int) (kept : List Bool) (i : Int) : Int :=
  match rsn ms ws base sec kept i with | some a => a | none => -1
section
variable {ms : List Mom} {ws : List Wt} {base sec : List Int} {kept : List Bool} {i : Int}
theorem rsn_blk (h : blkB ms base i = true) : rsn ms ws base sec kept i = none := by unfold rsn; rw [if_pos h]
theorem rsn_none (h : ∀ a, a < ws.length → rsB ws base sec kept i a = false) : rsn ms ws base sec kept i = none := by
  unfold rsn
  split
  · rfl
  · rw [List.find?_eq_none]
    intro a ha
    rw [h a (List.mem_range.1 ha)]
    simp
theorem rsn_some (hb : blkB ms base i = false) (a : Nat) (ha : a < ws.length) (h : rsB ws base sec kept i a = true) (hf : ∀ b, b < a → rsB ws base sec kept i b = false) : rsn ms ws base sec kept i = some a := by
  unfold rsn
  rw [if_neg (by rw [hb]; simp), List.find?_range_eq_some]
  exact ⟨h, List.mem_range.2 ha, fun b hb => by rw [hf b hb]; rfl⟩
theorem rsn_get {a : Nat} (h : rsn ms ws base sec kept i = some a) : blkB ms base i = false ∧ a < ws.length ∧ rsB ws base sec kept i a = true := by
  unfold rsn at h
  split at h
  · cases h
  · rename_i hb
    rw [List.find?_range_eq_some] at h
    exact ⟨by simpa using hb, List.mem_range.1 h.2.1, h.1⟩
theorem rsB_get {a : Nat} (ha : a < ws.length) : rsB ws base sec kept i a = (ws[a].tt == i && (kept.getD a false && (gi sec ws[a].fr + ws[a].mn == gi base i))) := by
  unfold rsB; rw [List.getElem?_eq_getElem ha]
end
/-- the waits that explain, one after another -/
inductive Chain (ms : List Mom) (ws : List Wt) (base sec : List Int) (kept : List Bool) : Int → List Int → Prop
  | stop {i : Int} : rsn ms ws base sec kept i = none → Chain ms ws base sec kept i []
  | step {i : Int} {a : Nat} {L : List Int} (h : rsn ms ws base sec kept i = some a) : Chain ms ws base sec kept (ws[a]'(rsn_get h).2.1).fr L → Chain ms ws base sec kept i ((a : Int) :: L)
theorem Chain.unique {ms : List Mom} {ws : List Wt} {base sec : List Int} {kept : List Bool} {i : Int} {L L' : List Int} (h : Chain ms ws base sec kept i L) (h' : Chain ms ws base sec kept i L') : L = L' := by
  induction h generalizing L' with
  | stop h =>
    cases h' with
    | stop _ => rfl
    | step h1 _ => rw [h] at h1; cases h1
  | step h hc ih =>
    cases h' with
    | stop h1 => rw [h] at h1; cases h1
    | step h1 hc' =>
      have e := h.symm.trans h1
      injection e with e
      subst e
      rw [ih hc']
/-- the seconds of a valid problem are small -/
theorem sol_bdV {ms : List Mom} {ws : List Wt} {ps : List Pri} {b s : List Int} {k : List Bool} (h : Sol ms ws ps b s k) (rank : Int → Nat) (hr : ∀ k ∈ ws, rank k.fr < rank k.tt) (ht : ∀ i : Int, 0 ≤ i → i < (ms.length : Int) → 0 ≤ tm ms i ∧ tm ms i ≤ 4194304)
    (hw : ∀ k ∈ ws, WOk ms.length k) (hp : ∀ i, 0 ≤ prim ps i ∧ prim ps i ≤ 4194304) : ∀ (r : Nat) (i : Int), rank i ≤ r → 0 ≤ i → i < (ms.length : Int) → 0 ≤ gi b i ∧ gi b i ≤ (2 * r + 1) * 4194304 ∧ 0 ≤ gi s i ∧ gi s i ≤ (2 * r + 2) * 4194304 := by
  intro r
  induction r with
  | zero =>
    intro i hi h0 h1
    have hb : 0 ≤ gi b i ∧ gi b i ≤ 4194304 := by
      rw [h.b i h0 h1]
      unfold baseS
      rcases fold_or ms s i ws (hd ms i, tm ms i) with e | ⟨k, hk, e, _, hv⟩
      · rw [e]; exact ht i h0 h1
      · have := hr k hk; rw [e] at this; omega
    have := h.s i h0 h1
    have := hp i
    omega
  | succ r ih =>
    intro i hi h0 h1
    have hb : 0 ≤ gi b i ∧ gi b i ≤ (2 * r + 3) * 4194304 := by
      rw [h.b i h0 h1]
      unfold baseS
      rcases fold_or ms s i ws (hd ms i, tm ms i) with e | ⟨k, hk, e, _, hv⟩
      · rw [e]
        have := ht i h0 h1
        simp only
        omega
      · rw [hv]
        have hok := hw k hk
        have h2 := hr k hk
        rw [e] at h2
        have := ih k.fr (by omega) hok.f0 hok.f1
        have := hok.m0
        have := hok.m1
        unfold rdy
        omega
    have := h.s i h0 h1
    have := hp i
    omega
end Go.Proofs.Ytddkfdfgfkejoaa
