import Derived.Test.YtddkfdfgfkejoaaDlyMath
namespace Go.Proofs.Ytddkfdfgfkejoaa

def tm (ms : List Mom) (i : Int) : Int := (ms.getD i.toNat ⟨0, false⟩).time
def hd (ms : List Mom) (i : Int) : Bool := (ms.getD i.toNat ⟨0, false⟩).hold
theorem tm_nat (ms : List Mom) (i : Nat) (h : i < ms.length) : tm ms i = ms[i].time := by simp [tm, h]
theorem hd_nat (ms : List Mom) (i : Nat) (h : i < ms.length) : hd ms i = ms[i].hold := by simp [hd, h]
def rdy (sec : List Int) (k : Wt) : Int := gi sec k.fr + k.mn
def keptB (ms : List Mom) (sec : List Int) (k : Wt) : Bool := k.mx == -1 || decide (rdy sec k ≤ tm ms k.tt + k.mx)
def stepB (ms : List Mom) (sec : List Int) (i : Int) (s : Bool × Int) (k : Wt) : Bool × Int :=
  if k.tt = i ∧ keptB ms sec k = true ∧ (s.1 = false ∨ s.2 < rdy sec k) then (true, rdy sec k) else s
def baseS (ms : List Mom) (ws : List Wt) (sec : List Int) (i : Int) : Bool × Int := ws.foldl (stepB ms sec i) (hd ms i, tm ms i)
def prim (ps : List Pri) (i : Int) : Int := ps.foldl (fun a d => if d.mo = i then a + d.sec else a) 0

structure Sol (ms : List Mom) (ws : List Wt) (ps : List Pri) (base sec : List Int) (kept : List Bool) : Prop where
  lb : base.length = ms.length
  ls : sec.length = ms.length
  lk : kept.length = ws.length
  b : ∀ i : Int, 0 ≤ i → i < (ms.length : Int) → gi base i = (baseS ms ws sec i).2
  s : ∀ i : Int, 0 ≤ i → i < (ms.length : Int) → gi sec i = gi base i + prim ps i
  k : ∀ a (h : a < ws.length), kept[a]? = some (keptB ms sec ws[a])

theorem stepB_congr (ms : List Mom) (sec sec' : List Int) (i : Int) (s : Bool × Int) (k : Wt) (h : k.tt = i → gi sec k.fr = gi sec' k.fr) : stepB ms sec i s k = stepB ms sec' i s k := by
  unfold stepB keptB rdy
  by_cases e : k.tt = i
  · rw [h e]
  · simp [e]
theorem fold_congr (ms : List Mom) (sec sec' : List Int) (i : Int) : ∀ (ws : List Wt) (s : Bool × Int), (∀ k ∈ ws, k.tt = i → gi sec k.fr = gi sec' k.fr) → ws.foldl (stepB ms sec i) s = ws.foldl (stepB ms sec' i) s
  | [], _, _ => rfl
  | k :: ws, s, h => by
    rw [List.foldl_cons, List.foldl_cons, stepB_congr ms sec sec' i s k (h k List.mem_cons_self)]
    exact fold_congr ms sec sec' i ws _ (fun k' hk' => h k' (List.mem_cons_of_mem _ hk'))
theorem baseS_congr (ms : List Mom) (ws : List Wt) (sec sec' : List Int) (i : Int) (h : ∀ k ∈ ws, k.tt = i → gi sec k.fr = gi sec' k.fr) : baseS ms ws sec i = baseS ms ws sec' i :=
  fold_congr ms sec sec' i ws _ h
theorem keptB_congr (ms : List Mom) (sec sec' : List Int) (k : Wt) (h : gi sec k.fr = gi sec' k.fr) : keptB ms sec k = keptB ms sec' k := by
  unfold keptB rdy; rw [h]

theorem gi_ext {l l' : List Int} (h : l.length = l'.length) (hg : ∀ i : Int, 0 ≤ i → i < (l.length : Int) → gi l i = gi l' i) : l = l' := by
  apply List.ext_getElem h
  intro i h1 h2
  have := hg i (by omega) (by omega)
  rwa [gi_nat l i h1, gi_nat l' i h2] at this

/-- there is one solution -/
theorem Sol.unique {ms : List Mom} {ws : List Wt} {ps : List Pri} {b s : List Int} {k : List Bool} {b' s' : List Int} {k' : List Bool} (h : Sol ms ws ps b s k) (h' : Sol ms ws ps b' s' k') (hw : ∀ k ∈ ws, WOk ms.length k) (ha : Acyc ws) :
    b = b' ∧ s = s' ∧ k = k' := by
  obtain ⟨rank, hr⟩ := ha
  have key : ∀ r (i : Int), rank i ≤ r → 0 ≤ i → i < (ms.length : Int) → gi s i = gi s' i := by
    intro r
    induction r with
    | zero =>
      intro i hi h0 h1
      rw [h.s i h0 h1, h'.s i h0 h1, h.b i h0 h1, h'.b i h0 h1, baseS_congr ms ws s s' i (fun k hk e => by
        have := hr k hk; rw [e] at this; omega)]
    | succ r ih =>
      intro i hi h0 h1
      rw [h.s i h0 h1, h'.s i h0 h1, h.b i h0 h1, h'.b i h0 h1, baseS_congr ms ws s s' i (fun k hk e => by
        have := hr k hk; rw [e] at this
        exact ih k.fr (by omega) (hw k hk).f0 (hw k hk).f1)]
  have hs : s = s' := gi_ext (by rw [h.ls, h'.ls]) (fun i h0 h1 => key (rank i) i (Nat.le_refl _) h0 (by rw [← h.ls]; exact h1))
  subst hs
  refine ⟨gi_ext (by rw [h.lb, h'.lb]) (fun i h0 h1 => by rw [h.lb] at h1; rw [h.b i h0 h1, h'.b i h0 h1]), rfl, ?_⟩
  apply List.ext_getElem?
  intro a
  rcases Nat.lt_or_ge a ws.length with hlt | hge
  · rw [h.k a hlt, h'.k a hlt]
  · rw [List.getElem?_eq_none (by rw [h.lk]; exact hge), List.getElem?_eq_none (by rw [h'.lk]; exact hge)]

/-- the base: at least every kept ready second, at least the time of a hold; and one of these, or the time -/
theorem fold_true (ms : List Mom) (sec : List Int) (i : Int) : ∀ (ws : List Wt) (s : Bool × Int), s.1 = true → (ws.foldl (stepB ms sec i) s).1 = true ∧ s.2 ≤ (ws.foldl (stepB ms sec i) s).2
  | [], s, h => ⟨h, Int.le_refl _⟩
  | k :: ws, s, h => by
    rw [List.foldl_cons]
    unfold stepB
    split
    · rename_i hc
      have := fold_true ms sec i ws (true, rdy sec k) rfl
      refine ⟨this.1, ?_⟩
      have h1 := this.2
      rcases hc.2.2 with h2 | h2
      · rw [h] at h2; cases h2
      · simp only at h1
        exact Int.le_trans (Int.le_of_lt h2) h1
    · exact fold_true ms sec i ws s h
theorem fold_ge (ms : List Mom) (sec : List Int) (i : Int) : ∀ (ws : List Wt) (s : Bool × Int), ∀ k ∈ ws, k.tt = i → keptB ms sec k = true → (ws.foldl (stepB ms sec i) s).1 = true ∧ rdy sec k ≤ (ws.foldl (stepB ms sec i) s).2
  | k' :: ws, s, k, hk, e, hb => by
    rw [List.foldl_cons]
    rcases List.mem_cons.1 hk with rfl | hk
    · unfold stepB
      by_cases hc : s.1 = false ∨ s.2 < rdy sec k
      · rw [if_pos ⟨e, hb, hc⟩]
        have := fold_true ms sec i ws (true, rdy sec k) rfl
        exact ⟨this.1, this.2⟩
      · rw [if_neg (fun h => hc h.2.2)]
        have h1 : s.1 = true := by
          cases h : s.1
          · exact absurd (.inl h) hc
          · rfl
        have := fold_true ms sec i ws s h1
        refine ⟨this.1, ?_⟩
        have h2 : ¬ s.2 < rdy sec k := fun h => hc (.inr h)
        have h3 := this.2
        exact Int.le_trans (Int.not_lt.1 h2) h3
    · exact fold_ge ms sec i ws _ k hk e hb
theorem fold_or (ms : List Mom) (sec : List Int) (i : Int) : ∀ (ws : List Wt) (s : Bool × Int), ws.foldl (stepB ms sec i) s = s ∨ ∃ k ∈ ws, k.tt = i ∧ keptB ms sec k = true ∧ (ws.foldl (stepB ms sec i) s).2 = rdy sec k
  | [], s => .inl rfl
  | k :: ws, s => by
    rw [List.foldl_cons]
    rcases fold_or ms sec i ws (stepB ms sec i s k) with h | ⟨k', hk', h⟩
    · rw [h]
      unfold stepB
      split
      · rename_i hc
        exact .inr ⟨k, List.mem_cons_self, hc.1, hc.2.1, rfl⟩
      · exact .inl rfl
    · exact .inr ⟨k', List.mem_cons_of_mem _ hk', h⟩

theorem prim_acc (i : Int) : ∀ (ps : List Pri) (a : Int), ps.foldl (fun a d => if d.mo = i then a + d.sec else a) a = a + ps.foldl (fun a d => if d.mo = i then a + d.sec else a) 0
  | [], a => by simp
  | d :: ps, a => by
    rw [List.foldl_cons, List.foldl_cons, prim_acc i ps]
    by_cases h : d.mo = i
    · rw [if_pos h, if_pos h, prim_acc i ps (0 + d.sec)]; omega
    · rw [if_neg h, if_neg h]
theorem prim_nil (i : Int) : prim [] i = 0 := rfl
theorem prim_cons (d : Pri) (ps : List Pri) (i : Int) : prim (d :: ps) i = (if d.mo = i then d.sec else 0) + prim ps i := by
  unfold prim
  rw [List.foldl_cons, prim_acc]
  split <;> omega
theorem prim_snoc (ps : List Pri) (d : Pri) (i : Int) : prim (ps ++ [d]) i = prim ps i + if d.mo = i then d.sec else 0 := by
  unfold prim
  rw [List.foldl_append, List.foldl_cons, List.foldl_nil]
  split <;> omega
theorem prim_none (ps : List Pri) (i : Int) (h : i ∉ ps.map Pri.mo) : prim ps i = 0 := by
  induction ps with
  | nil => rfl
  | cons d ps ih =>
    simp at h
    rw [prim_cons, if_neg (fun e => h.1 e.symm), ih (by simpa using h.2)]; rfl
theorem prim_bd (ps : List Pri) (i : Int) (hn : (ps.map Pri.mo).Nodup) (hs : ∀ d ∈ ps, 0 ≤ d.sec ∧ d.sec ≤ 4194304) : 0 ≤ prim ps i ∧ prim ps i ≤ 4194304 := by
  induction ps with
  | nil => simp [prim]
  | cons d ps ih =>
    rw [List.map_cons, List.nodup_cons] at hn
    rw [prim_cons]
    have hd := hs d List.mem_cons_self
    have := ih hn.2 (fun x hx => hs x (List.mem_cons_of_mem _ hx))
    by_cases e : d.mo = i
    · rw [if_pos e, prim_none ps i (by rw [← e]; exact hn.1)]; omega
    · rw [if_neg e]; omega
end Go.Proofs.Ytddkfdfgfkejoaa
