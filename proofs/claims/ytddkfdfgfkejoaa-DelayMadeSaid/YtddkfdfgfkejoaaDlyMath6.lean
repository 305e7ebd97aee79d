import Derived.Test.YtddkfdfgfkejoaaDlyMath5
namespace Go.Proofs.Ytddkfdfgfkejoaa

theorem prim_at {ps : List Pri} {i : Int} (hn : (ps.map Pri.mo).Nodup) (j : Nat) (hj : j < ps.length) (e : ps[j].mo = i) : prim ps i = ps[j].sec := by
  induction ps generalizing j with
  | nil => simp at hj
  | cons d ps ih =>
    rw [List.map_cons, List.nodup_cons] at hn
    rw [prim_cons]
    cases j with
    | zero =>
      simp at e
      rw [if_pos e, prim_none ps i (by rw [← e]; exact hn.1)]; simp
    | succ j =>
      simp at e hj
      have : ¬ d.mo = i := fun h => hn.1 (by rw [h, ← e]; exact List.mem_map.2 ⟨ps[j], List.getElem_mem hj, rfl⟩)
      rw [if_neg this, ih hn.2 j hj e]; simp

def gb (l : List Bool) (i : Int) : Bool := l.getD i.toNat false
theorem gb_nat (l : List Bool) (i : Nat) (h : i < l.length) : gb l i = l[i] := by simp [gb, h]
theorem gb_set (l : List Bool) (i j : Int) (v : Bool) (hi : 0 ≤ i) (hil : i < l.length) (hj : 0 ≤ j) : gb (l.set i.toNat v) j = if j = i then v else gb l j := by
  unfold gb
  rw [List.getD_eq_getElem?_getD, List.getD_eq_getElem?_getD, List.getElem?_set]
  by_cases h : j = i
  · subst h; rw [if_pos rfl, if_pos rfl, if_pos (by omega)]; rfl
  · rw [if_neg (by omega), if_neg h]
/-- moment i may come next, as far as the waits of l tell -/
def freeB (dn : List Bool) (l : List Wt) (i : Int) : Bool := !gb dn i && l.all fun k => k.tt != i || gb dn k.fr
theorem freeB_succ (dn : List Bool) (l : List Wt) (j : Nat) (h : j < l.length) (i : Int) : freeB dn (l.take (j + 1)) i = (freeB dn (l.take j) i && (l[j].tt != i || gb dn l[j].fr)) := by
  unfold freeB
  rw [List.take_succ_eq_append_getElem h, List.all_append]
  simp only [List.all_cons, List.all_nil, Bool.and_true, Bool.and_assoc]
/-- the moments that are done -/
structure RT (n : Nat) (ws : List Wt) (dn : List Bool) (ord : List Int) : Prop where
  len : dn.length = n
  mem : ∀ j : Int, 0 ≤ j → j < (n : Int) → (j ∈ ord ↔ gb dn j = true)
  topo : Topo n ws ord
theorem RT.start (n : Nat) (ws : List Wt) : RT n ws (List.replicate n false) [] :=
  ⟨by simp, fun j h0 h1 => by
    have : gb (List.replicate n false) j = false := by
      unfold gb; rw [List.getD_eq_getElem?_getD, List.getElem?_replicate, if_pos (by omega)]; rfl
    simp [this], ⟨by simp, by simp, fun t ht => by simp at ht⟩⟩
theorem RT.le {n : Nat} {ws : List Wt} {dn : List Bool} {ord : List Int} (h : RT n ws dn ord) : ord.length ≤ n := nodup_le n ord h.topo.nd h.topo.lt
theorem RT.add {n : Nat} {ws : List Wt} {dn : List Bool} {ord : List Int} (h : RT n ws dn ord) (i : Nat) (hi : i < n) (hw : ∀ k ∈ ws, WOk n k) (hf : freeB dn ws i = true) : RT n ws (dn.set i true) (ord ++ [(i : Int)]) := by
  have hl := h.len
  unfold freeB at hf
  rw [Bool.and_eq_true, List.all_eq_true] at hf
  obtain ⟨h1, h2⟩ := hf
  have hno : (i : Int) ∉ ord := fun hm => by
    have := (h.mem i (by omega) (by omega)).1 hm
    rw [this] at h1
    cases h1
  refine ⟨by simp [hl], fun j h0 hj => ?_, ⟨?_, fun x hx => ?_, fun t ht k hk e => ?_⟩⟩
  · have := gb_set dn i j true (by omega) (by omega) h0
    simp only [Int.toNat_natCast] at this
    rw [this, List.mem_append, h.mem j h0 hj]
    by_cases e : j = i
    · simp [e]
    · simp [e]
  · rw [List.nodup_append]
    exact ⟨h.topo.nd, by simp, fun y hy z hz => by simp at hz; subst hz; intro e; subst e; exact hno hy⟩
  · rcases List.mem_append.1 hx with hx | hx
    · exact h.topo.lt x hx
    · simp at hx; subst hx; omega
  · rcases Nat.lt_or_ge t ord.length with h3 | h3
    · rw [List.getElem_append_left h3] at e
      rw [List.take_append_of_le_length (by omega)]
      exact h.topo.pre t h3 k hk e
    · have htt : t = ord.length := by simp at ht; omega
      subst htt
      rw [List.getElem_append_right (by omega)] at e
      simp at e
      rw [List.take_append_of_le_length (by omega), List.take_length]
      have h4 := h2 k hk
      have hok := hw k hk
      rw [e] at h4
      simp at h4
      exact (h.mem k.fr hok.f0 hok.f1).2 h4
theorem RT.stuck {n : Nat} {ws : List Wt} {dn : List Bool} {ord : List Int} (h : RT n ws dn ord) (hn : ord.length < n) (hw : ∀ k ∈ ws, WOk n k) (hf : ∀ j : Nat, j < n → freeB dn ws j = false) : ¬ Acyc ws := by
  rintro ⟨rank, hr⟩
  have key : ∀ r (j : Int), rank j < r → 0 ≤ j → j < n → j ∈ ord := by
    intro r
    induction r with
    | zero => intro j hj; omega
    | succ r ih =>
      intro j hj h0 h1
      refine Classical.byContradiction fun hno => ?_
      have hd : gb dn j = false := by
        cases hh : gb dn j with
        | false => rfl
        | true => exact absurd ((h.mem j h0 h1).2 hh) hno
      have h2 := hf j.toNat (by omega)
      rw [show ((j.toNat : Nat) : Int) = j by omega] at h2
      unfold freeB at h2
      rw [hd] at h2
      simp at h2
      obtain ⟨k, hk, e1, e2⟩ := h2
      have hok := hw k hk
      have h3 := hr k hk
      rw [e1] at h3
      have h4 := (h.mem k.fr hok.f0 hok.f1).1 (ih k.fr (by omega) hok.f0 hok.f1)
      rw [e2] at h4
      cases h4
  have := all_le n ord (fun i hi => key (rank i + 1) i (by omega) (by omega) (by omega))
  omega
theorem RT.done {n : Nat} {ws : List Wt} {dn : List Bool} {ord : List Int} (h : RT n ws dn ord) (hn : n ≤ ord.length) : ord.length = n := by
  have := h.le
  omega

/-- the base as the reference reckons it -/
def stepR (ms : List Mom) (sec : List Int) (i : Int) (s : Bool × Int) (k : Wt) : Bool × Int :=
  if k.tt = i ∧ keptB ms sec k = true ∧ (s.1 = false ∨ s.2 < rdy sec k) then (true, rdy sec k) else s
def baseR (ms : List Mom) (ws : List Wt) (sec : List Int) (i : Int) : Bool × Int := ws.foldl (stepR ms sec i) (false, 0)
theorem foldR (ms : List Mom) (sec : List Int) (i : Int) (T : Int) : ∀ (ws : List Wt) (f : Bool) (v : Int),
    ws.foldl (stepB ms sec i) (true, if f = true then max v T else T) = (true, if (ws.foldl (stepR ms sec i) (f, v)).1 = true then max (ws.foldl (stepR ms sec i) (f, v)).2 T else T)
  | [], f, v => rfl
  | k :: ws, f, v => by
    rw [List.foldl_cons, List.foldl_cons]
    by_cases c : k.tt = i ∧ keptB ms sec k = true
    · by_cases c2 : f = false ∨ v < rdy sec k
      · have e1 : stepR ms sec i (f, v) k = (true, rdy sec k) := by unfold stepR; rw [if_pos ⟨c.1, c.2, c2⟩]
        rw [e1, ← foldR ms sec i T ws true (rdy sec k)]
        congr 1
        unfold stepB
        simp only [Bool.true_eq_false, false_or, if_true]
        by_cases c3 : (if f = true then max v T else T) < rdy sec k
        · rw [if_pos ⟨c.1, c.2, c3⟩]
          congr 1
          have : T ≤ rdy sec k := by split at c3 <;> omega
          omega
        · rw [if_neg (fun h => c3 h.2.2)]
          congr 1
          split at c3 <;> rename_i hf
          · rw [if_pos hf]
            rcases c2 with c2 | c2
            · rw [hf] at c2; cases c2
            · omega
          · rw [if_neg hf]; omega
      · have e1 : stepR ms sec i (f, v) k = (f, v) := by unfold stepR; rw [if_neg (fun h => c2 h.2.2)]
        rw [e1, ← foldR ms sec i T ws f v]
        congr 1
        have hf : f = true := by cases f; exact absurd (.inl rfl) c2; rfl
        have hv : ¬ v < rdy sec k := fun h => c2 (.inr h)
        unfold stepB
        rw [if_neg]
        rintro ⟨_, _, h⟩
        rw [hf] at h
        simp at h
        omega
    · have e1 : stepR ms sec i (f, v) k = (f, v) := by unfold stepR; rw [if_neg (fun h => c ⟨h.1, h.2.1⟩)]
      have e2 : ∀ s, stepB ms sec i s k = s := fun s => by unfold stepB; rw [if_neg (fun h => c ⟨h.1, h.2.1⟩)]
      rw [e1, e2]
      exact foldR ms sec i T ws f v
theorem foldR0 (ms : List Mom) (sec : List Int) (i : Int) (T : Int) : ∀ (ws : List Wt) (f : Bool) (v : Int),
    ws.foldl (stepB ms sec i) (f, if f = true then v else T) = ((ws.foldl (stepR ms sec i) (f, v)).1, if (ws.foldl (stepR ms sec i) (f, v)).1 = true then (ws.foldl (stepR ms sec i) (f, v)).2 else T)
  | [], f, v => rfl
  | k :: ws, f, v => by
    rw [List.foldl_cons, List.foldl_cons]
    by_cases c : k.tt = i ∧ keptB ms sec k = true ∧ (f = false ∨ v < rdy sec k)
    · have e1 : stepR ms sec i (f, v) k = (true, rdy sec k) := by unfold stepR; rw [if_pos c]
      have e2 : stepB ms sec i (f, if f = true then v else T) k = (true, rdy sec k) := by
        unfold stepB
        rw [if_pos]
        refine ⟨c.1, c.2.1, ?_⟩
        cases f
        · exact .inl rfl
        · exact .inr (by rcases c.2.2 with h | h; cases h; exact h)
      rw [e1, e2]
      exact foldR0 ms sec i T ws true (rdy sec k)
    · have e1 : stepR ms sec i (f, v) k = (f, v) := by unfold stepR; rw [if_neg c]
      have e2 : stepB ms sec i (f, if f = true then v else T) k = (f, if f = true then v else T) := by
        unfold stepB
        rw [if_neg]
        rintro ⟨h1, h2, h3⟩
        refine c ⟨h1, h2, ?_⟩
        cases f
        · exact .inl rfl
        · rcases h3 with h | h
          · cases h
          · exact .inr h
      rw [e1, e2]
      exact foldR0 ms sec i T ws f v
/-- the reference's base is the program's -/
theorem baseR_is (ms : List Mom) (ws : List Wt) (sec : List Int) (i : Int) (h0 : 0 ≤ tm ms i) :
    (baseS ms ws sec i).2 = if hd ms i = true ∨ (baseR ms ws sec i).1 = false then max (baseR ms ws sec i).2 (tm ms i) else (baseR ms ws sec i).2 := by
  have hz : (baseR ms ws sec i).1 = false → (baseR ms ws sec i).2 = 0 := by
    have : ∀ (l : List Wt) (f : Bool) (v : Int), (f = false → v = 0) → ((l.foldl (stepR ms sec i) (f, v)).1 = false → (l.foldl (stepR ms sec i) (f, v)).2 = 0) := by
      intro l
      induction l with
      | nil => intro f v h; exact h
      | cons k l ih =>
        intro f v h
        rw [List.foldl_cons]
        unfold stepR
        split
        · exact ih true _ (fun h => by cases h)
        · exact ih f v h
    exact this ws false 0 (fun _ => rfl)
  unfold baseS
  cases hh : hd ms i
  · have := foldR0 ms sec i (tm ms i) ws false 0
    simp only [Bool.false_eq_true, if_false] at this
    rw [this]
    simp only [Bool.false_eq_true, false_or]
    change (if (baseR ms ws sec i).1 = true then (baseR ms ws sec i).2 else tm ms i) = _
    cases hb : (baseR ms ws sec i).1
    · rw [if_neg (by simp), if_pos rfl, hz hb]; omega
    · rw [if_pos rfl, if_neg (by simp)]
  · have := foldR ms sec i (tm ms i) ws false 0
    simp only [Bool.false_eq_true, if_false] at this
    rw [this]
    simp only [true_or, if_true]
    change (if (baseR ms ws sec i).1 = true then max (baseR ms ws sec i).2 (tm ms i) else tm ms i) = _
    cases hb : (baseR ms ws sec i).1
    · rw [if_neg (by simp), hz hb]; omega
    · rw [if_pos rfl]
end Go.Proofs.Ytddkfdfgfkejoaa
