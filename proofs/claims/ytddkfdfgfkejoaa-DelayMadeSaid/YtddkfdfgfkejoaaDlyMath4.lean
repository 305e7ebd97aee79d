import Derived.Test.YtddkfdfgfkejoaaDlyMath3
namespace Go.Proofs.Ytddkfdfgfkejoaa

def Wt.un (k : Wt) : Wt := ⟨k.fr, k.tt, k.mn, -1⟩
def unM (i : Nat) (ws : List Wt) : List Wt := (ws.take i).map Wt.un ++ ws.drop i
theorem unM_zero (ws : List Wt) : unM 0 ws = ws := by simp [unM]
theorem unM_len (i : Nat) (ws : List Wt) : (unM i ws).length = ws.length := by simp [unM]; omega
theorem unM_all (ws : List Wt) : unM ws.length ws = ws.map Wt.un := by simp [unM]
theorem unM_get (i : Nat) (ws : List Wt) (h : i < ws.length) : (unM i ws)[i]'(by rw [unM_len]; exact h) = ws[i] := by
  have : (ws.take i).length = i := by simp; omega
  unfold unM
  rw [List.getElem_append_right (by simp; omega)]
  simp [Nat.min_eq_left (Nat.le_of_lt h)]
theorem unM_set (i : Nat) (ws : List Wt) (h : i < ws.length) : (unM i ws).set i ws[i].un = unM (i + 1) ws := by
  apply List.ext_getElem?
  intro j
  rw [List.getElem?_set, unM_len]
  unfold unM
  by_cases e : i = j
  · subst e
    rw [if_pos rfl, if_pos h, List.getElem?_append_left (by simp; omega), List.getElem?_map, List.getElem?_take, if_pos (by omega), List.getElem?_eq_getElem h]
    rfl
  · rw [if_neg e]
    rcases Nat.lt_or_ge j i with hlt | hge
    · rw [List.getElem?_append_left (by simp; omega), List.getElem?_append_left (by simp; omega), List.getElem?_map, List.getElem?_map, List.getElem?_take, List.getElem?_take, if_pos hlt, if_pos (by omega)]
    · rw [List.getElem?_append_right (by simp; omega), List.getElem?_append_right (by simp; omega)]
      simp only [List.length_map, List.length_take, Nat.min_eq_left (Nat.le_of_lt h), Nat.min_eq_left (show i + 1 ≤ ws.length from h), List.getElem?_drop]
      congr 1
      omega
theorem keptB_un (ms : List Mom) (sec : List Int) (k : Wt) (h : k.mx = -1) : keptB ms sec k = true := by simp [keptB, h]

def ledB (l : List Wt) (i : Int) : Bool := l.any fun k => k.tt == i
def tightB (l : List Wt) (sec : List Int) (i bv : Int) : Bool := l.any fun k => (k.tt == i) && (bv == gi sec k.fr + k.mn)
theorem ledB_succ (l : List Wt) (j : Nat) (h : j < l.length) (i : Int) : ledB (l.take (j + 1)) i = (ledB (l.take j) i || (l[j].tt == i)) := by
  unfold ledB; rw [List.take_succ_eq_append_getElem h, List.any_append]; simp only [List.any_cons, List.any_nil, Bool.or_false]
theorem tightB_succ (l : List Wt) (j : Nat) (h : j < l.length) (sec : List Int) (i bv : Int) : tightB (l.take (j + 1)) sec i bv = (tightB (l.take j) sec i bv || ((l[j].tt == i) && (bv == gi sec l[j].fr + l[j].mn))) := by
  unfold tightB; rw [List.take_succ_eq_append_getElem h, List.any_append]; simp only [List.any_cons, List.any_nil, Bool.or_false]
/-- without connections a base is tight, or the time -/
theorem least_ok {ms : List Mom} {ws : List Wt} {ps : List Pri} {b s : List Int} {k : List Bool} (h : Sol ms ws ps b s k) (hun : ∀ k ∈ ws, k.mx = -1) (i : Int) (h0 : 0 ≤ i) (h1 : i < (ms.length : Int)) :
    tightB ws s i (gi s i - prim ps i) = true ∨ (gi s i - prim ps i = tm ms i ∧ (ledB ws i = true → hd ms i = true)) := by
  have e : gi s i - prim ps i = (baseS ms ws s i).2 := by rw [h.s i h0 h1, h.b i h0 h1]; omega
  rw [e]
  unfold baseS
  rcases fold_or ms s i ws (hd ms i, tm ms i) with e1 | ⟨k, hk, e1, _, hv⟩
  · right
    rw [e1]
    refine ⟨rfl, fun hl => ?_⟩
    obtain ⟨k, hk, e2⟩ := List.any_eq_true.1 hl
    have := (fold_ge ms s i ws (hd ms i, tm ms i) k hk (by simpa using e2) (keptB_un ms s k (hun k hk))).1
    rw [e1] at this
    exact this
  · left
    exact List.any_eq_true.2 ⟨k, hk, by simp [e1, hv, rdy]⟩

/-- two problems without connections, the second with a greater delay d at i -/
theorem fold_mono (ms : List Mom) (s s' : List Int) (j d : Int) : ∀ (ws : List Wt), (∀ k ∈ ws, k.mx = -1) → (∀ k ∈ ws, k.tt = j → gi s k.fr ≤ gi s' k.fr ∧ gi s' k.fr ≤ gi s k.fr + d) → ∀ (f : Bool) (v v' : Int), v ≤ v' → v' ≤ v + d →
    (ws.foldl (stepB ms s j) (f, v)).2 ≤ (ws.foldl (stepB ms s' j) (f, v')).2 ∧ (ws.foldl (stepB ms s' j) (f, v')).2 ≤ (ws.foldl (stepB ms s j) (f, v)).2 + d
  | [], _, _, _, _, _, h1, h2 => ⟨h1, h2⟩
  | k :: ws, hun, hs, f, v, v', h1, h2 => by
    rw [List.foldl_cons, List.foldl_cons]
    have ih := fold_mono ms s s' j d ws (fun x hx => hun x (List.mem_cons_of_mem _ hx)) (fun x hx => hs x (List.mem_cons_of_mem _ hx))
    have hk := keptB_un ms s k (hun k List.mem_cons_self)
    have hk' := keptB_un ms s' k (hun k List.mem_cons_self)
    by_cases e : k.tt = j
    · have hb := hs k List.mem_cons_self e
      unfold stepB
      rw [hk, hk']
      cases f
      · rw [if_pos ⟨e, rfl, .inl rfl⟩, if_pos ⟨e, rfl, .inl rfl⟩]
        exact ih true _ _ (by unfold rdy; omega) (by unfold rdy; omega)
      · simp only [e, true_and, Bool.true_eq_false, false_or]
        by_cases c1 : v < rdy s k
        · by_cases c2 : v' < rdy s' k
          · rw [if_pos c1, if_pos c2]
            exact ih true _ _ (by unfold rdy; omega) (by unfold rdy; omega)
          · rw [if_pos c1, if_neg c2]
            exact ih true _ _ (by unfold rdy at *; omega) (by unfold rdy at *; omega)
        · by_cases c2 : v' < rdy s' k
          · rw [if_neg c1, if_pos c2]
            exact ih true _ _ (by unfold rdy at *; omega) (by unfold rdy at *; omega)
          · rw [if_neg c1, if_neg c2]
            exact ih true _ _ h1 h2
    · unfold stepB
      rw [if_neg (fun h => e h.1), if_neg (fun h => e h.1)]
      exact ih f v v' h1 h2
theorem mono_ok {ms : List Mom} {ws : List Wt} {ps ps' : List Pri} {b s b' s' : List Int} {k k' : List Bool} (h : Sol ms ws ps b s k) (h' : Sol ms ws ps' b' s' k') (hun : ∀ k ∈ ws, k.mx = -1) (hw : ∀ k ∈ ws, 0 ≤ k.fr ∧ k.fr < k.tt ∧ k.tt < (ms.length : Int)) (i d : Int) (hd0 : 0 ≤ d)
    (hp : ∀ j, prim ps' j = prim ps j + if j = i then d else 0) : ∀ (n : Nat) (j : Int), j = n → j < (ms.length : Int) → gi s j ≤ gi s' j ∧ gi s' j ≤ gi s j + d ∧ (j < i → gi s' j = gi s j) := by
  intro n
  induction n using Nat.strongRecOn with
  | _ n ih =>
    intro j hj h1
    have h0 : 0 ≤ j := by omega
    have hpre : ∀ k ∈ ws, k.tt = j → gi s k.fr ≤ gi s' k.fr ∧ gi s' k.fr ≤ gi s k.fr + (if j ≤ i then 0 else d) := fun k hk e => by
      have hk' := hw k hk
      have := ih k.fr.toNat (by omega) k.fr (by omega) (by omega)
      split <;> omega
    have hf := fold_mono ms s s' j (if j ≤ i then 0 else d) ws hun hpre (hd ms j) (tm ms j) (tm ms j) (Int.le_refl _) (by split <;> omega)
    rw [h.s j h0 h1, h'.s j h0 h1, h.b j h0 h1, h'.b j h0 h1, hp j]
    unfold baseS
    revert hf
    generalize (ws.foldl (stepB ms s j) (hd ms j, tm ms j)).2 = x
    generalize (ws.foldl (stepB ms s' j) (hd ms j, tm ms j)).2 = y
    intro hf
    by_cases e1 : j = i
    · rw [if_pos e1]; rw [if_pos (by omega)] at hf; omega
    · rw [if_neg e1]
      split at hf <;> omega
theorem mono_eq {ms : List Mom} {ws : List Wt} {ps ps' : List Pri} {b s b' s' : List Int} {k k' : List Bool} (h : Sol ms ws ps b s k) (h' : Sol ms ws ps' b' s' k') (hun : ∀ k ∈ ws, k.mx = -1) (hw : ∀ k ∈ ws, 0 ≤ k.fr ∧ k.fr < k.tt ∧ k.tt < (ms.length : Int)) (i d : Int) (hd0 : 0 ≤ d)
    (hp : ∀ j, prim ps' j = prim ps j + if j = i then d else 0) (h0 : 0 ≤ i) (h1 : i < (ms.length : Int)) : gi s' i = gi s i + d := by
  have hpre : ∀ k ∈ ws, k.tt = i → gi s k.fr = gi s' k.fr := fun k hk e => by
    have hk' := hw k hk
    exact ((mono_ok h h' hun hw i d hd0 hp k.fr.toNat k.fr (by omega) (by omega)).2.2 (by omega)).symm
  rw [h.s i h0 h1, h'.s i h0 h1, h.b i h0 h1, h'.b i h0 h1, hp i, baseS_congr ms ws s s' i hpre, if_pos rfl]
  omega

/-- the delays, the one at i greater by d -/
def incP (ps : List Pri) (i d : Int) : List Pri := ps.map fun x => if x.mo = i then ⟨x.mo, x.sec + d⟩ else x
theorem incP_mo (ps : List Pri) (i d : Int) : (incP ps i d).map Pri.mo = ps.map Pri.mo := by
  unfold incP
  rw [List.map_map]
  apply List.map_congr_left
  intro x _
  simp only [Function.comp]
  split <;> rfl
theorem prim_inc (i d : Int) : ∀ (ps : List Pri), (ps.map Pri.mo).Nodup → i ∈ ps.map Pri.mo → ∀ j, prim (incP ps i d) j = prim ps j + if j = i then d else 0
  | [], _, hm, _ => by simp at hm
  | x :: ps, hn, hm, j => by
    rw [List.map_cons, List.nodup_cons] at hn
    rw [show incP (x :: ps) i d = (if x.mo = i then ⟨x.mo, x.sec + d⟩ else x) :: incP ps i d from rfl, prim_cons, prim_cons]
    by_cases e : x.mo = i
    · have hno : i ∉ ps.map Pri.mo := by rw [← e]; exact hn.1
      have hsame : ∀ l : List Pri, i ∉ l.map Pri.mo → incP l i d = l := fun l hl => by
        unfold incP
        conv => rhs; rw [← List.map_id l]
        apply List.map_congr_left
        intro y hy
        rw [if_neg (fun e => hl (List.mem_map.2 ⟨y, hy, e⟩))]
        rfl
      rw [hsame ps hno, if_pos e]
      by_cases e2 : j = i
      · subst e2; simp only [e, if_true]; omega
      · have : ¬ x.mo = j := fun h => e2 (by omega)
        rw [if_neg e2]; simp only [this, if_false]; omega
    · have hm' : i ∈ ps.map Pri.mo := by
        rcases List.mem_cons.1 hm with h | h
        · exact absurd h.symm e
        · exact h
      rw [prim_inc i d ps hn.2 hm' j, if_neg e]
      omega

/-- a schedule that satisfies all waits is kept -/
theorem fold_ontime (ms : List Mom) (s : List Int) (j T : Int) : ∀ (ws : List Wt), (∀ k ∈ ws, k.tt = j → rdy s k ≤ T) → ∀ (f : Bool) (v : Int), v ≤ T → (ws.foldl (stepB ms s j) (f, v)).2 ≤ T
  | [], _, _, _, h => h
  | k :: ws, hs, f, v, h => by
    rw [List.foldl_cons]
    have ih := fold_ontime ms s j T ws (fun x hx => hs x (List.mem_cons_of_mem _ hx))
    unfold stepB
    split
    · rename_i hc
      exact ih true _ (hs k List.mem_cons_self hc.1)
    · exact ih f v h
theorem ontime_ok {ms : List Mom} {ws : List Wt} {b s : List Int} {k : List Bool} (h : Sol ms ws [] b s k) (hw : ∀ k ∈ ws, 0 ≤ k.fr ∧ k.fr < k.tt ∧ k.tt < (ms.length : Int) ∧ -1 ≤ k.mx) (ht : ∀ k ∈ ws, tm ms k.fr + k.mn ≤ tm ms k.tt) :
    ∀ (n : Nat) (j : Int), j = n → j < (ms.length : Int) → gi s j ≤ tm ms j := by
  intro n
  induction n using Nat.strongRecOn with
  | _ n ih =>
    intro j hj h1
    have h0 : 0 ≤ j := by omega
    rw [h.s j h0 h1, h.b j h0 h1, prim_nil]
    have := fold_ontime ms s j (tm ms j) ws (fun k hk e => by
      have hk' := hw k hk
      have h2 := ih k.fr.toNat (by omega) k.fr (by omega) (by omega)
      have h3 := ht k hk
      unfold rdy
      rw [e] at h3
      omega) (hd ms j) (tm ms j) (Int.le_refl _)
    unfold baseS
    omega
theorem ontime_hold {ms : List Mom} {ws : List Wt} {b s : List Int} {k : List Bool} (h : Sol ms ws [] b s k) (j : Int) (h0 : 0 ≤ j) (h1 : j < (ms.length : Int)) (hh : hd ms j = true) : tm ms j ≤ gi s j := by
  rw [h.s j h0 h1, h.b j h0 h1, prim_nil]
  have := (fold_true ms s j ws (hd ms j, tm ms j) hh).2
  unfold baseS
  simp only at this
  omega
theorem ontime_kept {ms : List Mom} {ws : List Wt} {b s : List Int} {kp : List Bool} (h : Sol ms ws [] b s kp) (hw : ∀ k ∈ ws, 0 ≤ k.fr ∧ k.fr < k.tt ∧ k.tt < (ms.length : Int) ∧ -1 ≤ k.mx) (ht : ∀ k ∈ ws, tm ms k.fr + k.mn ≤ tm ms k.tt) : ∀ x ∈ kp, x = true := by
  intro x hx
  obtain ⟨a, ha, rfl⟩ := List.getElem_of_mem hx
  have ha' : a < ws.length := by rw [← h.lk]; exact ha
  have := h.k a ha'
  rw [List.getElem?_eq_getElem ha] at this
  injection this with this
  rw [this]
  have hm := List.getElem_mem ha'
  have hk' := hw _ hm
  have h3 := ht _ hm
  have h2 := ontime_ok h hw ht (ws[a].fr.toNat) ws[a].fr (by omega) (by omega)
  unfold keptB rdy
  by_cases e : ws[a].mx = -1
  · simp [e]
  · have : decide (gi s ws[a].fr + ws[a].mn ≤ tm ms ws[a].tt + ws[a].mx) = true := by simp; omega
    rw [this, Bool.or_true]
end Go.Proofs.Ytddkfdfgfkejoaa
