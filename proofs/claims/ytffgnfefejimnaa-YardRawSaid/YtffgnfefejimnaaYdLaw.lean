import Derived.Test.YtffgnfefejimnaaYdMath
namespace Go.Proofs.Ytffgnfefejimnaa
/-! What the search knows: it finds a plan exactly if there is one. -/
def FeasY (T : List Tk) : List Mv → Yst → Prop
  | [], _ => True
  | m :: ms, s => ∃ t, t < T.length ∧ ∃ u s', actY T m t s = some (u, s') ∧ FeasY T ms s'
def cntY (k : Nat) : Nat → Nat
  | 0 => 0
  | n + 1 => k * (1 + cntY k n)
def TryOk (T : List Tk) (m : Mv) (Q : Yst → Prop) (s : Yst) (lo : Nat) : Prop := ∃ t, lo ≤ t ∧ t < T.length ∧ ∃ u s', actY T m t s = some (u, s') ∧ Q s'
theorem tries_full {T : List Tk} {b c0 : Nat} {m : Mv} {s : Yst} {f : Yst → Nat → Rs} {Q : Yst → Prop} (hf : ∀ s u, u + c0 ≤ b → (f s u).used ≤ u + c0 ∧ ((f s u).c = 0 ∧ Q s ∨ (f s u).c = 14 ∧ ¬ Q s)) :
    ∀ k u, k ≤ T.length → u + k * (1 + c0) ≤ b → (triesY T b m s f k u).used ≤ u + k * (1 + c0) ∧ ((triesY T b m s f k u).c = 0 ∧ TryOk T m Q s (T.length - k) ∨ (triesY T b m s f k u).c = 14 ∧ ¬ TryOk T m Q s (T.length - k)) := by
  intro k
  induction k with
  | zero =>
    intro u _ _
    refine ⟨by simp [triesY], .inr ⟨rfl, ?_⟩⟩
    rintro ⟨t, h1, h2, _⟩
    omega
  | succ k ih =>
    intro u hk hb
    have e1 : (k + 1) * (1 + c0) = k * (1 + c0) + (1 + c0) := Nat.succ_mul k (1 + c0)
    rw [e1] at hb ⊢
    unfold triesY
    rw [if_neg (by omega)]
    cases ha : actY T m (T.length - (k + 1)) s with
    | none =>
      obtain ⟨i1, i2⟩ := ih (u + 1) (by omega) (by omega)
      refine ⟨by simp only; omega, ?_⟩
      rcases i2 with ⟨h1, t, h2, h3⟩ | ⟨h1, h2⟩
      · exact .inl ⟨h1, t, by omega, h3⟩
      · refine .inr ⟨h1, ?_⟩
        rintro ⟨t, h3, h4, v, s', h5, h6⟩
        rcases Nat.lt_or_ge t (T.length - k) with h | h
        · obtain rfl : t = T.length - (k + 1) := by omega
          rw [ha] at h5; cases h5
        · exact h2 ⟨t, h, h4, v, s', h5, h6⟩
    | some p =>
      obtain ⟨v, s1⟩ := p
      simp only
      obtain ⟨f1, f2⟩ := hf s1 (u + 1) (by omega)
      rcases f2 with ⟨g1, g2⟩ | ⟨g1, g2⟩
      · rw [if_neg (by omega)]
        refine ⟨by simp only; omega, .inl ⟨g1, T.length - (k + 1), Nat.le_refl _, by omega, v, s1, ha, g2⟩⟩
      · rw [if_pos g1]
        obtain ⟨i1, i2⟩ := ih (f s1 (u + 1)).used (by omega) (by omega)
        refine ⟨by omega, ?_⟩
        rcases i2 with ⟨h1, t, h2, h3⟩ | ⟨h1, h2⟩
        · exact .inl ⟨h1, t, by omega, h3⟩
        · refine .inr ⟨h1, ?_⟩
          rintro ⟨t, h3, h4, v', s', h5, h6⟩
          rcases Nat.lt_or_ge t (T.length - k) with h | h
          · obtain rfl : t = T.length - (k + 1) := by omega
            rw [ha] at h5
            injection h5 with h5
            injection h5 with h7 h8
            subst h8
            exact g2 h6
          · exact h2 ⟨t, h, h4, v', s', h5, h6⟩
theorem srch_full (T : List Tk) (b : Nat) : ∀ (ms : List Mv) (s : Yst) (u : Nat), u + cntY T.length ms.length ≤ b → (srchY T b ms s u).used ≤ u + cntY T.length ms.length ∧ ((srchY T b ms s u).c = 0 ∧ FeasY T ms s ∨ (srchY T b ms s u).c = 14 ∧ ¬ FeasY T ms s) := by
  intro ms
  induction ms with
  | nil => intro s u _; exact ⟨by simp [srchY], .inl ⟨rfl, trivial⟩⟩
  | cons m ms ih =>
    intro s u hb
    obtain ⟨h1, h2⟩ := tries_full (m := m) (s := s) (f := srchY T b ms) (Q := FeasY T ms) (fun s u h => ih s u h) T.length u (Nat.le_refl _) hb
    refine ⟨h1, ?_⟩
    have he : TryOk T m (FeasY T ms) s (T.length - T.length) ↔ FeasY T (m :: ms) s := by
      constructor
      · rintro ⟨t, _, a, b⟩; exact ⟨t, a, b⟩
      · rintro ⟨t, a, b⟩; exact ⟨t, by omega, a, b⟩
    rcases h2 with ⟨a, b⟩ | ⟨a, b⟩
    · exact .inl ⟨a, he.1 b⟩
    · exact .inr ⟨a, fun h => b (he.2 h)⟩
theorem cntY_mono {k k' : Nat} (hk : k ≤ k') : ∀ {n n' : Nat}, n ≤ n' → cntY k n ≤ cntY k' n' := by
  intro n
  induction n with
  | zero => intro n' _; exact Nat.zero_le _
  | succ n ih =>
    intro n' h
    cases n' with
    | zero => omega
    | succ n' => exact Nat.mul_le_mul hk (Nat.add_le_add_left (ih (by omega)) 1)
/-- with the greatest budget Plan tells whether there is a plan, and nothing else -/
theorem plan_full {T : List Tk} {M : List Mv} (hc : chkY T M = true) (hT : T.length ≤ 4) (hM : M.length ≤ 7) : (planF T M 1048576).2.2 = 0 ∧ FeasY T M (begY T) ∨ (planF T M 1048576).2.2 = 14 ∧ ¬ FeasY T M (begY T) := by
  have h0 : cntY T.length M.length ≤ cntY 4 7 := cntY_mono hT hM
  have h1 : cntY 4 7 = 21844 := by decide
  obtain ⟨_, h2⟩ := srch_full T 1048576 M (begY T) 0 (by omega)
  have hp : planF T M 1048576 = planR (srchY T 1048576 M (begY T) 0) := by unfold planF; rw [if_pos hc, if_pos (by omega)]; rfl
  rw [hp]
  rcases h2 with ⟨a, b⟩ | ⟨a, b⟩
  · left; refine ⟨?_, b⟩; simp [planR, a]
  · right; refine ⟨?_, b⟩; simp [planR, a]
/-- T' is T with longer tracks, and perhaps more of them -/
structure Lng (T T' : List Tk) : Prop where
  n : T.length ≤ T'.length
  l : ∀ t, t < T.length → (trk T t).ln ≤ (trk T' t).ln
  h : ∀ t, t < T.length → (trk T t).thr = (trk T' t).thr
structure SimY (n : Nat) (s s' : Yst) : Prop where
  a : s.on.length = n
  b : n ≤ s'.on.length
  r : ∀ t, t < n → rowY s t = rowY s' t
  x : s.nx = s'.nx
theorem SimY.set {n : Nat} {s s' : Yst} (h : SimY n s s') {t : Nat} (_ht : t < n) (r : List Un) (nx : Nat) : SimY n ⟨s.on.set t r, nx⟩ ⟨s'.on.set t r, nx⟩ := by
  refine ⟨by simp [h.a], by simp; exact h.b, fun i hi => ?_, rfl⟩
  have h1 := h.r i hi
  have ha := h.a
  have hb := h.b
  unfold rowY at h1 ⊢
  simp only [List.getElem?_set]
  by_cases e : t = i
  · subst e; rw [if_pos rfl, if_pos rfl, if_pos (by omega), if_pos (by omega)]
  · rw [if_neg e, if_neg e]; exact h1
theorem act_sim {T T' : List Tk} (hl : Lng T T') {m : Mv} {t : Nat} {s s' s1 : Yst} {u : Un} (ht : t < T.length) (hs : SimY T.length s s') (ha : actY T m t s = some (u, s1)) : ∃ s1', actY T' m t s' = some (u, s1') ∧ SimY T.length s1 s1' := by
  have hr := hs.r t ht
  have hx := hs.x
  have hln := hl.l t ht
  have hth := hl.h t ht
  cases hin : m.inn with
  | true =>
    rw [actY_in hin] at ha ⊢
    rw [← hr, ← hx]
    split at ha
    · injection ha with ha
      injection ha with h1 h2
      subst h1 h2
      rw [if_pos (by omega)]
      exact ⟨_, rfl, hs.set ht _ _⟩
    · cases ha
  | false =>
    unfold actY at ha ⊢
    rw [if_neg (by simp [hin])] at ha ⊢
    rw [← hr, ← hth, ← hx]
    split at ha
    · cases ha
    · rename_i v hv
      split at ha
      · rename_i hk
        injection ha with ha
        injection ha with h1 h2
        subst h1 h2
        refine ⟨⟨s'.on.set t ((rowY s t).eraseIdx (plc (trk T t).thr (rowY s t))), s.nx⟩, ?_, hs.set ht _ _⟩
        exact if_pos hk
      · cases ha
theorem feas_sim {T T' : List Tk} (hl : Lng T T') : ∀ (ms : List Mv) (s s' : Yst), SimY T.length s s' → FeasY T ms s → FeasY T' ms s' := by
  intro ms
  induction ms with
  | nil => intro s s' _ _; trivial
  | cons m ms ih =>
    rintro s s' hs ⟨t, ht, u, s1, ha, hf⟩
    obtain ⟨s1', ha', hs1⟩ := act_sim hl ht hs ha
    exact ⟨t, Nat.lt_of_lt_of_le ht hl.n, u, s1', ha', ih s1 s1' hs1 hf⟩
theorem feas_long {T T' : List Tk} (hl : Lng T T') {M : List Mv} (h : FeasY T M (begY T)) : FeasY T' M (begY T') := by
  refine feas_sim hl M (begY T) (begY T') ⟨by simp [begY], by simp [begY]; exact hl.n, fun t ht => ?_, rfl⟩ h
  simp [begY, rowY, ht, Nat.lt_of_lt_of_le ht hl.n]
theorem lng_set {T : List Tk} {i : Nat} (hi : i < T.length) {x : Int} (hx : T[i].ln ≤ x) : Lng T (T.set i ⟨x, T[i].thr⟩) := by
  refine ⟨by simp, fun t ht => ?_, fun t ht => ?_⟩
  · unfold trk
    rw [List.getElem?_set]
    by_cases e : i = t
    · subst e; rw [if_pos rfl, if_pos hi]; simp [hi]; exact hx
    · rw [if_neg e]; exact Int.le_refl _
  · unfold trk
    rw [List.getElem?_set]
    by_cases e : i = t
    · subst e; rw [if_pos rfl, if_pos hi]; simp [hi]
    · rw [if_neg e]
theorem lng_snoc (T : List Tk) (k : Tk) : Lng T (T ++ [k]) := by
  refine ⟨by simp, fun t ht => ?_, fun t ht => ?_⟩
  · unfold trk; rw [List.getElem?_append_left ht]; exact Int.le_refl _
  · unfold trk; rw [List.getElem?_append_left ht]
theorem Lng.trans {A B C : List Tk} (h : Lng A B) (h' : Lng B C) : Lng A C :=
  ⟨Nat.le_trans h.n h'.n, fun t ht => Int.le_trans (h.l t ht) (h'.l t (Nat.lt_of_lt_of_le ht h.n)), fun t ht => (h.h t ht).trans (h'.h t (Nat.lt_of_lt_of_le ht h.n))⟩
end Go.Proofs.Ytffgnfefejimnaa
