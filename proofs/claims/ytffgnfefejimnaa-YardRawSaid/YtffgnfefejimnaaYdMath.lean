
namespace Go.Proofs.Ytffgnfefejimnaa
/-! Stabling tracks: the state and the search, as lists. -/
structure Tk where
  ln : Int
  thr : Bool
structure Mv where
  inn : Bool
  kind : Int
  ln : Int
structure Un where
  num : Nat
  kind : Int
  ln : Int
def tkOk (t : Tk) : Bool := decide (0 ≤ t.ln) && decide (t.ln ≤ 1048576)
def mvOk (m : Mv) : Bool := decide (0 ≤ m.kind) && decide (m.kind ≤ 1048576) && (if m.inn then decide (1 ≤ m.ln) && decide (m.ln ≤ 1000) else decide (m.ln = 0))
def chkY (T : List Tk) (M : List Mv) : Bool := decide (1 ≤ T.length) && decide (T.length ≤ 8) && decide (M.length ≤ 24) && T.all tkOk && M.all mvOk
def sumU : List Un → Int
  | [] => 0
  | u :: r => u.ln + sumU r
structure Yst where
  on : List (List Un)
  nx : Nat
def rowY (s : Yst) (t : Nat) : List Un := s.on[t]?.getD []
def trk (T : List Tk) (t : Nat) : Tk := T[t]?.getD ⟨0, false⟩
def plc (thr : Bool) (r : List Un) : Nat := if thr then 0 else r.length - 1
def actY (T : List Tk) (m : Mv) (t : Nat) (s : Yst) : Option (Un × Yst) :=
  if m.inn then
    if m.ln + sumU (rowY s t) ≤ (trk T t).ln then some (⟨s.nx, m.kind, m.ln⟩, ⟨s.on.set t (rowY s t ++ [⟨s.nx, m.kind, m.ln⟩]), s.nx + 1⟩) else none
  else
    match (rowY s t)[plc (trk T t).thr (rowY s t)]? with
    | none => none
    | some u => if u.kind = m.kind then some (u, ⟨s.on.set t ((rowY s t).eraseIdx (plc (trk T t).thr (rowY s t))), s.nx⟩) else none
/-- the units of the moves of a plan -/
def replY (T : List Tk) : List Mv → List Int → Yst → Option (List Nat)
  | [], _, _ => some []
  | _ :: _, [], _ => none
  | m :: ms, p :: ps, s =>
    if 0 ≤ p ∧ p < (T.length : Int) then
      match actY T m p.toNat s with
      | none => none
      | some (u, s') => (replY T ms ps s').map fun l => u.num :: l
    else none
def begY (T : List Tk) : Yst := ⟨List.replicate T.length [], 0⟩
def replF (T : List Tk) (M : List Mv) (P : List Int) : List Nat × Bool :=
  if chkY T M = true ∧ P.length = M.length then
    match replY T M P (begY T) with
    | some l => (l, true)
    | none => ([], false)
  else ([], false)
/-- what the search answers: a code, the steps used, the rest of the plan -/
structure Rs where
  c : Nat
  used : Nat
  plan : List Nat
def triesY (T : List Tk) (b : Nat) (m : Mv) (s : Yst) (f : Yst → Nat → Rs) : Nat → Nat → Rs
  | 0, used => ⟨14, used, []⟩
  | k + 1, used =>
    if used = b then ⟨15, used, []⟩
    else match actY T m (T.length - (k + 1)) s with
      | none => triesY T b m s f k (used + 1)
      | some (_, s') =>
        if (f s' (used + 1)).c = 14 then triesY T b m s f k (f s' (used + 1)).used
        else ⟨(f s' (used + 1)).c, (f s' (used + 1)).used, (T.length - (k + 1)) :: (f s' (used + 1)).plan⟩
def srchY (T : List Tk) (b : Nat) : List Mv → Yst → Nat → Rs
  | [], _, used => ⟨0, used, []⟩
  | m :: ms, s, used => triesY T b m s (srchY T b ms) T.length used
def planR (r : Rs) : List Nat × Nat × Nat := if r.c = 0 then (r.plan, r.used, 0) else if r.c = 14 then ([], r.used, 14) else ([], 0, r.c)
def planF (T : List Tk) (M : List Mv) (b : Int) : List Nat × Nat × Nat :=
  if chkY T M = true then
    if 1 ≤ b ∧ b ≤ 1048576 then planR (srchY T b.toNat M (begY T) 0) else ([], 0, 4)
  else ([], 0, 1)
def stuckG (T : List Tk) (M : List Mv) (b : Int) : Nat → Nat → Nat × Nat
  | 0, _ => (0, 0)
  | n + 1, k => if (planF T (M.take k) b).2.2 = 0 then stuckG T M b n (k + 1) else if (planF T (M.take k) b).2.2 = 14 then (k, 0) else (0, (planF T (M.take k) b).2.2)
def stuckF (T : List Tk) (M : List Mv) (b : Int) : Nat × Nat :=
  if chkY T M = true then
    if 1 ≤ b ∧ b ≤ 1048576 then stuckG T M b M.length 1 else (0, 4)
  else (0, 1)

/-- the state as the walks need it: i moves have been performed -/
structure YOk (T : List Tk) (i : Nat) (s : Yst) : Prop where
  n : s.on.length = T.length
  nx : s.nx ≤ i
  ln : ∀ r ∈ s.on, r.length ≤ i
  un : ∀ r ∈ s.on, ∀ u ∈ r, u.num < s.nx ∧ (0 ≤ u.kind ∧ u.kind ≤ 1048576) ∧ (1 ≤ u.ln ∧ u.ln ≤ 1000)
theorem sumU_app (r q : List Un) : sumU (r ++ q) = sumU r + sumU q := by
  induction r with
  | nil => simp [sumU]
  | cons u r ih => simp [sumU, ih]; omega
theorem sumU_bd (r : List Un) (h : ∀ u ∈ r, 0 ≤ u.ln ∧ u.ln ≤ 1000) : 0 ≤ sumU r ∧ sumU r ≤ r.length * 1000 := by
  induction r with
  | nil => simp [sumU]
  | cons u r ih =>
    have h1 := h u (by simp)
    have h2 := ih fun v hv => h v (by simp [hv])
    simp only [sumU, List.length_cons]
    omega
theorem sumU_erase (r : List Un) (p : Nat) (hp : p < r.length) : sumU (r.eraseIdx p) = sumU r - r[p].ln := by
  induction r generalizing p with
  | nil => simp at hp
  | cons u r ih =>
    cases p with
    | zero => simp [sumU]; omega
    | succ p =>
      simp only [List.length_cons] at hp
      simp only [List.eraseIdx_cons_succ, sumU, List.getElem_cons_succ, ih p (by omega)]
      omega
theorem rowY_get {s : Yst} {t : Nat} (h : t < s.on.length) : rowY s t = s.on[t] := by simp [rowY, h]
theorem rowY_mem {s : Yst} {t : Nat} (h : t < s.on.length) : rowY s t ∈ s.on := by rw [rowY_get h]; simp
theorem trk_get {T : List Tk} {t : Nat} (h : t < T.length) : trk T t = T[t] := by simp [trk, h]
theorem plc_lt (thr : Bool) {r : List Un} (h : r ≠ []) : plc thr r < r.length := by
  have := List.length_pos_iff.2 h
  unfold plc; split <;> omega
theorem YOk.row {T : List Tk} {i t : Nat} {s : Yst} (h : YOk T i s) (ht : t < T.length) : (rowY s t).length ≤ i ∧ (∀ u ∈ rowY s t, u.num < s.nx ∧ (0 ≤ u.kind ∧ u.kind ≤ 1048576) ∧ (1 ≤ u.ln ∧ u.ln ≤ 1000)) ∧ 0 ≤ sumU (rowY s t) ∧ sumU (rowY s t) ≤ i * 1000 := by
  have hm := rowY_mem (s := s) (t := t) (by rw [h.n]; exact ht)
  have h1 := h.ln _ hm
  have h2 := sumU_bd (rowY s t) fun u hu => by have := h.un _ hm u hu; omega
  exact ⟨h1, h.un _ hm, h2.1, by omega⟩
theorem YOk.set {T : List Tk} {i t : Nat} {s : Yst} (h : YOk T i s) (r : List Un) (nx : Nat) (h1 : s.nx ≤ nx) (h2 : nx ≤ i + 1) (h3 : r.length ≤ i + 1)
    (h4 : ∀ u ∈ r, u.num < nx ∧ (0 ≤ u.kind ∧ u.kind ≤ 1048576) ∧ (1 ≤ u.ln ∧ u.ln ≤ 1000)) : YOk T (i + 1) ⟨s.on.set t r, nx⟩ := by
  refine ⟨by simp [h.n], h2, fun q hq => ?_, fun q hq u hu => ?_⟩
  · rcases List.mem_or_eq_of_mem_set hq with hq | rfl
    · have := h.ln q hq; omega
    · exact h3
  · rcases List.mem_or_eq_of_mem_set hq with hq | rfl
    · have := h.un q hq u hu; exact ⟨by simp only; omega, this.2⟩
    · exact h4 u hu
theorem begY_ok (T : List Tk) (i : Nat) : YOk T i (begY T) := by
  refine ⟨by simp [begY], by simp [begY], fun r hr => ?_, fun r hr u hu => ?_⟩
  · obtain rfl := (List.mem_replicate.1 hr).2; simp
  · obtain rfl := (List.mem_replicate.1 hr).2; simp at hu
theorem actY_in {T : List Tk} {m : Mv} {t : Nat} {s : Yst} (h : m.inn = true) : actY T m t s = if m.ln + sumU (rowY s t) ≤ (trk T t).ln then some (⟨s.nx, m.kind, m.ln⟩, ⟨s.on.set t (rowY s t ++ [⟨s.nx, m.kind, m.ln⟩]), s.nx + 1⟩) else none := by
  unfold actY; rw [if_pos h]
theorem actY_nil {T : List Tk} {m : Mv} {t : Nat} {s : Yst} (h : m.inn = false) (h1 : rowY s t = []) : actY T m t s = none := by
  unfold actY; rw [if_neg (by simp [h]), h1]; rfl
theorem actY_out {T : List Tk} {m : Mv} {t : Nat} {s : Yst} (h : m.inn = false) (hp : plc (trk T t).thr (rowY s t) < (rowY s t).length) :
    actY T m t s = if (rowY s t)[plc (trk T t).thr (rowY s t)].kind = m.kind then some ((rowY s t)[plc (trk T t).thr (rowY s t)], ⟨s.on.set t ((rowY s t).eraseIdx (plc (trk T t).thr (rowY s t))), s.nx⟩) else none := by
  unfold actY; rw [if_neg (by simp [h]), List.getElem?_eq_getElem hp]
theorem actY_ok {T : List Tk} {m : Mv} {i t : Nat} {s s' : Yst} {u : Un} (h : YOk T i s) (ht : t < T.length) (hm : mvOk m = true) (ha : actY T m t s = some (u, s')) : YOk T (i + 1) s' := by
  obtain ⟨hr1, hr2, _, _⟩ := h.row ht
  cases hin : m.inn with
  | true =>
    rw [actY_in hin] at ha
    split at ha
    · injection ha with ha
      injection ha with _ ha
      subst ha
      refine h.set _ _ (by omega) (by have := h.nx; omega) (by simp; omega) fun v hv => ?_
      rcases List.mem_append.1 hv with hv | hv
      · have := hr2 v hv; exact ⟨by omega, this.2⟩
      · simp at hv; subst hv
        simp [mvOk, hin] at hm
        exact ⟨by simp, by simp only; omega, by simp only; omega⟩
    · cases ha
  | false =>
    by_cases h0 : rowY s t = []
    · rw [actY_nil hin h0] at ha; cases ha
    · rw [actY_out hin (plc_lt _ h0)] at ha
      split at ha
      · injection ha with ha
        injection ha with _ ha
        subst ha
        refine h.set _ _ (Nat.le_refl _) (by have := h.nx; omega) (by have := List.length_eraseIdx_le (rowY s t) (plc (trk T t).thr (rowY s t)); omega) fun v hv => hr2 v (List.mem_of_mem_eraseIdx hv)
      · cases ha
end Go.Proofs.Ytffgnfefejimnaa
