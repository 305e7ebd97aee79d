import Derived.Test.YtffgnfefejimnaaYd6
namespace Go.Proofs.Ytffgnfefejimnaa
/-! Which units are in the yard. -/
theorem flat_set (on : List (List Un)) (t : Nat) (ht : t < on.length) : ∃ rest, on.flatten.Perm (on[t] ++ rest) ∧ ∀ r', (on.set t r').flatten.Perm (r' ++ rest) := by
  induction on generalizing t with
  | nil => simp at ht
  | cons q on ih =>
    cases t with
    | zero => exact ⟨on.flatten, by simp, fun r' => by simp⟩
    | succ t =>
      obtain ⟨rest, h1, h2⟩ := ih t (by simpa using ht)
      refine ⟨q ++ rest, ?_, fun r' => ?_⟩
      · simp only [List.flatten_cons, List.getElem_cons_succ]
        refine (List.Perm.append_left q h1).trans ?_
        rw [← List.append_assoc, ← List.append_assoc]
        exact List.Perm.append_right rest List.perm_append_comm
      · simp only [List.set_cons_succ, List.flatten_cons]
        refine (List.Perm.append_left q (h2 r')).trans ?_
        rw [← List.append_assoc, ← List.append_assoc]
        exact List.Perm.append_right rest List.perm_append_comm
theorem ers_perm (l : List Un) (p : Nat) (h : p < l.length) : l.Perm (l[p] :: l.eraseIdx p) := by
  induction l generalizing p with
  | nil => simp at h
  | cons a l ih =>
    cases p with
    | zero => simp
    | succ p =>
      simp only [List.getElem_cons_succ, List.eraseIdx_cons_succ]
      exact (List.Perm.cons a (ih p (by simpa using h))).trans (List.Perm.swap _ _ _)
structure InvY (s : Yst) (K : List Int) (G : Nat → Bool) : Prop where
  x : s.nx = K.length
  u : ∀ v ∈ s.on.flatten, K[v.num]? = some v.kind ∧ G v.num = false
  d : (s.on.flatten.map (·.num)).Nodup
theorem inv_in {T : List Tk} {m : Mv} {t : Nat} {s s' : Yst} {u : Un} {K : List Int} {G : Nat → Bool} (hin : m.inn = true) (ht : t < s.on.length) (h : InvY s K G) (hG : G K.length = false) (ha : actY T m t s = some (u, s')) : u.num = K.length ∧ InvY s' (K ++ [m.kind]) G := by
  rw [actY_in hin] at ha
  split at ha
  · injection ha with ha
    injection ha with h1 h2
    subst h1 h2
    obtain ⟨rest, p1, p2⟩ := flat_set s.on t ht
    have hr : rowY s t = s.on[t] := rowY_get ht
    have hp : (s.on.set t (rowY s t ++ [⟨s.nx, m.kind, m.ln⟩])).flatten.Perm (⟨s.nx, m.kind, m.ln⟩ :: s.on.flatten) := by
      refine (p2 _).trans ?_
      rw [hr, List.append_assoc]
      refine List.perm_middle.trans ?_
      exact List.Perm.cons _ p1.symm
    refine ⟨h.x, ⟨by simp [h.x], fun v hv => ?_, ?_⟩⟩
    · rcases List.mem_cons.1 (hp.mem_iff.1 hv) with rfl | hv
      · simp only [h.x]; exact ⟨by simp, hG⟩
      · obtain ⟨a, b⟩ := h.u v hv
        obtain ⟨hl, _⟩ := List.getElem?_eq_some_iff.1 a
        exact ⟨by rw [List.getElem?_append_left hl]; exact a, b⟩
    · rw [(hp.map (·.num)).nodup_iff, List.map_cons, List.nodup_cons]
      refine ⟨fun hm => ?_, h.d⟩
      obtain ⟨v, hv, e⟩ := List.mem_map.1 hm
      obtain ⟨hl, _⟩ := List.getElem?_eq_some_iff.1 (h.u v hv).1
      simp only at e
      have := h.x
      omega
  · cases ha
theorem inv_out {T : List Tk} {m : Mv} {t : Nat} {s s' : Yst} {u : Un} {K : List Int} {G G' : Nat → Bool} (hin : m.inn = false) (ht : t < s.on.length) (h : InvY s K G) (ha : actY T m t s = some (u, s')) (hG : ∀ j, j ≠ u.num → G' j = G j) : K[u.num]? = some m.kind ∧ G u.num = false ∧ InvY s' K G' := by
  unfold actY at ha
  rw [if_neg (by simp [hin])] at ha
  split at ha
  · cases ha
  · rename_i v hv
    split at ha
    · rename_i hk
      injection ha with ha
      injection ha with h1 h2
      subst h1 h2
      obtain ⟨rest, p1, p2⟩ := flat_set s.on t ht
      have hr : rowY s t = s.on[t] := rowY_get ht
      obtain ⟨hpl, hpe⟩ := List.getElem?_eq_some_iff.1 hv
      have hp : s.on.flatten.Perm (v :: (s.on.set t ((rowY s t).eraseIdx (plc (trk T t).thr (rowY s t)))).flatten) := by
        refine p1.trans ?_
        refine List.Perm.trans ?_ (List.Perm.cons _ (p2 _).symm)
        rw [← hr, ← List.cons_append]
        refine List.Perm.append_right rest ?_
        rw [← hpe]
        exact ers_perm _ _ hpl
      have hmv : v ∈ s.on.flatten := hp.mem_iff.2 (List.mem_cons_self)
      obtain ⟨a, b⟩ := h.u v hmv
      have hd := h.d
      rw [(hp.map (·.num)).nodup_iff, List.map_cons, List.nodup_cons] at hd
      refine ⟨by rw [← hk]; exact a, b, ⟨h.x, fun w hw => ?_, hd.2⟩⟩
      obtain ⟨c, d⟩ := h.u w (hp.mem_iff.2 (List.mem_cons_of_mem _ hw))
      exact ⟨c, by rw [hG w.num (fun e => hd.1 (List.mem_map.2 ⟨w, hw, e⟩))]; exact d⟩
    · cases ha
theorem act_len {T : List Tk} {m : Mv} {t : Nat} {s s' : Yst} {u : Un} (ha : actY T m t s = some (u, s')) : s'.on.length = s.on.length := by
  unfold actY at ha
  split at ha
  · split at ha
    · injection ha with ha; injection ha with _ h2; subst h2; simp
    · cases ha
  · split at ha
    · cases ha
    · split at ha
      · injection ha with ha; injection ha with _ h2; subst h2; simp
      · cases ha
theorem inv_beg (T : List Tk) (G : Nat → Bool) : InvY (begY T) [] G := by
  refine ⟨rfl, fun v hv => ?_, ?_⟩
  · simp [begY] at hv
  · simp [begY]
/-- a plan of the search is one that the moves can follow -/
theorem srch_repl (T : List Tk) (b : Nat) : ∀ (ms : List Mv) (s : Yst) (u : Nat), (srchY T b ms s u).c = 0 → ∃ l, replY T ms ((srchY T b ms s u).plan.map (fun x : Nat => (x : Int))) s = some l ∧ l.length = ms.length := by
  intro ms
  induction ms with
  | nil => intro s u _; exact ⟨[], rfl, rfl⟩
  | cons m ms ih =>
    intro s u
    have key : ∀ k u, k ≤ T.length → (triesY T b m s (srchY T b ms) k u).c = 0 → ∃ l, replY T (m :: ms) ((triesY T b m s (srchY T b ms) k u).plan.map (fun x : Nat => (x : Int))) s = some l ∧ l.length = (m :: ms).length := by
      intro k
      induction k with
      | zero => intro u _ h; simp [triesY] at h
      | succ k ihk =>
        intro u hk h
        unfold triesY at h ⊢
        by_cases hub : u = b
        · rw [if_pos hub] at h; simp at h
        · rw [if_neg hub] at h ⊢
          cases ha : actY T m (T.length - (k + 1)) s with
          | none => rw [ha] at h; simp only at h ⊢; exact ihk (u + 1) (by omega) h
          | some p =>
            obtain ⟨v, s1⟩ := p
            rw [ha] at h
            simp only at h ⊢
            by_cases h14 : (srchY T b ms s1 (u + 1)).c = 14
            · rw [if_pos h14] at h ⊢; exact ihk _ (by omega) h
            · rw [if_neg h14] at h ⊢
              simp only at h
              obtain ⟨l, h1, h2⟩ := ih s1 (u + 1) h
              refine ⟨v.num :: l, ?_, by simp [h2]⟩
              simp only [List.map_cons, replY]
              rw [if_pos (by omega)]
              simp only [Int.toNat_natCast, ha, h1, Option.map_some]
    exact key T.length u (Nat.le_refl _)
theorem plan_repl {T : List Tk} {M : List Mv} {b : Int} (h0 : (planF T M b).2.2 = 0) : ∃ l, replF T M ((planF T M b).1.map (fun x : Nat => (x : Int))) = (l, true) ∧ l.length = M.length ∧ replY T M ((planF T M b).1.map (fun x : Nat => (x : Int))) (begY T) = some l ∧ (planF T M b).1.length = M.length := by
  unfold planF at h0 ⊢
  split at h0
  · rename_i hc
    split at h0
    · rename_i hb
      rw [if_pos hc, if_pos hb]
      have hb' := srch_repl T b.toNat M (begY T) 0
      have hbd := (srch_bd T b.toNat M (begY T) 0 (Nat.zero_le _)).2.2.2
      generalize srchY T b.toNat M (begY T) 0 = r at *
      unfold planR at h0 ⊢
      split at h0
      · rename_i hr
        rw [if_pos hr]
        obtain ⟨l, h1, h2⟩ := hb' hr
        have hl : (r.plan.map (fun x : Nat => (x : Int))).length = M.length := by simp [hbd hr]
        refine ⟨l, ?_, h2, h1, by simpa using hl⟩
        unfold replF
        rw [if_pos ⟨hc, hl⟩, h1]
      · rename_i hr
        split at h0
        · simp at h0
        · simp only at h0; exact absurd h0 hr
    · simp at h0
  · simp at h0
theorem rep24 (j : Nat) : (List.replicate 24 false).getD j false = false := by
  rw [List.getD_eq_getElem?_getD, List.getElem?_replicate]; split <;> rfl
theorem repl_step {T : List Tk} {m : Mv} {ms : List Mv} {p : Int} {ps : List Int} {s : Yst} {x : Nat} {xs : List Nat} (h : replY T (m :: ms) (p :: ps) s = some (x :: xs)) : ∃ u s', actY T m p.toNat s = some (u, s') ∧ p.toNat < T.length ∧ x = u.num ∧ replY T ms ps s' = some xs := by
  simp only [replY] at h
  split at h
  · rename_i hp
    split at h
    · cases h
    · rename_i u s' ha
      obtain ⟨l, h1, h2⟩ := Option.map_eq_some_iff.1 h
      injection h2 with h3 h4
      subst h4
      exact ⟨u, s', ha, by omega, h3.symm, h1⟩
  · cases h
theorem repl_rng {T : List Tk} : ∀ (ms : List Mv) (ps : List Int) (s : Yst) (l : List Nat), replY T ms ps s = some l → ps.length = ms.length → ∀ p ∈ ps, 0 ≤ p ∧ p < (T.length : Int) := by
  intro ms
  induction ms with
  | nil =>
    intro ps s l _ hl p hp
    cases ps with
    | nil => simp at hp
    | cons q ps => simp at hl
  | cons m ms ih =>
    intro ps s l h hl p hp
    cases ps with
    | nil => simp at hp
    | cons q ps =>
      simp only [replY] at h
      split at h
      · rename_i hq
        split at h
        · cases h
        · obtain ⟨l', h3, _⟩ := Option.map_eq_some_iff.1 h
          rcases List.mem_cons.1 hp with rfl | hp
          · exact hq
          · exact ih ps _ l' h3 (by simpa using hl) p hp
      · cases h
end Go.Proofs.Ytffgnfefejimnaa
