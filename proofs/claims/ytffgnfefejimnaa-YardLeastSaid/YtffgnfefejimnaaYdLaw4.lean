import Derived.Test.YtffgnfefejimnaaYdLaw2
import Derived.Test.YtffgnfefejimnaaYdLaw
namespace Go.Proofs.Ytffgnfefejimnaa
/-! Plan's answer is the least plan: plans as numbers. -/
def valP (n : Nat) : List Nat → Nat
  | [] => 0
  | d :: r => d * n ^ r.length + valP n r
theorem valP_lt {n : Nat} : ∀ (q : List Nat), (∀ d ∈ q, d < n) → valP n q < n ^ q.length
  | [], _ => by simp [valP]
  | d :: r, h => by
    have h1 := valP_lt r (fun x hx => h x (by simp [hx]))
    have h2 : d + 1 ≤ n := h d (by simp)
    have h3 := Nat.mul_le_mul_right (n ^ r.length) h2
    simp only [valP, List.length_cons, Nat.pow_succ]
    rw [Nat.add_mul, Nat.one_mul] at h3
    rw [Nat.mul_comm (n ^ r.length) n]
    omega
theorem mix_inj {N a b x y : Nat} (hx : x < N) (hy : y < N) (h : a * N + x = b * N + y) : a = b ∧ x = y := by
  have h0 : 0 < N := by omega
  have e : (a * N + x) / N = (b * N + y) / N := by rw [h]
  rw [Nat.mul_comm a, Nat.mul_comm b, Nat.mul_add_div h0, Nat.mul_add_div h0, Nat.div_eq_of_lt hx, Nat.div_eq_of_lt hy] at e
  have : a = b := by omega
  subst this
  exact ⟨rfl, by omega⟩
theorem valP_inj {n : Nat} : ∀ (p q : List Nat), p.length = q.length → (∀ d ∈ p, d < n) → (∀ d ∈ q, d < n) → valP n p = valP n q → p = q
  | [], [], _, _, _, _ => rfl
  | [], _ :: _, h, _, _, _ => by simp at h
  | _ :: _, [], h, _, _, _ => by simp at h
  | a :: p, b :: q, hl, hp, hq, h => by
    have l : p.length = q.length := by simpa using hl
    have h1 := valP_lt p (fun x hx => hp x (by simp [hx]))
    have h2 := valP_lt q (fun x hx => hq x (by simp [hx]))
    simp only [valP] at h
    rw [l] at h h1
    obtain ⟨e1, e2⟩ := mix_inj h1 h2 h
    rw [e1, valP_inj p q l (fun x hx => hp x (by simp [hx])) (fun x hx => hq x (by simp [hx])) e2]
theorem valP_app (n : Nat) (a b : List Nat) : valP n (a ++ b) = valP n a * n ^ b.length + valP n b := by
  induction a with
  | nil => simp [valP]
  | cons d a ih =>
    simp only [List.cons_append, valP, ih, List.length_append, Nat.pow_add]
    rw [Nat.add_mul, Nat.mul_assoc]
    omega
theorem valP_zero (n k : Nat) : valP n (List.replicate k 0) = 0 := by
  induction k with
  | zero => rfl
  | succ k ih => simp [List.replicate_succ, valP, ih]
theorem valP_full {n : Nat} (hn : 1 ≤ n) (k : Nat) : valP n (List.replicate k (n - 1)) + 1 = n ^ k := by
  induction k with
  | zero => rfl
  | succ k ih =>
    simp only [List.replicate_succ, valP, List.length_replicate, Nat.pow_succ]
    have e : n ^ k * n = (n - 1) * n ^ k + n ^ k := by
      obtain ⟨p, rfl⟩ : ∃ p, n = p + 1 := ⟨n - 1, by omega⟩
      rw [Nat.add_sub_cancel, Nat.mul_add, Nat.mul_one, Nat.mul_comm]
    omega
theorem valP_next {n : Nat} (hn : 1 ≤ n) (a : List Nat) (d k : Nat) : valP n (a ++ (d + 1) :: List.replicate k 0) = valP n (a ++ d :: List.replicate k (n - 1)) + 1 := by
  rw [valP_app, valP_app]
  simp only [valP, List.length_cons, List.length_replicate, valP_zero]
  have := valP_full hn k
  rw [Nat.add_mul]
  omega
/-- a plan that can be performed -/
def DoesY (T : List Tk) (M : List Mv) (q : List Nat) (s : Yst) : Prop := ∃ l, replY T M (q.map fun x : Nat => (x : Int)) s = some l
theorem does_cons {T : List Tk} {m : Mv} {ms : List Mv} {t : Nat} {q : List Nat} {s : Yst} (ht : t < T.length) : DoesY T (m :: ms) (t :: q) s ↔ ∃ u s', actY T m t s = some (u, s') ∧ DoesY T ms q s' := by
  unfold DoesY
  simp only [List.map_cons]
  have e : replY T (m :: ms) ((t : Int) :: q.map fun x : Nat => (x : Int)) s = match actY T m t s with
      | none => none
      | some (u, s') => (replY T ms (q.map fun x : Nat => (x : Int)) s').map fun l => u.num :: l := by
    show (if 0 ≤ (t : Int) ∧ (t : Int) < (T.length : Int) then _ else _) = _
    rw [if_pos ⟨by omega, by omega⟩]
    rfl
  rw [e]
  cases ha : actY T m t s with
  | none => simp
  | some p =>
    obtain ⟨u, s'⟩ := p
    simp only [Option.map_eq_some_iff]
    constructor
    · rintro ⟨l, l', h, _⟩; exact ⟨u, s', rfl, l', h⟩
    · rintro ⟨u', s'', h, l', h'⟩
      injection h with h
      injection h with h1 h2
      subst h1 h2
      exact ⟨_, l', h', rfl⟩
/-- what a search's answer says of plans -/
structure LeastY (T : List Tk) (ms : List Mv) (s : Yst) (r : Rs) : Prop where
  y : r.c = 0 → r.plan.length = ms.length ∧ (∀ d ∈ r.plan, d < T.length) ∧ DoesY T ms r.plan s ∧ ∀ q : List Nat, q.length = ms.length → (∀ d ∈ q, d < T.length) → DoesY T ms q s → valP T.length r.plan ≤ valP T.length q
  n : r.c = 14 → ∀ q : List Nat, q.length = ms.length → (∀ d ∈ q, d < T.length) → ¬ DoesY T ms q s
structure TryLeast (T : List Tk) (m : Mv) (ms : List Mv) (s : Yst) (lo : Nat) (r : Rs) : Prop where
  y : r.c = 0 → r.plan.length = ms.length + 1 ∧ (∀ d ∈ r.plan, d < T.length) ∧ DoesY T (m :: ms) r.plan s ∧ ∀ (t : Nat) (q : List Nat), lo ≤ t → t < T.length → q.length = ms.length → (∀ d ∈ q, d < T.length) → DoesY T (m :: ms) (t :: q) s → valP T.length r.plan ≤ valP T.length (t :: q)
  n : r.c = 14 → ∀ (t : Nat) (q : List Nat), lo ≤ t → t < T.length → q.length = ms.length → (∀ d ∈ q, d < T.length) → ¬ DoesY T (m :: ms) (t :: q) s
theorem tries_least {T : List Tk} {b : Nat} {m : Mv} {ms : List Mv} {s : Yst} {f : Yst → Nat → Rs} (hf : ∀ s u, LeastY T ms s (f s u)) :
    ∀ k u, k ≤ T.length → TryLeast T m ms s (T.length - k) (triesY T b m s f k u) := by
  intro k
  induction k with
  | zero =>
    intro u _
    refine ⟨fun h => by simp [triesY] at h, fun _ t q h1 h2 => by omega⟩
  | succ k ih =>
    intro u hk
    unfold triesY
    split
    · exact ⟨fun h => by simp at h, fun h => by simp at h⟩
    · have ht : T.length - (k + 1) < T.length := by omega
      cases ha : actY T m (T.length - (k + 1)) s with
      | none =>
        have h := ih (u + 1) (by omega)
        refine ⟨fun h0 => ?_, fun h0 t q h1 h2 h3 h4 h5 => ?_⟩
        · obtain ⟨a, b, c, d⟩ := h.y h0
          refine ⟨a, b, c, fun t q h1 h2 h3 h4 h5 => ?_⟩
          rcases Nat.lt_or_ge t (T.length - k) with h6 | h6
          · obtain rfl : t = T.length - (k + 1) := by omega
            obtain ⟨u', s', h7, _⟩ := (does_cons ht).1 h5
            rw [ha] at h7; cases h7
          · exact d t q h6 h2 h3 h4 h5
        · rcases Nat.lt_or_ge t (T.length - k) with h6 | h6
          · obtain rfl : t = T.length - (k + 1) := by omega
            obtain ⟨u', s', h7, _⟩ := (does_cons ht).1 h5
            rw [ha] at h7; cases h7
          · exact h.n h0 t q h6 h2 h3 h4 h5
      | some p =>
        obtain ⟨v, s1⟩ := p
        simp only
        have hl := hf s1 (u + 1)
        split
        · rename_i h14
          have hno := hl.n h14
          have h := ih (f s1 (u + 1)).used (by omega)
          refine ⟨fun h0 => ?_, fun h0 t q h1 h2 h3 h4 h5 => ?_⟩
          · obtain ⟨a, b, c, d⟩ := h.y h0
            refine ⟨a, b, c, fun t q h1 h2 h3 h4 h5 => ?_⟩
            rcases Nat.lt_or_ge t (T.length - k) with h6 | h6
            · obtain rfl : t = T.length - (k + 1) := by omega
              obtain ⟨u', s', h7, h8⟩ := (does_cons ht).1 h5
              rw [ha] at h7
              injection h7 with h7
              injection h7 with _ h7
              subst h7
              exact absurd h8 (hno q h3 h4)
            · exact d t q h6 h2 h3 h4 h5
          · rcases Nat.lt_or_ge t (T.length - k) with h6 | h6
            · obtain rfl : t = T.length - (k + 1) := by omega
              obtain ⟨u', s', h7, h8⟩ := (does_cons ht).1 h5
              rw [ha] at h7
              injection h7 with h7
              injection h7 with _ h7
              subst h7
              exact absurd h8 (hno q h3 h4)
            · exact h.n h0 t q h6 h2 h3 h4 h5
        · rename_i h14
          refine ⟨fun h0 => ?_, fun h0 => absurd h0 h14⟩
          obtain ⟨a, b, c, d⟩ := hl.y h0
          refine ⟨by simp [a], fun x hx => ?_, (does_cons ht).2 ⟨v, s1, ha, c⟩, fun t q h1 h2 h3 h4 h5 => ?_⟩
          · rcases List.mem_cons.1 hx with rfl | hx
            · exact ht
            · exact b x hx
          · simp only [valP]
            rcases Nat.lt_or_ge (T.length - (k + 1)) t with h6 | h6
            · have h7 := valP_lt _ b
              have h8 := Nat.mul_le_mul_right (T.length ^ ms.length) (show T.length - (k + 1) + 1 ≤ t from h6)
              rw [Nat.add_mul, Nat.one_mul] at h8
              rw [a] at h7 ⊢
              rw [h3]
              omega
            · obtain rfl : t = T.length - (k + 1) := by omega
              obtain ⟨u', s', h7, h8⟩ := (does_cons ht).1 h5
              rw [ha] at h7
              injection h7 with h7
              injection h7 with _ h7
              subst h7
              have := d q h3 h4 h8
              rw [a, h3]
              omega
theorem srch_least (T : List Tk) (b : Nat) : ∀ (ms : List Mv) (s : Yst) (u : Nat), LeastY T ms s (srchY T b ms s u) := by
  intro ms
  induction ms with
  | nil =>
    intro s u
    refine ⟨fun _ => ⟨rfl, fun d hd => by simp [srchY] at hd, ⟨[], rfl⟩, fun q hq _ _ => ?_⟩, fun h => by simp [srchY] at h⟩
    simp [srchY, valP]
  | cons m ms ih =>
    intro s u
    have h := tries_least (b := b) (m := m) (s := s) (fun s u => ih s u) T.length u (Nat.le_refl _)
    refine ⟨fun h0 => ?_, fun h0 q hq hd => ?_⟩
    · obtain ⟨a, b, c, d⟩ := h.y h0
      refine ⟨a, b, c, fun q hq hd hs => ?_⟩
      cases q with
      | nil => simp at hq
      | cons t q => exact d t q (by omega) (hd t (by simp)) (by simpa using hq) (fun x hx => hd x (by simp [hx])) hs
    · cases q with
      | nil => simp at hq
      | cons t q => exact h.n h0 t q (by omega) (hd t (by simp)) (by simpa using hq) (fun x hx => hd x (by simp [hx]))
/-- all plans ahead of q fail -/
def NoneBelow (T : List Tk) (M : List Mv) (q : List Nat) : Prop := ∀ p : List Nat, p.length = M.length → (∀ d ∈ p, d < T.length) → valP T.length p < valP T.length q → ¬ DoesY T M p (begY T)
theorem none_zero (T : List Tk) (M : List Mv) : NoneBelow T M (List.replicate M.length 0) := fun p _ _ h => by rw [valP_zero] at h; omega
theorem none_next {T : List Tk} {M : List Mv} {a : List Nat} {d k : Nat} (hn : 1 ≤ T.length) (hl : (a ++ d :: List.replicate k (T.length - 1)).length = M.length) (hd : ∀ x ∈ a ++ d :: List.replicate k (T.length - 1), x < T.length) (h : NoneBelow T M (a ++ d :: List.replicate k (T.length - 1))) (hno : ¬ DoesY T M (a ++ d :: List.replicate k (T.length - 1)) (begY T)) :
    NoneBelow T M (a ++ (d + 1) :: List.replicate k 0) := fun p hp hpd hv => by
  rw [valP_next hn] at hv
  rcases Nat.lt_or_ge (valP T.length p) (valP T.length (a ++ d :: List.replicate k (T.length - 1))) with h1 | h1
  · exact h p hp hpd h1
  · have := valP_inj p _ (by rw [hp, hl]) hpd hd (by omega)
    rw [this]; exact hno
theorem none_full {T : List Tk} {M : List Mv} (hn : 1 ≤ T.length) (h : NoneBelow T M (List.replicate M.length (T.length - 1))) (hno : ¬ DoesY T M (List.replicate M.length (T.length - 1)) (begY T)) : ∀ p : List Nat, p.length = M.length → (∀ d ∈ p, d < T.length) → ¬ DoesY T M p (begY T) := fun p hp hpd => by
  have h1 := valP_lt p hpd
  have h2 := valP_full hn M.length
  rw [hp] at h1
  rcases Nat.lt_or_ge (valP T.length p) (valP T.length (List.replicate M.length (T.length - 1))) with h3 | h3
  · exact h p hp hpd h3
  · have := valP_inj p (List.replicate M.length (T.length - 1)) (by simp [hp]) hpd (fun d hd => by obtain ⟨_, rfl⟩ := List.mem_replicate.1 hd; omega) (by omega)
    rw [this]; exact hno
/-- Plan with the greatest budget: the answer is the least plan, or there is none -/
theorem plan_least {T : List Tk} {M : List Mv} (hc : chkY T M = true) (hT : T.length ≤ 4) (hM : M.length ≤ 7) :
    ((planF T M 1048576).2.2 = 0 ∧ (planF T M 1048576).1.length = M.length ∧ (∀ d ∈ (planF T M 1048576).1, d < T.length) ∧ DoesY T M (planF T M 1048576).1 (begY T) ∧ ∀ q : List Nat, q.length = M.length → (∀ d ∈ q, d < T.length) → DoesY T M q (begY T) → valP T.length (planF T M 1048576).1 ≤ valP T.length q)
    ∨ ((planF T M 1048576).2.2 = 14 ∧ ∀ q : List Nat, q.length = M.length → (∀ d ∈ q, d < T.length) → ¬ DoesY T M q (begY T)) := by
  have h0 : cntY T.length M.length ≤ cntY 4 7 := cntY_mono hT hM
  have h1 : cntY 4 7 = 21844 := by decide
  obtain ⟨_, h2⟩ := srch_full T 1048576 M (begY T) 0 (by omega)
  have hp : planF T M 1048576 = planR (srchY T 1048576 M (begY T) 0) := by unfold planF; rw [if_pos hc, if_pos (by omega)]; rfl
  have hl := srch_least T 1048576 M (begY T) 0
  rw [hp]
  rcases h2 with ⟨a, _⟩ | ⟨a, _⟩
  · left
    have := hl.y a
    simp only [planR, a, if_true]
    exact ⟨trivial, this⟩
  · right
    have := hl.n a
    simp [planR, a]
    exact this
theorem least_eq {T : List Tk} {M : List Mv} {p q : List Nat} (hp : p.length = M.length) (hpd : ∀ d ∈ p, d < T.length) (hps : DoesY T M p (begY T)) (hl : ∀ q : List Nat, q.length = M.length → (∀ d ∈ q, d < T.length) → DoesY T M q (begY T) → valP T.length p ≤ valP T.length q)
    (hq : q.length = M.length) (hqd : ∀ d ∈ q, d < T.length) (hqs : DoesY T M q (begY T)) (hn : NoneBelow T M q) : p = q := by
  refine valP_inj p q (by rw [hp, hq]) hpd hqd ?_
  have h1 := hl q hq hqd hqs
  rcases Nat.lt_or_ge (valP T.length p) (valP T.length q) with h2 | h2
  · exact absurd hps (hn p hp hpd h2)
  · omega
theorem does_repl {T : List Tk} {M : List Mv} {q : List Nat} (hc : chkY T M = true) (hq : q.length = M.length) : (replF T M (q.map fun x : Nat => (x : Int))).2 = true ↔ DoesY T M q (begY T) := by
  unfold replF DoesY
  rw [if_pos ⟨hc, by simp [hq]⟩]
  cases h : replY T M (q.map fun x : Nat => (x : Int)) (begY T) with
  | none => simp
  | some l => simp
end Go.Proofs.Ytffgnfefejimnaa
