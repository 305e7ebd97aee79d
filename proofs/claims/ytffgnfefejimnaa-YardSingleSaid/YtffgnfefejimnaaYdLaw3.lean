import Derived.Test.YtffgnfefejimnaaYdLaw
namespace Go.Proofs.Ytffgnfefejimnaa
/-! One track: the search makes one step a move. -/
theorem single_used (k : Tk) (b : Nat) : ∀ (ms : List Mv) (s : Yst) (u : Nat), (srchY [k] b ms s u).c = 0 → (srchY [k] b ms s u).used = u + ms.length := by
  intro ms
  induction ms with
  | nil => intro s u _; rfl
  | cons m ms ih =>
    intro s u h
    have e : srchY [k] b (m :: ms) s u = triesY [k] b m s (srchY [k] b ms) 1 u := rfl
    rw [e] at h ⊢
    simp only [triesY] at h ⊢
    by_cases hub : u = b
    · rw [if_pos hub] at h; simp at h
    · rw [if_neg hub] at h ⊢
      cases ha : actY [k] m ([k].length - (0 + 1)) s with
      | none => rw [ha] at h; simp at h
      | some p =>
        obtain ⟨v, s1⟩ := p
        rw [ha] at h
        simp only at h ⊢
        by_cases h14 : (srchY [k] b ms s1 (u + 1)).c = 14
        · rw [if_pos h14] at h; simp at h
        · rw [if_neg h14] at h ⊢
          simp only at h ⊢
          rw [ih s1 (u + 1) h]
          simp only [List.length_cons]; omega
theorem cnt1 (n : Nat) : cntY 1 n = n := by
  induction n with
  | zero => rfl
  | succ n ih => simp only [cntY, ih]; omega
theorem single_plan {k : Tk} {M : List Mv} (hc : chkY [k] M = true) (hM : M.length ≤ 24) : (planF [k] M 1048576).2.2 = 0 ∧ (planF [k] M 1048576).2.1 = M.length ∧ FeasY [k] M (begY [k]) ∨ (planF [k] M 1048576).2.2 = 14 ∧ ¬ FeasY [k] M (begY [k]) := by
  obtain ⟨_, h2⟩ := srch_full [k] 1048576 M (begY [k]) 0 (by simp only [List.length_cons, List.length_nil, Nat.zero_add]; rw [cnt1]; omega)
  have hp : planF [k] M 1048576 = planR (srchY [k] 1048576 M (begY [k]) 0) := by unfold planF; rw [if_pos hc, if_pos (by omega)]; rfl
  rw [hp]
  rcases h2 with ⟨a, b⟩ | ⟨a, b⟩
  · left
    have hu := single_used k 1048576 M (begY [k]) 0 a
    refine ⟨by simp [planR, a], ?_, b⟩
    simp only [planR, a, if_true, hu]; omega
  · right; refine ⟨?_, b⟩; simp [planR, a]
theorem feas1 (k : Tk) (m : Mv) (ms : List Mv) (s : Yst) : FeasY [k] (m :: ms) s ↔ ∃ u s', actY [k] m 0 s = some (u, s') ∧ FeasY [k] ms s' := by
  constructor
  · rintro ⟨t, ht, u, s', h⟩
    obtain rfl : t = 0 := by simpa using ht
    exact ⟨u, s', h⟩
  · rintro ⟨u, s', h⟩; exact ⟨0, by simp, u, s', h⟩
theorem row1 (r : List Un) (nx : Nat) : rowY ⟨[r], nx⟩ 0 = r := rfl
theorem feas_ins (k : Tk) (rest : List Mv) : ∀ (ins : List (Int × Int)) (r : List Un) (nx : Nat), sumU r + (ins.map (·.2)).sum ≤ k.ln → (∀ p ∈ ins, 0 ≤ p.2) →
    ∃ us nx', us.map (·.kind) = ins.map (·.1) ∧ (FeasY [k] (ins.map (fun p => ⟨true, p.1, p.2⟩) ++ rest) ⟨[r], nx⟩ ↔ FeasY [k] rest ⟨[r ++ us], nx'⟩) := by
  intro ins
  induction ins with
  | nil => intro r nx _ _; exact ⟨[], nx, rfl, by simp⟩
  | cons p ins ih =>
    intro r nx hs hp
    simp only [List.map_cons, List.sum_cons] at hs
    have hp0 := hp p (by simp)
    have hsum : ∀ l : List (Int × Int), (∀ q ∈ l, 0 ≤ q.2) → 0 ≤ (l.map (·.2)).sum := by
      intro l
      induction l with
      | nil => intro _; simp
      | cons q l ih => intro h; have := h q (by simp); have := ih fun x hx => h x (by simp [hx]); simp; omega
    have hs0 := hsum ins fun q hq => hp q (by simp [hq])
    obtain ⟨us, nx', h1, h2⟩ := ih (r ++ [⟨nx, p.1, p.2⟩]) (nx + 1) (by rw [sumU_app]; simp [sumU]; omega) fun q hq => hp q (by simp [hq])
    refine ⟨⟨nx, p.1, p.2⟩ :: us, nx', by simp [h1], ?_⟩
    simp only [List.map_cons, List.cons_append]
    rw [feas1]
    have ha : actY [k] ⟨true, p.1, p.2⟩ 0 ⟨[r], nx⟩ = some (⟨nx, p.1, p.2⟩, ⟨[r ++ [⟨nx, p.1, p.2⟩]], nx + 1⟩) := by
      rw [actY_in rfl, row1]
      have : trk [k] 0 = k := rfl
      rw [this, if_pos (by simp only; omega)]
      rfl
    constructor
    · rintro ⟨u, s', e, hf⟩
      rw [ha] at e
      injection e with e
      injection e with _ e
      subst e
      have := h2.1 hf
      simpa using this
    · intro hf
      exact ⟨_, _, ha, h2.2 (by simpa using hf)⟩
theorem act_out1 (k : Tk) (kd : Int) (r : List Un) (nx : Nat) (v : Un) (hv : r[plc k.thr r]? = some v) : actY [k] ⟨false, kd, 0⟩ 0 ⟨[r], nx⟩ = if v.kind = kd then some (v, ⟨[r.eraseIdx (plc k.thr r)], nx⟩) else none := by
  unfold actY
  rw [if_neg (by simp), row1]
  have : trk [k] 0 = k := rfl
  rw [this, hv]
  rfl
theorem feas_fifo (l : Int) : ∀ (r : List Un) (nx : Nat), FeasY [⟨l, true⟩] (r.map (fun u => ⟨false, u.kind, 0⟩)) ⟨[r], nx⟩ := by
  intro r
  induction r with
  | nil => intro nx; trivial
  | cons u r ih =>
    intro nx
    rw [List.map_cons, feas1, act_out1 ⟨l, true⟩ u.kind (u :: r) nx u rfl, if_pos rfl]
    exact ⟨_, _, rfl, ih nx⟩
theorem feas_lifo (l : Int) : ∀ (r : List Un) (nx : Nat), FeasY [⟨l, false⟩] (r.map (fun u => ⟨false, u.kind, 0⟩)) ⟨[r.reverse], nx⟩ := by
  intro r
  induction r with
  | nil => intro nx; trivial
  | cons u r ih =>
    intro nx
    have hv : ((u :: r).reverse)[plc false (u :: r).reverse]? = some u := by simp [plc]
    rw [List.map_cons, feas1, act_out1 ⟨l, false⟩ u.kind _ nx u hv, if_pos rfl]
    refine ⟨_, _, rfl, ?_⟩
    have he : (u :: r).reverse.eraseIdx (plc false (u :: r).reverse) = r.reverse := by
      simp only [plc, Bool.false_eq_true, if_false]
      rw [List.eraseIdx_length_sub_one]; simp
    rw [he]
    exact ih nx
theorem not_feas (k : Tk) (kd : Int) (rest : List Mv) (r : List Un) (nx : Nat) (v : Un) (hv : r[plc k.thr r]? = some v) (hk : v.kind ≠ kd) : ¬ FeasY [k] (⟨false, kd, 0⟩ :: rest) ⟨[r], nx⟩ := by
  rw [feas1, act_out1 k kd r nx v hv, if_neg hk]
  rintro ⟨u, s', h, _⟩
  cases h
def kindsL (n : Nat) : List Int := (List.range n).map fun i : Nat => (i : Int)
def insL (ins : List (Int × Int)) : List Mv := ins.map fun p => ⟨true, p.1, p.2⟩
def outsL (first : Bool) (n : Nat) : List Mv := (if first = true then kindsL n else (kindsL n).reverse).map fun k => ⟨false, k, 0⟩
/-- units of the kinds 0 .. n-1 come in, and leave in this order, or in the reverse one -/
theorem single_law (ins : List (Int × Int)) (first : Bool) (n : Nat) (hi : ins.map (·.1) = kindsL n) (h1 : 1 ≤ n) (hln : ∀ p ∈ ins, 0 ≤ p.2) (hs : (ins.map (·.2)).sum ≤ 1000) :
    FeasY [⟨1000, first⟩] (insL ins ++ outsL first n) (begY [⟨1000, first⟩]) ∧ (n = 1 → FeasY [⟨1000, !first⟩] (insL ins ++ outsL first n) (begY [⟨1000, !first⟩])) ∧ (1 < n → ¬ FeasY [⟨1000, !first⟩] (insL ins ++ outsL first n) (begY [⟨1000, !first⟩])) := by
  have key : ∀ b : Bool, ∃ us : List Un, us.map (·.kind) = kindsL n ∧ ∃ nx, (FeasY [⟨1000, b⟩] (insL ins ++ outsL first n) (begY [⟨1000, b⟩]) ↔ FeasY [⟨1000, b⟩] (outsL first n) ⟨[us], nx⟩) := fun b => by
    obtain ⟨us, nx, e1, e2⟩ := feas_ins ⟨1000, b⟩ (outsL first n) ins [] 0 (by simp only [sumU]; omega) hln
    exact ⟨us, by rw [e1, hi], nx, by simpa [begY, insL] using e2⟩
  have fifo : ∀ us : List Un, us.map (·.kind) = kindsL n → (kindsL n).map (fun k => (⟨false, k, 0⟩ : Mv)) = us.map (fun u => ⟨false, u.kind, 0⟩) := fun us h => by rw [← h, List.map_map]; rfl
  have lifo : ∀ us : List Un, us.map (·.kind) = kindsL n → (kindsL n).reverse.map (fun k => (⟨false, k, 0⟩ : Mv)) = us.reverse.map (fun u => ⟨false, u.kind, 0⟩) := fun us h => by rw [← h, ← List.map_reverse, List.map_map]; rfl
  have len : ∀ us : List Un, us.map (·.kind) = kindsL n → us.length = n := fun us h => by have := congrArg List.length h; simpa [kindsL] using this
  have knd : ∀ (us : List Un) (h : us.map (·.kind) = kindsL n) (j : Nat) (hj : j < us.length), us[j].kind = (j : Int) := fun us h j hj => by
    have e := congrArg (fun l => l[j]?) h
    simp only [List.getElem?_map, List.getElem?_eq_getElem hj, kindsL] at e
    have hjn : j < n := by rw [← len us h]; exact hj
    simp [hjn] at e
    exact e
  refine ⟨?_, fun hn => ?_, fun hn => ?_⟩
  · obtain ⟨us, e1, nx, e2⟩ := key first
    rw [e2]
    cases first with
    | true => simp only [outsL, if_true]; rw [fifo us e1]; exact feas_fifo 1000 us nx
    | false =>
      simp only [outsL, Bool.false_eq_true, if_false]
      rw [lifo us e1]
      have h := feas_lifo 1000 us.reverse nx
      rw [List.reverse_reverse] at h
      exact h
  · obtain ⟨us, e1, nx, e2⟩ := key (!first)
    rw [e2]
    subst hn
    have hr : (kindsL 1).reverse = kindsL 1 := rfl
    have hur : us.reverse = us := by
      have := len us e1
      match us, this with
      | [u], _ => rfl
    cases first with
    | true =>
      simp only [outsL, if_true, Bool.not_true]
      rw [fifo us e1]
      have h := feas_lifo 1000 us nx
      rw [hur] at h
      exact h
    | false =>
      simp only [outsL, Bool.false_eq_true, if_false, Bool.not_false]
      rw [hr, fifo us e1]
      exact feas_fifo 1000 us nx
  · obtain ⟨us, e1, nx, e2⟩ := key (!first)
    rw [e2]
    have hl := len us e1
    cases first with
    | true =>
      have hlast : us[plc false us]? = some (us[us.length - 1]'(by omega)) := by simp only [plc, Bool.false_eq_true, if_false]; exact List.getElem?_eq_getElem _
      have hk := knd us e1 (us.length - 1) (by omega)
      obtain ⟨m, rfl⟩ : ∃ m, n = m + 1 := ⟨n - 1, by omega⟩
      have ho : outsL true (m + 1) = ⟨false, 0, 0⟩ :: ((List.range m).map Nat.succ).map (fun i : Nat => (⟨false, (i : Int), 0⟩ : Mv)) := by
        simp only [outsL, if_true, kindsL, List.range_succ_eq_map, List.map_cons, List.map_map]
        rfl
      rw [ho]
      exact not_feas ⟨1000, false⟩ 0 _ us nx _ hlast (by rw [hk]; omega)
    | false =>
      have hfirst : us[plc true us]? = some (us[0]'(by omega)) := by simp only [plc, if_true]; exact List.getElem?_eq_getElem _
      have hk := knd us e1 0 (by omega)
      obtain ⟨m, rfl⟩ : ∃ m, n = m + 1 := ⟨n - 1, by omega⟩
      have ho : outsL false (m + 1) = ⟨false, (m : Int), 0⟩ :: (kindsL m).reverse.map (fun k => (⟨false, k, 0⟩ : Mv)) := by
        simp only [outsL, Bool.false_eq_true, if_false, kindsL, List.range_succ, List.map_append, List.map_cons, List.map_nil, List.reverse_append, List.reverse_cons, List.reverse_nil, List.nil_append, List.cons_append]
      rw [ho]
      exact not_feas ⟨1000, true⟩ m _ us nx _ hfirst (by rw [hk]; omega)
end Go.Proofs.Ytffgnfefejimnaa
