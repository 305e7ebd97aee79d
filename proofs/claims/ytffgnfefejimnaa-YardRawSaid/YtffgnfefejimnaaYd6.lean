import Derived.Test.YtffgnfefejimnaaYd5
namespace Go.Proofs.Ytffgnfefejimnaa
open Go.RowKit
theorem own_keep {w w' : World} {base : Nat} {e : TypeId} {sz n : Nat} {v : Value} {xs : List Value} (h : w.ownsRow base e sz v n xs) (hk : ∀ k, v.ownBlock = some k → w'.heap[k]? = w.heap[k]?) : w'.ownsRow base e sz v n xs := by
  refine ⟨h.1, ?_⟩
  rcases h.2 with h2 | ⟨g, cap, cur, rfl, hbg, hh, r⟩
  · exact .inl h2
  · exact .inr ⟨g, cap, cur, rfl, hbg, by rw [hk g rfl]; exact hh, r⟩
/-! The search: what its answers keep; the closure's memory. -/
def RsOk (b n u : Nat) (r : Rs) : Prop := u ≤ r.used ∧ r.used ≤ b ∧ (r.c = 0 ∨ r.c = 14 ∨ r.c = 15) ∧ (r.c = 0 → r.plan.length = n)
theorem tries_bd {T : List Tk} {b n : Nat} {m : Mv} {s : Yst} {f : Yst → Nat → Rs} (hf : ∀ s' u, u ≤ b → RsOk b n u (f s' u)) : ∀ k u, u ≤ b → RsOk b (n + 1) u (triesY T b m s f k u) := by
  intro k
  induction k with
  | zero => intro u hu; exact ⟨Nat.le_refl _, hu, .inr (.inl rfl), fun h => by simp [triesY] at h⟩
  | succ k ih =>
    intro u hu
    unfold triesY
    by_cases h1 : u = b
    · rw [if_pos h1]; exact ⟨Nat.le_refl _, hu, .inr (.inr rfl), fun h => by simp at h⟩
    · rw [if_neg h1]
      cases ha : actY T m (T.length - (k + 1)) s with
      | none => obtain ⟨a, c, d⟩ := ih (u + 1) (by omega); exact ⟨by simp only; omega, c, d⟩
      | some p =>
        obtain ⟨v, s'⟩ := p
        simp only
        obtain ⟨a, c, d, e⟩ := hf s' (u + 1) (by omega)
        by_cases h2 : (f s' (u + 1)).c = 14
        · rw [if_pos h2]
          obtain ⟨a', c', d'⟩ := ih (f s' (u + 1)).used c
          exact ⟨by omega, c', d'⟩
        · rw [if_neg h2]
          exact ⟨by simp only; omega, c, d, fun h => by simp [e h]⟩
theorem srch_bd (T : List Tk) (b : Nat) : ∀ (ms : List Mv) (s : Yst) (u : Nat), u ≤ b → RsOk b ms.length u (srchY T b ms s u) := by
  intro ms
  induction ms with
  | nil => intro s u hu; exact ⟨Nat.le_refl _, hu, .inl rfl, fun _ => rfl⟩
  | cons m ms ih => intro s u hu; exact tries_bd (fun s' u' h => ih s' u' h) T.length u hu
/-- where the closure's boxes lie -/
structure PLoc where
  base : Nat
  bT : Nat
  bM : Nat
  bB : Nat
  bY : Nat
  P : Nat
  bP : Nat
  bU : Nat
  bF : Nat
  Y : Nat
  bO : Nat
  bR : Nat
  cF : Nat
  AT : Option Addr
  AM : Option Addr
  cT : Nat
  cM : Nat
def PLoc.ord (L : PLoc) : Prop := L.base ≤ L.bT ∧ L.bT < L.bM ∧ L.bM < L.bB ∧ L.bB < L.bY ∧ L.bY < L.P ∧ L.P < L.bP ∧ L.bP < L.bU ∧ L.bU < L.bF
def PLoc.box (L : PLoc) (k : Nat) : Prop := k = L.bT ∨ k = L.bM ∨ k = L.bB ∨ k = L.bY ∨ k = L.P ∨ k = L.bP ∨ k = L.bU ∨ k = L.bF
def PLoc.fn (L : PLoc) : Value := .func (.func 28) #[] #[.pointer (some ⟨L.bM, 0, none⟩), .pointer (some ⟨L.bT, 0, none⟩), .pointer (some ⟨L.bU, 0, none⟩), .pointer (some ⟨L.bB, 0, none⟩), .pointer (some ⟨L.bY, 0, none⟩), .pointer (some ⟨L.bP, 0, none⟩), .pointer (some ⟨L.bF, 0, none⟩)]
def natV (x : Nat) : Value := .int .i64 x
def PLoc.D (L : PLoc) (vs : List Value) (k : Nat) : Prop := DY L.Y L.bO L.bR vs k ∨ k = L.bU ∨ k = L.P
structure CM (L : PLoc) (T : List Tk) (M : List Mv) (b : Nat) (fv : Value) (s : Yst) (used : Nat) (plan : List Nat) (vs : List Value) (w : World) : Prop where
  t : Blk w L.bT 23 #[.slice L.AT T.length L.cT]
  m : Blk w L.bM 24 #[.slice L.AM M.length L.cM]
  b : Blk w L.bB 3 #[.int .i64 b]
  y : Blk w L.bY 53 #[.pointer (some ⟨L.Y, 0, none⟩)]
  p : Blk w L.bP 22 #[.slice (some ⟨L.P, 0, none⟩) M.length M.length]
  u : Blk w L.bU 3 #[.int .i64 used]
  f : Blk w L.bF 55 #[fv]
  pl : w.ownsRow L.base 3 1 (.slice (some ⟨L.P, 0, none⟩) M.length M.length) M.length (plan.map natV)
  ym : YMem L.base L.Y L.bO L.bR L.cF L.AT L.cT T.length s.on (freeY T s) s.nx vs w
  ne : ∀ k, L.box k → ¬ DY L.Y L.bO L.bR vs k
  hT : Rd w L.base 2 L.AT T.length (T.flatMap Tk.cells)
  hM : Rd w L.base 3 L.AM M.length (M.flatMap Mv.cells)
  hb : L.base ≤ w.heap.size
section
variable {L : PLoc} {T : List Tk} {M : List Mv} {b : Nat} {fv : Value} {s s' : Yst} {used : Nat} {plan : List Nat} {vs vs' : List Value} {w w' : World}
theorem CM.pn (h : CM L T M b fv s used plan vs w) : plan.length = M.length := (own1_len h.pl).symm
theorem CM.grow (h : CM L T M b fv s used plan vs w) (hb : Below w.heap.size w w') : CM L T M b fv s used plan vs w' :=
  ⟨h.t.bel hb, h.m.bel hb, h.b.bel hb, h.y.bel hb, h.p.bel hb, h.u.bel hb, h.f.bel hb, own_grow h.pl hb, h.ym.grow hb, h.ne, h.hT.grow (hb.mono h.hb), h.hM.grow (hb.mono h.hb), Nat.le_trans h.hb hb.size⟩
theorem CM.yard (h : CM L T M b fv s used plan vs w) (hy : YAt L.base L.Y L.bO L.bR L.cF L.AT L.cT T s' (DY L.Y L.bO L.bR vs) w vs' w') : CM L T M b fv s' used plan vs' w' := by
  have hk : ∀ k, L.box k → k < w.heap.size → w'.heap[k]? = w.heap[k]? := fun k hk hl => hy.f.keep k hl (h.ne k hk)
  have hpl : w'.ownsRow L.base 3 1 (.slice (some ⟨L.P, 0, none⟩) M.length M.length) M.length (plan.map natV) := by
    refine own_keep h.pl fun k hk2 => ?_
    injection hk2 with hk2
    subst hk2
    exact hk _ (by simp [PLoc.box]) (own_block h.pl L.P rfl).2
  refine ⟨h.t.same (hk _ (by simp [PLoc.box]) h.t.lt), h.m.same (hk _ (by simp [PLoc.box]) h.m.lt), h.b.same (hk _ (by simp [PLoc.box]) h.b.lt), h.y.same (hk _ (by simp [PLoc.box]) h.y.lt), h.p.same (hk _ (by simp [PLoc.box]) h.p.lt), h.u.same (hk _ (by simp [PLoc.box]) h.u.lt), h.f.same (hk _ (by simp [PLoc.box]) h.f.lt), hpl, hy.m, fun k hb hd => ?_, h.hT.grow hy.f.bel, h.hM.grow hy.f.bel, Nat.le_trans h.hb hy.f.bel.size⟩
  have hkl : k < w.heap.size := by
    rcases hb with e | e | e | e | e | e | e | e
    · rw [e]; exact h.t.lt
    · rw [e]; exact h.m.lt
    · rw [e]; exact h.b.lt
    · rw [e]; exact h.y.lt
    · rw [e]; exact (own_block h.pl L.P rfl).2
    · rw [e]; exact h.p.lt
    · rw [e]; exact h.u.lt
    · rw [e]; exact h.f.lt
  exact h.ne k hb (hy.f.back k hkl hd)
theorem frY_yard {D0 : List Value} {w0 : World} (hf : FrY L.base (L.D D0) (L.D vs) w0 w) (hy : YAt L.base L.Y L.bO L.bR L.cF L.AT L.cT T s' (DY L.Y L.bO L.bR vs) w vs' w') : FrY L.base (L.D D0) (L.D vs') w0 w' :=
  hf.trans ⟨hy.f.bel, fun k hk hd => hy.f.keep k hk fun h => hd (.inl h), fun k hk hd => by
    rcases hd with hd | hd
    · exact .inl (hy.f.back k hk hd)
    · exact .inr hd⟩
theorem CM.setU (h : CM L T M b fv s used plan vs w) (ho : L.ord) (u : Nat) : CM L T M b fv s u plan vs (w.setCell ⟨L.bU, 0, none⟩ (.int .i64 u)) := by
  obtain ⟨o0, o1, o2, o3, o4, o5, o6, o7⟩ := ho
  have hb : ¬ DY L.Y L.bO L.bR vs L.bU := h.ne _ (by simp [PLoc.box])
  exact ⟨h.t.far (by omega), h.m.far (by omega), h.b.far (by omega), h.y.far (by omega), h.p.far (by omega), by simpa using h.u.set_ 0 (.int .i64 u), h.f.far (by omega), own_far h.pl (by simp [Value.ownBlock]; omega), h.ym.far hb, h.ne, h.hT.far (by simp only; omega), h.hM.far (by simp only; omega), by simpa using h.hb⟩
theorem CM.setF (h : CM L T M b fv s used plan vs w) (ho : L.ord) (fv' : Value) : CM L T M b fv' s used plan vs (w.setCell ⟨L.bF, 0, none⟩ fv') := by
  obtain ⟨o0, o1, o2, o3, o4, o5, o6, o7⟩ := ho
  have hb : ¬ DY L.Y L.bO L.bR vs L.bF := h.ne _ (by simp [PLoc.box])
  exact ⟨h.t.far (by omega), h.m.far (by omega), h.b.far (by omega), h.y.far (by omega), h.p.far (by omega), h.u.far (by omega), by simpa using h.f.set_ 0 fv', own_far h.pl (by simp [Value.ownBlock]; omega), h.ym.far hb, h.ne, h.hT.far (by simp only; omega), h.hM.far (by simp only; omega), by simpa using h.hb⟩
theorem CM.setP (h : CM L T M b fv s used plan vs w) (ho : L.ord) (i j : Nat) : CM L T M b fv s used (plan.set i j) vs (w.setCell ⟨L.P, i, none⟩ (.int .i64 j)) := by
  obtain ⟨o0, o1, o2, o3, o4, o5, o6, o7⟩ := ho
  have hb : ¬ DY L.Y L.bO L.bR vs L.P := h.ne _ (by simp [PLoc.box])
  exact ⟨h.t.far (by omega), h.m.far (by omega), h.b.far (by omega), h.y.far (by omega), h.p.far (by omega), h.u.far (by omega), h.f.far (by omega), own1_set h.pl i j, h.ym.far hb, h.ne, h.hT.far (by simp only; omega), h.hM.far (by simp only; omega), by simpa using h.hb⟩
end
/-- what the closure leaves -/
def SrOut (L : PLoc) (T : List Tk) (M : List Mv) (b : Nat) (fv : Value) (i : Nat) (s : Yst) (plan : List Nat) (vs : List Value) (w : World) (r : Rs) (e : Ending) (w' : World) : Prop :=
  e = .returned (.int .i64 r.c) ∧ ∃ s' plan' vs', CM L T M b fv s' r.used plan' vs' w' ∧ FrY L.base (L.D vs) (L.D vs') w w' ∧ plan'.take i = plan.take i ∧ (r.c = 0 → plan'.drop i = r.plan) ∧ (r.c = 14 → s' = s)
end Go.Proofs.Ytffgnfefejimnaa
