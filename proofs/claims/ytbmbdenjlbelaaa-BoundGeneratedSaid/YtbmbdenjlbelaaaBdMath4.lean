import Derived.Test.YtbmbdenjlbelaaaBdMath3
import Derived.Laws.AppendOwnNone
namespace Go.Proofs.Ytbmbdenjlbelaaa
open Go.RowKit
section
variable {T : Int} {ne : Nat} {acts : List Act} {ps qs : List Prt}
theorem sumN_split (f : Nat → Int) (m : Nat) : ∀ n, sumN f (m + n) = sumN f m + sumN (fun i => f (m + i)) n
  | 0 => by simp [sumN]
  | n + 1 => by
    show sumN f (m + n) + f (m + n) = sumN f m + (sumN (fun i => f (m + i)) n + f (m + n))
    rw [sumN_split f m n]; omega
def uT (ps : List Prt) (b : Int) (i : Nat) : Int := match ps[i]? with | some p => if b ∈ p.c.arcs then p.tm else 0 | none => 0
theorem usL_sum (k : Nat) (hk : k ≤ ps.length) (h : PrOk T ne acts ps k) (b : Int) (hb : 0 ≤ b) : gi (usL acts ps k) b = sumN (uT ps b) k := by
  induction k with
  | zero =>
    show gi (List.replicate acts.length 0) b = 0
    unfold gi
    rw [List.getD_eq_getElem?_getD, List.getElem?_replicate]
    split <;> rfl
  | succ k ih =>
    have h1 := ih (by omega) (fun i hi hik => h i hi (by omega))
    have h2 := prE_zero (h k (by omega) (by omega))
    rw [usL_succ k (by omega), addL_gi _ _ _ _ h2.2.2.1.nodup (by rw [usL_len]; exact h2.2.2.1.range) hb, h1]
    show _ = sumN (uT ps b) k + uT ps b k
    unfold uT
    rw [List.getElem?_eq_getElem (show k < ps.length by omega)]
theorem uT_left (b : Int) (i : Nat) (h : i < ps.length) : uT (ps ++ qs) b i = uT ps b i := by unfold uT; rw [List.getElem?_append_left h]
theorem uT_right (b : Int) (i : Nat) : uT (ps ++ qs) b (ps.length + i) = uT qs b i := by unfold uT; rw [List.getElem?_append_right (by omega)]; congr 2; omega
theorem prT_left (i : Nat) (h : i < ps.length) : prT T ne acts (ps ++ qs) i = prT T ne acts ps i := by unfold prT; rw [List.getElem?_append_left h]
theorem prT_right (i : Nat) : prT T ne acts (ps ++ qs) (ps.length + i) = prT T ne acts qs i := by unfold prT; rw [List.getElem?_append_right (by omega)]; congr 2; omega
theorem prok_split (h : PrOk T ne acts (ps ++ qs) (ps ++ qs).length) : PrOk T ne acts ps ps.length ∧ PrOk T ne acts qs qs.length := by
  refine ⟨fun i hi _ => ?_, fun i hi _ => ?_⟩
  · have := h i (by simp; omega) (by simp; omega)
    rwa [List.getElem_append_left hi] at this
  · have := h (ps.length + i) (by simp; omega) (by simp; omega)
    rw [List.getElem_append_right (by omega)] at this
    simpa using this
theorem uT_nn (h : PrOk T ne acts ps ps.length) (b : Int) (i : Nat) (hi : i < ps.length) : 0 ≤ uT ps b i := by
  unfold uT
  rw [List.getElem?_eq_getElem hi]
  have := prE_zero (h i hi hi)
  simp only
  split <;> omega
theorem prsE_all (h : PrOk T ne acts ps ps.length) : prsE T ne acts ps = 0 := by
  rw [← prsE_pre ps.length (Nat.le_refl _) h, List.drop_length]; rfl
theorem chk_ok (hn : NetOk T ne acts) (h : PrOk T ne acts ps ps.length) (ho : overB acts (usL acts ps ps.length) = false) : chkE T ne acts ps = 0 := by
  unfold chkE
  rw [if_pos (netB_yes hn), if_pos (prsE_all h), ho]
  rfl
theorem over_mk {us : List Int} (h : ∀ i, i < acts.length → gi us (i : Nat) ≤ (ag acts i).wt) : overB acts us = false := by
  unfold overB
  rw [List.any_eq_false]
  intro i hi
  have := h i (List.mem_range.1 hi)
  simp; omega
theorem sum_nn (f : Nat → Int) (n : Nat) (h : ∀ i, i < n → 0 ≤ f i) : 0 ≤ sumN f n := by
  have := sumN_le (fun _ => 0) f n h
  have h0 := sumN_mul 0 (fun _ => 0) n
  simp at h0
  omega
/-- the bounds of two lists add up -/
theorem add_law (h : chkE T ne acts (ps ++ qs) = 0) : chkE T ne acts ps = 0 ∧ chkE T ne acts qs = 0 ∧ chkV T ne acts (ps ++ qs) = chkV T ne acts ps + chkV T ne acts qs - baseS acts := by
  obtain ⟨hn, hp, ho, hv⟩ := chk_zero h
  obtain ⟨hp1, hp2⟩ := prok_split hp
  have hl : (ps ++ qs).length = ps.length + qs.length := List.length_append
  have hu : ∀ b : Int, 0 ≤ b → gi (usL acts (ps ++ qs) (ps ++ qs).length) b = sumN (uT ps b) ps.length + sumN (uT qs b) qs.length := fun b hb => by
    rw [usL_sum _ (Nat.le_refl _) hp b hb, hl, sumN_split, sumN_congr _ (uT ps b) _ (fun i hi => uT_left b i hi), sumN_congr (fun i => uT (ps ++ qs) b (ps.length + i)) (uT qs b) _ (fun i _ => uT_right b i)]
  have o1 : overB acts (usL acts ps ps.length) = false := over_mk fun i hi => by
    have h1 := over_no ho i hi
    rw [hu i (by omega)] at h1
    rw [usL_sum _ (Nat.le_refl _) hp1 i (by omega)]
    have := sum_nn (uT qs i) qs.length (fun k hk => uT_nn hp2 i k hk)
    omega
  have o2 : overB acts (usL acts qs qs.length) = false := over_mk fun i hi => by
    have h1 := over_no ho i hi
    rw [hu i (by omega)] at h1
    rw [usL_sum _ (Nat.le_refl _) hp2 i (by omega)]
    have := sum_nn (uT ps i) ps.length (fun k hk => uT_nn hp1 i k hk)
    omega
  have e1 := chk_ok hn hp1 o1
  have e2 := chk_ok hn hp2 o2
  refine ⟨e1, e2, ?_⟩
  have v1 := (chk_zero e1).2.2.2
  have v2 := (chk_zero e2).2.2.2
  rw [hv, v1, v2, hl, sumN_split, sumN_congr _ (prT T ne acts ps) _ (fun i hi => prT_left i hi), sumN_congr (fun i => prT T ne acts (ps ++ qs) (ps.length + i)) (prT T ne acts qs) _ (fun i _ => prT_right i)]
  omega
theorem chkV_err (h : chkE T ne acts ps ≠ 0) : chkV T ne acts ps = 0 := by unfold chkV; rw [if_neg h]
theorem chk_bd (hn : NetOk T ne acts) : -36063981391052800 ≤ chkV T ne acts ps ∧ chkV T ne acts ps ≤ 36063981391052800 := by
  by_cases h : chkE T ne acts ps = 0
  · obtain ⟨_, hp, ho, hv⟩ := chk_zero h
    have h1 := chk_small hn hp ho
    have h2 := wmN_bd hn acts.length (Nat.le_refl _)
    rw [show sumN (wmT acts) acts.length = baseS acts from rfl] at h2
    omega
  · rw [chkV_err h]; omega
end
/-- append of a whole slice, nil or not, as one step of a region that draws -/
theorem step_append_any {P : Program} {w : World} {ops : Array Oper} {o : Oper} {a : Go.Act} {K : Go.Act → World → Prop} {Q : Exit → Go.Act → World → Prop} {E : Prop} (hgd : o.guard = none) (s x : Operand) (t : TypeId)
    (ho : o.op = .call { callee := .builtin .append, args := #[s, x], argTypes := #[t, t] })
    (base : Nat) (e : TypeId) (i : TypeInfo) (z : Value) (size bytes : Nat) (ht : P.underlying t = some (.slice e)) (hi : P.info? e = some i) (hz : i.zero = some z)
    (hsize : i.size = size) (hby : i.bytes = bytes) (hzs : z.cells.size = size) (hsz : 0 < size)
    (v : Value) (n : Nat) (xs : List Value) (hs : a.eval s = v) (hown : w.ownsRow base e size v n xs)
    (ao : Option Addr) (m c B : Nat) (news : List Value) (hx : a.eval x = .slice ao m c) (hnone : ao = none → m = 0 ∧ c = 0) (hr : Rd w B size ao m news) (h1 : ∀ u ∈ news, u.oneCell' = true)
    (h63 : n + m ≤ maxLen) (hbytes : (n + m) * bytes ≤ 140737488355328) (hbase : base ≤ w.heap.size)
    (h : ∀ v' w', w'.ownsRow base e size v' (n + m) (xs ++ news) → w.grownBy w' v.ownBlock → (v'.ownBlock = v.ownBlock ∨ v'.ownBlock = some w.heap.size) → K (a.put o.dst v') w') :
    if Region.wanted o (yielded ops a.tmps) = true then Oper.wp P o a w K Q else E := by
  have hw : Region.wanted o (yielded ops a.tmps) = true := by simp [Region.wanted, hgd]
  rw [if_pos hw]
  cases ao with
  | none =>
    obtain ⟨rfl, rfl⟩ := hnone rfl
    have hn : news = [] := List.eq_nil_of_length_eq_zero (by simpa using hr.1)
    subst hn
    have hrun := run_append_owned_none (P := P) (w := w) base t o.type e i size ht hi v n xs hown
    unfold Oper.wp
    simp [execOp, ho, resolve, invoke, builtin, hs, hx, hrun, Result.andThen]
    exact h v w (by simpa using hown) (grownBy_refl _ _) (.inl rfl)
  | some ad =>
    have hnews : ∀ j u, news[j]? = some u → w.cell? (ad.add j) = some u := fun j u hu => by
      by_cases hm : 0 < m
      · obtain ⟨b, off, e1, _, hc⟩ := hr.2 hm
        injection e1 with e1
        subst e1
        rw [show (⟨b, off, none⟩ : Addr).add j = ⟨b, off + j, none⟩ by unfold Addr.add; split <;> simp_all]
        exact hc j u hu
      · have hl := hr.1
        have : m = 0 := by omega
        subst this
        have hn : news = [] := List.eq_nil_of_length_eq_zero (by simpa using hl)
        subst hn
        simp at hu
    obtain ⟨v', w', hrun, h2, h3, _, h5⟩ := run_append_own_at (P := P) w base t o.type e i z size bytes ht hi hz hsize hby hzs hsz v n xs hown ad m c news hr.1 hnews h1 h63 hbytes hbase
    unfold Oper.wp execOp
    simp only [ho, resolve, invoke, builtin, Sem.run_bind, Sem.run_pure, Result.andThen_ok, List.map_toArray, List.map_cons, List.map_nil, hs, hx, hrun]
    exact h v' w' h2 h3 h5
end Go.Proofs.Ytbmbdenjlbelaaa
