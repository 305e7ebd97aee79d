import Derived.Test.YthfifejjfnmpoaaTpMath2
namespace Go.Proofs.Ythfifejjfnmpoaa
/-! How many edits there are. -/
def cntA (b : List PT) (t : PT) : Nat := match findT b t with
  | none => 1
  | some u => if eqT u t = true then 0 else 1
def cntB (a : List PT) (u : PT) : Nat := match findT a u with
  | none => 1
  | some _ => 0
theorem stA_len (b : List PT) (out : List PE) (t : PT) : (stA b out t).length = out.length + cntA b t := by
  unfold stA cntA
  cases findT b t with
  | none => simp [insE_len]
  | some u =>
    simp only
    have e : eqT t u = eqT u t := by
      rw [Bool.eq_iff_iff, eqT_iff, eqT_iff]
      exact ⟨fun h => h.symm, fun h => h.symm⟩
    rw [e]
    split
    · simp
    · simp [insE_len]
theorem stB_len (a : List PT) (out : List PE) (t : PT) : (stB a out t).length = out.length + cntB a t := by
  unfold stB cntB
  cases findT a t with
  | none => simp [insE_len]
  | some u => simp
theorem foldA_len (b : List PT) : ∀ (l : List PT) (out : List PE), (l.foldl (stA b) out).length = out.length + (l.map (cntA b)).sum
  | [], out => by simp
  | t :: l, out => by
    rw [List.foldl_cons, foldA_len b l, stA_len]
    simp
    omega
theorem foldB_len (a : List PT) : ∀ (l : List PT) (out : List PE), (l.foldl (stB a) out).length = out.length + (l.map (cntB a)).sum
  | [], out => by simp
  | t :: l, out => by
    rw [List.foldl_cons, foldB_len a l, stB_len]
    simp
    omega
theorem diffM_len {a b : List PT} (ha : Asc a) (hb : Asc b) : (diffM a b).length = (a.map (cntA b)).sum + (b.map (cntB a)).sum := by
  rw [← diff_eq ha hb]
  unfold diffR
  rw [foldB_len, foldA_len]
  simp
theorem diffM_self : ∀ (a : List PT), diffM a a = []
  | [] => by unfold diffM; rfl
  | a :: l => by
    unfold diffM
    rw [if_neg (ltK_irr a), if_neg (ltK_irr a), if_pos (eqT_iff.2 rfl)]
    exact diffM_self l
/-- the edits are valid -/
theorem diffM_ok {a b : List PT} (ha : Asc a) (hb : Asc b) (oa : ∀ t ∈ a, okT t = true) (ob : ∀ t ∈ b, okT t = true) : ∀ e ∈ diffM a b, okE e = true := by
  intro e he
  rcases (mem_diffM a b ha hb e).1 he with ⟨t, ht, _, rfl⟩ | ⟨u, hu, _, rfl⟩ | ⟨t, ht, u, hu, hk, hne, rfl⟩
  · simp [okE, oa t ht, eqT_iff]
  · simp [okE, ob u hu, eqT_iff]
  · have : eqT t u = false := eqT_no.2 hne
    simp [okE, oa t ht, ob u hu, hk, this]
end Go.Proofs.Ythfifejjfnmpoaa
