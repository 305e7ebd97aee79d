import Derived.Test.YtbmbdenjlbelaaaBunM
import Derived.Test.YtbmbdenjlbelaaaIne8
namespace Go.Proofs.Ytbmbdenjlbelaaa
/-- Base -/
def wmT (acts : List Act) (i : Nat) : Int := (ag acts i).wt * (ag acts i).mn
def baseS (acts : List Act) : Int := sumN (wmT acts) acts.length
noncomputable def baseV (T : Int) (ne : Nat) (acts : List Act) : Int := if netB T ne acts = true then baseS acts else 0
noncomputable def baseE (T : Int) (ne : Nat) (acts : List Act) : Int := if netB T ne acts = true then 0 else 1
theorem mul_bd3 (x y A B : Int) (hx0 : 0 ≤ x) (hx1 : x ≤ A) (_hA : 0 ≤ A) (hB : 0 ≤ B) (hy0 : -B ≤ y) (hy1 : y ≤ B) : -(A * B) ≤ x * y ∧ x * y ≤ A * B := by
  have h1 : x * y ≤ x * B := Int.mul_le_mul_of_nonneg_left hy1 hx0
  have h2 : x * (-B) ≤ x * y := Int.mul_le_mul_of_nonneg_left hy0 hx0
  have h3 : x * B ≤ A * B := Int.mul_le_mul_of_nonneg_right hx1 hB
  rw [Int.mul_neg] at h2
  omega
theorem wm_bd {T : Int} {ne : Nat} {acts : List Act} (hn : NetOk T ne acts) (i : Nat) (hi : i < acts.length) : -68719476736 ≤ wmT acts i ∧ wmT acts i ≤ 68719476736 := by
  have h := hn.a _ (ag_mem acts i (by omega) (by omega))
  have h1 := h.m0
  have h2 := h.mm
  have h3 := h.m1
  have := mul_bd3 (ag acts i).wt (ag acts i).mn 1048576 65536 h.w0 h.w1 (by omega) (by omega) (by omega) (by omega)
  unfold wmT
  omega
theorem wmN_bd {T : Int} {ne : Nat} {acts : List Act} (hn : NetOk T ne acts) (k : Nat) (hk : k ≤ acts.length) : -35184372088832 ≤ sumN (wmT acts) k ∧ sumN (wmT acts) k ≤ 35184372088832 := by
  have := sumN_bd (wmT acts) (-68719476736) 68719476736 k (fun i hi => wm_bd hn i (by omega))
  have := hn.n
  omega
/-- gapOf -/
noncomputable def gapE (T : Int) (ne : Nat) (acts : List Act) (arcs signs : List Int) : Int := if cycB T ne acts arcs signs = true then (if okW T ne acts arcs signs = true then 0 else 14) else 1
/-- a part that lies in memory -/
structure Prt where
  c : Cyc
  tm : Int
def Prt.cells (p : Prt) : List Value := [.slice p.c.Ar p.c.arcs.length p.c.cr, .slice p.c.As p.c.signs.length p.c.cs, .int .i64 p.tm]
theorem Prt.len (p : Prt) : p.cells.length = 3 := rfl
theorem Prt.one (x : Prt) : ∀ u ∈ x.cells, u.oneCell' = true := by intro u hu; simp only [Prt.cells, List.mem_cons, List.not_mem_nil, or_false] at hu; rcases hu with rfl | rfl | rfl <;> rfl
/-- a number added at the places of a list -/
def addL (tm : Int) : List Int → List Int → List Int
  | us, [] => us
  | us, a :: r => addL tm (us.set a.toNat (gi us a + tm)) r
theorem addL_len (tm : Int) : ∀ (arcs us : List Int), (addL tm us arcs).length = us.length
  | [], _ => rfl
  | a :: r, us => by unfold addL; rw [addL_len tm r]; simp
theorem addL_app (tm : Int) : ∀ (l us : List Int) (a : Int), addL tm us (l ++ [a]) = (addL tm us l).set a.toNat (gi (addL tm us l) a + tm)
  | [], us, a => rfl
  | b :: r, us, a => by rw [List.cons_append]; unfold addL; exact addL_app tm r _ a
theorem addL_gi (tm : Int) : ∀ (arcs us : List Int) (b : Int), arcs.Nodup → (∀ a ∈ arcs, 0 ≤ a ∧ a < us.length) → 0 ≤ b → gi (addL tm us arcs) b = gi us b + if b ∈ arcs then tm else 0
  | [], us, b, _, _, _ => by simp [addL]
  | a :: r, us, b, hn, hr, hb => by
    have ha := hr a List.mem_cons_self
    rw [List.nodup_cons] at hn
    unfold addL
    rw [addL_gi tm r _ b hn.2 (fun x hx => by have := hr x (List.mem_cons_of_mem _ hx); simpa using this) hb, gi_set us a b _ ha.1 ha.2 hb]
    by_cases e : b = a
    · subst e
      rw [if_pos rfl, if_neg hn.1, if_pos List.mem_cons_self]
      omega
    · rw [if_neg e]
      by_cases hm : b ∈ r
      · rw [if_pos hm, if_pos (List.mem_cons_of_mem _ hm)]
      · rw [if_neg hm, if_neg (by rw [List.mem_cons]; exact fun h => h.elim e hm)]
section
variable (T : Int) (ne : Nat) (acts : List Act)
/-- Check: the first error -/
noncomputable def prE (p : Prt) : Int := if 1 ≤ p.tm ∧ p.tm ≤ 1048576 then gapE T ne acts p.c.arcs p.c.signs else 1
noncomputable def prsE : List Prt → Int
  | [] => 0
  | p :: r => if prE T ne acts p = 0 then prsE r else prE T ne acts p
/-- what the parts use, behind the first k of them -/
def usL (ps : List Prt) : Nat → List Int
  | 0 => List.replicate acts.length 0
  | k + 1 => match ps[k]? with | some p => addL p.tm (usL ps k) p.c.arcs | none => usL ps k
noncomputable def prT (ps : List Prt) (k : Nat) : Int := match ps[k]? with | some p => p.tm * gapV T ne acts p.c.arcs p.c.signs | none => 0
def overB (us : List Int) : Bool := (List.range acts.length).any fun i => decide ((ag acts i).wt < gi us i)
noncomputable def chkE (ps : List Prt) : Int := if netB T ne acts = true then (if prsE T ne acts ps = 0 then (if overB acts (usL acts ps ps.length) = true then 4 else 0) else prsE T ne acts ps) else 1
noncomputable def chkV (ps : List Prt) : Int := if chkE T ne acts ps = 0 then baseS acts + sumN (prT T ne acts ps) ps.length else 0
end
end Go.Proofs.Ytbmbdenjlbelaaa
