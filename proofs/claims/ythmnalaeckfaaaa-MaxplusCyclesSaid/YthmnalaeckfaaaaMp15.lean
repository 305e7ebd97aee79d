import Derived.Test.YthmnalaeckfaaaaMp14
namespace Go.Proofs.Ythmnalaeckfaaaa
open Go.RowKit
/-- the greatest mean so far, and the nodes that have it -/
structure Gr where
  num : Int
  den : Int
  nodes : List Bool
def grUp (n k : Nat) (wt : Int) (s : Gr) : Gr := if s.den = 0 ∨ s.num * k < wt * s.den then ⟨wt, k, List.replicate n false⟩ else s
def grMk (k i : Nat) (wt : Int) (s : Gr) : Gr := if wt * s.den = s.num * k then ⟨s.num, s.den, s.nodes.set i true⟩ else s
def grStep (n k i : Nat) (wt : Int) (s : Gr) : Gr := if wt = -1125899906842624 then s else grMk k i wt (grUp n k wt s)
def grRow (n k : Nat) (pw : List (List Int)) (s : Gr) : Nat → Gr
  | 0 => s
  | i + 1 => grStep n k i (gm pw i i) (grRow n k pw s i)
def grAll (n : Nat) (a : List (List Int)) : Nat → Gr
  | 0 => ⟨0, 0, List.replicate n false⟩
  | k + 1 => grRow n (k + 1) (powM n a (k + 1)) (grAll n a k) n
/-- what is known of the state -/
structure GrOk (n : Nat) (s : Gr) : Prop where
  n0 : -824633720832 ≤ s.num
  n1 : s.num ≤ 824633720832
  d0 : 0 ≤ s.den
  d1 : s.den ≤ 12
  l : s.nodes.length = n
theorem grUp_ok {n k : Nat} {wt : Int} {s : Gr} (h : GrOk n s) (hk : k ≤ 12) (hw : -824633720832 ≤ wt ∧ wt ≤ 824633720832) : GrOk n (grUp n k wt s) := by
  unfold grUp
  split
  · exact ⟨hw.1, hw.2, by simp only; omega, by simp only; omega, by simp⟩
  · exact h
theorem grMk_ok {n k i : Nat} {wt : Int} {s : Gr} (h : GrOk n s) : GrOk n (grMk k i wt s) := by
  unfold grMk
  split
  · exact ⟨h.n0, h.n1, h.d0, h.d1, by simpa using h.l⟩
  · exact h
theorem grStep_ok {n k i : Nat} {wt : Int} {s : Gr} (h : GrOk n s) (hk : k ≤ 12) (hw : wt = -1125899906842624 ∨ (-824633720832 ≤ wt ∧ wt ≤ 824633720832)) : GrOk n (grStep n k i wt s) := by
  unfold grStep
  split
  · exact h
  · rename_i h0; exact grMk_ok (grUp_ok h hk (hw.resolve_left h0))
theorem pow_bd {n : Nat} {a : List (List Int)} (hb : Go.Proofs.Ythmnalaeckfaaaa.Bd 68719476736 a n) : ∀ k : Nat, Go.Proofs.Ythmnalaeckfaaaa.Bd (68719476736 * k) (powM n a k) n
  | 0 => id_bd (by omega) n
  | k + 1 => by
    have h := prod_bd (pow_bd hb k) hb
    have e : (68719476736 * (k : Int) + 68719476736) = 68719476736 * ((k + 1 : Nat) : Int) := by omega
    rw [e] at h
    exact h
theorem pow_bd12 {n : Nat} {a : List (List Int)} (hb : Go.Proofs.Ythmnalaeckfaaaa.Bd 68719476736 a n) (k : Nat) (hk : k ≤ 12) : Go.Proofs.Ythmnalaeckfaaaa.Bd 824633720832 (powM n a k) n := (pow_bd hb k).mono (by omega)
theorem grRow_ok {n k : Nat} {pw : List (List Int)} {s : Gr} (h : GrOk n s) (hk : k ≤ 12) (hb : Go.Proofs.Ythmnalaeckfaaaa.Bd 824633720832 pw n) : ∀ i, i ≤ n → GrOk n (grRow n k pw s i)
  | 0, _ => h
  | i + 1, hi => grStep_ok (grRow_ok h hk hb i (by omega)) hk (hb i i (by omega) (by omega))
theorem grAll_ok {n : Nat} {a : List (List Int)} (hb : Go.Proofs.Ythmnalaeckfaaaa.Bd 68719476736 a n) : ∀ k, k ≤ 12 → GrOk n (grAll n a k)
  | 0, _ => ⟨by simp [grAll], by simp [grAll], by simp [grAll], by simp [grAll], by simp [grAll]⟩
  | k + 1, hk => grRow_ok (grAll_ok hb k (by omega)) hk (pow_bd12 hb (k + 1) hk) n (Nat.le_refl _)
end Go.Proofs.Ythmnalaeckfaaaa
