import Derived.Test.YtffgnfefejimnaaYd3
import Derived.Laws.AppendOwnNone
import Derived.Laws.Slices
namespace Go.Proofs.Ytffgnfefejimnaa
open Go.RowKit
/-! Steps of a region that draws: append of a whole slice, nil or not; slicing. -/
section
variable {P : Program} {w : World} {ops : Array Oper} {o : Oper} {a : Go.Act} {K : Go.Act → World → Prop} {Q : Exit → Go.Act → World → Prop} {E : Prop}
theorem step_append_any (hgd : o.guard = none) (s x : Operand) (t : TypeId)
    (ho : o.op = .call { callee := .builtin .append, args := #[s, x], argTypes := #[t, t] })
    (base : Nat) (e : TypeId) (i : TypeInfo) (z : Value) (size bytes : Nat) (ht : P.underlying t = some (.slice e)) (hi : P.info? e = some i) (hz : i.zero = some z)
    (hsize : i.size = size) (hby : i.bytes = bytes) (hzs : z.cells.size = size) (hsz : 0 < size)
    (v : Value) (n : Nat) (xs : List Value) (hs : a.eval s = v) (hown : w.ownsRow base e size v n xs)
    (ao : Option Addr) (m c B : Nat) (news : List Value) (hx : a.eval x = .slice ao m c) (hnone : ao = none → m = 0 ∧ c = 0) (hr : Rd w B size ao m news) (h1 : ∀ u ∈ news, u.oneCell' = true)
    (h63 : n + m ≤ maxLen) (hbytes : (n + m) * bytes ≤ 140737488355328) (hbase : base ≤ w.heap.size)
    (h : ∀ v' w', w'.ownsRow base e size v' (n + m) (xs ++ news) → w.grownBy w' v.ownBlock → (v'.ownBlock = v.ownBlock ∨ v'.ownBlock = some w.heap.size) → K (a.put o.dst v') w') :
    if Region.wanted o (yielded ops a.tmps) = true then Oper.wp P o a w K Q else E := by
  have hw : Region.wanted o (yielded ops a.tmps) = true := by simp [Region.wanted, hgd]
  rw [if_pos hw]
  cases ao with
  | none =>
    obtain ⟨rfl, rfl⟩ := hnone rfl
    have hn : news = [] := List.eq_nil_of_length_eq_zero (by simpa using hr.1)
    subst hn
    have hrun := run_append_owned_none (P := P) (w := w) base t o.type e i size ht hi v n xs hown
    unfold Oper.wp
    simp [execOp, ho, resolve, invoke, builtin, hs, hx, hrun, Result.andThen]
    exact h v w (by simpa using hown) (grownBy_refl _ _) (.inl rfl)
  | some ad =>
    have hnews : ∀ j u, news[j]? = some u → w.cell? (ad.add j) = some u := fun j u hu => by
      by_cases hm : 0 < m
      · obtain ⟨b, off, e1, _, hc⟩ := hr.2 hm
        injection e1 with e1
        subst e1
        rw [show (⟨b, off, none⟩ : Addr).add j = ⟨b, off + j, none⟩ by unfold Addr.add; split <;> simp_all]
        exact hc j u hu
      · have hl := hr.1
        have : m = 0 := by omega
        subst this
        have hn : news = [] := List.eq_nil_of_length_eq_zero (by simpa using hl)
        subst hn
        simp at hu
    obtain ⟨v', w', hrun, h2, h3, _, h5⟩ := run_append_own_at (P := P) w base t o.type e i z size bytes ht hi hz hsize hby hzs hsz v n xs hown ad m c news hr.1 hnews h1 h63 hbytes hbase
    unfold Oper.wp execOp
    simp only [ho, resolve, invoke, builtin, Sem.run_bind, Sem.run_pure, Result.andThen_ok, List.map_toArray, List.map_cons, List.map_nil, hs, hx, hrun]
    exact h v' w' h2 h3 h5
end
/-- the part of a slice ahead of p -/
theorem rd_pre {w : World} {B n g p s : Nat} {xs : List Value} (h : Rd w B s (some ⟨g, 0, none⟩) n xs) (hp : p ≤ n) : Rd w B s (some ⟨g, 0, none⟩) p (xs.take (p * s)) := by
  refine ⟨by rw [List.length_take, h.1, Nat.min_eq_left (Nat.mul_le_mul_right _ hp)], fun h0 => ?_⟩
  obtain ⟨b, off, e1, hb, hc⟩ := h.2 (by omega)
  refine ⟨b, off, e1, hb, fun j u hu => hc j u ?_⟩
  rw [List.getElem?_take] at hu
  split at hu
  · exact hu
  · cases hu
/-- the part from l on -/
theorem rd_post {w : World} {B n c g l s : Nat} {xs : List Value} (h : Rd w B s (some ⟨g, 0, none⟩) n xs) (hl : l ≤ n) (hc : n ≤ c) : Rd w B s (if c = l then some ⟨g, 0, none⟩ else some ⟨g, l * s, none⟩) (n - l) (xs.drop (l * s)) := by
  have hlen : (xs.drop (l * s)).length = (n - l) * s := by rw [List.length_drop, h.1, Nat.sub_mul]
  refine ⟨hlen, fun h0 => ?_⟩
  rw [if_neg (by omega)]
  obtain ⟨b, off, e1, hb, hcc⟩ := h.2 (by omega)
  injection e1 with e1
  injection e1 with e1 e2
  subst e1 e2
  refine ⟨g, l * s, rfl, hb, fun j u hu => ?_⟩
  rw [List.getElem?_drop] at hu
  have := hcc (l * s + j) u hu
  simpa using this
theorem grown_two {w w1 w2 : World} {r : Option Nat} (h1 : w.grownBy w1 none) (h2 : w1.grownBy w2 r) (hr : ∀ k, r = some k → w.heap.size ≤ k) (row : Option Nat) : w.grownBy w2 row := by
  obtain ⟨a1, a2, a3, a4, a5⟩ := h1
  obtain ⟨b1, b2, b3, b4, b5⟩ := h2
  refine ⟨by rw [b1, a1], by rw [b2, a2], by rw [b3, a3], Nat.le_trans a4 b4, fun k hk _ => ?_⟩
  rw [b5 k (Nat.lt_of_lt_of_le hk a4) (fun e => by have := hr k e.symm; omega), a5 k hk (by simp)]
theorem un_take (r : List Un) (p : Nat) : (r.flatMap Un.cells).take (p * 3) = (r.take p).flatMap Un.cells := by
  induction r generalizing p with
  | nil => simp
  | cons u r ih =>
    cases p with
    | zero => simp
    | succ p => simp [Un.cells, show (p + 1) * 3 = p * 3 + 1 + 1 + 1 by omega, ih]
theorem un_drop (r : List Un) (p : Nat) : (r.flatMap Un.cells).drop (p * 3) = (r.drop p).flatMap Un.cells := by
  induction r generalizing p with
  | nil => simp
  | cons u r ih =>
    cases p with
    | zero => simp
    | succ p => simp [Un.cells, show (p + 1) * 3 = p * 3 + 1 + 1 + 1 by omega, ih]
theorem un_erase (r : List Un) (p : Nat) : (r.eraseIdx p).flatMap Un.cells = (r.flatMap Un.cells).take (p * 3) ++ (r.flatMap Un.cells).drop ((p + 1) * 3) := by
  rw [un_take, un_drop, List.eraseIdx_eq_take_drop_succ, List.flatMap_append]
theorem Un.one' (u : Un) : ∀ v ∈ Un.cells u, v.oneCell' = true := by intro v hv; simp [Un.cells] at hv; rcases hv with rfl | rfl | rfl <;> rfl
end Go.Proofs.Ytffgnfefejimnaa
