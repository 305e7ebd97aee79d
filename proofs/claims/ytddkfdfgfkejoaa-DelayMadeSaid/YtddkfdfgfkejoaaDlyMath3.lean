import Derived.Test.YtddkfdfgfkejoaaDlyMath2
namespace Go.Proofs.Ytddkfdfgfkejoaa

theorem prim_bdc (c : Int) (hc : 0 ≤ c) (ps : List Pri) (i : Int) (hn : (ps.map Pri.mo).Nodup) (hs : ∀ d ∈ ps, 0 ≤ d.sec ∧ d.sec ≤ c) : 0 ≤ prim ps i ∧ prim ps i ≤ c := by
  induction ps with
  | nil => simp [prim]; exact hc
  | cons d ps ih =>
    rw [List.map_cons, List.nodup_cons] at hn
    rw [prim_cons]
    have hd := hs d List.mem_cons_self
    have := ih hn.2 (fun x hx => hs x (List.mem_cons_of_mem _ hx))
    by_cases e : d.mo = i
    · rw [if_pos e, prim_none ps i (by rw [← e]; exact hn.1)]; omega
    · rw [if_neg e]; omega

/-- the seconds are small where the waits lead upward -/
theorem sol_bd {ms : List Mom} {ws : List Wt} {ps : List Pri} {b s : List Int} {k : List Bool} (h : Sol ms ws ps b s k) (ht : ∀ i : Int, 0 ≤ i → i < (ms.length : Int) → 0 ≤ tm ms i ∧ tm ms i ≤ 10000)
    (hw : ∀ k ∈ ws, 0 ≤ k.fr ∧ k.fr < k.tt ∧ k.tt < (ms.length : Int) ∧ 0 ≤ k.mn ∧ k.mn < 400) (hp : ∀ i, 0 ≤ prim ps i ∧ prim ps i ≤ 600) :
    ∀ (n : Nat) (i : Int), i = n → i < (ms.length : Int) → 0 ≤ gi b i ∧ gi b i ≤ 10000 + (i + 1) * 1000 ∧ 0 ≤ gi s i ∧ gi s i ≤ 10000 + (i + 1) * 1000 := by
  intro n
  induction n using Nat.strongRecOn with
  | _ n ih =>
    intro i hi h1
    have h0 : 0 ≤ i := by omega
    have hb : 0 ≤ gi b i ∧ gi b i ≤ 10000 + i * 1000 + 400 := by
      rw [h.b i h0 h1]
      unfold baseS
      rcases fold_or ms s i ws (hd ms i, tm ms i) with e | ⟨k, hk, e, _, hv⟩
      · rw [e]
        have := ht i h0 h1
        simp only
        omega
      · rw [hv]
        have hk' := hw k hk
        have := ih k.fr.toNat (by omega) k.fr (by omega) (by omega)
        unfold rdy
        omega
    have hs := h.s i h0 h1
    have := hp i
    omega
end Go.Proofs.Ytddkfdfgfkejoaa
