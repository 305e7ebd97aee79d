import Derived.Test.YtcgamkldlmmdnaaFd4
namespace Go.Proofs.Ytcgamkldlmmdnaa
open Go.RowKit

theorem chF_suf {ne : Nat} {acts : List Act} {tree : List Int} {from_ : Int} {s : List Bool × List Int} {ord : List Int} (h : PSt ne acts tree from_ s ord) (y : Int) : ∀ (q : Nat) (x : Int) (ars ss : List Int), x ∈ ord → ord.idxOf x ≤ q → Suf acts tree (fun z => ord.idxOf z) x ars ss y →
    Suf acts tree (fun z => ord.idxOf z) from_ (chF acts s.2 from_ q x ars ss).1 (chF acts s.2 from_ q x ars ss).2 y
  | 0, x, ars, ss, hx, hq, hs => by
    have e : x = from_ := by
      have h1 : ord.idxOf x = 0 := by omega
      have h2 := h.hd
      have h3 : ord.idxOf x < ord.length := List.idxOf_lt_length_of_mem hx
      have h4 : ord[ord.idxOf x] = x := by simp
      rw [List.getElem?_eq_getElem (by omega)] at h2
      injection h2 with h2
      rw [← h4, ← h2]
      congr 1
    subst e
    exact hs
  | q + 1, x, ars, ss, hx, hq, hs => by
    unfold chF
    by_cases hxf : x = from_
    · rw [if_pos hxf]; subst hxf; exact hs
    · rw [if_neg hxf]
      obtain ⟨h1, h2, h3, h4, h5⟩ := h.back hx hxf
      refine chF_suf h y q _ _ _ h2 (by omega) ⟨h4, by split <;> simp, h1, ?_, ?_⟩
      · rw [h5]; exact h3
      · rw [h5]; exact hs
theorem path_some {ne : Nat} {acts : List Act} {tree : List Int} (hO : TreeOk ne acts tree) {from_ to_ : Int} (h0 : 0 ≤ from_) (h1 : from_ < (ne : Int)) (g0 : 0 ≤ to_) (g1 : to_ < (ne : Int)) (hc : Conn acts tree from_ to_) :
    ∃ p idx, pathF ne acts tree from_ to_ = some p ∧ Suf acts tree idx from_ p.1 p.2 to_ ∧ p.1.length ≤ ne := by
  obtain ⟨ord, hp, hcl⟩ := PSt.done hO h0 h1
  have hf : from_ ∈ ord := by
    have := hp.hd
    exact List.mem_of_getElem? this
  have hb : gb (pAll ne acts tree from_ ne).1 to_ = true := by rw [← closed_conn hcl hc]; exact (hp.mem from_ h0 h1).2 hf
  have hm := (hp.mem to_ g0 g1).1 hb
  have hlt : ord.idxOf to_ < ord.length := List.idxOf_lt_length_of_mem hm
  have hle := nodup_le2 ne ord hp.nd hp.rg
  have hlen : ∀ (q : Nat) (x : Int) (ars ss : List Int), (chF acts (pAll ne acts tree from_ ne).2 from_ q x ars ss).1.length ≤ q + ars.length := by
    intro q
    induction q with
    | zero => intro x ars ss; simp [chF]
    | succ q ih =>
      intro x ars ss
      unfold chF
      split
      · simp
      · have := ih ((ag acts (gi (pAll ne acts tree from_ ne).2 x)).fr + (ag acts (gi (pAll ne acts tree from_ ne).2 x)).tt - x) (gi (pAll ne acts tree from_ ne).2 x :: ars) ((if (ag acts (gi (pAll ne acts tree from_ ne).2 x)).fr = x then -1 else 1) :: ss)
        simp at this
        omega
  refine ⟨_, fun z => ord.idxOf z, by unfold pathF; rw [if_pos hb], chF_suf hp to_ ne to_ [] [] hm (by omega) rfl, ?_⟩
  have := hlen ne to_ [] []
  simpa using this
/-- the cycles of the activities outside the tree, ahead of k -/
def fundL (ne : Nat) (acts : List Act) (tree : List Int) : Nat → List (List Int × List Int)
  | 0 => []
  | k + 1 => if (k : Int) ∈ tree then fundL ne acts tree k else
    match pathF ne acts tree (ag acts k).tt (ag acts k).fr with
    | none => fundL ne acts tree k
    | some p => fundL ne acts tree k ++ [((k : Int) :: p.1, 1 :: p.2)]
def fundF (ne : Nat) (acts : List Act) (tree : List Int) : List (List Int × List Int) := if forestB ne acts tree = true then fundL ne acts tree acts.length else []
theorem fundL_len (ne : Nat) (acts : List Act) (tree : List Int) : ∀ k, (fundL ne acts tree k).length ≤ k
  | 0 => by simp [fundL]
  | k + 1 => by
    have := fundL_len ne acts tree k
    unfold fundL
    split
    · omega
    · split
      · omega
      · simp; omega
/-- a step of Fundamental -/
theorem fund_step {T : Int} {ne : Nat} {acts : List Act} {tree : List Int} (hn : NetOk T ne acts) (hF : forestB ne acts tree = true) (i : Nat) (hi : i < acts.length) (hni : (i : Int) ∉ tree) :
    ∃ p, pathF ne acts tree acts[i].tt acts[i].fr = some p ∧ CycOk T ne acts ((i : Int) :: p.1) (1 :: p.2) ∧ p.1.length ≤ ne ∧ p.2.length ≤ ne ∧ fundL ne acts tree (i + 1) = fundL ne acts tree i ++ [((i : Int) :: p.1, 1 :: p.2)] := by
  obtain ⟨hO, hC⟩ := forest_ok (fun x hx => by have := hn.a x hx; exact ⟨this.f0, this.f1, this.t0, this.t1, this.ft⟩) hF
  have ha := hn.a acts[i] (List.getElem_mem hi)
  have hc := (hC i hi).symm
  rw [ag_nat acts i hi] at hc
  obtain ⟨p, idx, h1, h2, h3⟩ := path_some hO ha.t0 ha.t1 ha.f0 ha.f1 hc
  have hl := h2.len
  refine ⟨p, h1, fund_cyc hn hO.rg i hi hni h2, h3, by omega, ?_⟩
  show (if (i : Int) ∈ tree then _ else _) = _
  rw [if_neg hni, ag_nat acts i hi, h1]
theorem fund_skip {ne : Nat} {acts : List Act} {tree : List Int} (i : Nat) (hni : (i : Int) ∈ tree) : fundL ne acts tree (i + 1) = fundL ne acts tree i := by
  show (if (i : Int) ∈ tree then _ else _) = _
  rw [if_pos hni]
end Go.Proofs.Ytcgamkldlmmdnaa
