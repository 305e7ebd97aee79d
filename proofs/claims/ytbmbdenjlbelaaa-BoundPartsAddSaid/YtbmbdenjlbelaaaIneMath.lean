namespace Go.Proofs.Ytbmbdenjlbelaaa
structure Act where
  kd : Int
  fr : Int
  tt : Int
  mn : Int
  mx : Int
  wt : Int
structure ActOk (T : Int) (ne : Nat) (a : Act) : Prop where
  f0 : 0 ≤ a.fr
  f1 : a.fr < ne
  t0 : 0 ≤ a.tt
  t1 : a.tt < ne
  ft : a.fr ≠ a.tt
  m0 : -65536 ≤ a.mn
  mm : a.mn ≤ a.mx
  m1 : a.mx ≤ 65536
  sp : a.mx - a.mn < T
  w0 : 0 ≤ a.wt
  w1 : a.wt ≤ 1048576
structure NetOk (T : Int) (ne : Nat) (acts : List Act) : Prop where
  t0 : 2 ≤ T
  t1 : T ≤ 7200
  e : ne ≤ 48
  n : acts.length ≤ 512
  a : ∀ x ∈ acts, ActOk T ne x
open Classical in
noncomputable def netB (T : Int) (ne : Nat) (acts : List Act) : Bool := decide (NetOk T ne acts)
theorem netB_iff {T : Int} {ne : Nat} {acts : List Act} : netB T ne acts = true ↔ NetOk T ne acts := by simp [netB]
theorem netB_yes {T : Int} {ne : Nat} {acts : List Act} (h : NetOk T ne acts) : netB T ne acts = true := netB_iff.2 h
theorem netB_no {T : Int} {ne : Nat} {acts : List Act} (h : ¬ NetOk T ne acts) : netB T ne acts = false := by
  cases hb : netB T ne acts
  · rfl
  · exact absurd (netB_iff.1 hb) h
end Go.Proofs.Ytbmbdenjlbelaaa
