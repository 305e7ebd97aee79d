import Derived.Test.YtffgnfefejimnaaYr4
import Derived.WalkSmall
namespace Go.Proofs.Ytffgnfefejimnaa
open Go.RowKit
/-! The reference's search: its memory. -/
def DS (S : Nat) (vP : Value) (k : Nat) : Prop := k = S ∨ vP.ownBlock = some k
structure SM (base S : Nat) (AT AM : Option Addr) (cM : Nat) (T : List Tk) (M : List Mv) (b used : Nat) (pl : List Nat) (vP : Value) (w : World) : Prop where
  s : Blk w S 63 #[.slice AM M.length cM, .int .i64 b, .int .i64 used, vP]
  hs : base ≤ S
  p : w.ownsRow base 3 1 vP pl.length (pl.map natV)
  hM : Rd w base 3 AM M.length (M.flatMap Mv.cells)
  hT : Rd w base 2 AT T.length (T.flatMap Tk.cells)
  hb : base ≤ w.heap.size
section
variable {base S : Nat} {AT AM : Option Addr} {cM : Nat} {T : List Tk} {M : List Mv} {b used : Nat} {pl : List Nat} {vP : Value} {w w' : World}
theorem SM.grow (h : SM base S AT AM cM T M b used pl vP w) (hb : Below w.heap.size w w') : SM base S AT AM cM T M b used pl vP w' :=
  ⟨h.s.bel hb, h.hs, own_grow h.p hb, (h.hM.more h.hb).grow hb |> fun r => ⟨r.1, fun hn => by obtain ⟨g, o, e, _, hc⟩ := r.2 hn; obtain ⟨g2, o2, e2, hb2, _⟩ := h.hM.2 hn; rw [e] at e2; injection e2 with e2; injection e2 with e3 e4; exact ⟨g, o, e, by omega, hc⟩⟩,
   (h.hT.more h.hb).grow hb |> fun r => ⟨r.1, fun hn => by obtain ⟨g, o, e, _, hc⟩ := r.2 hn; obtain ⟨g2, o2, e2, hb2, _⟩ := h.hT.2 hn; rw [e] at e2; injection e2 with e2; injection e2 with e3 e4; exact ⟨g, o, e, by omega, hc⟩⟩, Nat.le_trans h.hb hb.size⟩
theorem SM.pS (h : SM base S AT AM cM T M b used pl vP w) : vP.ownBlock ≠ some S := own_nb h.p h.s (by decide)
theorem SM.D_base (h : SM base S AT AM cM T M b used pl vP w) {k : Nat} (hk : DS S vP k) : base ≤ k ∧ k < w.heap.size := by
  rcases hk with rfl | hk
  · exact ⟨h.hs, h.s.lt⟩
  · exact own_block h.p k hk
theorem SM.sUsed (h : SM base S AT AM cM T M b used pl vP w) (u : Nat) : SM base S AT AM cM T M b u pl vP (w.setCell ⟨S, 2, none⟩ (.int .i64 u)) :=
  ⟨by simpa using h.s.set_ 2 (.int .i64 u), h.hs, own_far h.p h.pS, h.hM.far h.hs, h.hT.far h.hs, by simpa using h.hb⟩
theorem SM.fUsed (h : SM base S AT AM cM T M b used pl vP w) (u : Nat) : FrY base (DS S vP) (DS S vP) w (w.setCell ⟨S, 2, none⟩ (.int .i64 u)) := FrY.set (.inl rfl) h.hs
theorem SM.app {q : List Nat} {v' : Value} (h : SM base S AT AM cM T M b used pl vP w) (hg : w.grownBy w' vP.ownBlock) (ho : w'.ownsRow base 3 1 v' q.length (q.map natV)) (hat : v'.ownBlock = vP.ownBlock ∨ v'.ownBlock = some w.heap.size) :
    SM base S AT AM cM T M b used q v' (w'.setCell ⟨S, 3, none⟩ v') ∧ FrY base (DS S vP) (DS S v') w (w'.setCell ⟨S, 3, none⟩ v') := by
  have hz := h.s.grown hg h.pS
  have hk : ∀ k, vP.ownBlock = some k → base ≤ k := fun k e => (own_block h.p k e).1
  have hbel : Below base w w' := (Below.refl _ _).grown hg h.hb hk
  refine ⟨⟨by simpa using hz.set_ 3 v', h.hs, own_far ho (own_nb ho hz (by decide)), (h.hM.grow hbel).far h.hs, (h.hT.grow hbel).far h.hs, by simpa using Nat.le_trans h.hb hbel.size⟩, hbel.setCell h.hs _, fun k hk hd => ?_, fun k hk hd => ?_⟩
  · rw [Below.heap_setCell _ _ _ _ (by intro e; simp only at e; exact hd (.inl e))]
    exact hg.block k hk fun e => hd (.inr e.symm)
  · rcases hd with e | e
    · exact .inl e
    · rcases hat with e2 | e2
      · exact .inr (by rw [← e2]; exact e)
      · rw [e2] at e; injection e with e; omega
theorem SM.pop {A : Option Addr} {c j : Nat} (h : SM base S AT AM cM T M b used (pl ++ [j]) (.slice A (pl.length + 1) c) w) : SM base S AT AM cM T M b used pl (.slice A pl.length c) (w.setCell ⟨S, 3, none⟩ (.slice A pl.length c)) ∧
    FrY base (DS S (.slice A (pl.length + 1) c)) (DS S (.slice A pl.length c)) w (w.setCell ⟨S, 3, none⟩ (.slice A pl.length c)) := by
  have hp := h.p
  rw [List.length_append, List.length_singleton] at hp
  obtain ⟨g, c', e, _, _⟩ := hp.form (by omega)
  injection e with e
  subst e
  rw [List.map_append] at hp
  have hp2 := ownsRow_pop (by simp) hp
  have hS := h.pS
  refine ⟨⟨by simpa using h.s.set_ 3 (.slice (some ⟨g, 0, none⟩) pl.length c), h.hs, own_far hp2 hS, h.hM.far h.hs, h.hT.far h.hs, by simpa using h.hb⟩, ?_⟩
  have hf : FrY base (DS S (.slice (some ⟨g, 0, none⟩) (pl.length + 1) c)) (DS S (.slice (some ⟨g, 0, none⟩) (pl.length + 1) c)) w (w.setCell ⟨S, 3, none⟩ (.slice (some ⟨g, 0, none⟩) pl.length c)) := FrY.set (.inl rfl) h.hs
  exact ⟨hf.bel, hf.keep, hf.back⟩
end
/-- a state that is read and lies outside D -/
structure RfN (D : Nat → Prop) (AO AU : Option Addr) (cU : Nat) (T : List Tk) (us : List Mv) (s : Yst) (vs : List Value) (w : World) : Prop where
  r : RfR w.heap.size AO AU cU T us s vs w
  o : ∀ a, AO = some a → a.block < w.heap.size ∧ ¬ D a.block
  u : ∀ a, AU = some a → a.block < w.heap.size ∧ ¬ D a.block
  v : ∀ x ∈ vs, ∀ A n c, x = .slice A n c → ∀ a, A = some a → a.block < w.heap.size ∧ ¬ D a.block
theorem Rd.keepA {w w' : World} {B sz n : Nat} {A : Option Addr} {xs : List Value} (h : Rd w B sz A n xs) (hk : ∀ a, A = some a → w'.heap[a.block]? = w.heap[a.block]?) : Rd w' B sz A n xs :=
  ⟨h.1, fun hn => by
    obtain ⟨b, off, e, hb, hc⟩ := h.2 hn
    have hbk : w'.heap[b]? = w.heap[b]? := hk _ e
    exact ⟨b, off, e, hb, fun j u hu => (World.cell?_of_block hbk).trans (hc j u hu)⟩⟩
theorem RfN.keep {D D' : Nat → Prop} {AO AU : Option Addr} {cU : Nat} {T : List Tk} {us : List Mv} {s : Yst} {vs : List Value} {w w' : World} (h : RfN D AO AU cU T us s vs w) (hk : ∀ k, k < w.heap.size → ¬ D k → w'.heap[k]? = w.heap[k]?) (hs : w.heap.size ≤ w'.heap.size) (hD : ∀ k, k < w.heap.size → D' k → D k) : RfN D' AO AU cU T us s vs w' := by
  refine ⟨⟨(h.r.o.keepA fun a e => hk _ (h.o a e).1 (h.o a e).2).more hs, fun t ht => ?_, (h.r.u.keepA fun a e => hk _ (h.u a e).1 (h.u a e).2).more hs, h.r.un⟩, fun a e => ⟨Nat.lt_of_lt_of_le (h.o a e).1 hs, fun hd => (h.o a e).2 (hD _ (h.o a e).1 hd)⟩, fun a e => ⟨Nat.lt_of_lt_of_le (h.u a e).1 hs, fun hd => (h.u a e).2 (hD _ (h.u a e).1 hd)⟩, fun x hx A n c e a e' => ⟨Nat.lt_of_lt_of_le (h.v x hx A n c e a e').1 hs, fun hd => (h.v x hx A n c e a e').2 (hD _ (h.v x hx A n c e a e').1 hd)⟩⟩
  obtain ⟨A, c, h1, h2, h3⟩ := h.r.r t ht
  have hv := h.v _ (List.mem_of_getElem? h1) A _ c rfl
  exact ⟨A, c, h1, (h2.keepA fun a e => hk _ (hv a e).1 (hv a e).2).more hs, h3⟩
theorem RfN.fr {base : Nat} {D D' : Nat → Prop} {AO AU : Option Addr} {cU : Nat} {T : List Tk} {us : List Mv} {s : Yst} {vs : List Value} {w w' : World} (h : RfN D AO AU cU T us s vs w) (hf : FrY base D D' w w') : RfN D' AO AU cU T us s vs w' :=
  h.keep hf.keep hf.bel.size hf.back
theorem RfO.rn {D : Nat → Prop} {base : Nat} {AO AU : Option Addr} {cO cU : Nat} {T : List Tk} {us : List Mv} {s : Yst} {vs : List Value} {w : World} (hn : s.on.length = T.length)
    (h : RfO base (.slice AO T.length cO) (.slice AU us.length cU) us (s.on.map fun r => r.map (·.num)) vs w) (hT : 1 ≤ T.length) (hD : ∀ k, D k → k < base) : RfN D AO AU cU T us s vs w := by
  have hno : ∀ {k : Nat}, base ≤ k → ¬ D k := fun hk hd => by have := hD _ hd; omega
  have hl : (s.on.map fun r => r.map (·.num)).length = T.length := by simp [hn]
  refine ⟨h.rd hn, fun a e => ?_, fun a e => ?_, fun x hx A n c e a e' => ?_⟩
  · have ho := h.o
    rw [hl] at ho
    obtain ⟨g, c', e2, h1, h2⟩ := ho.form (by omega)
    injection e2 with e2
    rw [e2] at e; injection e with e; subst e
    exact ⟨h2, hno h1⟩
  · rcases h.u.2 with ⟨hv, _⟩ | ⟨g, cap, cur, hv, hb, hh, _⟩
    · injection hv with hv; rw [hv] at e; cases e
    · injection hv with hv; rw [hv] at e; injection e with e; subst e
      exact ⟨(Array.getElem?_eq_some_iff.1 hh).1, hno hb⟩
  · obtain ⟨t, ht, rfl⟩ := List.getElem_of_mem hx
    have hvl := h.vl
    have hr := h.r t _ _ (List.getElem?_eq_getElem ht) (List.getElem?_eq_getElem (by omega))
    rw [e] at hr
    rcases hr.2 with ⟨hv, _⟩ | ⟨g, cap, cur, hv, hb, hh, _⟩
    · injection hv with hv; rw [hv] at e'; cases e'
    · injection hv with hv; rw [hv] at e'; injection e' with e'; subst e'
      exact ⟨(Array.getElem?_eq_some_iff.1 hh).1, hno hb⟩
end Go.Proofs.Ytffgnfefejimnaa
