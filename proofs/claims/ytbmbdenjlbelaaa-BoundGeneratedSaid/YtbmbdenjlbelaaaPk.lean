import Derived.Test.YtbmbdenjlbelaaaPkLaw
import Derived.Test.YtbmbdenjlbelaaaBd2
import Derived.Test.YtbmbdenjlbelaaaCln
import Derived.Test.YtbmbdenjlbelaaaFd6
namespace Go.Proofs.Ytbmbdenjlbelaaa
open Go.RowKit

theorem infoPrt' : (Try.prog.info? 47).map (fun i => (i.zero, i.size, i.bytes)) = some (some (.agg #[.slice none 0 0, .slice none 0 0, .int .i64 0]), 3, 56) := by kernel_rfl
/-- the memory of Pack: the network, what is left of the weights, the parts -/
structure PaS (w wr : World) (X G na : Nat) (xs : Array Value) (left : List Int) (v : Value) (ps : List Prt) : Prop where
  k : PkS w wr X G na xs left
  o : wr.ownsRow (G + 1) 47 3 v ps.length (ps.flatMap Prt.cells)
  c : ∀ p ∈ ps, CyOwn wr (G + 1) p.c
section
variable {w wr w' : World} {X G na : Nat} {xs : Array Value} {left : List Int} {v : Value} {ps : List Prt}
theorem PaS.grow (h : PaS w wr X G na xs left v ps) (hb : Below wr.heap.size wr w') : PaS w w' X G na xs left v ps := ⟨h.k.grow hb, own_grow h.o hb, fun p hp => (h.c p hp).grow hb⟩
theorem PaS.set (h : PaS w wr X G na xs left v ps) (i : Nat) (u : Int) : PaS w (wr.setCell ⟨G, i, none⟩ (.int .i64 u)) X G na xs (left.set i u) v ps :=
  ⟨h.k.set i u, own_far h.o (fun e => by have := (own_block h.o _ e).1; simp at this; omega), fun p hp => ⟨own_far (h.c p hp).r (fun e => by have := (own_block (h.c p hp).r _ e).1; simp at this; omega), own_far (h.c p hp).s (fun e => by have := (own_block (h.c p hp).s _ e).1; simp at this; omega), (h.c p hp).hr, (h.c p hp).hs⟩⟩
end
theorem pkErr_stop {T : Int} {ne : Nat} {acts : List Act} : ∀ (l : List Cyc) (j : Nat) (h : j < l.length), (∀ i (h : i < l.length), i < j → gapE T ne acts l[i].arcs l[i].signs = 0) → gapE T ne acts l[j].arcs l[j].signs ≠ 0 → pkErr T ne acts l = gapE T ne acts l[j].arcs l[j].signs
  | c :: r, 0, _, _, h0 => by
    unfold pkErr
    rw [if_neg (by simpa using h0)]
    rfl
  | c :: r, j + 1, h, hok, h0 => by
    have hc : gapE T ne acts c.arcs c.signs = 0 := hok 0 (by simp) (by omega)
    unfold pkErr
    rw [if_pos hc]
    exact pkErr_stop r j (by simpa using h) (fun i hi hij => hok (i + 1) (by simpa using hi) (by omega)) h0
theorem pk_bd {T : Int} {ne : Nat} {acts : List Act} {s : PkSt} (hn : NetOk T ne acts) (h : PkOk acts s) : -36063981391052800 ≤ s.bnd ∧ s.bnd ≤ 36063981391052800 := by
  have h1 := wmN_bd hn acts.length (Nat.le_refl _)
  rw [show sumN (wmT acts) acts.length = baseS acts from rfl] at h1
  have h2 := h.b0
  have h3 := h.b1
  have h4 := sumN_bd (fun i => (ag acts i).wt) 0 1048576 acts.length (fun i hi => ⟨(hn.a _ (ag_mem acts i (by omega) (by omega))).w0, (hn.a _ (ag_mem acts i (by omega) (by omega))).w1⟩)
  have h5 := sumN_bd (fun i => gi s.left i) 0 1048576 acts.length (fun i hi => ⟨(h.bd i hi).1, by have := (h.bd i hi).2; have := (hn.a _ (ag_mem acts i (by omega) (by omega))).w1; omega⟩)
  have h6 := hn.n
  have h7 : 0 ≤ allU acts s.left := by unfold allU; omega
  omega
theorem pkStep_left {T : Int} {ne : Nat} {acts : List Act} {arcs signs : List Int} {s : PkSt} (hc : CycOk T ne acts arcs signs) (h : PkOk acts s) : ((pkStep T ne acts arcs signs s).out.length : Int) + allU acts (pkStep T ne acts arcs signs s).left ≤ (s.out.length : Int) + allU acts s.left := by
  unfold pkStep
  split
  · exact Int.le_refl _
  · rename_i hlt
    have h2 := hc.two
    have hrg : ∀ i : Nat, i < arcs.length → 0 ≤ gi arcs i ∧ gi arcs i < acts.length := fun i hi => ⟨(hc.arc i hi).a0, (hc.arc i hi).a1⟩
    generalize minA s.left arcs arcs.length = tm at *
    have e : ∀ i : Nat, i < acts.length → gi (addL (-tm) s.left arcs) i = gi s.left i + if (i : Int) ∈ arcs then -tm else 0 := fun i _ => addL_gi _ _ _ _ hc.nodup (by rw [h.len]; exact hc.range) (by omega)
    have hu : allU acts (addL (-tm) s.left arcs) + tm ≤ allU acts s.left := by
      unfold allU
      rw [sumN_congr _ _ _ e, sumN_add]
      have ha := hc.arc 0 (by omega)
      have h3 := sumN_one (fun i => if (i : Int) ∈ arcs then tm else 0) acts.length (gi arcs ((0 : Nat) : Int)).toNat (by have := ha.a0; have := ha.a1; omega) (fun i _ => by split <;> omega)
      rw [Int.toNat_of_nonneg ha.a0, if_pos (by rw [gi_nat arcs 0 (by omega)]; exact List.getElem_mem _)] at h3
      have h4 : sumN (fun i => if (i : Int) ∈ arcs then -tm else 0) acts.length = - sumN (fun i => if (i : Int) ∈ arcs then tm else 0) acts.length := by
        rw [← sumN_neg]
        apply sumN_congr
        intro i _
        split <;> omega
      omega
    show ((s.out ++ [(arcs, signs, tm)]).length : Int) + allU acts (addL (-tm) s.left arcs) ≤ _
    simp
    omega
theorem pk_cnt {T : Int} {ne : Nat} {acts : List Act} {l : List Cyc} (hn : NetOk T ne acts) (k : Nat) (hk : k ≤ l.length) (h : ∀ i (h : i < l.length), i < k → gapE T ne acts l[i].arcs l[i].signs = 0) : ((pkAll T ne acts l k).out.length : Int) + allU acts (pkAll T ne acts l k).left ≤ allU acts (pkInit acts).left := by
  induction k with
  | zero => show (([] : List (List Int × List Int × Int)).length : Int) + allU acts (pkInit acts).left ≤ _; simp
  | succ k ih =>
    have h1 := ih (by omega) (fun i hi hik => h i hi (by omega))
    have h2 := pkStep_left (gapE_cyc (h k (by omega) (by omega))) (pkAll_ok hn k (by omega) (fun i hi hik => h i hi (by omega)))
    rw [pkAll_succ k (by omega)]
    omega
theorem pk_len {T : Int} {ne : Nat} {acts : List Act} {l : List Cyc} (hn : NetOk T ne acts) (k : Nat) (hk : k ≤ l.length) (h : ∀ i (h : i < l.length), i < k → gapE T ne acts l[i].arcs l[i].signs = 0) : (pkAll T ne acts l k).out.length ≤ 536870912 := by
  have h1 := pk_cnt hn k hk h
  have h2 := pkAll_ok hn k hk h
  have h3 := pkInit_ok hn
  have h4 : 0 ≤ allU acts (pkAll T ne acts l k).left := by
    unfold allU
    have := sumN_bd (fun i => gi (pkAll T ne acts l k).left i) 0 1048576 acts.length (fun i hi => ⟨(h2.bd i hi).1, by have := (h2.bd i hi).2; have := (hn.a _ (ag_mem acts i (by omega) (by omega))).w1; omega⟩)
    omega
  have h5 : allU acts (pkInit acts).left ≤ 536870912 := by
    unfold allU
    have := sumN_bd (fun i => gi (pkInit acts).left i) 0 1048576 acts.length (fun i hi => ⟨(h3.bd i hi).1, by have := (h3.bd i hi).2; have := (hn.a _ (ag_mem acts i (by omega) (by omega))).w1; omega⟩)
    have := hn.n
    omega
  omega
/-- what Pack gives -/
def PackOut (T : Int) (ne : Nat) (acts : List Act) (l : List Cyc) (w : World) (e : Ending) (w' : World) : Prop :=
  ∃ (A : Option Addr) (c : Nat) (ps : List Prt), e = .returned (.tuple #[.slice A ps.length c, .int .i64 (packB T ne acts l), .int .i64 (packE T ne acts l)]) ∧ ps.map prV = packO T ne acts l ∧ w'.ownsRow w.heap.size 47 3 (.slice A ps.length c) ps.length (ps.flatMap Prt.cells) ∧ (∀ p ∈ ps, CyOwn w' w.heap.size p.c) ∧ Below w.heap.size w w'
/-- behind the copy of a cycle -/
def CpR (w : World) (X G na : Nat) (xs : Array Value) (left : List Int) (v12 : Value) (ps : List Prt) (arcs signs : List Int) (v : Value) (wx : World) : Prop :=
  ∃ (C : Nat) (A1 A2 : Option Addr) (c1 c2 : Nat), v = .pointer (some ⟨C, 0, none⟩) ∧ PaS w wx X G na xs left v12 ps ∧ Blk wx C 45 #[.slice A1 arcs.length c1, .slice A2 signs.length c2] ∧ CyOwn wx (G + 1) ⟨A1, c1, A2, c2, arcs, signs⟩
theorem own_ne_blk {w : World} {base C : Nat} {e t : TypeId} {sz n : Nat} {v : Value} {xs : List Value} {cs : Array Value} (h : w.ownsRow base e sz v n xs) (hk : Blk w C t cs) (hne : e ≠ t) : v.ownBlock ≠ some C := by
  intro hv
  rcases h.2 with ⟨rfl, _⟩ | ⟨g, cap, cur, rfl, _, hh, _⟩
  · simp [Value.ownBlock] at hv
  · simp [Value.ownBlock] at hv
    subst hv
    unfold Blk at hk
    rw [hk] at hh
    injection hh with hh
    injection hh with _ h2
    exact hne h2.symm
section
variable {w wr W1 w8 W2 w9 : World} {X G na : Nat} {xs : Array Value} {left : List Int} {v12 : Value} {ps : List Prt} {arcs signs : List Int} {A8 A9 : Option Addr} {c8 c9 : Nat}
theorem cp_own (hP : PaS w wr X G na xs left v12 ps) (h1 : Below wr.heap.size wr W1) (ho8 : w8.ownsRow W1.heap.size 3 1 (.slice A8 arcs.length c8) arcs.length (arcs.map (Value.int .i64))) (h2 : Below w8.heap.size w8 W2) (hb8 : Below W1.heap.size W1 w8)
    (ho9 : w9.ownsRow W2.heap.size 3 1 (.slice A9 signs.length c9) signs.length (signs.map (Value.int .i64))) (hb9 : Below W2.heap.size W2 w9) (ha : arcs.length ≤ 512) (hs : signs.length ≤ 512) : PaS w w9 X G na xs left v12 ps ∧ CyOwn w9 (G + 1) ⟨A8, c8, A9, c9, arcs, signs⟩ := by
  have hG := (own_block hP.k.o G rfl).2
  have z1 := h1.size
  have z2 := h2.size
  have z8 := hb8.size
  have z9 := hb9.size
  have hb : Below wr.heap.size wr w9 := ((h1.trans (hb8.mono z1)).trans (h2.mono (by omega))).trans (hb9.mono (by omega))
  exact ⟨hP.grow hb, own_base (own_grow (own_grow ho8 h2) hb9) (by omega), own_base ho9 (by omega), by simp only; omega, by simp only; omega⟩
theorem cp_new (h : PaS w w9 X G na xs left v12 ps) (hc : CyOwn w9 (G + 1) ⟨A8, c8, A9, c9, arcs, signs⟩) : CpR w X G na xs left v12 ps arcs signs (.pointer (some ⟨w9.heap.size, 0, none⟩)) (w9.alloc (.cells #[.slice A8 arcs.length c8, .slice A9 signs.length c9] 45)) :=
  ⟨_, A8, A9, c8, c9, rfl, h.grow ((Below.refl _ _).alloc (Nat.le_refl _) _), Blk.new _ _ _, hc.grow ((Below.refl _ _).alloc (Nat.le_refl _) _)⟩
theorem cp_far {C : Nat} (h : PaS w w9 X G na xs left v12 ps) (hc : CyOwn w9 (G + 1) ⟨A8, c8, A9, c9, arcs, signs⟩) (hk : Blk w9 C 45 #[.slice none 0 0, .slice none 0 0]) (hw : w.heap.size ≤ C) (hX : X ≠ C) : CpR w X G na xs left v12 ps arcs signs (.pointer (some ⟨C, 0, none⟩)) ((w9.setCell ⟨C, 0, none⟩ (.slice A8 arcs.length c8)).setCell ⟨C, 1, none⟩ (.slice A9 signs.length c9)) := by
  have hk1 := hk.set_ 0 (.slice A8 arcs.length c8)
  have hk2 := hk1.set_ 1 (.slice A9 signs.length c9)
  have far : ∀ {base n : Nat} {v : Value} {ys : List Value}, w9.ownsRow base 3 1 v n ys → ((w9.setCell ⟨C, 0, none⟩ (.slice A8 arcs.length c8)).setCell ⟨C, 1, none⟩ (.slice A9 signs.length c9)).ownsRow base 3 1 v n ys := fun ho =>
    own_far (own_far ho (own_ne_blk ho hk (by decide))) (own_ne_blk ho hk (by decide))
  refine ⟨C, A8, A9, c8, c9, rfl, ⟨⟨⟨(h.k.f.bel.setCell hw _).setCell hw _, (h.k.f.x.far (fun e => hX e.symm)).far (fun e => hX e.symm)⟩, far h.k.o, h.k.hX⟩, own_far (own_far h.o (own_ne_blk h.o hk (by decide))) (own_ne_blk h.o hk (by decide)), fun p hp => ⟨far (h.c p hp).r, far (h.c p hp).s, (h.c p hp).hr, (h.c p hp).hs⟩⟩, hk2, far hc.r, far hc.s, hc.hr, hc.hs⟩
end
theorem PaS.app {w wr w9 : World} {X G na : Nat} {xs : Array Value} {left : List Int} {v v9 : Value} {ps : List Prt} {o : Obj} {p : Prt} (h : PaS w wr X G na xs left v ps) (hc : CyOwn wr (G + 1) p.c) (ho : w9.ownsRow (G + 1) 47 3 v9 (ps.length + 1) (ps.flatMap Prt.cells ++ p.cells)) (hg : (wr.alloc o).grownBy w9 v.ownBlock) : PaS w w9 X G na xs left v9 (ps ++ [p]) := by
  have hG := own_block h.k.o G rfl
  have hw : w.heap.size ≤ G := by have := h.k.hX; omega
  have hX := h.k.f.x.lt
  have hb : Below (G + 1) wr w9 := below_app ((Below.refl _ _).alloc (by omega) _) (World.ownsRow.alloc h.o _) (Nat.le_refl _) (by simp; omega) hg
  have hint : ∀ {base n : Nat} {v' : Value} {ys : List Value}, wr.ownsRow base 3 1 v' n ys → w9.ownsRow base 3 1 v' n ys := fun {base n v' ys} ho' => by
    refine (World.ownsRow.alloc ho' o).kept hg ?_
    rcases h.o.2 with ⟨rfl, _⟩ | ⟨g, cap, cur, rfl, _, hh, _⟩
    · rcases ho'.2 with ⟨rfl, _⟩ | ⟨g', cap', cur', rfl, _⟩
      · exact .inl rfl
      · right; intro e; simp [Value.ownBlock] at e
    · right
      intro e
      rcases ho'.2 with ⟨rfl, _⟩ | ⟨g', cap', cur', rfl, _, hh', _⟩
      · simp [Value.ownBlock] at e
      · simp [Value.ownBlock] at e
        subst e
        rw [hh] at hh'
        injection hh' with hh'
        injection hh' with _ h2
        cases h2
  refine ⟨⟨⟨h.k.f.bel.trans (hb.mono (by omega)), h.k.f.x.same (hb.block X (by have := h.k.f.x.lt; have := (own_block h.k.o G rfl).1; omega))⟩, hint h.k.o, h.k.hX⟩, ?_, fun q hq => ?_⟩
  · rw [List.length_append, List.flatMap_append]
    simpa using ho
  · rcases List.mem_append.1 hq with hq | hq
    · exact ⟨hint (h.c q hq).r, hint (h.c q hq).s, (h.c q hq).hr, (h.c q hq).hs⟩
    · simp at hq
      subst hq
      exact ⟨hint hc.r, hint hc.s, hc.hr, hc.hs⟩
def PK1 (w : World) (X G : Nat) (xs : Array Value) (acts : List Act) (k : Nat) (v : Value) (wr : World) : Prop :=
  ∃ j : Nat, v = .int .i64 j ∧ j + k = acts.length ∧ PkS w wr X G acts.length xs ((acts.map (·.wt)).take j ++ List.replicate ((acts.map (·.wt)).length - j) 0)
def PK2 (w : World) (X G : Nat) (xs : Array Value) (T : Int) (ne : Nat) (acts : List Act) (l : List Cyc) (k : Nat) (v7 v12 v : Value) (wr : World) : Prop :=
  ∃ (j : Nat) (ps : List Prt), v = .int .i64 j ∧ j + k = l.length ∧ (∀ i (h : i < l.length), i < j → gapE T ne acts l[i].arcs l[i].signs = 0) ∧ v7 = .int .i64 (pkAll T ne acts l j).bnd ∧ ps.map prV = (pkAll T ne acts l j).out ∧ ps.length ≤ j ∧ PaS w wr X G acts.length xs (pkAll T ne acts l j).left v12 ps
def PK3 (w : World) (X G Q : Nat) (xs qs : Array Value) (acts : List Act) (left : List Int) (v12 : Value) (ps : List Prt) (arcs : List Int) (k : Nat) (v17 v : Value) (wr : World) : Prop :=
  ∃ i : Nat, v = .int .i64 i ∧ i + k = arcs.length ∧ v17 = .int .i64 (minA left arcs i) ∧ PaS w wr X G acts.length xs left v12 ps ∧ Blk wr Q 45 qs
def PK4 (w : World) (X G Q : Nat) (xs qs : Array Value) (acts : List Act) (left : List Int) (v12 : Value) (ps : List Prt) (arcs : List Int) (tm : Int) (k : Nat) (v : Value) (wr : World) : Prop :=
  ∃ i : Nat, v = .int .i64 i ∧ i + k = arcs.length ∧ PaS w wr X G acts.length xs (addL (-tm) left (arcs.take i)) v12 ps ∧ Blk wr Q 45 qs

attribute [local go_sem ↓] run_max_keep run_min_keep
set_option maxRecDepth 100000 in
set_option maxHeartbeats 3200000 in
theorem pack_any (T : Int) (AE AA Ac : Option Addr) (ne ce ca cc : Nat) (acts : List Act) (l : List Cyc) (w : World) (hA : Rd w w.heap.size 6 AA acts.length (acts.flatMap Act.cells)) (he : ne ≤ 4611686018427387904) (hl : acts.length ≤ 4611686018427387904) (hC : CysRd w Ac l) (_hln : l.length ≤ 4611686018427387904) :
    Calls Try.prog 21 #[.agg #[.int .i64 T, .slice AE ne ce, .slice AA acts.length ca], .slice Ac l.length cc] w (PackOut T ne acts l w) := by
  have HA := Lib.hid hA
  have HCs := Lib.hid hC
  clear hA hC
  obtain ⟨i0, a1, a2, a3, a4⟩ := info_parts infoInt
  have HI := Lib.hid (And.intro a1 (And.intro a2 (And.intro a3 a4)))
  clear a1 a2 a3 a4
  obtain ⟨p0, a1, a2, a3, a4⟩ := info_parts infoPrt'
  have HIp := Lib.hid (And.intro a1 (And.intro a2 (And.intro a3 a4)))
  clear a1 a2 a3 a4
  go_enter Try.func21, Try.ntmps21
  go_upto_region 1 with fail
  refine world_gen (fun w1 => FeN w w1 w.heap.size #[.int .i64 T, .slice AE ne ce, .slice AA acts.length ca]) ⟨(Below.refl _ _).alloc (Nat.le_refl _) _, Blk.new _ _ _⟩ ?_
  intro w0 hf0
  obtain ⟨X, hX⟩ : ∃ X, X = w.heap.size := ⟨_, rfl⟩
  rw [← hX] at ⊢
  rw [show FeN w w0 w.heap.size = FeN w w0 X by rw [hX]] at hf0
  have hXw : w.heap.size ≤ X := by omega
  clear hX
  have HF := Lib.hid hf0
  clear hf0
  have x0 := HF.out.x.cell 0
  have x1 := HF.out.x.cell 1
  have x2 := HF.out.x.cell 2
  simp at x0 x1 x2
  go_wp2_with fail
  refine (base_any T AE AA ne ce ca acts w0 ((HA.out.grow HF.out.bel).more HF.out.bel.size) he hl).mono ?_
  rintro e w1 ⟨rfl, hb1⟩
  have HF1 := Lib.hid (HF.out.grow hb1)
  clear x0 x1 x2 hb1 HF
  have HF := HF1
  clear HF1
  cases hn : netB T ne acts
  case false =>
    have HO := Lib.hid (show packE T ne acts l = 1 ∧ packB T ne acts l = 0 ∧ packO T ne acts l = [] by unfold packB packO packE; rw [hn]; exact ⟨rfl, rfl, rfl⟩)
    rw [show baseV T ne acts = 0 by unfold baseV; rw [hn]; rfl, show baseE T ne acts = 1 by unfold baseE; rw [hn]; rfl]
    go_wp2_with fail
    go_ret3
    exact ⟨none, 0, [], by rw [HO.out.1, HO.out.2.1]; rfl, by rw [HO.out.2.2]; rfl, World.ownsRow_nil _ _ _ _, fun p hp => by simp at hp, HF.out.bel⟩
  rw [show baseV T ne acts = baseS acts by unfold baseV; rw [hn]; rfl, show baseE T ne acts = 0 by unfold baseE; rw [hn]; rfl]
  have HNB := Lib.hid hn
  have HN := Lib.hid (netB_iff.1 hn)
  have hna := (netB_iff.1 hn).n
  have hne := (netB_iff.1 hn).e
  clear hn
  have x2 := HF.out.x.cell 2
  simp at x2
  have hxl := HF.out.x.lt
  go_upto_region 5 with (at_make; refine wpList_make_full _ rfl _ _ 22 rfl (X + 1) 3 i0 _ 1 Try.underlying22 HI.out.1 HI.out.2.1 HI.out.2.2.1 .i64 .i64 _ _ acts.length rfl rfl rfl rfl ?m1 ?m2 ?m3 ?_; rotate_right; intro w2 hown2 hg2)
  case m1 => rw [HI.out.2.2.2]; omega
  case m2 => simp only [maxLen]; omega
  case m3 => omega
  have hb2 : Below w1.heap.size w1 w2 := (Below.refl _ _).grown hg2 (Nat.le_refl _) (by simp)
  have HK := Lib.hid (show PkS w w2 X w1.heap.size acts.length #[.int .i64 T, .slice AE ne ce, .slice AA acts.length ca] ((acts.map (·.wt)).take 0 ++ List.replicate ((acts.map (·.wt)).length - 0) 0) from ⟨HF.out.grow hb2, by
    rw [← fill_zero _ _ acts.length (by simp), ← madeCells_one]
    exact hown2, hXw⟩)
  clear hown2 hg2 hb2 HF x2 hxl
  generalize w1.heap.size = G at *
  have x2 := HK.out.f.x.cell 2
  simp at x2
  go_wp2_with fail
  clear x2
  go_loopg [10, 11, 38] acts.length (fun k _ _ v wr => PK1 w X G #[.int .i64 T, .slice AE ne ce, .slice AA acts.length ca] acts k v wr)
  case atStart => exact ⟨0, rfl, by omega, HK.out⟩
  case round =>
    obtain ⟨j, rfl, hj, hk⟩ := hrel
    clear HK
    have Hj := Lib.hid hj
    have HK := Lib.hid hk
    clear hj hk
    by_cases hlt : j < acts.length
    · obtain ⟨ba, oa, rfl, hba, d0, d1, d2, d3, d4, d5⟩ := rdAct (HA.out.grow HK.out.f.bel) rfl j hlt
      have hjl : j < (acts.map (·.wt)).length := by simpa using hlt
      have hset := HK.out.set j (acts.map (·.wt))[j]
      rw [fill_set _ _ _ hjl] at hset
      have HSe : Hid (∀ w6, Below wr.heap.size wr w6 → PkS w (w6.setCell ⟨G, j, none⟩ (.int .i64 acts[j].wt)) X G acts.length #[.int .i64 T, .slice AE ne ce, .slice (some ⟨ba, oa, none⟩) acts.length ca] ((acts.map (·.wt)).take (j + 1) ++ List.replicate ((acts.map (·.wt)).length - (j + 1)) 0)) := fun w6 hb => by
        have h := (HK.out.grow hb).set j (acts.map (·.wt))[j]
        rw [fill_set _ _ _ hjl] at h
        simpa using h
      have q0 := own1 HK.out.o j (by rw [fill_len _ _ _ (by omega)]; exact hjl)
      have HFz : Hid (∀ w6, Below wr.heap.size wr w6 → w6.frozen? ⟨G, j, none⟩ = false) := fun w6 hb => (own_grow HK.out.o hb).frozenAt j
      clear hset
      generalize ((acts.map (·.wt)).take j ++ List.replicate ((acts.map (·.wt)).length - j) 0)[j]'(by rw [fill_len _ _ _ (by omega)]; exact hjl) = ov at *
      generalize acts[j] = aa at *
      obtain ⟨kd, fr, tt, mn, mx, wt⟩ := aa
      simp only at d0 d1 d2 d3 d4 d5 HSe
      go_upto_region 8 with fail
      refine world_gen (fun w6 => Below wr.heap.size wr w6 ∧ Blk w6 wr.heap.size 61 #[.int .i64 kd, .int .i64 fr, .int .i64 tt, .int .i64 mn, .int .i64 mx, .int .i64 wt]) ⟨(Below.refl _ _).alloc (Nat.le_refl _) _, Blk.new _ _ _⟩ ?_
      rintro w6 ⟨hb6, ha6⟩
      have q6 := cell_bel hb6 q0
      have f6 := HFz.out w6 hb6
      have HS6 := Lib.hid (HSe.out w6 hb6)
      have a5 := ha6.cell 5
      simp at a5
      clear hb6 ha6 HK HSe HFz q0 d0 d1 d2 d3 d4 d5
      go_wp2_with fail
      go_roundg (acts.length - j - 1)
      case measure => have := Hj.out; omega
      case rel => exact ⟨j + 1, by first | rfl | go_num, by omega, HS6.out⟩
    · have hfl := HK.out
      rw [fill_all _ _ _ (by simp; have := Hj.out; omega)] at hfl
      have HP0 := Lib.hid (show PaS w wr X G acts.length #[.int .i64 T, .slice AE ne ce, .slice AA acts.length ca] (pkAll T ne acts l 0).left (.slice none 0 0) [] from ⟨hfl, World.ownsRow_nil _ _ _ _, fun p hp => by simp at hp⟩)
      clear HK Hj hfl
      have hlc := HCs.out.n
      go_wp2_with fail
      go_loopg [7, 12, 14, 15, 16, 17, 19, 21, 22, 51] l.length (fun k v7 v12 _ _ _ _ _ _ _ v wr => PK2 w X G #[.int .i64 T, .slice AE ne ce, .slice AA acts.length ca] T ne acts l k v7 v12 v wr)
      case atStart => exact ⟨0, [], rfl, by omega, fun i h hi => by omega, rfl, rfl, by simp, HP0.out⟩
      case round =>
        obtain ⟨j, ps, rfl, hj, hok, rfl, hpo, hpj, hps⟩ := hrel
        clear HP0
        have Hj := Lib.hid hj
        have Hok := Lib.hid hok
        have Hpo := Lib.hid hpo
        have HP := Lib.hid hps
        clear hj hok hpo hps
        obtain ⟨A12, c12, rfl, _, _⟩ := own_slice HP.out.o
        by_cases hlt : j < l.length
        · obtain ⟨bc, oc, rfl, hbc, d0, d1⟩ := rdCyc (HCs.out.r.grow HP.out.k.f.bel) rfl j hlt
          have HCy := Lib.hid (HCs.out.c l[j] (List.getElem_mem hlt))
          have HStop := Lib.hid (show gapE T ne acts l[j].arcs l[j].signs ≠ 0 → packE T ne acts l = gapE T ne acts l[j].arcs l[j].signs from fun h => by
            unfold packE
            rw [if_pos HNB.out]
            exact pkErr_stop l j hlt Hok.out h)
          have HOkn := Lib.hid (show gapE T ne acts l[j].arcs l[j].signs = 0 → ∀ i (h : i < l.length), i < j + 1 → gapE T ne acts l[i].arcs l[i].signs = 0 from fun h i hi hij => by
            rcases Nat.lt_or_ge i j with h2 | h2
            · exact Hok.out i hi h2
            · obtain rfl : i = j := by omega
              exact h)
          have HSt := Lib.hid (show pkAll T ne acts l (j + 1) = pkStep T ne acts l[j].arcs l[j].signs (pkAll T ne acts l j) by
            show (match l[j]? with | some c => _ | none => _) = _
            rw [List.getElem?_eq_getElem hlt])
          have HOks := Lib.hid (pkAll_ok HN.out j (by omega) Hok.out)
          have HCnt := Lib.hid (pk_len HN.out j (by omega) Hok.out)
          generalize pkAll T ne acts l j = st at *
          generalize l[j] = c at *
          obtain ⟨Ar, cr, As, cs, arcs, signs⟩ := c
          simp only at d0 d1 HStop HOkn HSt
          go_upto_region 14 with fail
          refine world_gen (fun w6 => PaS w w6 X G acts.length #[.int .i64 T, .slice AE ne ce, .slice AA acts.length ca] st.left (.slice A12 ps.length c12) ps ∧ Blk w6 wr.heap.size 45 #[.slice Ar arcs.length cr, .slice As signs.length cs]) ⟨HP.out.grow ((Below.refl _ _).alloc (Nat.le_refl _) _), Blk.new _ _ _⟩ ?_
          rintro w6 ⟨hp6, hq6⟩
          have hQG : G ≠ wr.heap.size := fun e => by have := (own_block HP.out.k.o G rfl).2; omega
          have HQo := Lib.hid (show (Value.slice A12 ps.length c12).ownBlock ≠ some wr.heap.size from fun e => by have := (own_block HP.out.o _ e).2; omega)
          generalize wr.heap.size = Q at *
          clear HP d0 d1
          have HP := Lib.hid hp6
          have HQ := Lib.hid hq6
          clear hp6 hq6
          have x0 := HP.out.k.f.x.cell 0
          have x1 := HP.out.k.f.x.cell 1
          have x2 := HP.out.k.f.x.cell 2
          have q0 := HQ.out.cell 0
          have q1 := HQ.out.cell 1
          simp at x0 x1 x2 q0 q1
          go_wp2_with fail
          refine (gapof_any T AE AA Ar As ne ce ca cr cs acts arcs signs _ ((HCy.out.grow HP.out.k.f.bel).ncyc ((HA.out.grow HP.out.k.f.bel).more HP.out.k.f.bel.size) he hl)).mono ?_
          rintro e w7 ⟨rfl, hb7⟩
          have HP7 := Lib.hid (HP.out.grow hb7)
          have HQ7 := Lib.hid (HQ.out.bel hb7)
          clear HP HQ hb7 x0 x1 x2 q0 q1
          have HP := HP7
          have HQ := HQ7
          clear HP7 HQ7
          by_cases h0 : gapE T ne acts arcs signs = 0
          case neg =>
            have HE := Lib.hid (HStop.out h0)
            have HO := Lib.hid (show packB T ne acts l = 0 ∧ packO T ne acts l = [] by unfold packB packO; rw [HE.out, if_neg h0, if_neg h0]; exact ⟨rfl, rfl⟩)
            generalize gapE T ne acts arcs signs = er at *
            have h0' : (er != 0) = true := by simpa using h0
            go_wp2_with fail
            go_ret3
            exact ⟨none, 0, [], by rw [HE.out, HO.out.1]; rfl, by rw [HO.out.2]; rfl, World.ownsRow_nil _ _ _ _, fun p hp => by simp at hp, HP.out.k.f.bel⟩
          have HOk2 := Lib.hid (HOkn.out h0)
          have HCk := Lib.hid (gapE_cyc h0)
          rw [h0]
          clear h0 HStop HOkn
          have hal := HCk.out.sum.n
          have hal2 := HCk.out.two
          have hgb := gapV_bd (T := T) (ne := ne) (acts := acts) (arcs := arcs) (signs := signs)
          have HLv : Hid (∀ i : Nat, i < arcs.length → ∃ a : Nat, gi arcs i = (a : Int) ∧ a < acts.length ∧ 0 ≤ gi st.left (gi arcs i) ∧ gi st.left (gi arcs i) ≤ 1048576) := fun i hi => by
            have h1 := (HCk.out.arc i hi).a0
            have h2 := (HCk.out.arc i hi).a1
            obtain ⟨a, ha⟩ := Int.eq_ofNat_of_zero_le h1
            have h3 := HOks.out.bd a (by omega)
            have h4 := (HN.out.a _ (ag_mem acts a (by omega) (by omega))).w1
            exact ⟨a, ha, by omega, by rw [ha]; exact h3.1, by rw [ha]; omega⟩
          have HLn := Lib.hid HOks.out.len
          generalize hgv : gapV T ne acts arcs signs = gv at *
          have Hgv := Lib.hid hgv
          clear hgv
          obtain ⟨a0, ha0, ha0l, hv0, hv1⟩ := HLv.out 0 (by omega)
          obtain ⟨br, orr, rfl, hbr, r0⟩ := rd1 (HCy.out.r.grow HP.out.k.f.bel) 0 (by simp only; omega)
          simp only at r0
          rw [← gi_nat arcs 0 (by omega), ha0, Nat.add_zero] at r0
          have u0 := own1 HP.out.k.o a0 (by rw [HLn.out]; exact ha0l)
          rw [← gi_nat _ a0 (by rw [HLn.out]; exact ha0l), ← ha0] at u0
          have HM0 : Hid (minA st.left arcs 0 = gi st.left (gi arcs 0)) := rfl
          have q0 := HQ.out.cell 0
          simp at q0
          go_wp2_with fail
          clear q0 u0 r0
          go_loopg [17, 19, 74] arcs.length (fun k v17 _ v wr => PK3 w X G Q #[.int .i64 T, .slice AE ne ce, .slice AA acts.length ca] #[.slice (some ⟨br, orr, none⟩) arcs.length cr, .slice As signs.length cs] acts st.left (.slice A12 ps.length c12) ps arcs k v17 v wr)
          case atStart => exact ⟨0, rfl, by omega, by rw [HM0.out], HP.out, HQ.out⟩
          case round =>
            obtain ⟨i, rfl, hi, rfl, hp, hq⟩ := hrel
            clear HP HQ
            have Hi := Lib.hid hi
            have HP := Lib.hid hp
            have HQ := Lib.hid hq
            clear hi hp hq
            by_cases hil : i < arcs.length
            · obtain ⟨b', o', e', _, r0⟩ := rd1 (HCy.out.r.grow HP.out.k.f.bel) i hil
              injection e' with e'
              injection e' with e1 e2
              subst e1 e2
              obtain ⟨a, ha, hal3, hw0, hw1⟩ := HLv.out i hil
              simp only at r0
              rw [← gi_nat arcs i hil, ha] at r0
              have u0 := own1 HP.out.k.o a (by rw [HLn.out]; exact hal3)
              rw [← gi_nat _ a (by rw [HLn.out]; exact hal3), ← ha] at u0
              have HM : Hid (minA st.left arcs (i + 1) = min (minA st.left arcs i) (gi st.left (gi arcs i))) := rfl
              generalize minA st.left arcs i = mv at *
              generalize gi st.left (gi arcs i) = uv at *
              go_wp2_with fail
              go_roundg (arcs.length - i - 1)
              case measure => have := Hi.out; omega
              case rel => exact ⟨i + 1, by first | rfl | go_num, by omega, by rw [HM.out], HP.out, HQ.out⟩
            · obtain rfl : i = arcs.length := by have := Hi.out; omega
              have HSt2 := Lib.hid (show pkAll T ne acts l (j + 1) = if minA st.left arcs arcs.length < 1 ∨ gv < 1 then st else ⟨addL (-minA st.left arcs arcs.length) st.left arcs, st.out ++ [(arcs, signs, minA st.left arcs arcs.length)], st.bnd + minA st.left arcs arcs.length * gv⟩ by rw [HSt.out]; unfold pkStep; rw [Hgv.out])
              have hm0 := minA_bd st.left arcs (fun i hi => by obtain ⟨_, _, _, h, _⟩ := HLv.out i hi; exact h) (by omega) arcs.length (Nat.le_refl _)
              have hm1 := minA_le st.left arcs arcs.length 0 (by omega)
              have hm2 : minA st.left arcs arcs.length ≤ 1048576 := by have h : gi st.left (gi arcs ((0 : Nat) : Int)) ≤ 1048576 := hv1; omega
              have HAr : Hid (∀ a : Nat, (a : Int) ∈ arcs → minA st.left arcs arcs.length ≤ gi st.left a) := fun a ha => by
                obtain ⟨i, hi, e⟩ := List.getElem_of_mem ha
                have := minA_le st.left arcs arcs.length i hi
                rwa [gi_nat arcs i hi, e] at this
              clear HSt HM0 hm1 Hi hil
              generalize minA st.left arcs arcs.length = tm at *
              by_cases hsk : tm < 1 ∨ gv < 1
              · rw [if_pos hsk] at HSt2
                by_cases ht1 : tm < 1
                · have ht1' : decide (tm < 1) = true := by simpa using ht1
                  go_wp2_with fail
                  go_roundg (l.length - j - 1)
                  case measure => have := Hj.out; omega
                  case rel => exact ⟨j + 1, ps, by first | rfl | go_num, by omega, HOk2.out, by rw [HSt2.out], by rw [HSt2.out]; exact Hpo.out, by omega, by rw [HSt2.out]; exact HP.out⟩
                · have ht1' : decide (tm < 1) = false := by simpa using ht1
                  have hg1 : gv < 1 := hsk.resolve_left ht1
                  have hg1' : decide (gv < 1) = true := by simpa using hg1
                  go_wp2_with fail
                  go_roundg (l.length - j - 1)
                  case measure => have := Hj.out; omega
                  case rel => exact ⟨j + 1, ps, by first | rfl | go_num, by omega, HOk2.out, by rw [HSt2.out], by rw [HSt2.out]; exact Hpo.out, by omega, by rw [HSt2.out]; exact HP.out⟩
              · rw [if_neg hsk] at HSt2
                have ht1 : 1 ≤ tm := by omega
                have hg1 : 1 ≤ gv := by omega
                clear hsk
                have q0 := HQ.out.cell 0
                simp at q0
                have HNd := Lib.hid HCk.out.nodup
                have HRg := Lib.hid HCk.out.range
                go_wp2_with fail
                clear q0
                go_loopg [21, 94] arcs.length (fun k _ v wr => PK4 w X G Q #[.int .i64 T, .slice AE ne ce, .slice AA acts.length ca] #[.slice (some ⟨br, orr, none⟩) arcs.length cr, .slice As signs.length cs] acts st.left (.slice A12 ps.length c12) ps arcs tm k v wr)
                case atStart => exact ⟨0, rfl, by omega, HP.out, HQ.out⟩
                case round =>
                  obtain ⟨i, rfl, hi, hp, hq⟩ := hrel
                  clear HP HQ
                  have Hi := Lib.hid hi
                  have HP := Lib.hid hp
                  have HQ := Lib.hid hq
                  clear hi hp hq
                  by_cases hil : i < arcs.length
                  · obtain ⟨b', o', e', _, r0⟩ := rd1 (HCy.out.r.grow HP.out.k.f.bel) i hil
                    injection e' with e'
                    injection e' with e1 e2
                    subst e1 e2
                    obtain ⟨a, ha, hal3, hw0, hw1⟩ := HLv.out i hil
                    have HTk := Lib.hid (List.take_succ_eq_append_getElem hil)
                    have hni : arcs[i] ∉ arcs.take i := take_nodup HNd.out i hil
                    rw [gi_nat arcs i hil] at ha hw0 hw1
                    have hgi : gi (addL (-tm) st.left (arcs.take i)) arcs[i] = gi st.left arcs[i] := by
                      rw [addL_gi (-tm) (arcs.take i) st.left arcs[i] (List.Nodup.sublist (List.take_sublist _ _) HNd.out) (fun x hx => by rw [HLn.out]; exact HRg.out x (List.mem_of_mem_take hx)) (by omega), if_neg hni]
                      omega
                    have HAp := Lib.hid (addL_app (-tm) (arcs.take i) st.left arcs[i])
                    have hle : tm ≤ gi st.left arcs[i] := by rw [ha]; exact HAr.out a (by rw [← ha]; exact List.getElem_mem hil)
                    rw [hgi] at HAp
                    simp only at r0
                    rw [ha] at r0 HAp HTk hgi hw0 hw1 hle
                    have hall : a < (addL (-tm) st.left (arcs.take i)).length := by rw [addL_len, HLn.out]; exact hal3
                    have u0 := own1 HP.out.k.o a hall
                    rw [← gi_nat _ a hall, hgi] at u0
                    have f0 := HP.out.k.o.frozenAt a
                    have HP9 := Lib.hid (HP.out.set a (gi st.left (a : Int) - tm))
                    have HQ9 := Lib.hid (HQ.out.far (b := G) (o := a) (u := .int .i64 (gi st.left (a : Int) - tm)) hQG)
                    simp only [Int.toNat_natCast] at HAp
                    rw [show gi st.left (a : Int) + -tm = gi st.left (a : Int) - tm by omega] at HAp
                    rw [← HAp.out, ← HTk.out] at HP9
                    generalize gi st.left (a : Int) = uv at *
                    clear hgi hall hni ha
                    go_wp2_with fail
                    go_roundg (arcs.length - i - 1)
                    case measure => have := Hi.out; omega
                    case rel => exact ⟨i + 1, by first | rfl | go_num, by omega, HP9.out, HQ9.out⟩
                  · obtain rfl : i = arcs.length := by have := Hi.out; omega
                    rw [List.take_length] at HP
                    have hbd := pk_bd HN.out HOks.out
                    have hmg := mul_bd2 tm gv 1048576 67108864 hm0 hm2 hgb.1 hgb.2
                    obtain ⟨hbd0, hbd1⟩ := hbd
                    obtain ⟨hmg0, hmg1⟩ := hmg
                    generalize st.bnd = bn at *
                    have hsl1 : 1 ≤ signs.length := by have := HCk.out.len; omega
                    have hsl2 : signs.length ≤ 512 := by have := HCk.out.len; omega
                    have q0 := HQ.out.cell 0
                    have q1 := HQ.out.cell 1
                    simp at q0 q1
                    have hql := HQ.out.lt
                    have hGl := (own_block HP.out.k.o G rfl).2
                    have HCr : Hid (∀ W, Below wr.heap.size wr W → Rd W W.heap.size 1 (some ⟨br, orr, none⟩) arcs.length (arcs.map (Value.int .i64))) := fun W hW => (HCy.out.r.grow (HP.out.k.f.bel.trans (hW.mono HP.out.k.f.bel.size))).more (HP.out.k.f.bel.trans (hW.mono HP.out.k.f.bel.size)).size
                    have HCs2 : Hid (∀ W, Below wr.heap.size wr W → Rd W W.heap.size 1 As signs.length (signs.map (Value.int .i64))) := fun W hW => (HCy.out.s.grow (HP.out.k.f.bel.trans (hW.mono HP.out.k.f.bel.size))).more (HP.out.k.f.bel.trans (hW.mono HP.out.k.f.bel.size)).size
                    go_upto_region 30 with fail
                    go_cut [22] (fun v22 wx => CpR w X G acts.length #[.int .i64 T, .slice AE ne ce, .slice AA acts.length ca] (addL (-tm) st.left arcs) (.slice A12 ps.length c12) ps arcs signs v22 wx)
                    case first =>
                      go_region_held3 (fun w' => w'.cell? ⟨Q, 0, none⟩ = some (.slice (some ⟨br, orr, none⟩) arcs.length cr) ∧ w'.cell? ⟨Q, 1, none⟩ = some (.slice As signs.length cs))
                        (exact ⟨cell_bel (w := wr) (by repeat (first | exact Below.refl _ _ | (with_reducible refine Below.drew ?_) | (with_reducible refine below_drewN ?_ _) | (with_reducible refine Below.alloc ?_ (by first | omega | (simp; done) | (simp; omega)) _) | (with_reducible refine Below.setCell ?_ (by first | omega | (simp; done) | (simp; omega)) _) | (refine Below.trans ?_ (Below.mono (by with_reducible assumption) (by first | omega | (simp; done) | (simp; omega)))))) q0, cell_bel (w := wr) (by repeat (first | exact Below.refl _ _ | (with_reducible refine Below.drew ?_) | (with_reducible refine below_drewN ?_ _) | (with_reducible refine Below.alloc ?_ (by first | omega | (simp; done) | (simp; omega)) _) | (with_reducible refine Below.setCell ?_ (by first | omega | (simp; done) | (simp; omega)) _) | (refine Below.trans ?_ (Below.mono (by with_reducible assumption) (by first | omega | (simp; done) | (simp; omega)))))) q1⟩)
                        (first | (go_at_call 39; refine (clone_any (some ⟨br, orr, none⟩) cr arcs _ (HCr.out _ (by repeat (first | exact Below.refl _ _ | (with_reducible refine Below.drew ?_) | (with_reducible refine below_drewN ?_ _) | (with_reducible refine Below.alloc ?_ (by first | omega | (simp; done) | (simp; omega)) _) | (with_reducible refine Below.setCell ?_ (by first | omega | (simp; done) | (simp; omega)) _) | (refine Below.trans ?_ (Below.mono (by with_reducible assumption) (by first | omega | (simp; done) | (simp; omega))))))) (by omega) (by omega)).mono ?_; rintro e w8 ⟨A8, c8, rfl, ho8, hb8⟩; have z8 := hb8.size; (try simp at z8); (try (have y8 : wr.heap.size < w8.heap.size := by omega)); obtain ⟨hc8, hf8⟩ := bcell hb8) | (go_at_call 39; refine (clone_any As cs signs _ (HCs2.out _ (by repeat (first | exact Below.refl _ _ | (with_reducible refine Below.drew ?_) | (with_reducible refine below_drewN ?_ _) | (with_reducible refine Below.alloc ?_ (by first | omega | (simp; done) | (simp; omega)) _) | (with_reducible refine Below.setCell ?_ (by first | omega | (simp; done) | (simp; omega)) _) | (refine Below.trans ?_ (Below.mono (by with_reducible assumption) (by first | omega | (simp; done) | (simp; omega))))))) (by omega) (by omega)).mono ?_; rintro e w9 ⟨A9, c9, rfl, ho9, hb9⟩; have z9 := hb9.size; (try simp at z9); obtain ⟨hc9, hf9⟩ := bcell hb9))
                      · obtain ⟨hp9, hc9'⟩ := cp_own HP.out (Below.refl _ _).drew ho8 (Below.refl _ _) hb8 ho9 hb9 hal hsl2
                        go_wp2_with fail
                        go_meet
                        case rel => exact cp_new hp9 hc9'
                      · obtain ⟨hp9, hc9'⟩ := cp_own HP.out (Below.refl _ _).drew ho8 ((Below.refl _ _).alloc (Nat.le_refl _) _) hb8 ho9 hb9 hal hsl2
                        have hk9 := (Blk.new w8 45 #[.slice none 0 0, .slice none 0 0]).bel hb9
                        have hw8 := HP.out.k.f.bel.size
                        have hxl := HP.out.k.f.x.lt
                        go_wp2_with fail
                        go_meet
                        case rel => exact cp_far hp9 hc9' hk9 (by omega) (by omega)
                      · obtain ⟨hp9, hc9'⟩ := cp_own HP.out ((Below.refl _ _).drew.alloc (Nat.le_refl _) _) ho8 (Below.refl _ _) hb8 ho9 hb9 hal hsl2
                        have hk9 := ((Blk.new wr.drew 45 #[.slice none 0 0, .slice none 0 0]).bel hb8).bel hb9
                        have hw8 := HP.out.k.f.bel.size
                        have hxl := HP.out.k.f.x.lt
                        go_wp2_with fail
                        go_meet
                        case rel => exact cp_far hp9 hc9' hk9 (by simpa using hw8) (by simp; omega)
                    case rest =>
                      obtain ⟨C, A1, A2, k1, k2, rfl, hp, hk, hco⟩ := hcut
                      clear HP HQ q0 q1 hql hGl HCr HCs2
                      have HP := Lib.hid hp
                      have HCo := Lib.hid hco
                      have y0 := hk.cell 0
                      have y1 := hk.cell 1
                      simp at y0 y1
                      have hpsl : ps.length ≤ 536870912 := by
                        have h1 := congrArg List.length Hpo.out
                        rw [List.length_map] at h1
                        rw [h1]; exact HCnt.out
                      have hGl := (own_block HP.out.k.o G rfl).2
                      clear hp hco hk
                      go_wp2_with (at_builtin; refine wpList_append_own_at _ rfl _ _ 32 rfl (G + 1) 47 p0 _ 3 56 Try.underlying32 HIp.out.1 HIp.out.2.1 HIp.out.2.2.1 HIp.out.2.2.2 rfl (by omega) _ ps.length _ rfl (World.ownsRow.alloc HP.out.o _) ⟨_, 0, none⟩ 1 1 [.slice A1 arcs.length k1, .slice A2 signs.length k2, .int .i64 tm] rfl rfl ?c0 ?c1 ?c2 ?c3 ?c4 ?_; rotate_right; intro v9 w9 hown9 hg9 _ _)
                      case c0 => exact news_new _ _ _
                      case c1 => intro u hu; simp at hu; rcases hu with rfl | rfl | rfl <;> rfl
                      case c2 => simp only [maxLen]; omega
                      case c3 => omega
                      case c4 => simp; omega
                      have HP9 := Lib.hid (HP.out.app (p := ⟨⟨A1, k1, A2, k2, arcs, signs⟩, tm⟩) HCo.out hown9 hg9)
                      clear hown9 hg9 HP HCo y0 y1
                      go_roundg (l.length - j - 1)
                      case measure => have := Hj.out; omega
                      case rel => exact ⟨j + 1, ps ++ [⟨⟨A1, k1, A2, k2, arcs, signs⟩, tm⟩], by first | rfl | go_num, by omega, HOk2.out, by rw [HSt2.out], by rw [HSt2.out, List.map_append, Hpo.out]; rfl, by simp; omega, by rw [HSt2.out]; exact HP9.out⟩
        · obtain rfl : j = l.length := by have := Hj.out; omega
          have HE0 := Lib.hid (show packE T ne acts l = 0 by
            unfold packE
            rw [if_pos HNB.out]
            exact pkErr_all (fun c hc => by obtain ⟨i, hi, rfl⟩ := List.getElem_of_mem hc; exact Hok.out i hi hi))
          have HO := Lib.hid (show packB T ne acts l = (pkAll T ne acts l l.length).bnd ∧ packO T ne acts l = (pkAll T ne acts l l.length).out by unfold packB packO; rw [HE0.out]; exact ⟨rfl, rfl⟩)
          go_wp2_with fail
          go_ret3
          exact ⟨A12, c12, ps, by rw [HE0.out, HO.out.1]; rfl, by rw [HO.out.2]; exact Hpo.out, own_base HP.out.o (by have := (own_block HP.out.k.o G rfl).1; omega), fun p hp => ⟨own_base (HP.out.c p hp).r (by have := (own_block HP.out.k.o G rfl).1; omega), own_base (HP.out.c p hp).s (by have := (own_block HP.out.k.o G rfl).1; omega), (HP.out.c p hp).hr, (HP.out.c p hp).hs⟩, HP.out.k.f.bel⟩
end Go.Proofs.Ytbmbdenjlbelaaa
