import Derived.Test.YtffgnfefejimnaaYd1
namespace Go.Proofs.Ytffgnfefejimnaa
open Go.RowKit
theorem Blk.grown {w w' : World} {row : Option Nat} {g : Nat} {ty : TypeId} {cs : Array Value} (h : Blk w g ty cs) (hg : w.grownBy w' row) (hne : row ≠ some g) : Blk w' g ty cs := h.same (hg.block g h.lt (fun e => hne e.symm))
theorem hnew (W : World) (o : Obj) (n : Nat) (h : n = W.heap.size) : (W.alloc o).drew.heap[n]? = some o := by subst h; exact heap_alloc_new W o
/-- the source's yard in memory -/
structure YMem (base Y bO bF cF : Nat) (AT : Option Addr) (cT n : Nat) (rows : List (List Un)) (fs : List Int) (nx : Nat) (vs : List Value) (w : World) : Prop where
  y : Blk w Y 75 #[.slice AT n cT, .slice (some ⟨bO, 0, none⟩) n n, .slice (some ⟨bF, 0, none⟩) n cF, .int .i64 nx]
  hy : base ≤ Y
  o : w.ownsRow base 76 1 (.slice (some ⟨bO, 0, none⟩) n n) n vs
  f : w.ownsRow base 3 1 (.slice (some ⟨bF, 0, none⟩) n cF) n (fs.map (Value.int .i64))
  rn : rows.length = n
  r : ∀ (t : Nat) (v : Value) (r : List Un), vs[t]? = some v → rows[t]? = some r → w.ownsRow base 57 3 v r.length (r.flatMap Un.cells)
  ap : ∀ (i j : Nat) (v v' : Value), i ≠ j → vs[i]? = some v → vs[j]? = some v' → v.ownBlock = none ∨ v.ownBlock ≠ v'.ownBlock
/-- the yard's blocks -/
def DY (Y bO bF : Nat) (vs : List Value) (k : Nat) : Prop := k = Y ∨ k = bO ∨ k = bF ∨ ∃ v ∈ vs, v.ownBlock = some k
/-- from a world in which D were the yard's blocks to one in which D' are -/
structure FrY (base : Nat) (D D' : Nat → Prop) (w w' : World) : Prop where
  bel : Below base w w'
  keep : ∀ k, k < w.heap.size → ¬ D k → w'.heap[k]? = w.heap[k]?
  back : ∀ k, k < w.heap.size → D' k → D k
theorem FrY.refl {base : Nat} {D : Nat → Prop} {w : World} : FrY base D D w w := ⟨Below.refl _ _, fun _ _ _ => rfl, fun _ _ h => h⟩
theorem FrY.trans {base : Nat} {D D' D'' : Nat → Prop} {w w' w'' : World} (h : FrY base D D' w w') (h' : FrY base D' D'' w' w'') : FrY base D D'' w w'' :=
  ⟨h.bel.trans h'.bel, fun k hk hd => (h'.keep k (Nat.lt_of_lt_of_le hk h.bel.size) fun hd' => hd (h.back k hk hd')).trans (h.keep k hk hd), fun k hk hd => h.back k hk (h'.back k (Nat.lt_of_lt_of_le hk h.bel.size) hd)⟩
theorem FrY.grow {base : Nat} {D : Nat → Prop} {w w' : World} (hb : Below w.heap.size w w') (hs : base ≤ w.heap.size) : FrY base D D w w' := ⟨hb.mono hs, fun k hk _ => hb.block k hk, fun _ _ h => h⟩
theorem FrY.set {base : Nat} {D : Nat → Prop} {w : World} {b o : Nat} {u : Value} (hD : D b) (hb : base ≤ b) : FrY base D D w (w.setCell ⟨b, o, none⟩ u) :=
  ⟨(Below.refl _ _).setCell hb _, fun k _ hd => Below.heap_setCell _ _ _ _ (by intro e; simp only at e; subst e; exact hd hD), fun _ _ h => h⟩
section
variable {base Y bO bF cF cT n nx : Nat} {AT : Option Addr} {rows : List (List Un)} {fs : List Int} {vs : List Value} {w w' : World}
theorem YMem.vl (h : YMem base Y bO bF cF AT cT n rows fs nx vs w) : vs.length = n := by have := h.o.1; omega
theorem YMem.fl (h : YMem base Y bO bF cF AT cT n rows fs nx vs w) : fs.length = n := by have := h.f.1; simp at this; omega
theorem YMem.bO_ (h : YMem base Y bO bF cF AT cT n rows fs nx vs w) : base ≤ bO ∧ bO < w.heap.size := own_block h.o bO rfl
theorem YMem.bF_ (h : YMem base Y bO bF cF AT cT n rows fs nx vs w) : base ≤ bF ∧ bF < w.heap.size := own_block h.f bF rfl
theorem own_at {w : World} {base : Nat} {e : TypeId} {sz n c g : Nat} {xs : List Value} (h : w.ownsRow base e sz (.slice (some ⟨g, 0, none⟩) n c) n xs) : ∃ cur, w.heap[g]? = some (.cells cur e (0, 0)) := by
  rcases h.2 with ⟨hv, _⟩ | ⟨g', cap, cur, hv, _, hh, _⟩
  · cases hv
  · injection hv with hv
    injection hv with hv
    injection hv with hv
    subst hv
    exact ⟨cur, hh⟩
theorem ne_ty {w : World} {g1 g2 : Nat} {c1 c2 : Array Value} {t1 t2 : TypeId} {f1 f2 : Nat × Nat} (h1 : w.heap[g1]? = some (.cells c1 t1 f1)) (h2 : w.heap[g2]? = some (.cells c2 t2 f2)) (h : t1 ≠ t2) : g1 ≠ g2 := by
  rintro rfl
  rw [h1] at h2
  injection h2 with h2
  injection h2 with _ h3
  exact h h3
theorem YMem.ne (h : YMem base Y bO bF cF AT cT n rows fs nx vs w) : Y ≠ bO ∧ Y ≠ bF ∧ bO ≠ bF := by
  obtain ⟨c1, h1⟩ := own_at h.o
  obtain ⟨c2, h2⟩ := own_at h.f
  exact ⟨ne_ty h.y h1 (by decide), ne_ty h.y h2 (by decide), ne_ty h1 h2 (by decide)⟩
theorem own_blk {w : World} {base : Nat} {e : TypeId} {sz n : Nat} {v : Value} {xs : List Value} (h : w.ownsRow base e sz v n xs) {k : Nat} (hk : v.ownBlock = some k) : ∃ cur, w.heap[k]? = some (.cells cur e (0, 0)) := by
  rcases h.2 with ⟨rfl, _⟩ | ⟨g', cap, cur, rfl, _, hh, _⟩
  · cases hk
  · injection hk with hk; subst hk; exact ⟨cur, hh⟩
theorem YMem.row (h : YMem base Y bO bF cF AT cT n rows fs nx vs w) {v : Value} (hv : v ∈ vs) : ∃ r : List Un, w.ownsRow base 57 3 v r.length (r.flatMap Un.cells) := by
  obtain ⟨i, hi, rfl⟩ := List.getElem_of_mem hv
  have hl := h.vl
  have hn := h.rn
  exact ⟨rows[i], h.r i _ _ (List.getElem?_eq_getElem hi) (List.getElem?_eq_getElem (by omega))⟩
theorem YMem.rne (h : YMem base Y bO bF cF AT cT n rows fs nx vs w) {v : Value} (hv : v ∈ vs) : v.ownBlock ≠ some Y ∧ v.ownBlock ≠ some bO ∧ v.ownBlock ≠ some bF := by
  obtain ⟨r, hr⟩ := h.row hv
  obtain ⟨c1, h1⟩ := own_at h.o
  obtain ⟨c2, h2⟩ := own_at h.f
  refine ⟨fun e => ?_, fun e => ?_, fun e => ?_⟩
  · obtain ⟨c, hc⟩ := own_blk hr e; exact ne_ty hc h.y (by decide) rfl
  · obtain ⟨c, hc⟩ := own_blk hr e; exact ne_ty hc h1 (by decide) rfl
  · obtain ⟨c, hc⟩ := own_blk hr e; exact ne_ty hc h2 (by decide) rfl
theorem YMem.D_base (h : YMem base Y bO bF cF AT cT n rows fs nx vs w) {k : Nat} (hk : DY Y bO bF vs k) : base ≤ k ∧ k < w.heap.size := by
  rcases hk with rfl | rfl | rfl | ⟨v, hv, e⟩
  · exact ⟨h.hy, h.y.lt⟩
  · exact h.bO_
  · exact h.bF_
  · obtain ⟨r, hr⟩ := h.row hv; exact own_block hr k e
theorem YMem.grow (h : YMem base Y bO bF cF AT cT n rows fs nx vs w) (hb : Below w.heap.size w w') : YMem base Y bO bF cF AT cT n rows fs nx vs w' :=
  ⟨h.y.bel hb, h.hy, own_grow h.o hb, own_grow h.f hb, h.rn, fun t v r hv hr => own_grow (h.r t v r hv hr) hb, h.ap⟩
theorem YMem.sNext (h : YMem base Y bO bF cF AT cT n rows fs nx vs w) (nx' : Nat) : YMem base Y bO bF cF AT cT n rows fs nx' vs (w.setCell ⟨Y, 3, none⟩ (.int .i64 nx')) := by
  obtain ⟨a, b, c⟩ := h.ne
  exact ⟨by simpa using h.y.set_ 3 (.int .i64 nx'), h.hy, own_far h.o (by simpa [Value.ownBlock] using fun e => a e.symm), own_far h.f (by simpa [Value.ownBlock] using fun e => b e.symm), h.rn,
    fun t v r hv hr => own_far (h.r t v r hv hr) (h.rne (List.mem_of_getElem? hv)).1, h.ap⟩
theorem YMem.sFree (h : YMem base Y bO bF cF AT cT n rows fs nx vs w) (t : Nat) (x : Int) : YMem base Y bO bF cF AT cT n rows (fs.set t x) nx vs (w.setCell ⟨bF, t, none⟩ (.int .i64 x)) := by
  obtain ⟨a, b, c⟩ := h.ne
  exact ⟨h.y.far (fun e => b e.symm), h.hy, own_far h.o (by simpa [Value.ownBlock] using c), own1_set h.f t x, h.rn,
    fun t v r hv hr => own_far (h.r t v r hv hr) (h.rne (List.mem_of_getElem? hv)).2.2, h.ap⟩
/-- a row's memory has turned, and the row is laid anew -/
theorem YMem.sRow (h : YMem base Y bO bF cF AT cT n rows fs nx vs w) {t : Nat} {v v' : Value} {r' : List Un} (hv : vs[t]? = some v) (hg : w.grownBy w' v.ownBlock)
    (ho : w'.ownsRow base 57 3 v' r'.length (r'.flatMap Un.cells)) (hat : v'.ownBlock = v.ownBlock ∨ v'.ownBlock = none ∨ ∃ k, v'.ownBlock = some k ∧ w.heap.size ≤ k) :
    YMem base Y bO bF cF AT cT n (rows.set t r') fs nx (vs.set t v') (w'.setCell ⟨bO, t, none⟩ v') := by
  obtain ⟨a, b, c⟩ := h.ne
  have hvm := List.mem_of_getElem? hv
  obtain ⟨h1, h2, h3⟩ := h.rne hvm
  have hbO := h.bO_
  have hne : v'.ownBlock ≠ some bO := by
    rcases hat with e | e | ⟨k, e, hk⟩
    · rw [e]; exact h2
    · rw [e]; simp
    · rw [e]; intro e'; injection e' with e'; omega
  have hap : ∀ j v2, t ≠ j → vs[j]? = some v2 → v'.ownBlock = none ∨ v'.ownBlock ≠ v2.ownBlock := fun j v2 hj hv2 => by
    rcases hat with e | e | ⟨k, e, hk⟩
    · rw [e]; exact h.ap t j v v2 hj hv hv2
    · exact .inl e
    · right
      intro e2
      obtain ⟨r2, hr2⟩ := h.row (List.mem_of_getElem? hv2)
      have := own_block hr2 k (by rw [← e2]; exact e)
      omega
  refine ⟨(h.y.same (hg.block _ h.y.lt fun e => h1 e.symm)).far (fun e => a e.symm), h.hy, ?_, own_far (h.f.kept hg (.inr (by simpa [Value.ownBlock] using fun e => h3 e.symm))) (by simpa [Value.ownBlock] using fun e => c e.symm), by simp [h.rn], fun j v2 r2 hv2 hr2 => ?_, fun i j v1 v2 hij hi hj => ?_⟩
  · exact ((h.o.kept hg (.inr (by simpa [Value.ownBlock] using fun e => h2 e.symm))).stored t v').1
  · rw [List.getElem?_set] at hv2 hr2
    by_cases e : t = j
    · subst e
      rw [if_pos rfl] at hv2 hr2
      split at hv2
      · split at hr2
        · injection hv2 with hv2; injection hr2 with hr2
          subst hv2; subst hr2
          exact own_far ho hne
        · cases hr2
      · cases hv2
    · rw [if_neg e] at hv2 hr2
      refine own_far ((h.r j v2 r2 hv2 hr2).kept hg ?_) (h.rne (List.mem_of_getElem? hv2)).2.1
      exact h.ap j t v2 v (fun e' => e e'.symm) hv2 hv
  · rw [List.getElem?_set] at hi hj
    by_cases e1 : t = i
    · subst e1
      rw [if_neg hij] at hj
      rw [if_pos rfl] at hi
      split at hi
      · injection hi with hi; subst hi; exact hap j v2 hij hj
      · cases hi
    · rw [if_neg e1] at hi
      by_cases e2 : t = j
      · subst e2
        rw [if_pos rfl] at hj
        split at hj
        · injection hj with hj; subst hj
          rcases hap i v1 e1 hi with h0 | h0
          · rcases Classical.em (v1.ownBlock = none) with h4 | h4
            · exact .inl h4
            · right; rw [h0]; exact h4
          · right; exact fun e => h0 e.symm
        · cases hj
      · rw [if_neg e2] at hj
        exact h.ap i j v1 v2 hij hi hj
theorem FrY.row (h : YMem base Y bO bF cF AT cT n rows fs nx vs w) {t : Nat} {v v' : Value} (hv : vs[t]? = some v) (hg : w.grownBy w' v.ownBlock) (hs : base ≤ w.heap.size)
    (hat : v'.ownBlock = v.ownBlock ∨ v'.ownBlock = none ∨ ∃ k, v'.ownBlock = some k ∧ w.heap.size ≤ k) :
    FrY base (DY Y bO bF vs) (DY Y bO bF (vs.set t v')) w (w'.setCell ⟨bO, t, none⟩ v') := by
  have hvm := List.mem_of_getElem? hv
  obtain ⟨r, hr⟩ := h.row hvm
  refine ⟨((Below.refl _ _).grown hg hs fun k hk => (own_block hr k hk).1).setCell h.bO_.1 _, fun k hk hd => ?_, fun k hk hd => ?_⟩
  · rw [Below.heap_setCell _ _ _ _ (by intro e; simp only at e; exact hd (.inr (.inl e)))]
    exact hg.block k hk fun e => hd (.inr (.inr (.inr ⟨v, hvm, e.symm⟩)))
  · rcases hd with e | e | e | ⟨v2, hv2, e⟩
    · exact .inl e
    · exact .inr (.inl e)
    · exact .inr (.inr (.inl e))
    · rcases List.mem_or_eq_of_mem_set hv2 with hv2 | rfl
      · exact .inr (.inr (.inr ⟨v2, hv2, e⟩))
      · rcases hat with e2 | e2 | ⟨k2, e2, hk2⟩
        · exact .inr (.inr (.inr ⟨v, hvm, by rw [← e2]; exact e⟩))
        · rw [e2] at e; cases e
        · rw [e2] at e; injection e with e; omega
theorem DY.set {t k : Nat} {v' : Value} (h : DY Y bO bF (vs.set t v') k) : DY Y bO bF vs k ∨ v'.ownBlock = some k := by
  rcases h with e | e | e | ⟨v2, hv2, e⟩
  · exact .inl (.inl e)
  · exact .inl (.inr (.inl e))
  · exact .inl (.inr (.inr (.inl e)))
  · rcases List.mem_or_eq_of_mem_set hv2 with hv2 | rfl
    · exact .inl (.inr (.inr (.inr ⟨v2, hv2, e⟩)))
    · exact .inr e
/-- a store elsewhere -/
theorem YMem.far (h : YMem base Y bO bF cF AT cT n rows fs nx vs w) {b o : Nat} {u : Value} (hb : ¬ DY Y bO bF vs b) : YMem base Y bO bF cF AT cT n rows fs nx vs (w.setCell ⟨b, o, none⟩ u) :=
  ⟨h.y.far fun e => hb (.inl e), h.hy, own_far h.o (by simpa [Value.ownBlock] using fun e => hb (.inr (.inl e.symm))), own_far h.f (by simpa [Value.ownBlock] using fun e => hb (.inr (.inr (.inl e.symm)))), h.rn,
    fun t v r hv hr => own_far (h.r t v r hv hr) (fun e => hb (.inr (.inr (.inr ⟨v, List.mem_of_getElem? hv, e⟩)))), h.ap⟩
theorem FrY.far {D D' : Nat → Prop} {w0 : World} (h : FrY base D D' w0 w) {b o : Nat} {u : Value} (hb : base ≤ b) (h0 : w0.heap.size ≤ b) : FrY base D D' w0 (w.setCell ⟨b, o, none⟩ u) :=
  ⟨h.bel.setCell hb _, fun k hk hd => (Below.heap_setCell _ _ _ _ (by intro e; simp only at e; omega)).trans (h.keep k hk hd), h.back⟩
end
end Go.Proofs.Ytffgnfefejimnaa
