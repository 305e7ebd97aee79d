import Derived.Test.YtbmbdenjlbelaaaBunA
import Derived.Test.YtbmbdenjlbelaaaNw
import Derived.Deep.Slices
import Derived.Deep.Fields
import Derived.ChangeSame
import Derived.Lib.SmallJoins
namespace Go.Proofs.Ytbmbdenjlbelaaa
open Go.ChangeShapes Go.WideShapes Go.ChangeAt Go.RowKit Go.Deep Go.Joins
section
variable {H : Type} {enc : TypeId × Value → H} {W : World} {base : Nat} {v : Value} {d : DataW H} {p : List MemPlace}
/-- all sizes of what came in are within reach -/
def Light (t : TypeId) (d : DataW H) : Prop := ∀ m ∈ d.weights Try.prog t, m ≤ reachBytes
theorem light_all {e : TypeId} : ∀ {ds : List (DataW H)} {d : DataW H} {m : Nat}, d ∈ ds → m ∈ d.weights Try.prog e → m ∈ DataW.weightsAll Try.prog e ds
  | d0 :: ds, d, m, hd, hm => by
    simp only [DataW.weightsAll, List.mem_append]
    rcases List.mem_cons.1 hd with rfl | hd
    · exact .inl hm
    · exact .inr (light_all hd hm)
theorem light_top {ts : List TypeId} {ds : List (DataW H)} (h : (DataW.weightsEach Try.prog ts ds).all (· ≤ reachBytes) = true) (j : Nat) {t : TypeId} (ht : ts[j]? = some t) (hd : ds[j]? = some d) : Light t d := fun m hm => by
  have := List.all_eq_true.1 h _ (DataW.weights_mem_each ht hd m hm)
  simpa using this
/-- a slice of cells, k an element, with what is known of each element -/
theorem openC {α : Type} (f : α → List Value) (k by_ : Nat) (hk : 0 < k) (hf : ∀ x, (f x).length = k) (Φ : α → Prop) {t e : TypeId}
    (ht : Try.prog.underlying t = some (.slice e)) (hc : Try.prog.cellsOf e = k) (hby : Try.prog.bytesOf e = by_)
    (dec : ∀ (cs : List Value) (n : Nat) (y : DataW H × List MemPlace), cs.length = k → DataW.trod enc Try.prog W 0 (fun _ => true) true n e cs = some y → ∃ x : α, cs = f x ∧ (Light e y.1 → Φ x))
    {fuel : Nat} {cs : List Value} {y : DataW H × List MemPlace} (h : DataW.trod enc Try.prog W 0 (fun _ => true) true fuel t cs = some y) :
    ∃ (A : Option Addr) (c : Nat) (xs : List α), cs = [.slice A xs.length c] ∧ Rd W W.heap.size k A xs.length (xs.flatMap f) ∧ xs.length ≤ c ∧ c ≤ maxLen ∧ (Light t y.1 → c * by_ ≤ 140737488351232 ∧ ∀ x ∈ xs, Φ x) := by
  rcases Go.Deep.open_slice ht h with ⟨hcs, hx⟩ | ⟨a, len, cap, m, n, D, Pl, hcs, hb, hl, hm, hmm, hx, hi⟩
  · subst hcs
    exact ⟨none, 0, [], rfl, ⟨by simp, fun h => absurd h (by simp)⟩, by simp, by simp [maxLen], fun _ => ⟨by omega, fun x hx => by simp at hx⟩⟩
  · subst hcs
    simp only [if_true] at hmm
    subst hmm
    rw [hc] at hi
    have hex : ∀ i, i < m → ∃ x : α, (∀ j, j < k → W.cell? (a.add (i * k + j)) = (f x)[j]?) ∧ (Light e (D i) → Φ x) := fun i him => by
      obtain ⟨cs', h1, h2⟩ := hi i him
      obtain ⟨_, hlen, hat⟩ := World.cells?_some h1
      obtain ⟨x, rfl, hΦ⟩ := dec cs' n _ hlen h2
      exact ⟨x, fun j hj => by rw [← Go.Deep.add_add]; exact hat j hj, hΦ⟩
    refine ⟨some a, m, (List.range len).pmap (fun i (hi : i < m) => Classical.choose (hex i hi)) (fun i hi => by have := List.mem_range.1 hi; omega), by simp, ⟨?_, fun hp => ?_⟩, by simpa using hl, hm, fun hL => ⟨?_, fun x hx2 => ?_⟩⟩
    · rw [flat_len f k hf]
    · have hp' : 0 < len := by simpa using hp
      have hcell : ∀ i (him : i < m) j, j < k → W.cell? (a.add (i * k + j)) = (f (Classical.choose (hex i him)))[j]? := fun i him => (Classical.choose_spec (hex i him)).1
      obtain ⟨b, off, spot⟩ := a
      have h0 := hcell 0 (by omega) 0 hk
      have hs0 : (f (Classical.choose (hex 0 (by omega))))[0]? = some ((f (Classical.choose (hex 0 (by omega))))[0]'(by rw [hf]; exact hk)) := List.getElem?_eq_getElem _
      rw [hs0] at h0
      have hspot : spot = none := by simpa [Addr.add] using World.cell?_spot h0
      subst hspot
      refine ⟨b, off, rfl, ?_, fun j u hu => ?_⟩
      · have := World.block_lt_of_cell? W _ h0
        simpa [Addr.add] using this
      · rw [flat_getq f k hk hf] at hu
        have hjm : j / k < len := by
          rcases Nat.lt_or_ge (j / k) len with h | h
          · exact h
          · rw [List.getElem?_eq_none (by simpa using h)] at hu; cases hu
        have hr : j % k < k := Nat.mod_lt _ hk
        rw [List.getElem?_eq_getElem (by simpa using hjm)] at hu
        simp only [Option.bind_some, List.getElem_pmap, List.getElem_range] at hu
        have := hcell (j / k) (by omega) (j % k) hr
        rw [hu, add_plain] at this
        rw [← this]
        congr 2
        rw [Nat.mul_comm, Nat.div_add_mod]
    · have := hL (((List.range len).map D).length + ((List.range (m - len)).map fun j => D (len + j)).length |> (· * Try.prog.bytesOf e)) (by rw [hx]; simp [DataW.weights, ht])
      rw [hby] at this
      simp at this
      rw [show len + (m - len) = m by omega] at this
      simpa [reachBytes] using this
    · obtain ⟨i, hi1, rfl⟩ := List.mem_pmap.1 hx2
      have him : i < len := List.mem_range.1 hi1
      refine (Classical.choose_spec (hex i (by omega))).2 (fun q hq => hL q ?_)
      rw [hx]
      simp only [DataW.weights, ht, List.mem_cons, List.mem_append]
      exact .inr (.inl (light_all (List.mem_map.2 ⟨i, hi1, rfl⟩) hq))
def int1 (a : Int) : List Value := [.int .i64 a]
theorem flat_int1 : ∀ l : List Int, l.flatMap int1 = l.map (Value.int .i64)
  | [] => rfl
  | a :: l => by rw [List.flatMap_cons, flat_int1 l]; rfl
theorem dec_int (cs : List Value) (n : Nat) (y : DataW H × List MemPlace) (_hl : cs.length = 1) (h : DataW.trod enc Try.prog W 0 (fun _ => true) true n 3 cs = some y) : ∃ x : Int, cs = int1 x ∧ (Light 3 y.1 → True) := by
  obtain ⟨a, e0, _, _⟩ := DataW.trod_int Try.underlying3 h
  exact ⟨a, e0, fun _ => trivial⟩
theorem openIntsC {fuel : Nat} {cs : List Value} {y : DataW H × List MemPlace} (h : DataW.trod enc Try.prog W 0 (fun _ => true) true fuel 22 cs = some y) :
    ∃ (A : Option Addr) (c : Nat) (xs : List Int), cs = [.slice A xs.length c] ∧ Rd W W.heap.size 1 A xs.length (xs.map (Value.int .i64)) ∧ xs.length ≤ c ∧ (Light 22 y.1 → c * 8 ≤ 140737488351232) := by
  obtain ⟨A, c, xs, h1, h2, h3, _, h4⟩ := openC int1 1 8 (by omega) (fun _ => rfl) (fun _ => True) Try.underlying22 (by kernel_rfl) (by kernel_rfl) dec_int h
  rw [flat_int1] at h2
  exact ⟨A, c, xs, h1, h2, h3, fun hL => (h4 hL).1⟩
end
section
variable {H : Type} {enc : TypeId × Value → H} {W : World} {base : Nat} {v : Value} {d : DataW H} {p : List MemPlace}
theorem dec_Evt (cs : List Value) (n : Nat) (y : DataW H × List MemPlace) (hl : cs.length = 3) (h : DataW.trod enc Try.prog W 0 (fun _ => true) true n 74 cs = some y) : ∃ x : Evt, cs = x.cells := by
  obtain ⟨xs, m, _, _, _, hlen, hg⟩ := DataW.trod_struct Try.underlying74 h
  match cs, hl with
  | [c0, c1, c2], _ =>
    match xs, hlen with
    | [y0, y1, y2], _ =>
      have h0 : DataW.trod enc Try.prog W 0 (fun _ => true) true m 3 (([c0, c1, c2].drop 0).take (Try.prog.cellsOf 3)) = some y0 := hg 0 _ rfl
      rw [show Try.prog.cellsOf 3 = 1 by kernel_rfl] at h0
      have h1 : DataW.trod enc Try.prog W 0 (fun _ => true) true m 3 (([c0, c1, c2].drop 1).take (Try.prog.cellsOf 3)) = some y1 := hg 1 _ rfl
      rw [show Try.prog.cellsOf 3 = 1 by kernel_rfl] at h1
      have h2 : DataW.trod enc Try.prog W 0 (fun _ => true) true m 3 (([c0, c1, c2].drop 2).take (Try.prog.cellsOf 3)) = some y2 := hg 2 _ rfl
      rw [show Try.prog.cellsOf 3 = 1 by kernel_rfl] at h2
      obtain ⟨a0, e0, _, _⟩ := DataW.trod_int Try.underlying3 h0
      obtain ⟨a1, e1, _, _⟩ := DataW.trod_int Try.underlying3 h1
      obtain ⟨a2, e2, _, _⟩ := DataW.trod_int Try.underlying3 h2
      simp at e0 e1 e2
      subst e0 e1 e2
      exact ⟨⟨a0, a1, a2⟩, rfl⟩
structure SEvt where
  A : Option Addr
  n : Nat
  c : Nat
  xs : List Evt
theorem open_SEvent (hv : Value.okWide Try.prog W .any base 23 v) (h : DataW.Trod enc Try.prog W 0 (fun _ => true) true 23 v d p) :
    ∃ x : SEvt, v = .slice x.A x.n x.c ∧ (Rd W W.heap.size 3 x.A x.n (x.xs.flatMap Evt.cells) ∧ x.n = x.xs.length ∧ x.n ≤ x.c) ∧ ((d = .nil ∧ x.c = 0) ∨ ∃ es sp, d = .slice es sp ∧ es.length + sp.length = x.c) := by
  obtain ⟨A, n, c, xs, rfl, h1, h2, h3, _, h4⟩ := openStructs Evt.cells 3 (by omega) Evt.len Try.underlying23 (by kernel_rfl) dec_Evt hv h
  exact ⟨⟨A, n, c, xs⟩, rfl, ⟨h1, h2, h3⟩, h4⟩
theorem sized_SEvent {ts : List TypeId} {ds : List (DataW H)} (h : (DataW.weightsEach Try.prog ts ds).all (· ≤ reachBytes) = true) (j : Nat) {d : DataW H} {c : Nat} (ht : ts[j]? = some 23) (hd : ds[j]? = some d)
    (hc : (d = .nil ∧ c = 0) ∨ ∃ es sp, d = .slice es sp ∧ es.length + sp.length = c) : c * 24 ≤ 140737488351232 :=
  sizedStructs h j 24 Try.underlying23 (by kernel_rfl) ht hd hc
end
section
variable {H : Type} {enc : TypeId × Value → H} {W : World} {base : Nat} {v : Value} {d : DataW H} {p : List MemPlace}
theorem dec_Act (cs : List Value) (n : Nat) (y : DataW H × List MemPlace) (hl : cs.length = 6) (h : DataW.trod enc Try.prog W 0 (fun _ => true) true n 61 cs = some y) : ∃ x : Act, cs = x.cells := by
  obtain ⟨xs, m, _, _, _, hlen, hg⟩ := DataW.trod_struct Try.underlying61 h
  match cs, hl with
  | [c0, c1, c2, c3, c4, c5], _ =>
    match xs, hlen with
    | [y0, y1, y2, y3, y4, y5], _ =>
      have h0 : DataW.trod enc Try.prog W 0 (fun _ => true) true m 3 (([c0, c1, c2, c3, c4, c5].drop 0).take (Try.prog.cellsOf 3)) = some y0 := hg 0 _ rfl
      rw [show Try.prog.cellsOf 3 = 1 by kernel_rfl] at h0
      have h1 : DataW.trod enc Try.prog W 0 (fun _ => true) true m 3 (([c0, c1, c2, c3, c4, c5].drop 1).take (Try.prog.cellsOf 3)) = some y1 := hg 1 _ rfl
      rw [show Try.prog.cellsOf 3 = 1 by kernel_rfl] at h1
      have h2 : DataW.trod enc Try.prog W 0 (fun _ => true) true m 3 (([c0, c1, c2, c3, c4, c5].drop 2).take (Try.prog.cellsOf 3)) = some y2 := hg 2 _ rfl
      rw [show Try.prog.cellsOf 3 = 1 by kernel_rfl] at h2
      have h3 : DataW.trod enc Try.prog W 0 (fun _ => true) true m 3 (([c0, c1, c2, c3, c4, c5].drop 3).take (Try.prog.cellsOf 3)) = some y3 := hg 3 _ rfl
      rw [show Try.prog.cellsOf 3 = 1 by kernel_rfl] at h3
      have h4 : DataW.trod enc Try.prog W 0 (fun _ => true) true m 3 (([c0, c1, c2, c3, c4, c5].drop 4).take (Try.prog.cellsOf 3)) = some y4 := hg 4 _ rfl
      rw [show Try.prog.cellsOf 3 = 1 by kernel_rfl] at h4
      have h5 : DataW.trod enc Try.prog W 0 (fun _ => true) true m 3 (([c0, c1, c2, c3, c4, c5].drop 5).take (Try.prog.cellsOf 3)) = some y5 := hg 5 _ rfl
      rw [show Try.prog.cellsOf 3 = 1 by kernel_rfl] at h5
      obtain ⟨a0, e0, _, _⟩ := DataW.trod_int Try.underlying3 h0
      obtain ⟨a1, e1, _, _⟩ := DataW.trod_int Try.underlying3 h1
      obtain ⟨a2, e2, _, _⟩ := DataW.trod_int Try.underlying3 h2
      obtain ⟨a3, e3, _, _⟩ := DataW.trod_int Try.underlying3 h3
      obtain ⟨a4, e4, _, _⟩ := DataW.trod_int Try.underlying3 h4
      obtain ⟨a5, e5, _, _⟩ := DataW.trod_int Try.underlying3 h5
      simp at e0 e1 e2 e3 e4 e5
      subst e0 e1 e2 e3 e4 e5
      exact ⟨⟨a0, a1, a2, a3, a4, a5⟩, rfl⟩
structure SAct where
  A : Option Addr
  n : Nat
  c : Nat
  xs : List Act
theorem open_SActivity (hv : Value.okWide Try.prog W .any base 24 v) (h : DataW.Trod enc Try.prog W 0 (fun _ => true) true 24 v d p) :
    ∃ x : SAct, v = .slice x.A x.n x.c ∧ (Rd W W.heap.size 6 x.A x.n (x.xs.flatMap Act.cells) ∧ x.n = x.xs.length ∧ x.n ≤ x.c) ∧ ((d = .nil ∧ x.c = 0) ∨ ∃ es sp, d = .slice es sp ∧ es.length + sp.length = x.c) := by
  obtain ⟨A, n, c, xs, rfl, h1, h2, h3, _, h4⟩ := openStructs Act.cells 6 (by omega) Act.len Try.underlying24 (by kernel_rfl) dec_Act hv h
  exact ⟨⟨A, n, c, xs⟩, rfl, ⟨h1, h2, h3⟩, h4⟩
theorem sized_SActivity {ts : List TypeId} {ds : List (DataW H)} (h : (DataW.weightsEach Try.prog ts ds).all (· ≤ reachBytes) = true) (j : Nat) {d : DataW H} {c : Nat} (ht : ts[j]? = some 24) (hd : ds[j]? = some d)
    (hc : (d = .nil ∧ c = 0) ∨ ∃ es sp, d = .slice es sp ∧ es.length + sp.length = c) : c * 48 ≤ 140737488351232 :=
  sizedStructs h j 48 Try.underlying24 (by kernel_rfl) ht hd hc
end
section
variable {H : Type} {enc : TypeId × Value → H} {W : World} {base : Nat} {v : Value} {d : DataW H} {p : List MemPlace}
/-- a network that came in -/
structure XNet where
  T : Int
  AE : Option Addr
  ne : Nat
  ce : Nat
  AA : Option Addr
  ca : Nat
  acts : List Act
theorem open_Network (hv : Value.okWide Try.prog W .any base 26 v) (h : DataW.Trod enc Try.prog W 0 (fun _ => true) true 26 v d p) :
    ∃ x : XNet, v = .agg #[.int .i64 x.T, .slice x.AE x.ne x.ce, .slice x.AA x.acts.length x.ca] ∧ Rd W W.heap.size 6 x.AA x.acts.length (x.acts.flatMap Act.cells) ∧ (Light 26 d → x.ne ≤ 4611686018427387904 ∧ x.acts.length ≤ 4611686018427387904) := by
  obtain ⟨c0, c1, c2, y0, y1, y2, m, rfl, rfl, _, h0, h1, h2⟩ := open_agg3 Try.underlying26 (by kernel_rfl) (by kernel_rfl) hv h
  obtain ⟨a, e0, _, _⟩ := DataW.trod_int Try.underlying3 h0
  obtain ⟨AE, ce, es, e1, _, l1, _, s1⟩ := openC Evt.cells 3 24 (by omega) Evt.len (fun _ => True) Try.underlying23 (by kernel_rfl) (by kernel_rfl) (fun cs n y hl h => by obtain ⟨x, hx⟩ := dec_Evt cs n y hl h; exact ⟨x, hx, fun _ => trivial⟩) h1
  obtain ⟨AA, ca, la, e2, r2, l2, _, s2⟩ := openC Act.cells 6 48 (by omega) Act.len (fun _ => True) Try.underlying24 (by kernel_rfl) (by kernel_rfl) (fun cs n y hl h => by obtain ⟨x, hx⟩ := dec_Act cs n y hl h; exact ⟨x, hx, fun _ => trivial⟩) h2
  simp at e0 e1 e2
  subst e0 e1 e2
  refine ⟨⟨a, AE, es.length, ce, AA, ca, la⟩, rfl, r2, fun hL => ?_⟩
  have g1 := (s1 (fun q hq => hL q (by simp only [DataW.weights, Try.underlying26]; exact DataW.weights_mem_each (j := 1) rfl rfl q hq))).1
  have g2 := (s2 (fun q hq => hL q (by simp only [DataW.weights, Try.underlying26]; exact DataW.weights_mem_each (j := 2) rfl rfl q hq))).1
  simp only
  omega
theorem sized_Network {ts : List TypeId} {ds : List (DataW H)} (h : (DataW.weightsEach Try.prog ts ds).all (· ≤ reachBytes) = true) (j : Nat) (ht : ts[j]? = some 26) (hd : ds[j]? = some d) {Q : Prop} (hq : Light 26 d → Q) : Q := hq (light_top h j ht hd)
/-- what is known of a cycle that came in -/
def CyIn (W : World) (c : Cyc) : Prop := Rd W W.heap.size 1 c.Ar c.arcs.length (c.arcs.map (Value.int .i64)) ∧ Rd W W.heap.size 1 c.As c.signs.length (c.signs.map (Value.int .i64)) ∧ c.arcs.length ≤ c.cr
def CySz (c : Cyc) : Prop := c.arcs.length ≤ 4611686018427387904 ∧ c.signs.length ≤ 4611686018427387904
theorem dec_Cyc (cs : List Value) (n : Nat) (y : DataW H × List MemPlace) (hl : cs.length = 2) (h : DataW.trod enc Try.prog W 0 (fun _ => true) true n 45 cs = some y) : ∃ x : Cyc, cs = x.cells ∧ CyIn W x ∧ (Light 45 y.1 → CySz x) := by
  obtain ⟨xs, m, _, hx, _, hlen, hg⟩ := DataW.trod_struct Try.underlying45 h
  match cs, hl with
  | [c0, c1], _ =>
    match xs, hlen with
    | [y0, y1], _ =>
      have h0 : DataW.trod enc Try.prog W 0 (fun _ => true) true m 22 (([c0, c1].drop 0).take (Try.prog.cellsOf 22)) = some y0 := hg 0 _ rfl
      have h1 : DataW.trod enc Try.prog W 0 (fun _ => true) true m 22 (([c0, c1].drop 1).take (Try.prog.cellsOf 22)) = some y1 := hg 1 _ rfl
      rw [show Try.prog.cellsOf 22 = 1 by kernel_rfl] at h0 h1
      obtain ⟨A0, k0, l0, e0, r0, b0, s0⟩ := openIntsC h0
      obtain ⟨A1, k1, l1, e1, r1, b1, s1⟩ := openIntsC h1
      simp at e0 e1
      subst e0 e1
      refine ⟨⟨A0, k0, A1, k1, l0, l1⟩, rfl, ⟨r0, r1, b0⟩, fun hL => ?_⟩
      have g0 := s0 (fun q hq => hL q (by rw [hx]; simp only [DataW.weights, Try.underlying45]; exact DataW.weights_mem_each (j := 0) rfl rfl q hq))
      have g1 := s1 (fun q hq => hL q (by rw [hx]; simp only [DataW.weights, Try.underlying45]; exact DataW.weights_mem_each (j := 1) rfl rfl q hq))
      exact ⟨by simp only; omega, by simp only; omega⟩
theorem open_Cycle (hv : Value.okWide Try.prog W .any base 45 v) (h : DataW.Trod enc Try.prog W 0 (fun _ => true) true 45 v d p) :
    ∃ x : Cyc, v = .agg #[.slice x.Ar x.arcs.length x.cr, .slice x.As x.signs.length x.cs] ∧ CyIn W x ∧ (Light 45 d → CySz x) := by
  obtain ⟨cs, rfl, hsz⟩ := okWide_struct Try.underlying45 hv
  obtain ⟨fuel, hf⟩ := h
  have hc2 : cs.size = 2 := hsz.trans (by kernel_rfl)
  obtain ⟨x, e, h1, h2⟩ := dec_Cyc _ fuel _ (by simpa [Value.cells] using hc2) hf
  refine ⟨x, ?_, h1, h2⟩
  have : cs = #[.slice x.Ar x.arcs.length x.cr, .slice x.As x.signs.length x.cs] := by
    apply Array.ext'
    simpa [Value.cells, Cyc.cells] using e
  rw [this]
theorem sized_Cycle {ts : List TypeId} {ds : List (DataW H)} (h : (DataW.weightsEach Try.prog ts ds).all (· ≤ reachBytes) = true) (j : Nat) (ht : ts[j]? = some 45) (hd : ds[j]? = some d) {Q : Prop} (hq : Light 45 d → Q) : Q := hq (light_top h j ht hd)
structure SCyc where
  A : Option Addr
  c : Nat
  xs : List Cyc
theorem open_SCycle (hv : Value.okWide Try.prog W .any base 41 v) (h : DataW.Trod enc Try.prog W 0 (fun _ => true) true 41 v d p) :
    ∃ x : SCyc, v = .slice x.A x.xs.length x.c ∧ Rd W W.heap.size 2 x.A x.xs.length (x.xs.flatMap Cyc.cells) ∧ (Light 41 d → x.xs.length ≤ 4611686018427387904 ∧ ∀ c ∈ x.xs, CyIn W c ∧ CySz c) := by
  obtain ⟨a0, len0, cap0, rfl⟩ := okWide_slice Try.underlying41 hv
  obtain ⟨fuel, hf⟩ := h
  obtain ⟨A, c, xs, e, r, l, _, s⟩ := openC Cyc.cells 2 48 (by omega) Cyc.len (fun c => CyIn W c ∧ CySz c) Try.underlying41 (by kernel_rfl) (by kernel_rfl) (fun cs n y hl h => by obtain ⟨x, hx, h1, h2⟩ := dec_Cyc cs n y hl h; exact ⟨x, hx, fun hL => ⟨h1, h2 hL⟩⟩) hf
  simp [Value.cells] at e
  obtain ⟨rfl, rfl, rfl⟩ := e
  exact ⟨⟨_, _, xs⟩, rfl, r, fun hL => ⟨by have := (s hL).1; simp only; omega, (s hL).2⟩⟩
theorem sized_SCycle {ts : List TypeId} {ds : List (DataW H)} (h : (DataW.weightsEach Try.prog ts ds).all (· ≤ reachBytes) = true) (j : Nat) (ht : ts[j]? = some 41) (hd : ds[j]? = some d) {Q : Prop} (hq : Light 41 d → Q) : Q := hq (light_top h j ht hd)
end
end Go.Proofs.Ytbmbdenjlbelaaa
