import Derived.Test.YthfifejjfnmpoaaBunA
import Derived.Test.YthfifejjfnmpoaaTp1
import Derived.Deep.Slices
import Derived.Deep.Fields
import Derived.ChangeSame
import Derived.Lib.SmallJoins
namespace Go.Proofs.Ythfifejjfnmpoaa
open Go.ChangeShapes Go.WideShapes Go.ChangeAt Go.RowKit Go.Deep Go.Joins
section
variable {H : Type} {enc : TypeId × Value → H} {W : World} {base : Nat} {v : Value} {d : DataW H} {p : List MemPlace}
/-- all sizes of what came in are within reach -/
def Light (t : TypeId) (d : DataW H) : Prop := ∀ m ∈ d.weights Try.prog t, m ≤ reachBytes
theorem light_all {e : TypeId} : ∀ {ds : List (DataW H)} {d : DataW H} {m : Nat}, d ∈ ds → m ∈ d.weights Try.prog e → m ∈ DataW.weightsAll Try.prog e ds
  | d0 :: ds, d, m, hd, hm => by
    simp only [DataW.weightsAll, List.mem_append]
    rcases List.mem_cons.1 hd with rfl | hd
    · exact .inl hm
    · exact .inr (light_all hd hm)
theorem light_top {ts : List TypeId} {ds : List (DataW H)} (h : (DataW.weightsEach Try.prog ts ds).all (· ≤ reachBytes) = true) (j : Nat) {t : TypeId} (ht : ts[j]? = some t) (hd : ds[j]? = some d) : Light t d := fun m hm => by
  have := List.all_eq_true.1 h _ (DataW.weights_mem_each ht hd m hm)
  simpa using this
/-- a slice of cells, k an element, with what is known of each element -/
theorem openC {α : Type} (f : α → List Value) (k by_ : Nat) (hk : 0 < k) (hf : ∀ x, (f x).length = k) (Φ : α → Prop) {t e : TypeId}
    (ht : Try.prog.underlying t = some (.slice e)) (hc : Try.prog.cellsOf e = k) (hby : Try.prog.bytesOf e = by_)
    (dec : ∀ (cs : List Value) (n : Nat) (y : DataW H × List MemPlace), cs.length = k → DataW.trod enc Try.prog W 0 (fun _ => true) true n e cs = some y → ∃ x : α, cs = f x ∧ (Light e y.1 → Φ x))
    {fuel : Nat} {cs : List Value} {y : DataW H × List MemPlace} (h : DataW.trod enc Try.prog W 0 (fun _ => true) true fuel t cs = some y) :
    ∃ (A : Option Addr) (c : Nat) (xs : List α), cs = [.slice A xs.length c] ∧ Rd W W.heap.size k A xs.length (xs.flatMap f) ∧ xs.length ≤ c ∧ c ≤ maxLen ∧ (A = none → xs.length = 0 ∧ c = 0) ∧ (Light t y.1 → c * by_ ≤ 140737488351232 ∧ ∀ x ∈ xs, Φ x) := by
  rcases Go.Deep.open_slice ht h with ⟨hcs, hx⟩ | ⟨a, len, cap, m, n, D, Pl, hcs, hb, hl, hm, hmm, hx, hi⟩
  · subst hcs
    exact ⟨none, 0, [], rfl, ⟨by simp, fun h => absurd h (by simp)⟩, by simp, by simp [maxLen], fun _ => ⟨rfl, rfl⟩, fun _ => ⟨by omega, fun x hx => by simp at hx⟩⟩
  · subst hcs
    simp only [if_true] at hmm
    subst hmm
    rw [hc] at hi
    have hex : ∀ i, i < m → ∃ x : α, (∀ j, j < k → W.cell? (a.add (i * k + j)) = (f x)[j]?) ∧ (Light e (D i) → Φ x) := fun i him => by
      obtain ⟨cs', h1, h2⟩ := hi i him
      obtain ⟨_, hlen, hat⟩ := World.cells?_some h1
      obtain ⟨x, rfl, hΦ⟩ := dec cs' n _ hlen h2
      exact ⟨x, fun j hj => by rw [← Go.Deep.add_add]; exact hat j hj, hΦ⟩
    refine ⟨some a, m, (List.range len).pmap (fun i (hi : i < m) => Classical.choose (hex i hi)) (fun i hi => by have := List.mem_range.1 hi; omega), by simp, ⟨?_, fun hp => ?_⟩, by simpa using hl, hm, fun e => (by cases e), fun hL => ⟨?_, fun x hx2 => ?_⟩⟩
    · rw [flat_len f k hf]
    · have hp' : 0 < len := by simpa using hp
      have hcell : ∀ i (him : i < m) j, j < k → W.cell? (a.add (i * k + j)) = (f (Classical.choose (hex i him)))[j]? := fun i him => (Classical.choose_spec (hex i him)).1
      obtain ⟨b, off, spot⟩ := a
      have h0 := hcell 0 (by omega) 0 hk
      have hs0 : (f (Classical.choose (hex 0 (by omega))))[0]? = some ((f (Classical.choose (hex 0 (by omega))))[0]'(by rw [hf]; exact hk)) := List.getElem?_eq_getElem _
      rw [hs0] at h0
      have hspot : spot = none := by simpa [Addr.add] using World.cell?_spot h0
      subst hspot
      refine ⟨b, off, rfl, ?_, fun j u hu => ?_⟩
      · have := World.block_lt_of_cell? W _ h0
        simpa [Addr.add] using this
      · rw [flat_getq f k hk hf] at hu
        have hjm : j / k < len := by
          rcases Nat.lt_or_ge (j / k) len with h | h
          · exact h
          · rw [List.getElem?_eq_none (by simpa using h)] at hu; cases hu
        have hr : j % k < k := Nat.mod_lt _ hk
        rw [List.getElem?_eq_getElem (by simpa using hjm)] at hu
        simp only [Option.bind_some, List.getElem_pmap, List.getElem_range] at hu
        have := hcell (j / k) (by omega) (j % k) hr
        rw [hu, add_plain] at this
        rw [← this]
        congr 2
        rw [Nat.mul_comm, Nat.div_add_mod]
    · have := hL (((List.range len).map D).length + ((List.range (m - len)).map fun j => D (len + j)).length |> (· * Try.prog.bytesOf e)) (by rw [hx]; simp [DataW.weights, ht])
      rw [hby] at this
      simp at this
      rw [show len + (m - len) = m by omega] at this
      simpa [reachBytes] using this
    · obtain ⟨i, hi1, rfl⟩ := List.mem_pmap.1 hx2
      have him : i < len := List.mem_range.1 hi1
      refine (Classical.choose_spec (hex i (by omega))).2 (fun q hq => hL q ?_)
      rw [hx]
      simp only [DataW.weights, ht, List.mem_cons, List.mem_append]
      exact .inr (.inl (light_all (List.mem_map.2 ⟨i, hi1, rfl⟩) hq))
def int1 (a : Int) : List Value := [.int .i64 a]
theorem flat_int1 : ∀ l : List Int, l.flatMap int1 = l.map (Value.int .i64)
  | [] => rfl
  | a :: l => by rw [List.flatMap_cons, flat_int1 l]; rfl
theorem dec_int (cs : List Value) (n : Nat) (y : DataW H × List MemPlace) (_hl : cs.length = 1) (h : DataW.trod enc Try.prog W 0 (fun _ => true) true n 3 cs = some y) : ∃ x : Int, cs = int1 x ∧ (Light 3 y.1 → True) := by
  obtain ⟨a, e0, _, _⟩ := DataW.trod_int Try.underlying3 h
  exact ⟨a, e0, fun _ => trivial⟩
theorem openIntsC {fuel : Nat} {cs : List Value} {y : DataW H × List MemPlace} (h : DataW.trod enc Try.prog W 0 (fun _ => true) true fuel 23 cs = some y) :
    ∃ (A : Option Addr) (c : Nat) (xs : List Int), cs = [.slice A xs.length c] ∧ (Light 23 y.1 → IRd W W.heap.size A c xs) := by
  obtain ⟨A, c, xs, h1, h2, h3, hm, hn, h4⟩ := openC int1 1 8 (by omega) (fun _ => rfl) (fun _ => True) Try.underlying23 (by kernel_rfl) (by kernel_rfl) dec_int h
  rw [flat_int1] at h2
  refine ⟨A, c, xs, h1, fun hL => ⟨h2, fun hp a ha => ?_, hn, h3, by have := (h4 hL).1; omega, hm⟩⟩
  obtain ⟨b, off, e, hb, _⟩ := h2.2 hp
  rw [e] at ha
  injection ha with ha
  subst ha
  exact .inl hb
theorem dec_CT (cs : List Value) (n : Nat) (y : DataW H × List MemPlace) (hl : cs.length = 4) (h : DataW.trod enc Try.prog W 0 (fun _ => true) true n 28 cs = some y) : ∃ x : CT, cs = x.cells ∧ (Light 28 y.1 → TM W W.heap.size x) := by
  obtain ⟨xs, m, _, hx, _, hlen, hg⟩ := DataW.trod_struct Try.underlying28 h
  match cs, hl with
  | [c0, c1, c2, c3], _ =>
    match xs, hlen with
    | [y0, y1, y2, y3], _ =>
      have h0 : DataW.trod enc Try.prog W 0 (fun _ => true) true m 3 (([c0, c1, c2, c3].drop 0).take (Try.prog.cellsOf 3)) = some y0 := hg 0 _ rfl
      have h1 : DataW.trod enc Try.prog W 0 (fun _ => true) true m 3 (([c0, c1, c2, c3].drop 1).take (Try.prog.cellsOf 3)) = some y1 := hg 1 _ rfl
      have h2 : DataW.trod enc Try.prog W 0 (fun _ => true) true m 23 (([c0, c1, c2, c3].drop 2).take (Try.prog.cellsOf 23)) = some y2 := hg 2 _ rfl
      have h3 : DataW.trod enc Try.prog W 0 (fun _ => true) true m 23 (([c0, c1, c2, c3].drop 3).take (Try.prog.cellsOf 23)) = some y3 := hg 3 _ rfl
      rw [show Try.prog.cellsOf 3 = 1 by kernel_rfl] at h0 h1
      rw [show Try.prog.cellsOf 23 = 1 by kernel_rfl] at h2 h3
      obtain ⟨a0, e0, _, _⟩ := DataW.trod_int Try.underlying3 h0
      obtain ⟨a1, e1, _, _⟩ := DataW.trod_int Try.underlying3 h1
      obtain ⟨A2, k2, l2, e2, s2⟩ := openIntsC h2
      obtain ⟨A3, k3, l3, e3, s3⟩ := openIntsC h3
      simp at e0 e1 e2 e3
      subst e0 e1 e2 e3
      refine ⟨⟨a0, a1, A2, k2, A3, k3, l2, l3⟩, rfl, fun hL => ⟨?_, ?_⟩⟩
      · exact s2 (fun q hq => hL q (by rw [hx]; simp only [DataW.weights, Try.underlying28]; exact DataW.weights_mem_each (j := 2) rfl rfl q hq))
      · exact s3 (fun q hq => hL q (by rw [hx]; simp only [DataW.weights, Try.underlying28]; exact DataW.weights_mem_each (j := 3) rfl rfl q hq))
theorem dec_CE (cs : List Value) (n : Nat) (y : DataW H × List MemPlace) (hl : cs.length = 9) (h : DataW.trod enc Try.prog W 0 (fun _ => true) true n 40 cs = some y) : ∃ x : CE, cs = x.cells ∧ (Light 40 y.1 → EM W W.heap.size x) := by
  obtain ⟨xs, m, _, hx, _, hlen, hg⟩ := DataW.trod_struct Try.underlying40 h
  match cs, hl with
  | [c0, c1, c2, c3, c4, c5, c6, c7, c8], _ =>
    match xs, hlen with
    | [y0, y1, y2], _ =>
      have h0 : DataW.trod enc Try.prog W 0 (fun _ => true) true m 3 (([c0, c1, c2, c3, c4, c5, c6, c7, c8].drop 0).take (Try.prog.cellsOf 3)) = some y0 := hg 0 _ rfl
      have h1 : DataW.trod enc Try.prog W 0 (fun _ => true) true m 28 (([c0, c1, c2, c3, c4, c5, c6, c7, c8].drop 1).take (Try.prog.cellsOf 28)) = some y1 := hg 1 _ rfl
      have h2 : DataW.trod enc Try.prog W 0 (fun _ => true) true m 28 (([c0, c1, c2, c3, c4, c5, c6, c7, c8].drop 5).take (Try.prog.cellsOf 28)) = some y2 := hg 2 _ rfl
      rw [show Try.prog.cellsOf 3 = 1 by kernel_rfl] at h0
      rw [show Try.prog.cellsOf 28 = 4 by kernel_rfl] at h1 h2
      obtain ⟨a0, e0, _, _⟩ := DataW.trod_int Try.underlying3 h0
      obtain ⟨x1, e1, s1⟩ := dec_CT _ _ _ (by simp) h1
      obtain ⟨x2, e2, s2⟩ := dec_CT _ _ _ (by simp) h2
      simp [CT.cells] at e0 e1 e2
      obtain ⟨rfl, rfl, rfl, rfl⟩ := e1
      obtain ⟨rfl, rfl, rfl, rfl⟩ := e2
      subst e0
      refine ⟨⟨a0, x1, x2⟩, rfl, fun hL => ⟨?_, ?_⟩⟩
      · exact s1 (fun q hq => hL q (by rw [hx]; simp only [DataW.weights, Try.underlying40]; exact DataW.weights_mem_each (j := 1) rfl rfl q hq))
      · exact s2 (fun q hq => hL q (by rw [hx]; simp only [DataW.weights, Try.underlying40]; exact DataW.weights_mem_each (j := 2) rfl rfl q hq))
structure STrip where
  A : Option Addr
  c : Nat
  xs : List CT
theorem open_STrip (hv : Value.okWide Try.prog W .any base 22 v) (h : DataW.Trod enc Try.prog W 0 (fun _ => true) true 22 v d p) :
    ∃ x : STrip, v = .slice x.A x.xs.length x.c ∧ True ∧ (Light 22 d → TL W x.A x.c x.xs) := by
  obtain ⟨a0, len0, cap0, rfl⟩ := okWide_slice Try.underlying22 hv
  obtain ⟨fuel, hf⟩ := h
  obtain ⟨A, c, xs, e, r, l, hm, hn, s⟩ := openC CT.cells 4 64 (by omega) CT.len (fun c => TM W W.heap.size c) Try.underlying22 (by kernel_rfl) (by kernel_rfl) dec_CT hf
  simp [Value.cells] at e
  obtain ⟨rfl, rfl, rfl⟩ := e
  exact ⟨⟨_, _, xs⟩, rfl, trivial, fun hL => ⟨r, (s hL).2, hn, l, by have := (s hL).1; show xs.length ≤ _; omega, hm⟩⟩
theorem sized_STrip {ts : List TypeId} {ds : List (DataW H)} (h : (DataW.weightsEach Try.prog ts ds).all (· ≤ reachBytes) = true) (j : Nat) (ht : ts[j]? = some 22) (hd : ds[j]? = some d) {Q : Prop} (hq : Light 22 d → Q) : Q := hq (light_top h j ht hd)
structure SEdit where
  A : Option Addr
  c : Nat
  xs : List CE
theorem open_SEdit (hv : Value.okWide Try.prog W .any base 33 v) (h : DataW.Trod enc Try.prog W 0 (fun _ => true) true 33 v d p) :
    ∃ x : SEdit, v = .slice x.A x.xs.length x.c ∧ True ∧ (Light 33 d → EL W x.A x.c x.xs) := by
  obtain ⟨a0, len0, cap0, rfl⟩ := okWide_slice Try.underlying33 hv
  obtain ⟨fuel, hf⟩ := h
  obtain ⟨A, c, xs, e, r, l, hm, hn, s⟩ := openC CE.cells 9 136 (by omega) CE.len (fun c => EM W W.heap.size c) Try.underlying33 (by kernel_rfl) (by kernel_rfl) dec_CE hf
  simp [Value.cells] at e
  obtain ⟨rfl, rfl, rfl⟩ := e
  exact ⟨⟨_, _, xs⟩, rfl, trivial, fun hL => ⟨r, (s hL).2, hn, l, by have := (s hL).1; show xs.length ≤ _; omega, hm⟩⟩
theorem sized_SEdit {ts : List TypeId} {ds : List (DataW H)} (h : (DataW.weightsEach Try.prog ts ds).all (· ≤ reachBytes) = true) (j : Nat) (ht : ts[j]? = some 33) (hd : ds[j]? = some d) {Q : Prop} (hq : Light 33 d → Q) : Q := hq (light_top h j ht hd)
end
end Go.Proofs.Ythfifejjfnmpoaa
