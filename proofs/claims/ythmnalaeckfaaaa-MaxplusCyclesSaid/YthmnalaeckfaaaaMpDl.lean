import Derived.Test.YthmnalaeckfaaaaMpSt
namespace Go.Proofs.Ythmnalaeckfaaaa
/-! Delays over the periods. -/
def dl (n : Nat) (a : List (List Int)) (p : Int) (x : List Int) : Nat → List Int
  | 0 => x
  | k + 1 => aft n a (dl n a p x k) p
theorem dl_front (n : Nat) (a : List (List Int)) (p : Int) (x : List Int) : ∀ k, dl n a p x (k + 1) = dl n a p (aft n a x p) k
  | 0 => rfl
  | k + 1 => by
    show aft n a (dl n a p x (k + 1)) p = aft n a (dl n a p (aft n a x p) k) p
    rw [dl_front n a p x k]
theorem recS_true {n : Nat} {a : List (List Int)} {p : Int} : ∀ (m k : Nat) (x : List Int) (s : Nat), s ≤ m → (dl n a p x s).all (· == 0) = true → (recS n a p m k x).2 = true
  | 0, k, x, s, hs, h => by
    obtain rfl : s = 0 := by omega
    have h' : x.all (· == 0) = true := h
    unfold recS
    rw [if_pos h']
  | m + 1, k, x, s, hs, h => by
    unfold recS
    split
    · rfl
    · rename_i hn
      cases s with
      | zero => exact absurd h hn
      | succ s => rw [dl_front] at h; exact recS_true m (k + 1) _ s (by omega) h
theorem recS_false {n : Nat} {a : List (List Int)} {p : Int} : ∀ (m k : Nat) (x : List Int), (∀ s, s ≤ m → (dl n a p x s).all (· == 0) = false) → recS n a p m k x = (0, false)
  | 0, k, x, h => by
    unfold recS
    rw [if_neg (by have := h 0 (by omega); rw [show dl n a p x 0 = x from rfl] at this; simp [this])]
  | m + 1, k, x, h => by
    unfold recS
    rw [if_neg (by have := h 0 (by omega); rw [show dl n a p x 0 = x from rfl] at this; simp [this])]
    exact recS_false m (k + 1) _ (fun s hs => by rw [← dl_front]; exact h (s + 1) (by omega))
theorem az_ge {a : List (List Int)} {z : List Int} {p : Int} {i j : Nat} : ∀ m, j < m → gm a i j ≠ -1125899906842624 → gm a i j + z.getD j 0 - p ≤ az a z p i m
  | m + 1, hj, h => by
    unfold az
    by_cases e : j = m
    · subst e; rw [if_neg h]; omega
    · have := az_ge (z := z) (p := p) m (show j < m by omega) h
      split <;> omega
theorem az_nn {a : List (List Int)} {z : List Int} {p : Int} {i : Nat} : ∀ m, 0 ≤ az a z p i m
  | 0 => Int.le_refl _
  | m + 1 => by have := az_nn (a := a) (z := z) (p := p) (i := i) m; unfold az; split <;> omega
theorem az_cases {a : List (List Int)} {z : List Int} {p : Int} {i : Nat} : ∀ m, az a z p i m = 0 ∨ ∃ j, j < m ∧ gm a i j ≠ -1125899906842624 ∧ az a z p i m = gm a i j + z.getD j 0 - p
  | 0 => .inl rfl
  | m + 1 => by
    unfold az
    split
    · rcases az_cases (a := a) (z := z) (p := p) (i := i) m with h | ⟨j, h1, h2, h3⟩
      · exact .inl h
      · exact .inr ⟨j, by omega, h2, h3⟩
    · rename_i hn
      rcases Int.le_total (az a z p i m) (gm a i m + z.getD m 0 - p) with h | h
      · rw [Int.max_eq_right h]; exact .inr ⟨m, by omega, hn, rfl⟩
      · rw [Int.max_eq_left h]
        rcases az_cases (a := a) (z := z) (p := p) (i := i) m with h | ⟨j, h1, h2, h3⟩
        · exact .inl h
        · exact .inr ⟨j, by omega, h2, h3⟩
def dv (n : Nat) (a : List (List Int)) (p : Int) (x : List Int) (k i : Nat) : Int := (dl n a p x k).getD i 0
theorem dv_succ {n : Nat} {a : List (List Int)} {p : Int} {x : List Int} {k i : Nat} (hi : i < n) : dv n a p x (k + 1) i = az a (dl n a p x k) p i n := by
  show (aft n a (dl n a p x k) p).getD i 0 = _
  simp [aft, List.getD_eq_getElem?_getD, hi]
theorem dl_len {n : Nat} {a : List (List Int)} {p : Int} {x : List Int} (hx : x.length = n) : ∀ k, (dl n a p x k).length = n
  | 0 => hx
  | _ + 1 => aft_len _ _ _ _
theorem dl_zero {n : Nat} {a : List (List Int)} {p : Int} {x : List Int} (hx : x.length = n) (k : Nat) : (dl n a p x k).all (· == 0) = true ↔ ∀ i, i < n → dv n a p x k i = 0 := by
  have hl := dl_len (a := a) (p := p) hx k
  rw [List.all_eq_true]
  constructor
  · intro h i hi
    have := h ((dl n a p x k)[i]'(by omega)) (List.getElem_mem _)
    simp at this
    unfold dv
    simp [List.getD_eq_getElem?_getD, List.getElem?_eq_getElem (show i < (dl n a p x k).length by omega), this]
  · intro h e he
    obtain ⟨i, hi, rfl⟩ := List.getElem_of_mem he
    have := h i (by omega)
    unfold dv at this
    simp [List.getD_eq_getElem?_getD, List.getElem?_eq_getElem hi] at this
    simp [this]
/-- along an arc a delay goes on -/
theorem dv_arc {n : Nat} {a : List (List Int)} {p : Int} {x : List Int} {k i j : Nat} (hi : i < n) (hj : j < n) (h : gm a i j ≠ -1125899906842624) : gm a i j + dv n a p x k j - p ≤ dv n a p x (k + 1) i := by
  rw [dv_succ hi]; exact az_ge n hj h
theorem dv_nn {n : Nat} {a : List (List Int)} {p : Int} {x : List Int} (hx : ∀ i, i < n → 0 ≤ x.getD i 0) : ∀ k i, i < n → 0 ≤ dv n a p x k i
  | 0, i, hi => hx i hi
  | _ + 1, i, hi => by rw [dv_succ hi]; exact az_nn n
theorem dv_back {n : Nat} {a : List (List Int)} {p : Int} {x : List Int} {f : Nat → Nat} {L s : Nat} (h : Pth n a f L) : ∀ r, r ≤ L → dv n a p x s (f L) + sw a f (L - r) r - p * (r : Nat) ≤ dv n a p x (s + r) (f (L - r))
  | 0, _ => by simp [sw]
  | r + 1, hr => by
    have ih := dv_back (p := p) (x := x) (s := s) h r (by omega)
    obtain ⟨q, hq⟩ : ∃ q, L - r = q + 1 := ⟨L - r - 1, by omega⟩
    have e1 : L - (r + 1) = q := by omega
    rw [hq] at ih
    rw [e1]
    have ha := h.arc q (by omega)
    have h1 := dv_arc (p := p) (x := x) (k := s + r) (h.lt q (by omega)) (h.lt (q + 1) (by omega)) ha
    have e2 : sw a f q (r + 1) = gm a (f q) (f (q + 1)) + sw a f (q + 1) r := by
      rw [Nat.add_comm r 1, sw_add]
      congr 1
      show (0 : Int) + gm a (f (q + 0)) (f (q + 0 + 1)) = _
      rw [Nat.add_zero, Int.zero_add]
    have e3 : p * ((r + 1 : Nat) : Int) = p * (r : Nat) + p := by rw [Int.natCast_add, Int.mul_add]; simp
    have e4 : s + (r + 1) = s + r + 1 := by omega
    rw [e2, e3, e4]
    omega
/-- the weight of a walk whose arcs weigh at least c -/
theorem sw_lo {n : Nat} {a : List (List Int)} {c : Int} (hc : ∀ i j, i < n → j < n → gm a i j ≠ -1125899906842624 → c ≤ gm a i j) {f : Nat → Nat} {k : Nat} (h : Pth n a f k) (p : Nat) : ∀ m, p + m ≤ k → c * (m : Nat) ≤ sw a f p m
  | 0, _ => by simp [sw]
  | m + 1, hm => by
    have ih := sw_lo hc h p m (by omega)
    have h1 := hc _ _ (h.lt (p + m) (by omega)) (h.lt (p + m + 1) (by omega)) (h.arc (p + m) (by omega))
    have e : c * ((m + 1 : Nat) : Int) = c * (m : Nat) + c := by rw [Int.natCast_add, Int.mul_add]; simp
    unfold sw
    omega
theorem sw_hi {n : Nat} {a : List (List Int)} {c : Int} (hc : ∀ i j, i < n → j < n → gm a i j ≠ -1125899906842624 → gm a i j ≤ c) {f : Nat → Nat} {k : Nat} (h : Pth n a f k) (p : Nat) : ∀ m, p + m ≤ k → sw a f p m ≤ c * (m : Nat)
  | 0, _ => by simp [sw]
  | m + 1, hm => by
    have ih := sw_hi hc h p m (by omega)
    have h1 := hc _ _ (h.lt (p + m) (by omega)) (h.lt (p + m + 1) (by omega)) (h.arc (p + m) (by omega))
    have e : c * ((m + 1 : Nat) : Int) = c * (m : Nat) + c := by rw [Int.natCast_add, Int.mul_add]; simp
    unfold sw
    omega
/-- a delay on a closed walk that is heavier than the periods never vanishes -/
theorem late_stays {n : Nat} {a : List (List Int)} {p X c : Int} {x : List Int} {L i : Nat} (hi : i < n) (hL : 1 ≤ L) (hw : Wk n a L i ≠ -1125899906842624) (hgt : p * (L : Nat) ≤ Wk n a L i) (hc : ∀ i j, i < n → j < n → gm a i j ≠ -1125899906842624 → c ≤ gm a i j) (hp : c ≤ p) (hX : 0 < X + (c - p) * (L : Nat)) (hx : X ≤ x.getD i 0) : ∀ s, ∃ j, j < n ∧ 0 < dv n a p x s j := by
  obtain ⟨f, f0, fL, hf, hs⟩ := pow_path hi hi hw
  have hm : ∀ m, X ≤ dv n a p x (L * m) i := fun m => by
    induction m with
    | zero => exact hx
    | succ m ih =>
      have h1 := dv_back (p := p) (x := x) (s := L * m) hf L (Nat.le_refl _)
      rw [Nat.sub_self, f0, fL, hs] at h1
      have e : L * (m + 1) = L * m + L := by rw [Nat.mul_add, Nat.mul_one]
      rw [e]
      have : gm (powM n a L) i i = Wk n a L i := rfl
      omega
  intro s
  have e := Nat.div_add_mod s L
  have hr := Nat.mod_lt s (show 0 < L by omega)
  have h1 := dv_back (p := p) (x := x) (s := L * (s / L)) hf (s % L) (by omega)
  rw [fL, e] at h1
  have h2 := hm (s / L)
  have h3 := sw_lo hc hf (L - s % L) (s % L) (by omega)
  have h4 : (c - p) * (L : Nat) ≤ (c - p) * ((s % L : Nat) : Int) := Int.mul_le_mul_of_nonpos_left (by omega) (by omega)
  have h5 : (c - p) * ((s % L : Nat) : Int) = c * ((s % L : Nat) : Int) - p * ((s % L : Nat) : Int) := Int.sub_mul _ _ _
  exact ⟨f (L - s % L), hf.lt _ (by omega), by omega⟩
/-- where a delay comes from -/
theorem dv_path {n : Nat} {a : List (List Int)} {p : Int} {x : List Int} {k : Nat} (hlow : ∀ i j, i < n → j < n → gm a i j ≠ -1125899906842624 → gm a i j ≤ p) : ∀ m i, i < n → 0 < dv n a p x (k + m) i → ∃ f, f 0 = i ∧ Pth n a f m ∧ dv n a p x (k + m) i = sw a f 0 m - p * (m : Nat) + dv n a p x k (f m)
  | 0, i, hi, _ => ⟨fun _ => i, rfl, ⟨fun _ _ => hi, fun t ht => absurd ht (by omega)⟩, by simp [sw]⟩
  | m + 1, i, hi, h => by
    have e : dv n a p x (k + (m + 1)) i = az a (dl n a p x (k + m)) p i n := dv_succ hi
    rw [e] at h ⊢
    rcases az_cases (a := a) (z := dl n a p x (k + m)) (p := p) (i := i) n with h1 | ⟨j, hj, hne, h1⟩
    · omega
    · rw [h1] at h ⊢
      have hl := hlow i j hi hj hne
      have e2 : (dl n a p x (k + m)).getD j 0 = dv n a p x (k + m) j := rfl
      rw [e2] at h ⊢
      obtain ⟨f, f0, hf, hd⟩ := dv_path (p := p) (x := x) (k := k) hlow m j hj (by omega)
      refine ⟨fun t => match t with | 0 => i | t + 1 => f t, rfl, ⟨fun t ht => ?_, fun t ht => ?_⟩, ?_⟩
      · cases t with
        | zero => exact hi
        | succ t => exact hf.lt t (by omega)
      · cases t with
        | zero => show gm a i (f 0) ≠ _; rw [f0]; exact hne
        | succ t => exact hf.arc t (by omega)
      · rw [hd, Nat.add_comm m 1, sw_add]
        have e3 : sw a (fun t => match t with | 0 => i | t + 1 => f t) 0 1 = gm a i j := by
          show (0 : Int) + gm a i (f 0) = _
          rw [f0, Int.zero_add]
        have e4 : sw a (fun t => match t with | 0 => i | t + 1 => f t) (0 + 1) m = sw a f 0 m := sw_congr fun t _ => by
          rw [Nat.zero_add, Nat.zero_add, Nat.add_comm 1 t]
        have e5 : p * ((1 + m : Nat) : Int) = p + p * (m : Nat) := by rw [Int.natCast_add, Int.mul_add]; simp
        rw [e3, e4, e5]
        show _ = _ + dv n a p x k ((fun t => match t with | 0 => i | t + 1 => f t) (1 + m))
        have e6 : (fun t => match t with | 0 => i | t + 1 => f t : Nat → Nat) (1 + m) = f m := by rw [Nat.add_comm 1 m]
        rw [e6]
        omega
theorem mean_lt {n : Nat} {a : List (List Int)} {T : Int} (h : (grAll n a n).den ≠ 0 → (meanG (grAll n a n)).1 < T * (meanG (grAll n a n)).2.1) {k i : Nat} (hk : 1 ≤ k) (hkn : k ≤ n) (hi : i < n) (hw : Wk n a k i ≠ -1125899906842624) : Wk n a k i < T * k := by
  have hI := grAll_inv n a n
  have h0 : (grAll n a n).den ≠ 0 := fun e => hw (hI.z e k i ⟨hk, hkn, hi⟩)
  obtain ⟨g, hg, e1, e2, hp, _, _⟩ := meanG_low hI.d h0
  have h1 := h h0
  have h2 := hI.le h0 k i ⟨hk, hkn, hi⟩ hw
  have h3 : (grAll n a n).num < T * (grAll n a n).den := by
    rw [e1, e2, ← Int.mul_assoc]
    exact Int.mul_lt_mul_of_pos_right h1 (by omega)
  have hd : 0 < (grAll n a n).den := by have := hI.d; omega
  have h4 : Wk n a k i * (grAll n a n).den < (T * k) * (grAll n a n).den := by
    have h5 := Int.mul_lt_mul_of_pos_right h3 (show (0 : Int) < (k : Int) by omega)
    have e : T * (grAll n a n).den * (k : Int) = (T * k) * (grAll n a n).den := by rw [Int.mul_assoc, Int.mul_comm (grAll n a n).den, ← Int.mul_assoc]
    omega
  exact Int.lt_of_mul_lt_mul_right h4 (by omega)
/-- n periods take at least one second from the greatest delay -/
theorem dv_less {n : Nat} {B : Int} (hB : 0 ≤ B) {a : List (List Int)} (hb : Go.Proofs.Ythmnalaeckfaaaa.Bd B a n) (hs : B * (n : Nat) < 1125899906842624) {p M : Int} {x : List Int} {k : Nat} (hlow : ∀ i j, i < n → j < n → gm a i j ≠ -1125899906842624 → gm a i j ≤ p) (hw : ∀ k i, 1 ≤ k → k ≤ n → i < n → Wk n a k i ≠ -1125899906842624 → Wk n a k i < p * (k : Nat)) (hM : ∀ i, i < n → dv n a p x k i ≤ M) (i : Nat) (hi : i < n) : dv n a p x (k + n) i ≤ max 0 (M - 1) := by
  rcases Int.lt_or_le 0 (dv n a p x (k + n) i) with h | h
  · obtain ⟨f, f0, hf, hd⟩ := dv_path hlow n i hi h
    obtain ⟨u, v, huv, hv, e⟩ := pigeon n f hf.lt
    obtain ⟨r, rfl⟩ : ∃ r, v = u + r := ⟨v - u, by omega⟩
    obtain ⟨y, hy⟩ : ∃ y, n = u + r + y := ⟨n - (u + r), by omega⟩
    have hBk : B * (r : Nat) < 1125899906842624 := by
      have := Int.mul_le_mul_of_nonneg_left (show ((r : Nat) : Int) ≤ (n : Nat) by omega) hB
      omega
    obtain ⟨c1, c2⟩ := closed_le hB hb (p := u) (m := r) hf hv e hBk
    have c3 := hw r (f u) (by omega) (by omega) (hf.lt u (by omega)) c1
    have d1 := sw_hi hlow hf 0 u (by omega)
    have d2 := sw_hi hlow hf (u + r) y (by omega)
    have hMf := hM (f n) (hf.lt n (Nat.le_refl _))
    have e1 : sw a f 0 n = sw a f 0 u + sw a f u r + sw a f (u + r) y := by
      conv => lhs; rw [hy]
      rw [sw_add, sw_add, Nat.zero_add, Nat.zero_add]
    have e2 : p * (n : Nat) = p * (u : Nat) + p * (r : Nat) + p * (y : Nat) := by
      conv => lhs; rw [hy]
      rw [Int.natCast_add, Int.natCast_add, Int.mul_add, Int.mul_add]
    omega
  · omega
theorem dv_down {n : Nat} {B : Int} (hB : 0 ≤ B) {a : List (List Int)} (hb : Go.Proofs.Ythmnalaeckfaaaa.Bd B a n) (hs : B * (n : Nat) < 1125899906842624) {p M : Int} {x : List Int} (hlow : ∀ i j, i < n → j < n → gm a i j ≠ -1125899906842624 → gm a i j ≤ p) (hw : ∀ k i, 1 ≤ k → k ≤ n → i < n → Wk n a k i ≠ -1125899906842624 → Wk n a k i < p * (k : Nat)) (hM : ∀ i, i < n → x.getD i 0 ≤ M) : ∀ (m : Nat) (i : Nat), i < n → dv n a p x (n * m) i ≤ max 0 (M - m)
  | 0, i, hi => by have := hM i hi; show x.getD i 0 ≤ _; omega
  | m + 1, i, hi => by
    have h1 := dv_less hB hb hs hlow hw (k := n * m) (M := max 0 (M - m)) (dv_down hB hb hs hlow hw hM m) i hi
    have e : n * (m + 1) = n * m + n := by rw [Nat.mul_add, Nat.mul_one]
    rw [e]
    omega
end Go.Proofs.Ythmnalaeckfaaaa
