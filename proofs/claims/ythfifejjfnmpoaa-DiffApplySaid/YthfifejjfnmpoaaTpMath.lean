
namespace Go.Proofs.Ythfifejjfnmpoaa
/-! Trips and edits, as plain values. -/
structure PT where
  ln : Int
  dy : Int
  dep : List Int
  arr : List Int
structure PE where
  k : Int
  o : PT
  n : PT
theorem PT.ext' {a b : PT} (h1 : a.ln = b.ln) (h2 : a.dy = b.dy) (h3 : a.dep = b.dep) (h4 : a.arr = b.arr) : a = b := by
  cases a; cases b; simp only at h1 h2 h3 h4; subst h1 h2 h3 h4; rfl
def eqT (a b : PT) : Bool := decide (a.ln = b.ln) && decide (a.dy = b.dy) && decide (a.dep = b.dep) && decide (a.arr = b.arr)
theorem eqT_iff {a b : PT} : eqT a b = true ↔ a = b := by
  simp only [eqT, Bool.and_eq_true, decide_eq_true_eq]
  constructor
  · rintro ⟨⟨⟨h1, h2⟩, h3⟩, h4⟩; exact PT.ext' h1 h2 h3 h4
  · rintro rfl; exact ⟨⟨⟨rfl, rfl⟩, rfl⟩, rfl⟩
theorem eqT_no {a b : PT} : eqT a b = false ↔ a ≠ b := by
  rw [← Bool.not_eq_true, eqT_iff]
def eqE (a b : PE) : Bool := decide (a.k = b.k) && eqT a.o b.o && eqT a.n b.n
theorem eqE_iff {a b : PE} : eqE a b = true ↔ a = b := by
  simp only [eqE, Bool.and_eq_true, decide_eq_true_eq, eqT_iff]
  constructor
  · rintro ⟨⟨h1, h2⟩, h3⟩; cases a; cases b; simp only at h1 h2 h3; subst h1 h2 h3; rfl
  · rintro rfl; exact ⟨⟨rfl, rfl⟩, rfl⟩
def zeroT : PT := ⟨0, 0, [], []⟩
def k1 (t : PT) : Int := t.dep.headD 0
/-- the order of the keys -/
def ltK (a b : PT) : Prop := k1 a < k1 b ∨ (k1 a = k1 b ∧ a.ln < b.ln)
instance (a b : PT) : Decidable (ltK a b) := inferInstanceAs (Decidable (_ ∨ _))
def eqK (a b : PT) : Prop := k1 a = k1 b ∧ a.ln = b.ln
instance (a b : PT) : Decidable (eqK a b) := inferInstanceAs (Decidable (_ ∧ _))
theorem ltK_irr (a : PT) : ¬ ltK a a := by unfold ltK; omega
theorem ltK_asymm {a b : PT} (h : ltK a b) : ¬ ltK b a := by unfold ltK at *; omega
theorem ltK_trans {a b c : PT} (h : ltK a b) (h' : ltK b c) : ltK a c := by unfold ltK at *; omega
theorem eqK_refl (a : PT) : eqK a a := ⟨rfl, rfl⟩
theorem eqK_symm {a b : PT} (h : eqK a b) : eqK b a := ⟨h.1.symm, h.2.symm⟩
theorem eqK_of {a b : PT} (h1 : ¬ ltK a b) (h2 : ¬ ltK b a) : eqK a b := by unfold ltK at *; unfold eqK; omega
theorem ltK_neq {a b : PT} (h : ltK a b) : ¬ eqK a b := by unfold ltK at h; unfold eqK; omega
theorem gtK_neq {a b : PT} (h : ltK b a) : ¬ eqK a b := by unfold ltK at h; unfold eqK; omega
theorem ltK_eq {a b c : PT} (h : ltK a b) (h' : eqK b c) : ltK a c := by unfold ltK at *; unfold eqK at h'; omega
theorem eq_ltK {a b c : PT} (h : eqK a b) (h' : ltK b c) : ltK a c := by unfold ltK at *; unfold eqK at h; omega
def okT (t : PT) : Bool := decide (0 ≤ t.ln) && decide (0 ≤ t.dy) && decide (t.dep.length = t.arr.length) && decide (1 ≤ t.dep.length) && decide (t.dep.length ≤ 12) && decide (0 ≤ k1 t)
def Asc (l : List PT) : Prop := l.Pairwise ltK
/-- neighbours alone -/
def ascB : List PT → Bool
  | [] => true
  | [_] => true
  | a :: b :: l => decide (ltK a b) && ascB (b :: l)
theorem ascB_iff : ∀ {l : List PT}, ascB l = true ↔ Asc l
  | [] => by simp [ascB, Asc]
  | [a] => by simp [ascB, Asc]
  | a :: b :: l => by
    have ih := ascB_iff (l := b :: l)
    simp only [ascB, Bool.and_eq_true, decide_eq_true_eq, ih]
    unfold Asc
    constructor
    · rintro ⟨h1, h2⟩
      refine List.Pairwise.cons (fun x hx => ?_) h2
      rcases List.mem_cons.1 hx with rfl | hx
      · exact h1
      · exact ltK_trans h1 ((List.pairwise_cons.1 h2).1 x hx)
    · intro h
      obtain ⟨h1, h2⟩ := List.pairwise_cons.1 h
      exact ⟨h1 b (by simp), h2⟩
def chkT (l : List PT) : Bool := decide (l.length ≤ 1024) && l.all okT && ascB l
theorem chkT_iff {l : List PT} : chkT l = true ↔ l.length ≤ 1024 ∧ (∀ t ∈ l, okT t = true) ∧ Asc l := by
  simp only [chkT, Bool.and_eq_true, decide_eq_true_eq, ascB_iff, List.all_eq_true]
  constructor
  · rintro ⟨⟨a, b⟩, c⟩; exact ⟨a, b, c⟩
  · rintro ⟨a, b, c⟩; exact ⟨⟨a, b⟩, c⟩
def keyE (e : PE) : PT := if e.k = 1 then e.n else e.o
def okE (e : PE) : Bool :=
  if e.k = 1 then eqT e.o zeroT && okT e.n
  else if e.k = 2 then okT e.o && eqT e.n zeroT
  else if e.k = 3 then okT e.o && okT e.n && decide (eqK e.o e.n) && !eqT e.o e.n
  else false
def AscE (l : List PE) : Prop := l.Pairwise fun a b => ltK (keyE a) (keyE b)
/-- strictly ordered lists with the same members are equal -/
theorem sorted_ext {α : Type} {key : α → PT} : ∀ {l l' : List α}, l.Pairwise (fun a b => ltK (key a) (key b)) → l'.Pairwise (fun a b => ltK (key a) (key b)) → (∀ x, x ∈ l ↔ x ∈ l') → l = l'
  | [], [], _, _, _ => rfl
  | [], b :: l', _, _, h => absurd ((h b).2 (by simp)) (by simp)
  | a :: l, [], _, _, h => absurd ((h a).1 (by simp)) (by simp)
  | a :: l, b :: l', h1, h2, h => by
    obtain ⟨ha, hl⟩ := List.pairwise_cons.1 h1
    obtain ⟨hb, hl'⟩ := List.pairwise_cons.1 h2
    have hab : a = b := by
      rcases List.mem_cons.1 ((h a).1 (by simp)) with e | e
      · exact e
      · rcases List.mem_cons.1 ((h b).2 (by simp)) with e' | e'
        · exact e'.symm
        · exact absurd (ha b e') (ltK_asymm (hb a e))
    subst hab
    have hne : ∀ {m : List α}, (∀ x ∈ m, ltK (key a) (key x)) → a ∉ m := fun hm hx => ltK_irr _ (hm a hx)
    congr 1
    refine sorted_ext hl hl' fun x => ⟨fun hx => ?_, fun hx => ?_⟩
    · rcases List.mem_cons.1 ((h x).1 (by simp [hx])) with e | e
      · subst e; exact absurd hx (hne ha)
      · exact e
    · rcases List.mem_cons.1 ((h x).2 (by simp [hx])) with e | e
      · subst e; exact absurd hx (hne hb)
      · exact e
/-- the edits from a to b, both lists walked side by side -/
def diffM : List PT → List PT → List PE
  | [], bs => bs.map fun b => ⟨1, zeroT, b⟩
  | a :: as, [] => ⟨2, a, zeroT⟩ :: diffM as []
  | a :: as, b :: bs =>
    if ltK a b then ⟨2, a, zeroT⟩ :: diffM as (b :: bs)
    else if ltK b a then ⟨1, zeroT, b⟩ :: diffM (a :: as) bs
    else if eqT a b = true then diffM as bs
    else ⟨3, a, b⟩ :: diffM as bs
termination_by a b => a.length + b.length
/-- what an edit from a to b is -/
def InD (a b : List PT) (e : PE) : Prop :=
  (∃ t ∈ a, (∀ u ∈ b, ¬ eqK t u) ∧ e = ⟨2, t, zeroT⟩) ∨ (∃ u ∈ b, (∀ t ∈ a, ¬ eqK t u) ∧ e = ⟨1, zeroT, u⟩) ∨ (∃ t ∈ a, ∃ u ∈ b, eqK t u ∧ t ≠ u ∧ e = ⟨3, t, u⟩)
theorem InD.key {a b : List PT} {e : PE} (h : InD a b e) : ∃ t, (t ∈ a ∨ t ∈ b) ∧ keyE e = t := by
  rcases h with ⟨t, ht, _, rfl⟩ | ⟨u, hu, _, rfl⟩ | ⟨t, ht, u, hu, _, _, rfl⟩
  · exact ⟨t, .inl ht, by simp [keyE]⟩
  · exact ⟨u, .inr hu, by simp [keyE]⟩
  · exact ⟨t, .inl ht, by simp [keyE]⟩
theorem mem_diffM : ∀ (a b : List PT), Asc a → Asc b → ∀ e, e ∈ diffM a b ↔ InD a b e
  | [], bs, _, _, e => by
    unfold diffM InD
    simp only [List.mem_map, List.not_mem_nil, false_and, exists_false, false_or, or_false, false_imp_iff, implies_true, true_and]
    constructor
    · rintro ⟨u, h1, h2⟩; exact ⟨u, h1, h2.symm⟩
    · rintro ⟨u, h1, h2⟩; exact ⟨u, h1, h2.symm⟩
  | a :: as, [], ha, hb, e => by
    have ih := mem_diffM as [] (List.pairwise_cons.1 ha).2 hb e
    unfold diffM
    rw [List.mem_cons, ih]
    unfold InD
    simp only [List.mem_cons, List.not_mem_nil, false_and, exists_false, or_false, false_imp_iff, implies_true, true_and, and_false]
    constructor
    · rintro (rfl | ⟨t, h1, h2⟩)
      · exact ⟨a, .inl rfl, rfl⟩
      · exact ⟨t, .inr h1, h2⟩
    · rintro ⟨t, rfl | h1, h2⟩
      · exact .inl h2
      · exact .inr ⟨t, h1, h2⟩
  | a :: as, b :: bs, ha, hb, e => by
    obtain ⟨ha1, ha2⟩ := List.pairwise_cons.1 ha
    obtain ⟨hb1, hb2⟩ := List.pairwise_cons.1 hb
    unfold diffM
    by_cases h1 : ltK a b
    · rw [if_pos h1, List.mem_cons, mem_diffM as (b :: bs) ha2 hb e]
      have hno : ∀ u ∈ b :: bs, ¬ eqK a u := fun u hu => by
        rcases List.mem_cons.1 hu with rfl | hu
        · exact ltK_neq h1
        · exact ltK_neq (ltK_trans h1 (hb1 u hu))
      constructor
      · rintro (rfl | h)
        · exact .inl ⟨a, by simp, hno, rfl⟩
        · rcases h with ⟨t, ht, x, y⟩ | ⟨u, hu, x, y⟩ | ⟨t, ht, u, hu, x, y, z⟩
          · exact .inl ⟨t, by simp [ht], x, y⟩
          · refine .inr (.inl ⟨u, hu, fun t ht => ?_, y⟩)
            rcases List.mem_cons.1 ht with rfl | ht
            · exact hno u hu
            · exact x t ht
          · exact .inr (.inr ⟨t, by simp [ht], u, hu, x, y, z⟩)
      · rintro (⟨t, ht, x, y⟩ | ⟨u, hu, x, y⟩ | ⟨t, ht, u, hu, x, y, z⟩)
        · rcases List.mem_cons.1 ht with rfl | ht
          · exact .inl y
          · exact .inr (.inl ⟨t, ht, x, y⟩)
        · exact .inr (.inr (.inl ⟨u, hu, fun t ht => x t (by simp [ht]), y⟩))
        · rcases List.mem_cons.1 ht with rfl | ht
          · exact absurd x (hno u hu)
          · exact .inr (.inr (.inr ⟨t, ht, u, hu, x, y, z⟩))
    · rw [if_neg h1]
      by_cases h2 : ltK b a
      · rw [if_pos h2, List.mem_cons, mem_diffM (a :: as) bs ha hb2 e]
        have hno : ∀ t ∈ a :: as, ¬ eqK t b := fun t ht => by
          rcases List.mem_cons.1 ht with rfl | ht
          · exact gtK_neq h2
          · exact gtK_neq (ltK_trans h2 (ha1 t ht))
        constructor
        · rintro (rfl | h)
          · exact .inr (.inl ⟨b, by simp, hno, rfl⟩)
          · rcases h with ⟨t, ht, x, y⟩ | ⟨u, hu, x, y⟩ | ⟨t, ht, u, hu, x, y, z⟩
            · refine .inl ⟨t, ht, fun u hu => ?_, y⟩
              rcases List.mem_cons.1 hu with rfl | hu
              · exact hno t ht
              · exact x u hu
            · exact .inr (.inl ⟨u, by simp [hu], x, y⟩)
            · exact .inr (.inr ⟨t, ht, u, by simp [hu], x, y, z⟩)
        · rintro (⟨t, ht, x, y⟩ | ⟨u, hu, x, y⟩ | ⟨t, ht, u, hu, x, y, z⟩)
          · exact .inr (.inl ⟨t, ht, fun u hu => x u (by simp [hu]), y⟩)
          · rcases List.mem_cons.1 hu with rfl | hu
            · exact .inl y
            · exact .inr (.inr (.inl ⟨u, hu, x, y⟩))
          · rcases List.mem_cons.1 hu with rfl | hu
            · exact absurd x (hno t ht)
            · exact .inr (.inr (.inr ⟨t, ht, u, hu, x, y, z⟩))
      · rw [if_neg h2]
        have heq := eqK_of h1 h2
        have hnb : ∀ u ∈ bs, ¬ eqK a u := fun u hu => ltK_neq (eq_ltK heq (hb1 u hu))
        have hna : ∀ t ∈ as, ¬ eqK t b := fun t ht => gtK_neq (eq_ltK (eqK_symm heq) (ha1 t ht))
        have key : InD (a :: as) (b :: bs) e ↔ (a ≠ b ∧ e = ⟨3, a, b⟩) ∨ InD as bs e := by
          constructor
          · rintro (⟨t, ht, x, y⟩ | ⟨u, hu, x, y⟩ | ⟨t, ht, u, hu, x, y, z⟩)
            · rcases List.mem_cons.1 ht with rfl | ht
              · exact absurd heq (x b (by simp))
              · exact .inr (.inl ⟨t, ht, fun u hu => x u (by simp [hu]), y⟩)
            · rcases List.mem_cons.1 hu with rfl | hu
              · exact absurd heq (x a (by simp))
              · exact .inr (.inr (.inl ⟨u, hu, fun t ht => x t (by simp [ht]), y⟩))
            · rcases List.mem_cons.1 ht with rfl | ht
              · rcases List.mem_cons.1 hu with rfl | hu
                · exact .inl ⟨y, z⟩
                · exact absurd x (hnb u hu)
              · rcases List.mem_cons.1 hu with rfl | hu
                · exact absurd x (hna t ht)
                · exact .inr (.inr (.inr ⟨t, ht, u, hu, x, y, z⟩))
          · rintro (⟨x, y⟩ | ⟨t, ht, x, y⟩ | ⟨u, hu, x, y⟩ | ⟨t, ht, u, hu, x, y, z⟩)
            · exact .inr (.inr ⟨a, by simp, b, by simp, heq, x, y⟩)
            · refine .inl ⟨t, by simp [ht], fun u hu => ?_, y⟩
              rcases List.mem_cons.1 hu with rfl | hu
              · exact hna t ht
              · exact x u hu
            · refine .inr (.inl ⟨u, by simp [hu], fun t ht => ?_, y⟩)
              rcases List.mem_cons.1 ht with rfl | ht
              · exact hnb u hu
              · exact x t ht
            · exact .inr (.inr ⟨t, by simp [ht], u, by simp [hu], x, y, z⟩)
        rw [key]
        by_cases h3 : eqT a b = true
        · rw [if_pos h3, mem_diffM as bs ha2 hb2 e]
          have := eqT_iff.1 h3
          constructor
          · exact .inr
          · rintro (⟨x, _⟩ | h)
            · exact absurd this x
            · exact h
        · rw [if_neg h3, List.mem_cons, mem_diffM as bs ha2 hb2 e]
          have hne : a ≠ b := fun e => h3 (eqT_iff.2 e)
          constructor
          · rintro (rfl | h)
            · exact .inl ⟨hne, rfl⟩
            · exact .inr h
          · rintro (⟨_, rfl⟩ | h)
            · exact .inl rfl
            · exact .inr h
termination_by a b => a.length + b.length
theorem asc_diffM : ∀ (a b : List PT), Asc a → Asc b → AscE (diffM a b)
  | [], bs, _, hb => by
    unfold diffM AscE
    rw [List.pairwise_map]
    exact List.Pairwise.imp (fun h => by simpa [keyE] using h) hb
  | a :: as, [], ha, hb => by
    unfold diffM
    refine List.pairwise_cons.2 ⟨fun e he => ?_, asc_diffM as [] (List.pairwise_cons.1 ha).2 hb⟩
    obtain ⟨t, ht, hk⟩ := ((mem_diffM as [] (List.pairwise_cons.1 ha).2 hb e).1 he).key
    rw [hk]
    have e2 : keyE ⟨2, a, zeroT⟩ = a := by simp [keyE]
    rw [e2]
    rcases ht with ht | ht
    · exact (List.pairwise_cons.1 ha).1 t ht
    · simp at ht
  | a :: as, b :: bs, ha, hb => by
    obtain ⟨ha1, ha2⟩ := List.pairwise_cons.1 ha
    obtain ⟨hb1, hb2⟩ := List.pairwise_cons.1 hb
    unfold diffM
    by_cases h1 : ltK a b
    · rw [if_pos h1]
      refine List.pairwise_cons.2 ⟨fun e he => ?_, asc_diffM as (b :: bs) ha2 hb⟩
      obtain ⟨t, ht, hk⟩ := ((mem_diffM as (b :: bs) ha2 hb e).1 he).key
      rw [hk, show keyE ⟨2, a, zeroT⟩ = a by simp [keyE]]
      rcases ht with ht | ht
      · exact ha1 t ht
      · rcases List.mem_cons.1 ht with rfl | ht
        · exact h1
        · exact ltK_trans h1 (hb1 t ht)
    · rw [if_neg h1]
      by_cases h2 : ltK b a
      · rw [if_pos h2]
        refine List.pairwise_cons.2 ⟨fun e he => ?_, asc_diffM (a :: as) bs ha hb2⟩
        obtain ⟨t, ht, hk⟩ := ((mem_diffM (a :: as) bs ha hb2 e).1 he).key
        rw [hk, show keyE ⟨1, zeroT, b⟩ = b by simp [keyE]]
        rcases ht with ht | ht
        · rcases List.mem_cons.1 ht with rfl | ht
          · exact h2
          · exact ltK_trans h2 (ha1 t ht)
        · exact hb1 t ht
      · rw [if_neg h2]
        have heq := eqK_of h1 h2
        by_cases h3 : eqT a b = true
        · rw [if_pos h3]; exact asc_diffM as bs ha2 hb2
        · rw [if_neg h3]
          refine List.pairwise_cons.2 ⟨fun e he => ?_, asc_diffM as bs ha2 hb2⟩
          obtain ⟨t, ht, hk⟩ := ((mem_diffM as bs ha2 hb2 e).1 he).key
          rw [hk, show keyE ⟨3, a, b⟩ = a by simp [keyE]]
          rcases ht with ht | ht
          · exact ha1 t ht
          · exact eq_ltK heq (hb1 t ht)
termination_by a b => a.length + b.length
end Go.Proofs.Ythfifejjfnmpoaa
