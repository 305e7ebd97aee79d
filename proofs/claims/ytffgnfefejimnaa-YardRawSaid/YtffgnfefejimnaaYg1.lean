import Derived.Test.YtffgnfefejimnaaStApp
import Derived.Test.YtffgnfefejimnaaYd6
namespace Go.Proofs.Ytffgnfefejimnaa
open Go.RowKit
/-! keep2.Yard: what it makes. -/
def YgT (t : Tk) : Prop := 0 ≤ t.ln ∧ t.ln ≤ 39
def YgM (m : Mv) : Prop := mvOk m = true ∧ m.kind ≤ 2 ∧ m.ln ≤ 15
theorem own_apart {w : World} {base base' : Nat} {e e' : TypeId} {sz sz' n n' : Nat} {v v' : Value} {xs xs' : List Value} (h : w.ownsRow base e sz v n xs) (h' : w.ownsRow base' e' sz' v' n' xs') (he : e ≠ e') : v.ownBlock = none ∨ v.ownBlock ≠ v'.ownBlock := by
  rcases Option.eq_none_or_eq_some v.ownBlock with hv | ⟨k, hv⟩
  · exact .inl hv
  · right
    intro e0
    obtain ⟨c1, h1⟩ := own_blk h hv
    obtain ⟨c2, h2⟩ := own_blk h' (e0 ▸ hv)
    exact ne_ty h1 h2 he rfl
structure YgS (w : World) (b : Nat) (vT : Value) (T : List Tk) (vM : Value) (M : List Mv) (vK : Value) (K : List Int) (l : List Int) (wr : World) : Prop where
  src : Src wr b l
  t : wr.ownsRow (b + 1) 43 2 vT T.length (T.flatMap Tk.cells)
  m : wr.ownsRow (b + 1) 41 3 vM M.length (M.flatMap Mv.cells)
  k : wr.ownsRow (b + 1) 3 1 vK K.length (K.map (Value.int .i64))
  bel : Below w.heap.size w wr
  hb : w.heap.size ≤ b
  bl : b < wr.heap.size
  hT : ∀ t ∈ T, YgT t
  hM : ∀ m ∈ M, YgM m
  hK : ∀ x ∈ K, 0 ≤ x ∧ x ≤ 2
section
variable {w : World} {b : Nat} {vT vM vK v' : Value} {T T' : List Tk} {M M' : List Mv} {K K' : List Int} {l l' : List Int} {wr w' : World}
theorem YgS.turn (h : YgS w b vT T vM M vK K l wr) (hs : Src w' b l') (ht : Turn b wr w') : YgS w b vT T vM M vK K l' w' :=
  ⟨hs, own_turn h.t ht (by omega), own_turn h.m ht (by omega), own_turn h.k ht (by omega), ht.below h.bel h.hb, h.hb, by rw [ht.size]; exact h.bl, h.hT, h.hM, h.hK⟩
theorem YgS.grow (h : YgS w b vT T vM M vK K l wr) (hb : Below wr.heap.size wr w') : YgS w b vT T vM M vK K l w' :=
  ⟨h.src.below hb h.bl, own_grow h.t hb, own_grow h.m hb, own_grow h.k hb, h.bel.trans (hb.mono h.bel.size), h.hb, Nat.lt_of_lt_of_le h.bl hb.size, h.hT, h.hM, h.hK⟩
theorem YgS.srcg (h : YgS w b vT T vM M vK K l wr) {row : Option Nat} (hg : wr.grownBy w' row) (hr : ∀ k, row = some k → b < k) : Src w' b l ∧ Below w.heap.size w w' ∧ b < w'.heap.size :=
  ⟨h.src.keep fun k hk => hg.block k (Nat.lt_of_le_of_lt hk h.bl) (fun e => by have := hr k e.symm; omega), h.bel.grown hg h.bel.size (fun k e => by have := hr k e; have := h.hb; omega), Nat.lt_of_lt_of_le h.bl hg.size⟩
theorem YgS.appT (h : YgS w b vT T vM M vK K l wr) (hg : wr.grownBy w' vT.ownBlock) (ho : w'.ownsRow (b + 1) 43 2 v' T'.length (T'.flatMap Tk.cells)) (hT : ∀ t ∈ T', YgT t) : YgS w b v' T' vM M vK K l w' := by
  obtain ⟨s1, s2, s3⟩ := h.srcg hg (fun k e => by have := (own_block h.t k e).1; omega)
  exact ⟨s1, ho, h.m.kept hg (own_apart h.m h.t (by decide)), h.k.kept hg (own_apart h.k h.t (by decide)), s2, h.hb, s3, hT, h.hM, h.hK⟩
theorem YgS.appM (h : YgS w b vT T vM M vK K l wr) (hg : wr.grownBy w' vM.ownBlock) (ho : w'.ownsRow (b + 1) 41 3 v' M'.length (M'.flatMap Mv.cells)) (hM : ∀ m ∈ M', YgM m) : YgS w b vT T v' M' vK K l w' := by
  obtain ⟨s1, s2, s3⟩ := h.srcg hg (fun k e => by have := (own_block h.m k e).1; omega)
  exact ⟨s1, h.t.kept hg (own_apart h.t h.m (by decide)), ho, h.k.kept hg (own_apart h.k h.m (by decide)), s2, h.hb, s3, h.hT, hM, h.hK⟩
theorem YgS.appK (h : YgS w b vT T vM M vK K l wr) (hg : wr.grownBy w' vK.ownBlock) (ho : w'.ownsRow (b + 1) 3 1 v' K'.length (K'.map (Value.int .i64))) (hK : ∀ x ∈ K', 0 ≤ x ∧ x ≤ 2) : YgS w b vT T vM M v' K' l w' := by
  obtain ⟨s1, s2, s3⟩ := h.srcg hg (fun k e => by have := (own_block h.k k e).1; omega)
  exact ⟨s1, h.t.kept hg (own_apart h.t h.k (by decide)), h.m.kept hg (own_apart h.m h.k (by decide)), ho, s2, h.hb, s3, h.hT, h.hM, hK⟩
end
theorem tk_snoc (T : List Tk) (t : Tk) : (T ++ [t]).flatMap Tk.cells = T.flatMap Tk.cells ++ [.int .i64 t.ln, .bool t.thr] := by simp [Tk.cells]
theorem mv_snoc (M : List Mv) (t : Mv) : (M ++ [t]).flatMap Mv.cells = M.flatMap Mv.cells ++ [.bool t.inn, .int .i64 t.kind, .int .i64 t.ln] := by simp [Mv.cells]
theorem Rd.blk1 {w : World} {g : Nat} {t : TypeId} {cs : List Value} {sz n : Nat} (h : Blk w g t cs.toArray) (hl : cs.length = n * sz) : Rd w w.heap.size sz (some ⟨g, 0, none⟩) n cs :=
  ⟨hl, fun _ => ⟨g, 0, rfl, h.lt, fun j u hu => by rw [Nat.zero_add, h.cell j]; simpa using hu⟩⟩
def Yg1 (w : World) (b : Nat) (k : Nat) (v5 v6 : Value) (wr : World) : Prop :=
  ∃ (T : List Tk) (l : List Int), v6 = .int .i64 k ∧ 1 ≤ T.length + k ∧ T.length + k ≤ 3 ∧ YgS w b v5 T (.slice none 0 0) [] (.slice none 0 0) [] l wr
def Yg2 (w : World) (b : Nat) (v5 : Value) (T : List Tk) (k : Nat) (v7 v8 v9 : Value) (wr : World) : Prop :=
  ∃ (M : List Mv) (K l : List Int), v9 = .int .i64 k ∧ M.length + k ≤ 7 ∧ K.length ≤ M.length ∧ YgS w b v5 T v7 M v8 K l wr
def YgOut (w : World) (e : Ending) (w' : World) : Prop :=
  ∃ (A B : Option Addr) (cA cB : Nat) (T : List Tk) (M : List Mv), e = .returned (.tuple #[.slice A T.length cA, .slice B M.length cB]) ∧ 1 ≤ T.length ∧ T.length ≤ 3 ∧ M.length ≤ 7 ∧ (∀ t ∈ T, YgT t) ∧ (∀ m ∈ M, YgM m) ∧
    w'.ownsRow w.heap.size 43 2 (.slice A T.length cA) T.length (T.flatMap Tk.cells) ∧ w'.ownsRow w.heap.size 41 3 (.slice B M.length cB) M.length (M.flatMap Mv.cells) ∧ Below w.heap.size w w'

set_option maxRecDepth 100000 in
set_option maxHeartbeats 3200000 in
theorem yard_any (A : Option Addr) (m c : Nat) (z : List Int) (w : World) (h : Rd w w.heap.size 1 A m (z.map (Value.int .i64))) (hm : m ≤ maxLen) :
    Calls Try.prog 12 #[.slice A m c] w (YgOut w) := by
  have H := Lib.hid h
  have Hn := Lib.hid hm
  clear h hm
  obtain ⟨i0, a1, a2, a3, a4⟩ := info_parts infoInt
  have HI := Lib.hid (And.intro a1 (And.intro a2 (And.intro a3 a4)))
  clear a1 a2 a3 a4
  obtain ⟨iT, a1, a2, a3, a4⟩ := info_parts infoTk
  have HIT := Lib.hid (And.intro a1 (And.intro a2 (And.intro a3 a4)))
  clear a1 a2 a3 a4
  obtain ⟨iM, a1, a2, a3, a4⟩ := info_parts infoMv
  have HIM := Lib.hid (And.intro a1 (And.intro a2 (And.intro a3 a4)))
  clear a1 a2 a3 a4
  go_enter Try.func12, Try.ntmps12
  go_wp2_with fail
  refine (from_any A m c z w H.out Hn.out).mono ?_
  rintro e w1 ⟨rfl, hs1, hb1, hz1⟩
  obtain ⟨b, hb⟩ : ∃ b, b = w.heap.size := ⟨_, rfl⟩
  have HS1 := Lib.hid (show YgS w b (.slice none 0 0) [] (.slice none 0 0) [] (.slice none 0 0) [] z w1 from ⟨by rw [hb]; exact hs1, World.ownsRow_nil _ _ _ _, World.ownsRow_nil _ _ _ _, World.ownsRow_nil _ _ _ _, hb1, by omega, by omega, by simp, by simp, by simp⟩)
  rw [← hb] at ⊢
  clear hs1 hb1 hz1 hb
  go_wp2_with fail
  refine (next_any b z 3 _ HS1.out.src (by omega) (by omega)).mono ?_
  rintro e w2 ⟨rfl, hs2, ht2⟩
  have HS2 := Lib.hid (HS1.out.turn hs2 ht2)
  have hq := nextV_bd z 3 (by omega) (by omega)
  generalize nextV z 3 = q at *
  obtain ⟨hq0, hq1⟩ := hq
  obtain ⟨k0, rfl⟩ : ∃ k0 : Nat, q = (k0 : Int) := ⟨q.toNat, by omega⟩
  generalize z.tail = l2 at *
  clear hs2 ht2 HS1
  go_wp2_with fail
  go_loopg [5, 6] (k0 + 1) (fun k v5 v6 wr => Yg1 w b k v5 v6 wr)
  case atStart => exact ⟨[], l2, by first | rfl | (congr 1; omega), by simp, by simp; omega, HS2.out⟩
  case round =>
    obtain ⟨T, l, rfl, hk1, hk2, hs⟩ := hrel
    have HS := Lib.hid hs
    clear hs HS2 l2
    by_cases h0 : gk = 0
    case neg =>
      obtain ⟨K, hK⟩ : ∃ K, K = gk - 1 := ⟨_, rfl⟩
      have HK := Lib.hid hK
      clear hK
      have hpos : (0 : Int) < (gk : Int) := by omega
      go_wp2_with fail
      refine (next_any b l 40 wr HS.out.src (by omega) (by omega)).mono ?_
      rintro e w3 ⟨rfl, hs3, ht3⟩
      have HS3 := Lib.hid (HS.out.turn hs3 ht3)
      have hq := nextV_bd l 40 (by omega) (by omega)
      generalize nextV l 40 = q4 at *
      obtain ⟨q40, q41⟩ := hq
      clear hs3 ht3 HS
      go_wp2_with fail
      refine (next_any b l.tail 2 w3 HS3.out.src (by omega) (by omega)).mono ?_
      rintro e w4 ⟨rfl, hs4, ht4⟩
      have HS4 := Lib.hid (HS3.out.turn hs4 ht4)
      generalize nextV l.tail 2 = q2 at *
      generalize l.tail.tail = l4 at *
      clear hs4 ht4 HS3
      have hb4 : Below w4.heap.size w4 (w4.alloc (.cells #[.int .i64 q4, .bool (q2 == 0)] 43)) := (by repeat (first | exact Below.refl _ _ | (with_reducible refine Below.drew ?_) | (with_reducible refine below_drewN ?_ _) | (with_reducible refine Below.alloc ?_ (by first | omega | (simp; done) | (simp; omega)) _) | (with_reducible refine Below.setCell ?_ (by first | omega | (simp; done) | (simp; omega)) _) | (refine Below.trans ?_ (Below.mono (by with_reducible assumption) (by first | omega | (simp; done) | (simp; omega))))))
      have HS5 := Lib.hid (HS4.out.grow hb4)
      have hbl4 := HS4.out.bl
      go_wp2_with (at_builtin; refine wpList_append_any rfl _ _ 23 rfl (b + 1) 43 iT _ 2 16 Try.underlying23 HIT.out.1 HIT.out.2.1 HIT.out.2.2.1 HIT.out.2.2.2 rfl (by omega) _ T.length _ rfl HS5.out.t (some ⟨w4.heap.size, 0, none⟩) 1 1 (w4.alloc (.cells #[.int .i64 q4, .bool (q2 == 0)] 43)).heap.size [.int .i64 q4, .bool (q2 == 0)] rfl (fun e => by cases e) (Rd.blk1 (Blk.new w4 43 _) rfl) (by intro u hu; simp at hu; rcases hu with rfl | rfl <;> rfl) (by simp only [maxLen]; omega) (by omega) (by simp; omega) ?_; intro v' w' ho hg _)
      have HS6 := Lib.hid (HS5.out.appT (T' := T ++ [⟨q4, q2 == 0⟩]) hg (by rw [tk_snoc, List.length_append]; exact ho) (fun t ht => by
        rcases List.mem_append.1 ht with ht | ht
        · exact HS5.out.hT t ht
        · simp at ht; subst ht; exact ⟨q40, by simp only; omega⟩))
      clear ho hg hb4 HS4 HS5 hbl4
      go_roundg K
      case measure => have := HK.out; omega
      case rel => exact ⟨T ++ [⟨q4, q2 == 0⟩], l4, by first | rfl | (congr 1; have := HK.out; omega), by simp; have := HK.out; omega, by simp; have := HK.out; omega, HS6.out⟩
    case pos =>
      subst h0
      go_wp2_with fail
      refine (next_any b l 8 wr HS.out.src (by omega) (by omega)).mono ?_
      rintro e w3 ⟨rfl, hs3, ht3⟩
      have HS3 := Lib.hid (HS.out.turn hs3 ht3)
      have hq := nextV_bd l 8 (by omega) (by omega)
      generalize nextV l 8 = q8 at *
      obtain ⟨q80, q81⟩ := hq
      obtain ⟨k8, rfl⟩ : ∃ k : Nat, q8 = (k : Int) := ⟨q8.toNat, by omega⟩
      generalize l.tail = l3 at *
      clear hs3 ht3 HS
      go_wp2_with fail
      have ht3 := HS3.out.t
      obtain ⟨A5, c5, rfl, _, _⟩ := own_slice ht3
      clear ht3
      go_loopg [7, 8, 9] k8 (fun k v7 v8 v9 wx => Yg2 w b (.slice A5 T.length c5) T k v7 v8 v9 wx)
      case atStart => exact ⟨[], [], l3, rfl, by simp; omega, by simp, HS3.out⟩
      case round =>
        clear HS3
        obtain ⟨M, K, l, rfl, hmk, hkm, hs⟩ := hrel
        have hm7 := hs.m
        have hk8 := hs.k
        obtain ⟨A7, c7, rfl, _, _⟩ := own_slice hm7
        obtain ⟨A8, c8, rfl, hc8, _⟩ := own_slice hk8
        have HSa := Lib.hid hs
        clear hm7 hk8 hs
        by_cases h0 : gk = 0
        case pos =>
          subst h0
          go_wp2_with fail
          go_ret2
          have hbw := HSa.out.hb
          exact ⟨A5, A7, c5, c7, T, M, rfl, by omega, by omega, by omega, HSa.out.hT, HSa.out.hM, own_base HSa.out.t (by omega), own_base HSa.out.m (by omega), HSa.out.bel⟩
        obtain ⟨Kk, hK⟩ : ∃ K, K = gk - 1 := ⟨_, rfl⟩
        have HK := Lib.hid hK
        clear hK
        have hpos : (0 : Int) < (gk : Int) := by omega
        generalize hkn : K.length = nk at *
        have Hkn := Lib.hid hkn
        have HKl := Lib.hid (show K.length ≤ 7 by omega)
        clear hkn
        by_cases hk0 : nk = 0
        · have hkz : ¬ (0 : Int) < (nk : Int) := by omega
          have hkz0 : ¬ 0 < nk := by omega
          have HZk := Lib.hid hk0
          clear hk0
          go_wp2_with fail
          refine (next_any b l 3 _ HSa.out.src (by omega) (by omega)).mono ?_
          rintro e wa ⟨rfl, hsa, hta⟩
          have HSb := Lib.hid (HSa.out.turn hsa hta)
          have hq := nextV_bd l 3 (by omega) (by omega)
          generalize nextV l 3 = q3 at *
          obtain ⟨q30, q31⟩ := hq
          generalize l.tail = la at *
          clear hsa hta HSa
          go_wp2_with fail
          refine (next_any b la 15 wa HSb.out.src (by omega) (by omega)).mono ?_
          rintro e wb ⟨rfl, hsb, htb⟩
          have HSc := Lib.hid (HSb.out.turn hsb htb)
          have hq := nextV_bd la 15 (by omega) (by omega)
          generalize nextV la 15 = q15 at *
          obtain ⟨q150, q151⟩ := hq
          generalize la.tail = lb at *
          clear hsb htb HSb
          have hbb : Below wb.heap.size wb ((wb.alloc (.cells #[.bool true, .int .i64 q3, .int .i64 (1 + q15)] 41)).alloc (.cells #[.bool true, .int .i64 q3, .int .i64 (1 + q15)] 41)) := (Below.alloc (Below.alloc (Below.refl _ _) (Nat.le_refl _) _) (by simp) _)
          have HSd := Lib.hid (HSc.out.grow hbb)
          have HBx := Lib.hid ((Blk.new wb 41 #[.bool true, .int .i64 q3, .int .i64 (1 + q15)]).al (.cells #[.bool true, .int .i64 q3, .int .i64 (1 + q15)] 41))
          have hblb := HSc.out.bl
          have hap : ∀ k, (Value.slice A7 M.length c7).ownBlock = some k → k < wb.heap.size := fun k e => (own_block HSc.out.m k e).2
          go_upto_region 18 with (at_builtin; refine wpList_append_any rfl _ _ 24 rfl (b + 1) 41 iM _ 3 24 Try.underlying24 HIM.out.1 HIM.out.2.1 HIM.out.2.2.1 HIM.out.2.2.2 rfl (by omega) _ M.length _ rfl HSd.out.m (some ⟨wb.heap.size + 1, 0, none⟩) 1 1 ((wb.alloc (.cells #[.bool true, .int .i64 q3, .int .i64 (1 + q15)] 41)).alloc (.cells #[.bool true, .int .i64 q3, .int .i64 (1 + q15)] 41)).heap.size [.bool true, .int .i64 q3, .int .i64 (1 + q15)] rfl (fun e => by cases e) (by simpa using Rd.blk1 (Blk.new (wb.alloc (.cells #[.bool true, .int .i64 q3, .int .i64 (1 + q15)] 41)) 41 _) rfl) (by intro u hu; simp at hu; rcases hu with rfl | rfl | rfl <;> rfl) (by simp only [maxLen]; omega) (by omega) (by simp; omega) ?_; intro vc wc hoc hgc _; have hxc := (HBx.out.same (hgc.block _ HBx.out.lt (fun e => by have := hap _ e.symm; omega))); have x1 := hxc.cell 1; have hxl := hxc.lt; simp only [List.getElem?_toArray, List.getElem?_cons_succ, List.getElem?_cons_zero] at x1)
          have HSe := Lib.hid (HSd.out.appM (M' := M ++ [⟨true, q3, 1 + q15⟩]) hgc (by rw [mv_snoc, List.length_append]; exact hoc) (fun t ht => by
            rcases List.mem_append.1 ht with ht | ht
            · exact HSd.out.hM t ht
            · simp at ht; subst ht; exact ⟨by simp [mvOk]; omega, by simp only; omega, by simp only; omega⟩))
          obtain ⟨A9, c9, rfl, _, _⟩ := own_slice hoc
          clear hoc hgc hxc hap hbb hblb HSc HSd HBx
          have hbc : Below wc.heap.size wc (wc.alloc (.cells #[.int .i64 q3] 3)) := (Below.alloc (Below.refl _ _) (Nat.le_refl _) _)
          have HSf := Lib.hid (HSe.out.grow hbc)
          have hblc := HSe.out.bl
          go_wp2_with (at_builtin; refine wpList_append_any rfl _ _ 22 rfl (b + 1) 3 i0 _ 1 8 Try.underlying22 HI.out.1 HI.out.2.1 HI.out.2.2.1 HI.out.2.2.2 rfl (by omega) _ K.length _ rfl HSf.out.k (some ⟨wc.heap.size, 0, none⟩) 1 1 (wc.alloc (.cells #[.int .i64 q3] 3)).heap.size [.int .i64 q3] rfl (fun e => by cases e) (Rd.blk1 (Blk.new wc 3 _) rfl) (by intro u hu; simp at hu; subst hu; rfl) (by have := HKl.out; simp only [maxLen]; omega) (by have := HKl.out; omega) (by simp; omega) ?_; intro vd wd hod hgd _)
          have HSg := Lib.hid (HSf.out.appK (K' := K ++ [q3]) hgd (by rw [List.map_append, List.length_append]; exact hod) (fun x hx => by
            rcases List.mem_append.1 hx with hx | hx
            · exact HSf.out.hK x hx
            · simp at hx; subst hx; omega))
          clear hod hgd hbc hblc HSe HSf x1 hxl
          go_roundg Kk
          case measure => have := HK.out; omega
          case rel => exact ⟨M ++ [⟨true, q3, 1 + q15⟩], K ++ [q3], lb, by first | rfl | (congr 1; have := HK.out; omega), by simp; have := HK.out; omega, by have := Hkn.out; simp only [List.length_append, List.length_cons, List.length_nil]; omega, HSg.out⟩
        have hkz : (0 : Int) < (nk : Int) := by omega
        have hkz1 : (1 : Int) ≤ (nk : Int) := by omega
        clear hk0
        go_wp2_with fail
        refine (next_any b l 2 _ HSa.out.src (by omega) (by omega)).mono ?_
        rintro e wy ⟨rfl, hsy, hty⟩
        have HSa := Lib.hid (HSa.out.turn hsy hty)
        generalize nextV l 2 = q2 at *
        generalize l.tail = ly at *
        clear hsy hty
        by_cases hq2 : q2 = 0
        case neg =>
          have hqz : (q2 == 0) = false := by simpa using hq2
          clear hq2
          go_wp2_with fail
          refine (next_any b ly 3 _ HSa.out.src (by omega) (by omega)).mono ?_
          rintro e wa ⟨rfl, hsa, hta⟩
          have HSb := Lib.hid (HSa.out.turn hsa hta)
          have hq := nextV_bd ly 3 (by omega) (by omega)
          generalize nextV ly 3 = q3 at *
          obtain ⟨q30, q31⟩ := hq
          generalize ly.tail = la at *
          clear hsa hta HSa
          go_wp2_with fail
          refine (next_any b la 15 wa HSb.out.src (by omega) (by omega)).mono ?_
          rintro e wb ⟨rfl, hsb, htb⟩
          have HSc := Lib.hid (HSb.out.turn hsb htb)
          have hq := nextV_bd la 15 (by omega) (by omega)
          generalize nextV la 15 = q15 at *
          obtain ⟨q150, q151⟩ := hq
          generalize la.tail = lb at *
          clear hsb htb HSb
          have hbb : Below wb.heap.size wb ((wb.alloc (.cells #[.bool true, .int .i64 q3, .int .i64 (1 + q15)] 41)).alloc (.cells #[.bool true, .int .i64 q3, .int .i64 (1 + q15)] 41)) := (Below.alloc (Below.alloc (Below.refl _ _) (Nat.le_refl _) _) (by simp) _)
          have HSd := Lib.hid (HSc.out.grow hbb)
          have HBx := Lib.hid ((Blk.new wb 41 #[.bool true, .int .i64 q3, .int .i64 (1 + q15)]).al (.cells #[.bool true, .int .i64 q3, .int .i64 (1 + q15)] 41))
          have hblb := HSc.out.bl
          have hap : ∀ k, (Value.slice A7 M.length c7).ownBlock = some k → k < wb.heap.size := fun k e => (own_block HSc.out.m k e).2
          go_upto_region 18 with (at_builtin; refine wpList_append_any rfl _ _ 24 rfl (b + 1) 41 iM _ 3 24 Try.underlying24 HIM.out.1 HIM.out.2.1 HIM.out.2.2.1 HIM.out.2.2.2 rfl (by omega) _ M.length _ rfl HSd.out.m (some ⟨wb.heap.size + 1, 0, none⟩) 1 1 ((wb.alloc (.cells #[.bool true, .int .i64 q3, .int .i64 (1 + q15)] 41)).alloc (.cells #[.bool true, .int .i64 q3, .int .i64 (1 + q15)] 41)).heap.size [.bool true, .int .i64 q3, .int .i64 (1 + q15)] rfl (fun e => by cases e) (by simpa using Rd.blk1 (Blk.new (wb.alloc (.cells #[.bool true, .int .i64 q3, .int .i64 (1 + q15)] 41)) 41 _) rfl) (by intro u hu; simp at hu; rcases hu with rfl | rfl | rfl <;> rfl) (by simp only [maxLen]; omega) (by omega) (by simp; omega) ?_; intro vc wc hoc hgc _; have hxc := (HBx.out.same (hgc.block _ HBx.out.lt (fun e => by have := hap _ e.symm; omega))); have x1 := hxc.cell 1; have hxl := hxc.lt; simp only [List.getElem?_toArray, List.getElem?_cons_succ, List.getElem?_cons_zero] at x1)
          have HSe := Lib.hid (HSd.out.appM (M' := M ++ [⟨true, q3, 1 + q15⟩]) hgc (by rw [mv_snoc, List.length_append]; exact hoc) (fun t ht => by
            rcases List.mem_append.1 ht with ht | ht
            · exact HSd.out.hM t ht
            · simp at ht; subst ht; exact ⟨by simp [mvOk]; omega, by simp only; omega, by simp only; omega⟩))
          obtain ⟨A9, c9, rfl, _, _⟩ := own_slice hoc
          clear hoc hgc hxc hap hbb hblb HSc HSd HBx
          have hbc : Below wc.heap.size wc (wc.alloc (.cells #[.int .i64 q3] 3)) := (Below.alloc (Below.refl _ _) (Nat.le_refl _) _)
          have HSf := Lib.hid (HSe.out.grow hbc)
          have hblc := HSe.out.bl
          go_wp2_with (at_builtin; refine wpList_append_any rfl _ _ 22 rfl (b + 1) 3 i0 _ 1 8 Try.underlying22 HI.out.1 HI.out.2.1 HI.out.2.2.1 HI.out.2.2.2 rfl (by omega) _ K.length _ rfl HSf.out.k (some ⟨wc.heap.size, 0, none⟩) 1 1 (wc.alloc (.cells #[.int .i64 q3] 3)).heap.size [.int .i64 q3] rfl (fun e => by cases e) (Rd.blk1 (Blk.new wc 3 _) rfl) (by intro u hu; simp at hu; subst hu; rfl) (by have := HKl.out; simp only [maxLen]; omega) (by have := HKl.out; omega) (by simp; omega) ?_; intro vd wd hod hgd _)
          have HSg := Lib.hid (HSf.out.appK (K' := K ++ [q3]) hgd (by rw [List.map_append, List.length_append]; exact hod) (fun x hx => by
            rcases List.mem_append.1 hx with hx | hx
            · exact HSf.out.hK x hx
            · simp at hx; subst hx; omega))
          clear hod hgd hbc hblc HSe HSf x1 hxl
          go_roundg Kk
          case measure => have := HK.out; omega
          case rel => exact ⟨M ++ [⟨true, q3, 1 + q15⟩], K ++ [q3], lb, by first | rfl | (congr 1; have := HK.out; omega), by simp; have := HK.out; omega, by have := Hkn.out; simp only [List.length_append, List.length_cons, List.length_nil]; omega, HSg.out⟩
        subst hq2
        go_wp2_with fail
        refine (next_any b ly (nk : Int) _ HSa.out.src (by omega) (by omega)).mono ?_
        rintro e wz ⟨rfl, hsz, htz⟩
        have HSb := Lib.hid (HSa.out.turn hsz htz)
        have hq := nextV_bd ly (nk : Int) (by omega) (by omega)
        generalize nextV ly (nk : Int) = qi at *
        obtain ⟨qi0, qi1⟩ := hq
        obtain ⟨p, rfl⟩ : ∃ p : Nat, qi = (p : Int) := ⟨qi.toNat, by omega⟩
        have hpn : p < nk := by omega
        generalize ly.tail = lz at *
        clear hsz htz HSa
        obtain ⟨g8, rfl, hg8, hgl8⟩ : ∃ g, A8 = some ⟨g, 0, none⟩ ∧ b + 1 ≤ g ∧ g < wz.heap.size := by
          obtain ⟨g, cap, e, h1, h2⟩ := HSb.out.k.form (by rw [Hkn.out]; omega)
          injection e with e
          exact ⟨g, e, h1, h2⟩
        have hpK : p < K.length := by rw [Hkn.out]; exact hpn
        have hkp := HSb.out.k
        rw [Hkn.out] at hkp
        have k0 := own1 hkp p hpK
        have hxK := HSb.out.hK K[p] (List.getElem_mem hpK)
        generalize K[p] = kx at *
        clear hpK hkp
        have hbb : Below wz.heap.size wz (wz.alloc (.cells #[.bool false, .int .i64 kx, .int .i64 0] 41)) := (Below.alloc (Below.refl _ _) (Nat.le_refl _) _)
        have HSc := Lib.hid (HSb.out.grow hbb)
        have hblb := HSb.out.bl
        go_upto_region 15 with (at_builtin; refine wpList_append_any rfl _ _ 24 rfl (b + 1) 41 iM _ 3 24 Try.underlying24 HIM.out.1 HIM.out.2.1 HIM.out.2.2.1 HIM.out.2.2.2 rfl (by omega) _ M.length _ rfl HSc.out.m (some ⟨wz.heap.size, 0, none⟩) 1 1 (wz.alloc (.cells #[.bool false, .int .i64 kx, .int .i64 0] 41)).heap.size [.bool false, .int .i64 kx, .int .i64 0] rfl (fun e => by cases e) (Rd.blk1 (Blk.new wz 41 _) rfl) (by intro u hu; simp at hu; rcases hu with rfl | rfl | rfl <;> rfl) (by simp only [maxLen]; omega) (by omega) (by simp; omega) ?_; intro vc wc hoc hgc _)
        have HSd := Lib.hid (HSc.out.appM (M' := M ++ [⟨false, kx, 0⟩]) hgc (by rw [mv_snoc, List.length_append]; exact hoc) (fun t ht => by
          rcases List.mem_append.1 ht with ht | ht
          · exact HSc.out.hM t ht
          · simp at ht; subst ht; exact ⟨by simp [mvOk]; omega, by simp only; omega, by simp only; omega⟩))
        obtain ⟨A9, c9, rfl, _, _⟩ := own_slice hoc
        clear hoc hgc hbb hblb HSb HSc k0
        have hkd := HSd.out.k
        rw [Hkn.out] at hkd
        have hrd := Rd.of_own hkd
        have R1 := Lib.hid (rd_pre hrd (Nat.le_of_lt hpn))
        have R2 := Lib.hid (rd_post (l := p + 1) hrd hpn hc8)
        have hbs6 := HSd.out.bl
        clear hkd hrd
        have s0 : (0 : Int) ≤ (p : Int) + 1 := by omega
        have s1 : (p : Int) ≤ (c8 : Int) := by omega
        have s2 : (p : Int) + 1 ≤ (nk : Int) := by omega
        have s3 : IntKind.i64.wrap ((p : Int) + 1) = (p : Int) + 1 := IntWalk.i64_in _ (by omega)
        have s5 : (p : Int) ≤ (p : Int) + 1 := by omega
        have s4 : ¬ c8 = 0 := by omega
        rcases (show c8 = p + 1 ∨ ¬ c8 = p + 1 by omega) with hcp | hcp
        all_goals
          first
            | rw [if_pos hcp] at R2
            | rw [if_neg hcp] at R2
          simp only [Nat.mul_one] at R1 R2
          go_region_held3 (fun _ => True) (first | trivial | go_keep)
            (first | (refine step_append_any (by rfl) _ _ _ (by rfl) (b + 1) 3 i0 _ 1 8 Try.underlying22 HI.out.1 HI.out.2.1 HI.out.2.2.1 HI.out.2.2.2 rfl (by omega) (.slice A1 p c1) p ((K.map (Value.int .i64)).take p) rfl Ho1.out _ (nk - (p + 1)) _ _ ((K.map (Value.int .i64)).drop (p + 1)) (by rfl) (fun e => by cases e) (R2.out.grow hb1) (fun u hu => by obtain ⟨x, _, hx⟩ := List.mem_map.1 (List.mem_of_mem_drop hu); subst hx; rfl) (by simp only [maxLen]; omega) (by omega) (Nat.le_trans hbs6 hb1.size) ?_; intro v2 w2 ho2 hg2 hat2) | (refine step_append_any (by rfl) _ _ _ (by rfl) (b + 1) 3 i0 _ 1 8 Try.underlying22 HI.out.1 HI.out.2.1 HI.out.2.2.1 HI.out.2.2.2 rfl (by omega) (.slice none 0 0) 0 [] rfl (World.ownsRow_nil _ _ _ _) _ p _ _ ((K.map (Value.int .i64)).take p) (by rfl) (fun e => by cases e) (R1.out.grow (Below.refl _ _).drew) (fun u hu => by obtain ⟨x, _, hx⟩ := List.mem_map.1 (List.mem_of_mem_take hu); subst hx; rfl) (by simp only [maxLen]; omega) (by omega) (by simp; omega) ?_; intro v1 w1 ho1 hg1 hat1; rw [Nat.zero_add, List.nil_append] at ho1; obtain ⟨A1, c1, rfl, _, _⟩ := own_slice ho1; have Ho1 := Lib.hid ho1; have hb1 : Below wc.heap.size wc w1 := (Below.refl _ _).drew.grown hg1 (Nat.le_refl _) (fun k hk => by simp [Value.ownBlock] at hk); have n1 : ∀ k, (Value.slice A1 p c1).ownBlock = some k → wc.heap.size ≤ k := fun k hk => by rcases hat1 with e | e <;> rw [e] at hk <;> first | (simp [Value.ownBlock] at hk; done) | (simp at hk; omega)))
          all_goals
            have hg8 : wc.drew.grownBy w2 (Value.slice (some ⟨g8, 0, none⟩) nk c8).ownBlock := grown_two hg1 hg2 n1 _
            have HSe := Lib.hid (YgS.appK (K' := K.eraseIdx p) (HSd.out.grow (Below.refl _ _).drew) hg8 (by
              have hpK : p < K.length := by rw [Hkn.out]; exact hpn
              rw [List.length_eraseIdx_of_lt hpK, Hkn.out, List.eraseIdx_eq_take_drop_succ, List.map_append, List.map_take, List.map_drop, show nk - 1 = p + (nk - (p + 1)) by omega]
              exact ho2) (fun x hx => HSd.out.hK x (List.mem_of_mem_eraseIdx hx)))
            have hlK := Lib.hid (show (K.eraseIdx p).length ≤ nk by rw [← Hkn.out]; exact List.length_eraseIdx_le K p)
            clear hg8 hg1 hg2 hat1 hat2 n1 ho1 ho2 hb1 Ho1 R1 R2 hcp s0 s1 s2 s3 s4 s5 hbs6 HSd
            go_wp2_with fail
            go_roundg Kk
            case measure => have := HK.out; omega
            case rel => exact ⟨M ++ [⟨false, kx, 0⟩], K.eraseIdx p, lz, by first | rfl | (congr 1; have := HK.out; omega), by simp; have := HK.out; omega, by have := hlK.out; simp only [List.length_append, List.length_cons, List.length_nil]; omega, HSe.out⟩
end Go.Proofs.Ytffgnfefejimnaa
