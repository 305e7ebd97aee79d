import Derived.Test.YthmnalaeckfaaaaMp22
namespace Go.Proofs.Ythmnalaeckfaaaa
open Go.RowKit
/-- an entry that keep2.Matrix makes -/
def SmE (e : Int) : Prop := e = -1125899906842624 ∨ (-10 ≤ e ∧ e ≤ 29)
def SmM (n : Nat) (rows : List Row) : Prop := ∀ x ∈ rows, x.zs.length = n ∧ ∀ e ∈ x.zs, SmE e
theorem MOwn.base' {w : World} {base base' : Nat} {v : Value} {rows : List Row} (h : MOwn w base v rows) (hb : base' ≤ base) : MOwn w base' v rows := ⟨own_base h.o hb, fun x hx => ⟨own_base (h.c x hx).1 hb, (h.c x hx).2⟩, h.n⟩
theorem MOwn.turn {w w' : World} {base b : Nat} {v : Value} {rows : List Row} (h : MOwn w base v rows) (ht : Turn b w w') (hb : b < base) : MOwn w' base v rows := ⟨own_turn h.o ht hb, fun x hx => ⟨own_turn (h.c x hx).1 ht hb, (h.c x hx).2⟩, h.n⟩
/-- what keep2.Matrix gives -/
def SmOut (n : Nat) (w : World) (e : Ending) (w' : World) : Prop :=
  ∃ (A : Option Addr) (c : Nat) (rows : List Row), e = .returned (.slice A n c) ∧ rows.length = n ∧ SmM n rows ∧ MOwn w' w.heap.size (.slice A n c) rows ∧ Below w.heap.size w w'
structure SmS (w : World) (b n : Nat) (v6 : Value) (rows : List Row) (l : List Int) (wr : World) : Prop where
  sm : SmM n rows
  src : Src wr b l
  m : MOwn wr (b + 1) v6 rows
  bel : Below w.heap.size w wr
def Sm1 (w : World) (b n : Nat) (k : Nat) (v6 v : Value) (wr : World) : Prop :=
  ∃ (i : Nat) (rows : List Row) (l : List Int), v = .int .i64 i ∧ i + k = n ∧ rows.length = i ∧ SmS w b n v6 rows l wr
def Sm2 (w : World) (b n g : Nat) (v6 : Value) (rows : List Row) (k : Nat) (v : Value) (wr : World) : Prop :=
  ∃ (j : Nat) (zs l : List Int), v = .int .i64 j ∧ j + k = n ∧ (∀ e ∈ zs, SmE e) ∧ SmS w b n v6 rows l wr ∧ wr.ownsRow (b + 1) 3 1 (.slice (some ⟨g, 0, none⟩) n n) n (zs.map (Value.int .i64))
theorem SmS.set {w : World} {b n g : Nat} {v6 : Value} {rows : List Row} {l : List Int} {wr : World} {m : Nat} {zs : List Int} (h : SmS w b n v6 rows l wr) (hw : w.heap.size ≤ b) (ho : wr.ownsRow (b + 1) 3 1 (.slice (some ⟨g, 0, none⟩) m m) m (zs.map (Value.int .i64))) (hd : ∀ x ∈ rows, ∀ k, x.val.ownBlock = some k → k < g) (j : Nat) (y : Int) :
    SmS w b n v6 rows l (wr.setCell ⟨g, j, none⟩ (.int .i64 y)) := by
  have hg := own_block ho g rfl
  refine ⟨h.sm, h.src.keep fun k hk => Below.heap_setCell _ _ _ _ (by simp only; omega), h.m.far (own_ne2 h.m.o ho (by decide) rfl) (fun x hx e => by have := hd x hx _ e; simp at this), h.bel.setCell (by simp only; omega) _⟩
theorem SmS.turn {w : World} {b n : Nat} {v6 : Value} {rows : List Row} {l l' : List Int} {wr w' : World} (h : SmS w b n v6 rows l wr) (hw : w.heap.size ≤ b) (hs : Src w' b l') (ht : Turn b wr w') : SmS w b n v6 rows l' w' :=
  ⟨h.sm, hs, h.m.turn ht (by omega), ht.below h.bel hw⟩
set_option maxRecDepth 100000 in
set_option maxHeartbeats 3200000 in
theorem matrix_any (n : Nat) (A : Option Addr) (m c : Nat) (z : List Int) (w : World) (hn : 1 ≤ n ∧ n ≤ 12) (h : Rd w w.heap.size 1 A m (z.map (Value.int .i64))) (hm : m ≤ maxLen) :
    Calls Try.prog 13 #[.int .i64 n, .slice A m c] w (SmOut n w) := by
  have H := Lib.hid h
  have Hn := Lib.hid hm
  clear h hm
  obtain ⟨hn1, hn2⟩ := hn
  obtain ⟨i0, a1, a2, a3, a4⟩ := info_parts infoInt
  have HI := Lib.hid (And.intro a1 (And.intro a2 (And.intro a3 a4)))
  clear a1 a2 a3 a4
  obtain ⟨r0, a1, a2, a3, a4⟩ := info_parts infoRow
  have HIr := Lib.hid (And.intro a1 (And.intro a2 (And.intro a3 a4)))
  clear a1 a2 a3 a4
  go_enter Try.func13, Try.ntmps13
  go_wp2_with fail
  refine (from_any A m c z w H.out Hn.out).mono ?_
  rintro e w1 ⟨rfl, hs1, hb1, hz1⟩
  obtain ⟨b, hb⟩ : ∃ b, b = w.heap.size := ⟨_, rfl⟩
  have HS1 := Lib.hid (show SmS w b n (.slice none 0 0) [] z w1 from ⟨fun x hx => by simp at hx, by rw [hb]; exact hs1, ⟨World.ownsRow_nil _ _ _ _, fun x hx => by simp at hx, by simp⟩, hb1⟩)
  rw [← hb] at ⊢
  have hbw : w.heap.size ≤ b := by omega
  have hbz : b < w1.heap.size := by omega
  clear hs1 hb1 hz1 hb
  go_wp2_with fail
  go_loopg [6, 7, 8, 9] n (fun k v6 v _ _ wr => Sm1 w b n k v6 v wr)
  case atStart => exact ⟨0, [], z, rfl, by omega, rfl, HS1.out⟩
  case round =>
    obtain ⟨i, rows, l, rfl, hi, hrl, hs⟩ := hrel
    clear HS1 hbz
    have Hi := Lib.hid hi
    have Hrl := Lib.hid hrl
    have HS := Lib.hid hs
    have hbz : b < wr.heap.size := hs.src.choose_spec.choose_spec.choose_spec.choose_spec.choose_spec.1.lt
    clear hi hrl hs
    obtain ⟨A6, c6, rfl, _, _⟩ := own_slice HS.out.m.o
    by_cases hlt : i < n
    · go_upto_region 7 with (at_make; refine wpList_make_full _ rfl _ _ 22 rfl (b + 1) 3 i0 _ 1 Try.underlying22 HI.out.1 HI.out.2.1 HI.out.2.2.1 .i64 .i64 _ _ n rfl rfl rfl rfl ?m1 ?m2 ?m3 ?_; rotate_right; intro w3 hown3 hg3)
      case m1 => rw [HI.out.2.2.2]; omega
      case m2 => simp only [maxLen]; omega
      case m3 => omega
      have hb3 : Below wr.heap.size wr w3 := (Below.refl _ _).grown hg3 (Nat.le_refl _) (by simp)
      have HR0 := Lib.hid (show w3.ownsRow (b + 1) 3 1 (.slice (some ⟨wr.heap.size, 0, none⟩) n n) n ((List.replicate n (0 : Int)).map (Value.int .i64)) by
        have h := madeCells_one (Value.int .i64) 0 n
        rw [← h]
        exact hown3)
      have HS3 := Lib.hid (show SmS w b n (.slice A6 rows.length c6) rows l w3 from ⟨HS.out.sm, HS.out.src.below hb3 hbz, HS.out.m.grow hb3, HS.out.bel.trans (hb3.mono HS.out.bel.size)⟩)
      have HD := Lib.hid (show ∀ x ∈ rows, ∀ k, x.val.ownBlock = some k → k < wr.heap.size from fun x hx k hk => (own_block (HS.out.m.c x hx).1 k hk).2)
      clear hown3 hg3 HS hb3 hbz
      go_wp2_with fail
      generalize wr.heap.size = g at *
      go_loopg [9, 21] n (fun k _ v wx => Sm2 w b n g (.slice A6 rows.length c6) rows k v wx)
      case atStart => exact ⟨0, _, l, rfl, by omega, fun e he => by rw [List.mem_replicate] at he; right; omega, HS3.out, HR0.out⟩
      case round =>
        clear HS3 HR0
        obtain ⟨j, zs, l, rfl, hj, hsm, hs, ho⟩ := hrel
        have Hj := Lib.hid hj
        have Hsm := Lib.hid hsm
        have HS := Lib.hid hs
        have HO := Lib.hid ho
        clear hj hsm hs ho
        by_cases hjl : j < n
        · go_upto_region 10 with fail
          go_wp2_with fail
          refine (next_any b l 40 _ HS.out.src (by omega) (by omega)).mono ?_
          rintro e w5 ⟨rfl, hs2, ht2⟩
          have HS5 := Lib.hid (HS.out.turn hbw hs2 ht2)
          have HO5 := Lib.hid (own_turn HO.out ht2 (by omega))
          have hk := nextV_bd l 40 (by omega) (by omega)
          generalize nextV l 40 = q at *
          obtain ⟨hq0, hq1⟩ := hk
          clear hs2 ht2 HS HO
          obtain ⟨hzl, l1, l2, hgl, hgb⟩ := row_last HO5.out
          have l3 := l1 j (by omega)
          have l4 := l2 j
          have HS6 := Lib.hid (HS5.out.set hbw HO5.out HD.out j (q - 10))
          have HO6 := Lib.hid (own1_set HO5.out j (q - 10))
          have Hsm6 := Lib.hid (show ∀ e ∈ zs.set j (q - 10), SmE e from fun e he => by
            rcases List.mem_or_eq_of_mem_set he with h | rfl
            · exact Hsm.out e h
            · right; omega)
          have Hzl := Lib.hid hzl
          generalize zs[j]'(by omega) = zj at *
          clear l1 l2 hzl
          go_wp2_with fail
          clear l3 l4 hgl hgb HS5 HO5
          refine (next_any b l.tail 3 _ HS6.out.src (by omega) (by omega)).mono ?_
          rintro e w7 ⟨rfl, hs2, ht2⟩
          have HS7 := Lib.hid (HS6.out.turn hbw hs2 ht2)
          have HO7 := Lib.hid (own_turn HO6.out ht2 (by omega))
          have hk := nextV_bd l.tail 3 (by omega) (by omega)
          generalize nextV l.tail 3 = q3 at *
          obtain ⟨hq0', hq1'⟩ := hk
          generalize l.tail.tail = l7 at *
          clear hs2 ht2 HS6 HO6
          by_cases hq3 : q3 = 0
          · subst hq3
            obtain ⟨hzl, l1, l2, hgl, hgb⟩ := row_last HO7.out
            have l3 := l1 j (by omega)
            have l4 := l2 j
            have HS8 := Lib.hid (HS7.out.set hbw HO7.out HD.out j (-1125899906842624))
            have HO8 := Lib.hid (own1_set HO7.out j (-1125899906842624))
            have Hsm8 := Lib.hid (show ∀ e ∈ (zs.set j (q - 10)).set j (-1125899906842624), SmE e from fun e he => by
              rcases List.mem_or_eq_of_mem_set he with h | rfl
              · exact Hsm6.out e h
              · left; rfl)
            generalize (zs.set j (q - 10))[j]'(by omega) = zj at *
            clear l1 l2 hzl
            go_wp2_with fail
            go_roundg (n - j - 1)
            case measure => have := Hj.out; omega
            case rel => exact ⟨j + 1, _, l7, by first | rfl | go_num, by omega, Hsm8.out, HS8.out, HO8.out⟩
          · have hq3' : (q3 == 0) = false := by simpa using hq3
            go_wp2_with fail
            go_roundg (n - j - 1)
            case measure => have := Hj.out; omega
            case rel => exact ⟨j + 1, _, l7, by first | rfl | go_num, by omega, Hsm6.out, HS7.out, HO7.out⟩
        · obtain rfl : j = n := by have := Hj.out; omega
          have hr12 : rows.length ≤ 12 := by rw [Hrl.out]; omega
          have Hzl := Lib.hid (own1_len HO.out).symm
          have hbz : b < wr.heap.size := HS.out.src.choose_spec.choose_spec.choose_spec.choose_spec.choose_spec.1.lt
          have hzs12 : zs.length ≤ 12 := by rw [Hzl.out]; omega
          have HRo := Lib.hid (show RowOwn wr (b + 1) ⟨some ⟨g, 0, none⟩, j, zs⟩ from ⟨by
            have e : Row.val ⟨some ⟨g, 0, none⟩, j, zs⟩ = .slice (some ⟨g, 0, none⟩) j j := by unfold Row.val; simp only; rw [Hzl.out]
            rw [e]
            simp only
            rw [Hzl.out]
            exact HO.out, by simp only; omega⟩)
          go_wp2_with (at_builtin; refine wpList_append_own_at _ rfl _ _ 23 rfl (b + 1) 22 r0 _ 1 24 Try.underlying23 HIr.out.1 HIr.out.2.1 HIr.out.2.2.1 HIr.out.2.2.2 rfl (by omega) _ rows.length _ rfl (World.ownsRow.alloc HS.out.m.o _) ⟨wr.heap.size, 0, none⟩ 1 1 [.slice (some ⟨g, 0, none⟩) j j] rfl rfl ?c0 ?c1 ?c2 ?c3 ?c4 ?_; rotate_right; intro v9 w9 ho9 hg9 _ _)
          case c0 => exact news_new _ _ _
          case c1 => intro u hu; simp at hu; subst hu; rfl
          case c2 => simp only [maxLen]; omega
          case c3 => omega
          case c4 => simp; omega
          have HA9 := Lib.hid (HS.out.m.app (x := ⟨some ⟨g, 0, none⟩, j, zs⟩) HRo.out (by
            have e : Row.val ⟨some ⟨g, 0, none⟩, j, zs⟩ = .slice (some ⟨g, 0, none⟩) j j := by unfold Row.val; simp only; rw [Hzl.out]
            rw [e]
            exact ho9) hg9 (by omega))
          have HB9 := Lib.hid (below_app (HS.out.bel.alloc (by omega) _) (World.ownsRow.alloc HS.out.m.o _) (by omega) (by simp; omega) hg9)
          have HS9 := Lib.hid (show Src w9 b l from HS.out.src.below (below_app (B := b + 1) ((Below.refl _ _).alloc (by omega) _) (World.ownsRow.alloc HS.out.m.o _) (Nat.le_refl _) (by simp; omega) hg9) (by omega))
          have HM9 := Lib.hid (show SmM j (rows ++ [⟨some ⟨g, 0, none⟩, j, zs⟩]) from fun x hx => by
            rcases List.mem_append.1 hx with hx | hx
            · exact HS.out.sm x hx
            · simp at hx; subst hx; exact ⟨Hzl.out, Hsm.out⟩)
          clear ho9 hg9 HS HO HRo
          go_wp2_with fail
          go_roundg (j - i - 1)
          case measure => have := Hi.out; omega
          case rel => exact ⟨i + 1, _, l, by first | rfl | go_num, by omega, by simp [Hrl.out], HM9.out, HS9.out, HA9.out, HB9.out⟩
    · obtain rfl : i = n := by have := Hi.out; omega
      have HE := Lib.hid (show (Value.slice A6 rows.length c6) = .slice A6 i c6 by rw [Hrl.out])
      have HM := Lib.hid (HS.out.m.base' (base' := w.heap.size) (by omega))
      rw [HE.out] at HM
      rw [Hrl.out]
      go_wp2_with fail
      go_ret
      exact ⟨A6, c6, rows, rfl, Hrl.out, HS.out.sm, HM.out, HS.out.bel⟩
end Go.Proofs.Ythmnalaeckfaaaa
