import Derived.Test.YthmnalaeckfaaaaMpLaw2
namespace Go.Proofs.Ythmnalaeckfaaaa
open Go.RowKit
def SqE (z : List Int) (e : Int) : Prop := e = -1125899906842624 ∨ e ∈ z
def SqM (n : Nat) (z : List Int) (rows : List Row) : Prop := ∀ x ∈ rows, x.zs.length = n ∧ ∀ e ∈ x.zs, SqE z e
/-- what 'square' gives -/
def SqOut (n : Nat) (z : List Int) (w : World) (e : Ending) (w' : World) : Prop :=
  ∃ (A : Option Addr) (c : Nat) (rows : List Row), e = .returned (.slice A n c) ∧ rows.length = n ∧ SqM n z rows ∧ MOwn w' w.heap.size (.slice A n c) rows ∧ Below w.heap.size w w'
def Sq1 (w : World) (n : Nat) (z : List Int) (k : Nat) (v6 v : Value) (wr : World) : Prop :=
  ∃ (i : Nat) (rows : List Row), v = .int .i64 i ∧ i + k = n ∧ rows.length = i ∧ SqM n z rows ∧ MOwn wr w.heap.size v6 rows ∧ Below w.heap.size w wr
def Sq2 (wS : World) (n g : Nat) (z : List Int) (k : Nat) (v : Value) (wr : World) : Prop :=
  ∃ (j : Nat) (zs : List Int), v = .int .i64 j ∧ j + k = n ∧ (∀ t e, t < j → zs[t]? = some e → SqE z e) ∧ wr.ownsRow wS.heap.size 3 1 (.slice (some ⟨g, 0, none⟩) n n) n (zs.map (Value.int .i64)) ∧ Below wS.heap.size wS wr
theorem sqE_set {z zs : List Int} {j : Nat} {y : Int} (h : ∀ t e, t < j → zs[t]? = some e → SqE z e) (hy : SqE z y) : ∀ t e, t < j + 1 → (zs.set j y)[t]? = some e → SqE z e := fun t e ht he => by
  rw [List.getElem?_set] at he
  split at he
  · split at he
    · injection he with he; subst he; exact hy
    · cases he
  · exact h t e (by omega) he
set_option maxRecDepth 100000 in
set_option maxHeartbeats 6400000 in
theorem square_any (n : Nat) (A : Option Addr) (m c : Nat) (z : List Int) (w : World) (hn : 1 ≤ n ∧ n ≤ 15) (h : Rd w w.heap.size 1 A m (z.map (Value.int .i64))) (hm : m ≤ maxLen) :
    Calls Try.prog 28 #[.int .i64 n, .slice A m c] w (SqOut n z w) := by
  have H := Lib.hid h
  have hml : m = z.length := by have := h.1; simp at this; omega
  have Hm := Lib.hid hml
  simp only [maxLen] at hm
  clear h hml
  obtain ⟨hn1, hn2⟩ := hn
  obtain ⟨i0, a1, a2, a3, a4⟩ := info_parts infoInt
  have HI := Lib.hid (And.intro a1 (And.intro a2 (And.intro a3 a4)))
  clear a1 a2 a3 a4
  obtain ⟨r0, a1, a2, a3, a4⟩ := info_parts infoRow
  have HIr := Lib.hid (And.intro a1 (And.intro a2 (And.intro a3 a4)))
  clear a1 a2 a3 a4
  have HK0 := Lib.hid (show MOwn w w.heap.size (.slice none 0 0) [] from ⟨World.ownsRow_nil _ _ _ _, fun x hx => by simp at hx, by simp⟩)
  go_enter Try.func28, Try.ntmps28
  go_wp2_with fail
  go_loopg [5, 6, 7, 8, 9] n (fun k v6 v _ _ _ wr => Sq1 w n z k v6 v wr)
  case atStart => exact ⟨0, [], rfl, by omega, rfl, fun x hx => by simp at hx, HK0.out, Below.refl _ _⟩
  case round =>
    obtain ⟨i, rows, rfl, hi, hrl, hsm, hk, hbl⟩ := hrel
    clear HK0
    have Hi := Lib.hid hi
    have Hrl := Lib.hid hrl
    have HSm := Lib.hid hsm
    have HK := Lib.hid hk
    have HBl := Lib.hid hbl
    have hws := hbl.size
    clear hi hrl hsm hk hbl
    obtain ⟨A6, c6, rfl, _, _⟩ := own_slice HK.out.o
    by_cases hlt : i < n
    · obtain ⟨wS, rfl⟩ : ∃ wS : World, wS = wr := ⟨_, rfl⟩
      go_upto_region 6 with (at_make; refine wpList_make_full _ rfl _ _ 22 rfl wS.heap.size 3 i0 _ 1 Try.underlying22 HI.out.1 HI.out.2.1 HI.out.2.2.1 .i64 .i64 _ _ n rfl rfl rfl rfl ?m1 ?m2 ?m3 ?_; rotate_right; intro w3 hown3 hg3)
      case m1 => rw [HI.out.2.2.2]; omega
      case m2 => simp only [maxLen]; omega
      case m3 => omega
      have HR0 := Lib.hid (show w3.ownsRow wS.heap.size 3 1 (.slice (some ⟨wS.heap.size, 0, none⟩) n n) n ((List.replicate n (0 : Int)).map (Value.int .i64)) by
        have h := madeCells_one (Value.int .i64) 0 n
        rw [← h]
        exact hown3)
      have HB0 := Lib.hid (show Below wS.heap.size wS w3 from (Below.refl _ _).grown hg3 (Nat.le_refl _) (by simp))
      clear hown3 hg3
      go_wp2_with fail
      obtain ⟨g, hg⟩ : ∃ g, g = wS.heap.size := ⟨_, rfl⟩
      have HR1 := Lib.hid (show w3.ownsRow wS.heap.size 3 1 (.slice (some ⟨g, 0, none⟩) n n) n ((List.replicate n (0 : Int)).map (Value.int .i64)) by rw [hg]; exact HR0.out)
      rw [← hg]
      clear HR0 hg
      go_loopg [8, 9, 19] n (fun k _ _ v wx => Sq2 wS n g z k v wx)
      case atStart => exact ⟨0, _, rfl, by omega, fun t e ht _ => absurd ht (by omega), HR1.out, HB0.out⟩
      case round =>
        clear HR1 HB0
        obtain ⟨j, zs, rfl, hj, hsm, ho, hbl⟩ := hrel
        have Hj := Lib.hid hj
        have Hsm := Lib.hid hsm
        have HO := Lib.hid ho
        have HB2 := Lib.hid hbl
        have hz2 := hbl.size
        clear hj hsm ho hbl
        by_cases hjl : j < n
        · obtain ⟨hzl, l1, l2, hgl, hgb⟩ := row_last HO.out
          have l3 := l1 j (by omega)
          have l4 := l2 j
          have Hzl := Lib.hid hzl
          have HO6 := Lib.hid (own1_set HO.out j (-1125899906842624))
          have Hsm6 := Lib.hid (sqE_set Hsm.out (show SqE z (-1125899906842624) from .inl rfl))
          have HB6 := Lib.hid (HB2.out.setCell (p := ⟨g, j, none⟩) hgb (.int .i64 (-1125899906842624)))
          generalize zs[j]'(by omega) = zj at *
          have hin1 : (i : Int) * (n : Int) ≤ 225 := by
            have : (i : Int) * (n : Int) ≤ 15 * 15 := Int.mul_le_mul (by omega) (by omega) (by omega) (by omega)
            omega
          have hin0 : 0 ≤ (i : Int) * (n : Int) := Int.mul_nonneg (by omega) (by omega)
          clear l1 l2 hzl
          by_cases hkl : i * n + j < m
          · have hkd : decide ((i : Int) * (n : Int) + (j : Int) < (m : Int)) = true := by
              have : ((i * n + j : Nat) : Int) < (m : Int) := by omega
              simpa using this
            have hkz : i * n + j < z.length := by rw [← Hm.out]; exact hkl
            have hb6 := HB6.out
            obtain ⟨bz, oz, rfl, hbz, q0⟩ := rd1 ((H.out.grow HBl.out).more HBl.out.size |>.grow HB6.out) (i * n + j) hkz
            have Hmem := Lib.hid (List.getElem_mem hkz)
            generalize z[i * n + j] = y at *
            by_cases hy : y.tmod 5 = 0
            · go_wp2_with fail
              go_roundg (n - j - 1)
              case measure => have := Hj.out; omega
              case rel => exact ⟨j + 1, _, by first | rfl | go_num, by omega, Hsm6.out, HO6.out, HB6.out⟩
            · obtain ⟨hzl, l1, l2, hgl2, hgb2⟩ := row_last HO6.out
              have l5 := l1 j (by omega)
              have l6 := l2 j
              have hgl6 := hgl2
              have HO7 := Lib.hid (own1_set HO6.out j y)
              have Hsm7 := Lib.hid (sqE_set (j := j) (fun t e ht => Hsm6.out t e (by omega)) (show SqE z y from .inr Hmem.out))
              have HB7 := Lib.hid (HB6.out.setCell (p := ⟨g, j, none⟩) hgb (.int .i64 y))
              rw [List.getElem_set_self] at l5
              clear l1 l2 hzl
              go_wp2_with fail
              go_roundg (n - j - 1)
              case measure => have := Hj.out; omega
              case rel => exact ⟨j + 1, _, by first | rfl | go_num, by omega, Hsm7.out, HO7.out, HB7.out⟩
          · have hkd : decide ((i : Int) * (n : Int) + (j : Int) < (m : Int)) = false := by
              have : ¬ ((i * n + j : Nat) : Int) < (m : Int) := by omega
              simpa using this
            go_wp2_with fail
            go_roundg (n - j - 1)
            case measure => have := Hj.out; omega
            case rel => exact ⟨j + 1, _, by first | rfl | go_num, by omega, Hsm6.out, HO6.out, HB6.out⟩
        · obtain rfl : j = n := by have := Hj.out; omega
          have hr12 : rows.length ≤ 15 := by rw [Hrl.out]; omega
          have Hzl := Lib.hid (own1_len HO.out).symm
          have hzs12 : zs.length ≤ 15 := by rw [Hzl.out]; omega
          have HM9 := Lib.hid (HK.out.grow HB2.out)
          have HRo := Lib.hid (show RowOwn wr w.heap.size ⟨some ⟨g, 0, none⟩, j, zs⟩ from ⟨by
            have e : Row.val ⟨some ⟨g, 0, none⟩, j, zs⟩ = .slice (some ⟨g, 0, none⟩) j j := by unfold Row.val; simp only; rw [Hzl.out]
            rw [e]
            simp only
            rw [Hzl.out]
            exact own_base HO.out hws, by simp only; omega⟩)
          go_wp2_with (at_builtin; refine wpList_append_own_at _ rfl _ _ 23 rfl w.heap.size 22 r0 _ 1 24 Try.underlying23 HIr.out.1 HIr.out.2.1 HIr.out.2.2.1 HIr.out.2.2.2 rfl (by omega) _ rows.length _ rfl (World.ownsRow.alloc HM9.out.o _) ⟨wr.heap.size, 0, none⟩ 1 1 [.slice (some ⟨g, 0, none⟩) j j] rfl rfl ?c0 ?c1 ?c2 ?c3 ?c4 ?_; rotate_right; intro v9 w9 ho9 hg9 _ _)
          case c0 => exact news_new _ _ _
          case c1 => intro u hu; simp at hu; subst hu; rfl
          case c2 => simp only [maxLen]; omega
          case c3 => omega
          case c4 => simp; omega
          have HA9 := Lib.hid (HM9.out.app (x := ⟨some ⟨g, 0, none⟩, j, zs⟩) HRo.out (by
            have e : Row.val ⟨some ⟨g, 0, none⟩, j, zs⟩ = .slice (some ⟨g, 0, none⟩) j j := by unfold Row.val; simp only; rw [Hzl.out]
            rw [e]
            exact ho9) hg9 (by omega))
          have HB9 := Lib.hid (below_app ((HBl.out.trans (HB2.out.mono hws)).alloc (by omega) _) (World.ownsRow.alloc HM9.out.o _) (Nat.le_refl _) (by simp; omega) hg9)
          have HS9 := Lib.hid (show SqM j z (rows ++ [⟨some ⟨g, 0, none⟩, j, zs⟩]) from fun x hx => by
            rcases List.mem_append.1 hx with hx | hx
            · exact HSm.out x hx
            · simp at hx; subst hx
              refine ⟨Hzl.out, fun e he => ?_⟩
              obtain ⟨t, ht, rfl⟩ := List.getElem_of_mem he
              exact Hsm.out t _ (by have := Hzl.out; simp only at ht; omega) (List.getElem?_eq_getElem ht))
          clear ho9 hg9 HM9 HO HB2 HRo
          go_wp2_with fail
          go_roundg (j - i - 1)
          case measure => have := Hi.out; omega
          case rel => exact ⟨i + 1, _, by first | rfl | go_num, by omega, by simp [Hrl.out], HS9.out, HA9.out, HB9.out⟩
    · obtain rfl : i = n := by have := Hi.out; omega
      have HKe := Lib.hid HK.out
      rw [Hrl.out] at HKe
      rw [Hrl.out]
      go_wp2_with fail
      go_ret
      exact ⟨A6, c6, rows, rfl, Hrl.out, HSm.out, HKe.out, HBl.out⟩
end Go.Proofs.Ythmnalaeckfaaaa
