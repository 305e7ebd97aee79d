import Derived.Test.YthmnalaeckfaaaaMp5
namespace Go.Proofs.Ythmnalaeckfaaaa
open Go.RowKit
theorem row_last {w : World} {base g n : Nat} {Z : List Int} (h : w.ownsRow base 3 1 (.slice (some ⟨g, 0, none⟩) n n) n (Z.map (Value.int .i64))) : Z.length = n ∧ (∀ j (hj : j < Z.length), w.cell? ⟨g, j, none⟩ = some (.int .i64 Z[j])) ∧ (∀ j, w.frozen? ⟨g, j, none⟩ = false) ∧ g < w.heap.size ∧ base ≤ g :=
  ⟨(own1_len h).symm, fun j hj => own1 h j hj, fun j => h.frozenAt j, (own_block h g rfl).2, (own_block h g rfl).1⟩
set_option maxRecDepth 100000 in
set_option maxHeartbeats 3200000 in
theorem unit_any (n : Nat) (w : World) (hn : 1 ≤ n ∧ n ≤ 12) :
    Calls Try.prog 51 #[.int .i64 n] w (MatOut (idM n) w) := by
  obtain ⟨hn1, hn2⟩ := hn
  obtain ⟨i0, a1, a2, a3, a4⟩ := info_parts infoInt
  have HI := Lib.hid (And.intro a1 (And.intro a2 (And.intro a3 a4)))
  clear a1 a2 a3 a4
  obtain ⟨r0, a1, a2, a3, a4⟩ := info_parts infoRow
  have HIr := Lib.hid (And.intro a1 (And.intro a2 (And.intro a3 a4)))
  clear a1 a2 a3 a4
  have HPl := Lib.hid (id_len (n := n))
  have HK0 := Lib.hid (show MOwn w w.heap.size (.slice none 0 0) [] from ⟨World.ownsRow_nil _ _ _ _, fun x hx => by simp at hx, by simp⟩)
  go_enter Try.func51, Try.ntmps51
  go_wp2_with fail
  go_loopg [3, 4, 5, 6] n (fun k v5 v _ _ wr => PR1 w (idM n) n k v5 v wr)
  case atStart => exact ⟨0, [], rfl, by omega, rfl, rfl, HK0.out, Below.refl _ _⟩
  case round =>
    obtain ⟨i, rows, rfl, hi, hm, hrl, hk, hbl⟩ := hrel
    clear HK0
    have Hi := Lib.hid hi
    have Hm := Lib.hid hm
    have Hrl := Lib.hid hrl
    have HK := Lib.hid hk
    have HBl := Lib.hid hbl
    have hws := hbl.size
    clear hi hm hrl hk hbl
    obtain ⟨A5, c5, rfl, _, _⟩ := own_slice HK.out.o
    by_cases hlt : i < n
    · have HPi := Lib.hid (id_row (n := n) (i := i) (by rw [HPl.out]; exact hlt))
      have HLl : Hid (((List.range n).map fun j => if i = j then (0 : Int) else -1125899906842624).length = n) := by show _ = _; simp
      have HLa : Hid (∀ j, j < n → ((List.range n).map fun j => if i = j then (0 : Int) else -1125899906842624)[j]? = some (if i = j then 0 else -1125899906842624)) := fun j h => by simp [h]
      generalize ((List.range n).map fun j => if i = j then (0 : Int) else -1125899906842624) = L at *
      obtain ⟨wS, rfl⟩ : ∃ wS : World, wS = wr := ⟨_, rfl⟩
      go_upto_region 6 with (at_make; refine wpList_make_full _ rfl _ _ 22 rfl wS.heap.size 3 i0 _ 1 Try.underlying22 HI.out.1 HI.out.2.1 HI.out.2.2.1 .i64 .i64 _ _ n rfl rfl rfl rfl ?m1 ?m2 ?m3 ?_; rotate_right; intro w3 hown3 hg3)
      case m1 => rw [HI.out.2.2.2]; omega
      case m2 => simp only [maxLen]; omega
      case m3 => omega
      have HR0 := Lib.hid (show w3.ownsRow wS.heap.size 3 1 (.slice (some ⟨wS.heap.size, 0, none⟩) n n) n ((L.take 0 ++ List.replicate (n - 0) 0).map (Value.int .i64)) by
        have h := madeCells_one (Value.int .i64) 0 n
        rw [List.take_zero, List.nil_append, Nat.sub_zero, ← h]
        exact hown3)
      have HB0 := Lib.hid (show Below wS.heap.size wS w3 from (Below.refl _ _).grown hg3 (Nat.le_refl _) (by simp))
      clear hown3 hg3
      go_wp2_with fail
      obtain ⟨g, hg⟩ : ∃ g, g = wS.heap.size := ⟨_, rfl⟩
      have HR1 := Lib.hid (show w3.ownsRow wS.heap.size 3 1 (.slice (some ⟨g, 0, none⟩) n n) n ((L.take 0 ++ List.replicate (n - 0) 0).map (Value.int .i64)) by rw [hg]; exact HR0.out)
      rw [← hg]
      clear HR0 hg
      go_loopg [6, 16] n (fun k _ v wx => PR4 wS g n L k v wx)
      case atStart => exact ⟨0, rfl, by omega, HR1.out, HB0.out⟩
      case round =>
        clear HR1 HB0
        obtain ⟨j, rfl, hj, ho, hbl⟩ := hrel
        have Hj := Lib.hid hj
        have HO := Lib.hid ho
        have HB2 := Lib.hid hbl
        clear hj ho hbl
        by_cases hjl : j < n
        · have HLj := Lib.hid (HLa.out j hjl)
          by_cases hij : i = j
          · subst hij
            have hne : ((i : Int) != (i : Int)) = false := by simp
            have HF := Lib.hid (fill_same' L 0 i n HLl.out (by rw [HLj.out, if_pos rfl]))
            rw [← HF.out] at HO
            go_wp2_with fail
            go_roundg (n - i - 1)
            case measure => have := Hj.out; omega
            case rel => exact ⟨i + 1, by first | rfl | go_num, by omega, HO.out, HB2.out⟩
          · have hne : ((j : Int) != (i : Int)) = true := by simp; omega
            have hne2 : (j != i) = true := by simp; omega
            have HFs := Lib.hid (fill_set' L 0 (-1125899906842624) j n HLl.out (by rw [HLj.out, if_neg hij]))
            obtain ⟨hzl, l1, l2, hgl, hgb⟩ := row_last HO.out
            have l3 := l1 j (by omega)
            have l4 := l2 j
            have HS := Lib.hid (own1_set HO.out j (-1125899906842624))
            rw [HFs.out] at HS
            have HB9 := Lib.hid (HB2.out.setCell (p := ⟨g, j, none⟩) hgb (.int .i64 (-1125899906842624)))
            generalize (L.take j ++ List.replicate (n - j) 0)[j]'(by omega) = zj at *
            clear l1 l2 hij hzl
            go_wp2_with fail
            go_roundg (n - j - 1)
            case measure => have := Hj.out; omega
            case rel => exact ⟨j + 1, by first | rfl | go_num, by omega, HS.out, HB9.out⟩
        · obtain rfl : j = n := by have := Hj.out; omega
          have htk : L.take j ++ List.replicate (j - j) 0 = L := by
            rw [Nat.sub_self, List.replicate_zero, List.append_nil, List.take_of_length_le (by rw [HLl.out]; exact Nat.le_refl _)]
          rw [htk] at HO
          clear htk
          have hsS := HB2.out.size
          have HM9 := Lib.hid (HK.out.grow HB2.out)
          have hr12 : rows.length ≤ 12 := by rw [Hrl.out]; omega
          have HRo := Lib.hid (show RowOwn wr w.heap.size ⟨some ⟨g, 0, none⟩, j, L⟩ from ⟨by
            have := own_base HO.out hws
            have e : Row.val ⟨some ⟨g, 0, none⟩, j, L⟩ = .slice (some ⟨g, 0, none⟩) j j := by unfold Row.val; simp only; rw [HLl.out]
            rw [e]
            simp only
            rw [HLl.out]
            exact this, by simp only; rw [HLl.out]; omega⟩)
          go_wp2_with (at_builtin; refine wpList_append_own_at _ rfl _ _ 23 rfl w.heap.size 22 r0 _ 1 24 Try.underlying23 HIr.out.1 HIr.out.2.1 HIr.out.2.2.1 HIr.out.2.2.2 rfl (by omega) _ rows.length _ rfl (World.ownsRow.alloc HM9.out.o _) ⟨wr.heap.size, 0, none⟩ 1 1 [.slice (some ⟨g, 0, none⟩) j j] rfl rfl ?c0 ?c1 ?c2 ?c3 ?c4 ?_; rotate_right; intro v9 w9 ho9 hg9 _ _)
          case c0 => exact news_new _ _ _
          case c1 => intro u hu; simp at hu; subst hu; rfl
          case c2 => simp only [maxLen]; omega
          case c3 => omega
          case c4 => simp; omega
          have HA9 := Lib.hid (HM9.out.app (x := ⟨some ⟨g, 0, none⟩, j, L⟩) HRo.out (by
            have e : Row.val ⟨some ⟨g, 0, none⟩, j, L⟩ = .slice (some ⟨g, 0, none⟩) j j := by unfold Row.val; simp only; rw [HLl.out]
            rw [e]
            exact ho9) hg9 (by omega))
          have HB9 := Lib.hid (below_app ((HBl.out.trans (HB2.out.mono hws)).alloc (by omega) _) (World.ownsRow.alloc HM9.out.o _) (Nat.le_refl _) (by simp; omega) hg9)
          have HMr := Lib.hid (show matR (rows ++ [⟨some ⟨g, 0, none⟩, j, L⟩]) = (idM j).take (i + 1) by
            rw [List.take_succ_eq_append_getElem (by rw [HPl.out]; exact hlt), HPi.out, ← Hm.out]
            simp [matR])
          clear ho9 hg9 HM9 HO HB2 HRo
          go_wp2_with fail
          go_roundg (j - i - 1)
          case measure => have := Hi.out; omega
          case rel => exact ⟨i + 1, _, by first | rfl | go_num, by omega, HMr.out, by simp [Hrl.out], HA9.out, HB9.out⟩
    · obtain rfl : i = n := by have := Hi.out; omega
      have HMr := Lib.hid (show matR rows = idM i by rw [Hm.out, List.take_of_length_le (by rw [HPl.out]; exact Nat.le_refl _)])
      go_wp2_with fail
      go_ret
      exact ⟨A5, c5, rows, rfl, HMr.out, HK.out, HBl.out⟩
end Go.Proofs.Ythmnalaeckfaaaa
