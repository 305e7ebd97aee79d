import Derived.Test.YthmnalaeckfaaaaMp3
namespace Go.Proofs.Ythmnalaeckfaaaa
open Go.RowKit
theorem fill_same {α : Type} (L : List α) (z : α) (i : Nat) (h : i < L.length) (e : L[i] = z) : L.take (i + 1) ++ List.replicate (L.length - (i + 1)) z = L.take i ++ List.replicate (L.length - i) z := by
  obtain ⟨m, hm⟩ : ∃ m, L.length - i = m + 1 := ⟨L.length - i - 1, by omega⟩
  rw [List.take_succ_eq_append_getElem h, e, hm, List.replicate_succ, show L.length - (i + 1) = m by omega, List.append_assoc]
  rfl
theorem fill_set' {α : Type} (L : List α) (z x : α) (i n : Nat) (hl : L.length = n) (hx : L[i]? = some x) : (L.take i ++ List.replicate (n - i) z).set i x = L.take (i + 1) ++ List.replicate (n - (i + 1)) z := by
  subst hl
  obtain ⟨h, rfl⟩ := List.getElem?_eq_some_iff.1 hx
  exact fill_set L z i h
theorem fill_same' {α : Type} (L : List α) (z : α) (i n : Nat) (hl : L.length = n) (hx : L[i]? = some z) : L.take (i + 1) ++ List.replicate (n - (i + 1)) z = L.take i ++ List.replicate (n - i) z := by
  subst hl
  obtain ⟨h, e⟩ := List.getElem?_eq_some_iff.1 hx
  exact fill_same L z i h e
theorem id_row {n i : Nat} (h : i < (idM n).length) : (idM n)[i] = (List.range n).map fun j => if i = j then 0 else -1125899906842624 := by
  simp [idM, tab]
theorem id_len {n : Nat} : (idM n).length = n := by simp [idM, tab]
set_option maxRecDepth 100000 in
set_option maxHeartbeats 3200000 in
theorem identity_any (n : Nat) (w : World) (hn : 1 ≤ n ∧ n ≤ 12) :
    Calls Try.prog 47 #[.int .i64 n] w (MatOut (idM n) w) := by
  obtain ⟨hn1, hn2⟩ := hn
  obtain ⟨i0, a1, a2, a3, a4⟩ := info_parts infoInt
  have HI := Lib.hid (And.intro a1 (And.intro a2 (And.intro a3 a4)))
  clear a1 a2 a3 a4
  obtain ⟨r0, a1, a2, a3, a4⟩ := info_parts infoRow
  have HIr := Lib.hid (And.intro a1 (And.intro a2 (And.intro a3 a4)))
  clear a1 a2 a3 a4
  have HPl := Lib.hid (id_len (n := n))
  go_enter Try.func47, Try.ntmps47
  go_upto_region 2 with (at_make; refine wpList_make_full _ rfl _ _ 23 rfl w.heap.size 22 r0 _ 1 Try.underlying23 HIr.out.1 HIr.out.2.1 HIr.out.2.2.1 .i64 .i64 _ _ n rfl rfl rfl rfl ?m1 ?m2 ?m3 ?_; rotate_right; intro w2 hown2 hg2)
  case m1 => rw [HIr.out.2.2.2]; omega
  case m2 => simp only [maxLen]; omega
  case m3 => omega
  have HK := Lib.hid (show MkS w w2 w.heap.size n [] from ⟨(Below.refl _ _).grown hg2 (Nat.le_refl _) (by simp), by
    have h := madeCells_one (fun _ : Unit => Value.slice none 0 0) () n
    simp only [List.map_replicate] at h
    rw [List.map_nil, List.nil_append, List.length_nil, Nat.sub_zero, ← h]
    exact hown2, fun x hx => by simp at hx⟩)
  clear hown2 hg2
  generalize w.heap.size = G at *
  go_wp2_with fail
  go_loopg [4, 5, 10] n (fun k _ _ v wr => PD1 w G n (idM n) k v wr)
  case atStart => exact ⟨0, [], rfl, by omega, rfl, rfl, HK.out⟩
  case round =>
    obtain ⟨i, rows, rfl, hi, hm, hrl, hk⟩ := hrel
    clear HK
    have Hi := Lib.hid hi
    have Hm := Lib.hid hm
    have Hrl := Lib.hid hrl
    have HK := Lib.hid hk
    clear hi hm hrl hk
    by_cases hlt : i < n
    · have HKo := Lib.hid HK.out.o
      have c0 : wr.cell? ⟨G, i, none⟩ = some (.slice none 0 0) := by
        rw [HKo.out.cellAt i (by omega), List.getElem?_append_right (by simp [Hrl.out]), List.length_map, Hrl.out, Nat.sub_self, List.getElem?_replicate, if_pos (by omega)]
      have f0 := HKo.out.frozenAt i
      have hGl := (own_block HKo.out G rfl).2
      have HPi := Lib.hid (id_row (n := n) (i := i) (by rw [HPl.out]; exact hlt))
      go_upto_region 6 with (at_make; refine wpList_make_full _ rfl _ _ 22 rfl wr.heap.size 3 i0 _ 1 Try.underlying22 HI.out.1 HI.out.2.1 HI.out.2.2.1 .i64 .i64 _ _ n rfl rfl rfl rfl ?m1 ?m2 ?m3 ?_; rotate_right; intro w3 hown3 hg3; have hb3 : Below wr.heap.size wr w3 := (Below.refl _ _).grown hg3 (Nat.le_refl _) (by simp); have c3 := cell_bel' hb3 c0; have f3 : w3.frozen? ⟨G, i, none⟩ = false := (hb3.frozen (p := ⟨G, i, none⟩) hGl).trans f0)
      case m1 => rw [HI.out.2.2.2]; omega
      case m2 => simp only [maxLen]; omega
      case m3 => omega
      have HN := Lib.hid (show MkS w (w3.setCell ⟨G, rows.length, none⟩ (.slice (some ⟨wr.heap.size, 0, none⟩) n n)) G n (rows ++ [⟨some ⟨wr.heap.size, 0, none⟩, n, List.replicate n 0⟩]) from HK.out.new (by rw [Hrl.out]; exact hlt) hn2 (by simp) hb3 (by
        have h := madeCells_one (Value.int .i64) 0 n
        rw [← h]
        exact hown3))
      have HD : Hid (∀ x ∈ rows, ∀ b, x.val.ownBlock = some b → b < wr.heap.size) := fun x hx b hb => (own_block (HK.out.c x hx).1 b hb).2
      rw [Hrl.out] at HN
      clear c0 f0 c3 f3 hb3 hown3 hg3 HK HKo hGl
      generalize w3.setCell ⟨G, i, none⟩ (.slice (some ⟨wr.heap.size, 0, none⟩) n n) = w4 at *
      generalize wr.heap.size = g at *
      obtain ⟨l0, _, _, hgl, hGl⟩ := HN.out.last (by rw [Hrl.out]; exact hlt)
      rw [Hrl.out, List.length_replicate] at l0
      go_wp2_with fail
      clear l0 hgl hGl
      have HLl : Hid (((List.range n).map fun j => if i = j then (0 : Int) else -1125899906842624).length = n) := by
        show _ = _
        simp
      have HLa : Hid (∀ j, j < n → ((List.range n).map fun j => if i = j then (0 : Int) else -1125899906842624)[j]? = some (if i = j then 0 else -1125899906842624)) := fun j h => by simp [h]
      generalize ((List.range n).map fun j => if i = j then (0 : Int) else -1125899906842624) = L at *
      have hd0 := Lib.hid (show MkS w w4 G n (rows ++ [⟨some ⟨g, 0, none⟩, n, L.take 0 ++ List.replicate (n - 0) 0⟩]) by simpa using HN.out)
      clear HN
      go_loopg [5, 23] n (fun k _ v wr => PD2 w G g n L rows k v wr)
      case atStart => exact ⟨0, rfl, by omega, hd0.out⟩
      case round =>
        obtain ⟨j, rfl, hj, hk⟩ := hrel
        clear hd0
        have Hj := Lib.hid hj
        have HK := Lib.hid hk
        clear hj hk
        by_cases hjl : j < n
        · have HLj := Lib.hid (HLa.out j hjl)
          by_cases hij : i = j
          · subst hij
            have hne : ((i : Int) != (i : Int)) = false := by simp
            have HF := Lib.hid (fill_same' L 0 i n HLl.out (by rw [HLj.out, if_pos rfl]))
            rw [← HF.out] at HK
            go_wp2_with fail
            go_roundg (n - i - 1)
            case measure => have := Hj.out; omega
            case rel => exact ⟨i + 1, by first | rfl | go_num, by omega, HK.out⟩
          · have hne : ((i : Int) != (j : Int)) = true := by simp; omega
            have hne2 : (i != j) = true := by simpa using hij
            have HZl := Lib.hid (show (L.take j ++ List.replicate (n - j) 0).length = n by have := HLl.out; simp; omega)
            have HFs := Lib.hid (fill_set' L 0 (-1125899906842624) j n HLl.out (by rw [HLj.out, if_neg hij]))
            generalize L.take j ++ List.replicate (n - j) 0 = Z at *
            obtain ⟨l0, l1, l2, hgl, hGl⟩ := HK.out.last (by rw [Hrl.out]; exact hlt)
            have l3 := l1 j (by rw [HZl.out]; exact hjl)
            have l4 := l2 j
            rw [Hrl.out, HZl.out] at l0
            have HS := Lib.hid (HK.out.set HD.out j (-1125899906842624))
            rw [HFs.out] at HS
            generalize Z[j]'(by rw [HZl.out]; exact hjl) = zj at *
            clear l1 l2 hij
            go_wp2_with fail
            go_roundg (n - j - 1)
            case measure => have := Hj.out; omega
            case rel => exact ⟨j + 1, by first | rfl | go_num, by omega, HS.out⟩
        · obtain rfl : j = n := by have := Hj.out; omega
          have hrow : L.take j ++ List.replicate (j - j) 0 = L := by
            rw [Nat.sub_self, List.replicate_zero, List.append_nil, List.take_of_length_le (by rw [HLl.out]; exact Nat.le_refl _)]
          rw [hrow] at HK
          have HMr := Lib.hid (show matR (rows ++ [⟨some ⟨g, 0, none⟩, j, L⟩]) = (idM j).take (i + 1) by
            rw [List.take_succ_eq_append_getElem (by rw [HPl.out]; exact hlt), HPi.out, ← Hm.out]
            simp [matR])
          have HLl2 := Lib.hid HLl.out
          clear hrow
          go_wp2_with fail
          go_roundg (j - i - 1)
          case measure => have := Hi.out; omega
          case rel => exact ⟨i + 1, _, by first | rfl | go_num, by omega, HMr.out, by simp [Hrl.out], HK.out⟩
    · obtain rfl : i = n := by have := Hi.out; omega
      have HO := Lib.hid (HK.out.done Hrl.out hn2)
      have HMr := Lib.hid (show matR rows = idM i by rw [Hm.out, List.take_of_length_le (by rw [HPl.out]; exact Nat.le_refl _)])
      go_wp2_with fail
      go_ret
      exact ⟨some ⟨G, 0, none⟩, i, rows, by rw [Hrl.out]; rfl, HMr.out, by rw [Hrl.out]; exact HO.out, HK.out.bel⟩
end Go.Proofs.Ythmnalaeckfaaaa
