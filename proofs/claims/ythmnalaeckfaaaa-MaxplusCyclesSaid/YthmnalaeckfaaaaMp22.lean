import Derived.Test.YthmnalaeckfaaaaMp21
namespace Go.Proofs.Ythmnalaeckfaaaa
open Go.RowKit
def critL (nodes : List Bool) : Nat → List Int
  | 0 => []
  | j + 1 => if nodes.getD j false = true then critL nodes j ++ [(j : Int)] else critL nodes j
def critF (a : List (List Int)) : List Int := if chkM a = true then critL (grAll a.length a a.length).nodes a.length else []
theorem critL_len (nodes : List Bool) : ∀ j, (critL nodes j).length ≤ j
  | 0 => by simp [critL]
  | j + 1 => by have := critL_len nodes j; unfold critL; split <;> simp <;> omega
def CrL (wS : World) (nodes : List Bool) (n k : Nat) (v3 v : Value) (wr : World) : Prop :=
  ∃ j : Nat, v = .int .i64 j ∧ j + k = n ∧ wr.ownsRow wS.heap.size 3 1 v3 (critL nodes j).length ((critL nodes j).map (Value.int .i64)) ∧ Below wS.heap.size wS wr
set_option maxRecDepth 100000 in
set_option maxHeartbeats 1600000 in
theorem critical_any (A : Option Addr) (ca : Nat) (ra : List Row) (w : World) (ha : MRd w A ra) :
    Calls Try.prog 26 #[.slice A ra.length ca] w (VecOut (critF (matR ra)) w) := by
  have HA := Lib.hid ha
  clear ha
  obtain ⟨i0, a1, a2, a3, a4⟩ := info_parts infoInt
  have HI := Lib.hid (And.intro a1 (And.intro a2 (And.intro a3 a4)))
  clear a1 a2 a3 a4
  obtain ⟨r0, a1, a2, a3, a4⟩ := info_parts infoRow
  have HIr := Lib.hid (And.intro a1 (And.intro a2 (And.intro a3 a4)))
  clear a1 a2 a3 a4
  cases h1 : chkM (matR ra)
  · have HF := Lib.hid (show critF (matR ra) = [] by unfold critF; rw [if_neg (by simp [h1])])
    go_enter Try.func26, Try.ntmps26
    go_wp2_with fail
    refine (check_any A ca ra w HA.out).mono ?_
    rintro e w1 ⟨rfl, rfl⟩
    rw [h1]
    clear h1
    go_wp2_with fail
    go_ret
    exact ⟨⟨none, 0, []⟩, rfl, HF.out.symm, ⟨World.ownsRow_nil _ _ _ _, by simp⟩, Below.refl _ _⟩
  have H1 := Lib.hid h1
  have HF := Lib.hid (show critF (matR ra) = critL (grAll ra.length (matR ra) ra.length).nodes ra.length by unfold critF; rw [if_pos h1, matR_len])
  have HOk := Lib.hid (grAll_ok (Go.Proofs.Ythmnalaeckfaaaa.chk_bd h1) ra.length (chk_n h1).2)
  obtain ⟨hn1, hn2⟩ := chk_n h1
  clear h1
  go_enter Try.func26, Try.ntmps26
  go_wp2_with fail
  refine (check_any A ca ra w HA.out).mono ?_
  rintro e w1 ⟨rfl, rfl⟩
  rw [H1.out]
  go_wp2_with fail
  refine (greatest_any A ra.length ca ra w HA.out H1.out rfl).mono ?_
  rintro e w2 ⟨G, rfl, ho, hb2⟩
  have HO := Lib.hid ho
  have HB2 := Lib.hid hb2
  have hz2 := hb2.size
  have HNl := Lib.hid HOk.out.l
  clear ho hb2 HOk
  generalize grAll ra.length (matR ra) ra.length = s at *
  obtain ⟨num, den, nodes⟩ := s
  simp only at HO HNl HF
  generalize ra.length = n at *
  have hfl : ∀ (W : World) (a b c : Value), (Instr.field 58 (.agg #[a, b, c]) 2).run Try.prog W = .ok c W := fun _ _ _ _ => by kernel_rfl
  go_wp2_with fail
  clear hfl
  go_loopg [3, 4, 5, 13] n (fun k v3 _ _ v wr => CrL w2 nodes n k v3 v wr)
  case atStart => exact ⟨0, rfl, by omega, World.ownsRow_nil _ _ _ _, Below.refl _ _⟩
  case round =>
    obtain ⟨j, rfl, hj, ho, hbl⟩ := hrel
    have Hj := Lib.hid hj
    have HR := Lib.hid ho
    have HB := Lib.hid hbl
    have hz := hbl.size
    clear hj ho hbl
    obtain ⟨A3, c3, e3, _, _⟩ := own_slice HR.out
    subst e3
    by_cases hlt : j < n
    · have hjn : j < nodes.length := by rw [HNl.out]; exact hlt
      have q0 := own1 (own_grow HO.out HB.out) j hjn
      have hcl := critL_len nodes j
      have HC := Lib.hid (show critL nodes (j + 1) = if nodes[j] = true then critL nodes j ++ [(j : Int)] else critL nodes j by
        show (if nodes.getD j false = true then _ else _) = _
        simp [List.getD_eq_getElem?_getD, hjn])
      generalize nodes[j] = nb at *
      generalize critL nodes j = l at *
      cases nb
      · have HC2 := Lib.hid (show critL nodes (j + 1) = l from HC.out)
        go_wp2_with fail
        go_roundg (n - j - 1)
        case measure => have := Hj.out; omega
        case rel => exact ⟨j + 1, by first | rfl | go_num, by omega, by rw [HC2.out]; exact HR.out, HB.out⟩
      · have HC2 := Lib.hid (show critL nodes (j + 1) = l ++ [(j : Int)] from HC.out)
        go_wp2_with (at_builtin; refine wpList_append_own_at _ rfl _ _ 22 rfl w2.heap.size 3 i0 _ 1 8 Try.underlying22 HI.out.1 HI.out.2.1 HI.out.2.2.1 HI.out.2.2.2 rfl (by omega) _ l.length _ rfl (World.ownsRow.alloc HR.out _) ⟨wr.heap.size, 0, none⟩ 1 1 [.int .i64 (j : Int)] rfl rfl (news_new _ _ _) ?c1 ?c2 ?c3 ?c4 ?_; rotate_right; intro v' w' hown' hg' _ hat')
        case c1 => first | rfl | (intro u hu; simp at hu; subst hu; rfl)
        case c2 => simp only [maxLen]; omega
        case c3 => omega
        case c4 => first | omega | (simp; omega)
        have HO9 := Lib.hid (show w'.ownsRow w2.heap.size 3 1 v' (critL nodes (j + 1)).length ((critL nodes (j + 1)).map (Value.int .i64)) by
          rw [HC2.out, List.length_append, List.map_append]
          exact hown')
        have HB9 := Lib.hid (below_app (HB.out.alloc hz _) (World.ownsRow.alloc HR.out _) (Nat.le_refl _) (by simp; omega) hg')
        clear hown' hg' hat' HR HB
        go_wp2_with fail
        go_roundg (n - j - 1)
        case measure => have := Hj.out; omega
        case rel => exact ⟨j + 1, by first | rfl | go_num, by omega, HO9.out, HB9.out⟩
    · obtain rfl : j = n := by have := Hj.out; omega
      have hcl := critL_len nodes j
      go_wp2_with fail
      go_ret
      exact ⟨⟨A3, c3, critL nodes j⟩, rfl, HF.out.symm, ⟨own_base HR.out hz2, by simp only; omega⟩, HB2.out.trans (HB.out.mono hz2)⟩
end Go.Proofs.Ythmnalaeckfaaaa
