import Derived.Test.YthmnalaeckfaaaaMp12
namespace Go.Proofs.Ythmnalaeckfaaaa
open Go.RowKit
attribute [local go_sem ↓] run_max_keep
def VecOut (p : List Int) (w : World) (e : Ending) (w' : World) : Prop :=
  ∃ (x : Row), e = .returned x.val ∧ x.zs = p ∧ RowOwn w' w.heap.size x ∧ Below w.heap.size w w'
set_option maxRecDepth 100000 in
set_option maxHeartbeats 3200000 in
theorem after_any (A B : Option Addr) (n ca cb : Nat) (ra : List Row) (z : List Int) (p D : Int) (w : World) (ha : MRd w A ra) (hb : Rd w w.heap.size 1 B n (z.map (Value.int .i64))) (hn : 1 ≤ n ∧ n ≤ 12) (hsa : Sq n (matR ra)) (hba : Bd 68719476736 (matR ra) n) (hzl : z.length = n) (hzb : ∀ t, t < n → 0 ≤ z.getD t 0 ∧ z.getD t 0 ≤ D) (hD : D ≤ 4611686018427387904) (hp : 0 ≤ p ∧ p ≤ 7200) :
    Calls Try.prog 44 #[.slice A n ca, .slice B n cb, .int .i64 p] w (VecOut (aft n (matR ra) z p) w) := by
  have HA := Lib.hid ha
  have HX := Lib.hid hb
  have HSA := Lib.hid (show ra.length = n ∧ ∀ x ∈ ra, x.zs.length = n from ⟨by simpa [matR] using hsa.1, fun x hx => hsa.2 x.zs (List.mem_map.2 ⟨x, hx, rfl⟩)⟩)
  have HBA := Lib.hid hba
  have HZl := Lib.hid hzl
  have HZb := Lib.hid hzb
  obtain ⟨hn1, hn2⟩ := hn
  obtain ⟨hp1, hp2⟩ := hp
  clear ha hb hsa hba hzl hzb
  obtain ⟨i0, a1, a2, a3, a4⟩ := info_parts infoInt
  have HI := Lib.hid (And.intro a1 (And.intro a2 (And.intro a3 a4)))
  clear a1 a2 a3 a4
  obtain ⟨r0, a1, a2, a3, a4⟩ := info_parts infoRow
  have HIr := Lib.hid (And.intro a1 (And.intro a2 (And.intro a3 a4)))
  clear a1 a2 a3 a4
  have HLl := Lib.hid (aft_len n (matR ra) z p)
  have HLa := Lib.hid (show ∀ i, i < n → (aft n (matR ra) z p)[i]? = some (az (matR ra) z p i n) from fun i hi => by simp [aft, hi])
  generalize aft n (matR ra) z p = L at *
  go_enter Try.func44, Try.ntmps44
  go_upto_region 2 with (at_make; refine wpList_make_full _ rfl _ _ 22 rfl w.heap.size 3 i0 _ 1 Try.underlying22 HI.out.1 HI.out.2.1 HI.out.2.2.1 .i64 .i64 _ _ n rfl rfl rfl rfl ?m1 ?m2 ?m3 ?_; rotate_right; intro w3 hown3 hg3)
  case m1 => rw [HI.out.2.2.2]; omega
  case m2 => simp only [maxLen]; omega
  case m3 => omega
  have HR0 := Lib.hid (show w3.ownsRow w.heap.size 3 1 (.slice (some ⟨w.heap.size, 0, none⟩) n n) n ((L.take 0 ++ List.replicate (n - 0) 0).map (Value.int .i64)) by
    have h := madeCells_one (Value.int .i64) 0 n
    rw [List.take_zero, List.nil_append, Nat.sub_zero, ← h]
    exact hown3)
  have HB0 := Lib.hid (show Below w.heap.size w w3 from (Below.refl _ _).grown hg3 (Nat.le_refl _) (by simp))
  clear hown3 hg3
  go_wp2_with fail
  obtain ⟨g, hg⟩ : ∃ g, g = w.heap.size := ⟨_, rfl⟩
  have HR1 := Lib.hid (show w3.ownsRow w.heap.size 3 1 (.slice (some ⟨g, 0, none⟩) n n) n ((L.take 0 ++ List.replicate (n - 0) 0).map (Value.int .i64)) by rw [hg]; exact HR0.out)
  rw [← hg]
  clear HR0 hg
  go_loopg [8, 9, 15] n (fun k _ _ v wx => Rc3 w L g n k v wx)
  case atStart => exact ⟨0, rfl, by omega, HR1.out, HB0.out⟩
  case round =>
    clear HR1 HB0
    obtain ⟨i, rfl, hi, ho, hbl⟩ := hrel
    have Hi := Lib.hid hi
    have HO := Lib.hid ho
    have HB2 := Lib.hid hbl
    clear hi ho hbl
    by_cases hil : i < n
    · have HF := Lib.hid (fill_set' L 0 _ i n HLl.out (HLa.out i hil))
      have HZi := Lib.hid (show (L.take i ++ List.replicate (n - i) 0).set i (az (matR ra) z p i 0) = L.take i ++ List.replicate (n - i) 0 by
        exact fill_zero_set L n i HLl.out hil)
      rw [← HZi.out] at HO
      obtain ⟨hzl, _⟩ := row_last HO.out
      rw [List.length_set] at hzl
      have HZq := Lib.hid hzl
      clear hzl HZi
      generalize L.take i ++ List.replicate (n - i) 0 = Z at *
      have hia : i < ra.length := by rw [HSA.out.1]; exact hil
      go_wp2_with fail
      go_loopg [9, 20] n (fun k _ v wx => Rc4 w Z i (az (matR ra) z p i) g n k v wx)
      case atStart => exact ⟨0, rfl, by omega, HO.out, HB2.out⟩
      case round =>
        clear HO HB2
        obtain ⟨t, rfl, ht, ho, hbl⟩ := hrel
        have Ht := Lib.hid ht
        have HO := Lib.hid ho
        have HB2 := Lib.hid hbl
        have hz := hbl.size
        clear ht ho hbl
        by_cases htl : t < n
        · have hra := HSA.out.2 ra[i] (List.getElem_mem hia)
          have hzt : t < z.length := by rw [HZl.out]; exact htl
          have ga := gm_row hia (k := t) (by rw [hra]; exact htl)
          obtain ⟨bx, ox, rfl, hbx, x0⟩ := rd1 (HA.out.r.grow HB2.out) i hia
          obtain ⟨bu, ou, eu, hbu, u0⟩ := rd1 ((HA.out.c ra[i] (List.getElem_mem hia)).r.grow HB2.out) t (by rw [hra]; exact htl)
          obtain ⟨bv, ov, ev', hbv, v0⟩ := rd1 (HX.out.grow HB2.out) t hzt
          subst ev'
          rw [← ga] at u0
          unfold Row.val at x0
          rw [eu, hra] at x0
          have ba := HBA.out i t hil htl
          have bb := HZb.out t htl
          have e2 : z[t] = z.getD t 0 := by simp [List.getD_eq_getElem?_getD, hzt]
          rw [e2] at v0
          have HM := Lib.hid (show az (matR ra) z p i (t + 1) = if gm (matR ra) i t = -1125899906842624 then az (matR ra) z p i t else max (az (matR ra) z p i t) (gm (matR ra) i t + z.getD t 0 - p) from rfl)
          generalize ra[i].c = cu at *
          clear hra ga eu e2
          generalize gm (matR ra) i t = ea at *
          generalize z.getD t 0 = eb at *
          generalize az (matR ra) z p i t = mt at *
          have hbx' : bx < wr.heap.size := by omega
          have hbu' : bu < wr.heap.size := by omega
          have hbv' : bv < wr.heap.size := by omega
          by_cases hne : ea = -1125899906842624
          · subst hne
            rw [if_pos rfl] at HM
            go_wp2_with fail
            go_roundg (n - t - 1)
            case measure => have := Ht.out; omega
            case rel => exact ⟨t + 1, by first | rfl | go_num, by omega, by rw [HM.out]; exact HO.out, HB2.out⟩
          · rw [if_neg hne] at HM
            have hne' : (ea != -1125899906842624) = true := by simpa using hne
            obtain ⟨ba1, ba2⟩ := ba.resolve_left hne
            obtain ⟨hzl, l1, l2, hgl, hgb⟩ := row_last HO.out
            have l3 := l1 i (by omega)
            rw [List.getElem_set_self] at l3
            clear l1 l2 hzl hne ba
            have e3 : IntKind.i64.wrap (ea + eb) = ea + eb := IntWalk.i64_in _ (by omega)
            have e4 : IntKind.i64.wrap (ea + eb - p) = ea + eb - p := IntWalk.i64_in _ (by omega)
            go_upto_region 9 with fail
            refine wp_region_overT 21 (by kernel_rfl) (by kernel_rfl) ?_
            simp only [List.take_succ_cons, List.take_zero, List.drop_succ_cons, List.drop_zero]
            repeat (go_big_quiet_step ((fail)))
            refine wpQuiet_nil ?_
            intro w6 hb6
            have HO6 := Lib.hid (own_grow HO.out hb6)
            have HB6 := Lib.hid (HB2.out.trans (hb6.mono HB2.out.size))
            clear hb6 HO HB2 l3 hgl u0 v0 x0
            obtain ⟨hzl, l1, l2, hgl, _⟩ := row_last HO6.out
            have l3 := l1 i (by omega)
            have l4 := l2 i
            rw [List.getElem_set_self] at l3
            have HS := Lib.hid (own1_set HO6.out i (max mt (ea + eb - p)))
            have HB9 := Lib.hid (HB6.out.setCell (p := ⟨g, i, none⟩) hgb (.int .i64 (max mt (ea + eb - p))))
            rw [List.set_set] at HS
            clear l1 l2 hzl e3 e4
            go_wp2_with fail
            go_roundg (n - t - 1)
            case measure => have := Ht.out; omega
            case rel => exact ⟨t + 1, by first | rfl | go_num, by omega, by rw [HM.out]; exact HS.out, HB9.out⟩
        · obtain rfl : t = n := by have := Ht.out; omega
          rw [HF.out] at HO
          go_wp2_with fail
          go_roundg (t - i - 1)
          case measure => have := Hi.out; omega
          case rel => exact ⟨i + 1, by first | rfl | go_num, by omega, HO.out, HB2.out⟩
    · obtain rfl : i = n := by have := Hi.out; omega
      have htk : L.take i ++ List.replicate (i - i) 0 = L := by
        rw [Nat.sub_self, List.replicate_zero, List.append_nil, List.take_of_length_le (by rw [HLl.out]; exact Nat.le_refl _)]
      rw [htk] at HO
      clear htk
      have HRo := Lib.hid (show RowOwn wr w.heap.size ⟨some ⟨g, 0, none⟩, i, L⟩ from ⟨by
        have e : Row.val ⟨some ⟨g, 0, none⟩, i, L⟩ = .slice (some ⟨g, 0, none⟩) i i := by unfold Row.val; simp only; rw [HLl.out]
        rw [e]
        simp only
        rw [HLl.out]
        exact HO.out, by simp only; rw [HLl.out]; omega⟩)
      go_wp2_with fail
      go_ret
      exact ⟨⟨some ⟨g, 0, none⟩, i, L⟩, by unfold Row.val; simp only; rw [HLl.out]; rfl, rfl, HRo.out, HB2.out⟩
end Go.Proofs.Ythmnalaeckfaaaa
