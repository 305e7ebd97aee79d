import Derived.Test.YthmnalaeckfaaaaMp2
namespace Go.Proofs.Ythmnalaeckfaaaa
open Go.RowKit
attribute [local go_sem ↓] run_max_keep
theorem cell_bel' {w w' : World} (hb : Below w.heap.size w w') {b o : Nat} {u : Value} (h : w.cell? ⟨b, o, none⟩ = some u) : w'.cell? ⟨b, o, none⟩ = some u := (hb.cell (World.block_lt_of_cell? _ _ h)).trans h
set_option maxRecDepth 100000 in
set_option maxHeartbeats 3200000 in
theorem product_any (A B : Option Addr) (n ca cb : Nat) (ra rb : List Row) (w : World) (ha : MRd w A ra) (hb : MRd w B rb) (hn : 1 ≤ n ∧ n ≤ 12) (hsa : Sq n (matR ra)) (hsb : Sq n (matR rb)) (hba : Bd 1099511627776 (matR ra) n) (hbb : Bd 1099511627776 (matR rb) n) :
    Calls Try.prog 48 #[.slice A n ca, .slice B n cb] w (MatOut (prodM n (matR ra) (matR rb)) w) := by
  have HA := Lib.hid ha
  have HB := Lib.hid hb
  have HSA := Lib.hid (show ra.length = n ∧ ∀ x ∈ ra, x.zs.length = n from ⟨by simpa [matR] using hsa.1, fun x hx => hsa.2 x.zs (List.mem_map.2 ⟨x, hx, rfl⟩)⟩)
  have HSB := Lib.hid (show rb.length = n ∧ ∀ x ∈ rb, x.zs.length = n from ⟨by simpa [matR] using hsb.1, fun x hx => hsb.2 x.zs (List.mem_map.2 ⟨x, hx, rfl⟩)⟩)
  have HBA := Lib.hid hba
  have HBB := Lib.hid hbb
  obtain ⟨hn1, hn2⟩ := hn
  clear ha hb hsa hsb hba hbb
  obtain ⟨i0, a1, a2, a3, a4⟩ := info_parts infoInt
  have HI := Lib.hid (And.intro a1 (And.intro a2 (And.intro a3 a4)))
  clear a1 a2 a3 a4
  obtain ⟨r0, a1, a2, a3, a4⟩ := info_parts infoRow
  have HIr := Lib.hid (And.intro a1 (And.intro a2 (And.intro a3 a4)))
  clear a1 a2 a3 a4
  have HPl := Lib.hid (prod_len (n := n) (a := matR ra) (b := matR rb))
  go_enter Try.func48, Try.ntmps48
  go_upto_region 2 with (at_make; refine wpList_make_full _ rfl _ _ 23 rfl w.heap.size 22 r0 _ 1 Try.underlying23 HIr.out.1 HIr.out.2.1 HIr.out.2.2.1 .i64 .i64 _ _ n rfl rfl rfl rfl ?m1 ?m2 ?m3 ?_; rotate_right; intro w2 hown2 hg2)
  case m1 => rw [HIr.out.2.2.2]; omega
  case m2 => simp only [maxLen]; omega
  case m3 => omega
  have HK := Lib.hid (show MkS w w2 w.heap.size n [] from ⟨(Below.refl _ _).grown hg2 (Nat.le_refl _) (by simp), by
    have h := madeCells_one (fun _ : Unit => Value.slice none 0 0) () n
    simp only [List.map_replicate] at h
    rw [List.map_nil, List.nil_append, List.length_nil, Nat.sub_zero, ← h]
    exact hown2, fun x hx => by simp at hx⟩)
  clear hown2 hg2
  generalize w.heap.size = G at *
  go_wp2_with fail
  go_loopg [6, 7, 8, 14] n (fun k _ _ _ v wr => PD1 w G n (prodM n (matR ra) (matR rb)) k v wr)
  case atStart => exact ⟨0, [], rfl, by omega, rfl, rfl, HK.out⟩
  case round =>
    obtain ⟨i, rows, rfl, hi, hm, hrl, hk⟩ := hrel
    clear HK
    have Hi := Lib.hid hi
    have Hm := Lib.hid hm
    have Hrl := Lib.hid hrl
    have HK := Lib.hid hk
    clear hi hm hrl hk
    by_cases hlt : i < n
    · have HKo := Lib.hid HK.out.o
      have c0 : wr.cell? ⟨G, i, none⟩ = some (.slice none 0 0) := by
        rw [HKo.out.cellAt i (by omega), List.getElem?_append_right (by simp [Hrl.out]), List.length_map, Hrl.out, Nat.sub_self, List.getElem?_replicate, if_pos (by omega)]
      have f0 := HKo.out.frozenAt i
      have hGl := (own_block HKo.out G rfl).2
      have HPi := Lib.hid (prod_row (n := n) (a := matR ra) (b := matR rb) (i := i) (by rw [HPl.out]; exact hlt))
      go_upto_region 6 with (at_make; refine wpList_make_full _ rfl _ _ 22 rfl wr.heap.size 3 i0 _ 1 Try.underlying22 HI.out.1 HI.out.2.1 HI.out.2.2.1 .i64 .i64 _ _ n rfl rfl rfl rfl ?m1 ?m2 ?m3 ?_; rotate_right; intro w3 hown3 hg3; have hb3 : Below wr.heap.size wr w3 := (Below.refl _ _).grown hg3 (Nat.le_refl _) (by simp); have c3 := cell_bel' hb3 c0; have f3 : w3.frozen? ⟨G, i, none⟩ = false := (hb3.frozen (p := ⟨G, i, none⟩) hGl).trans f0)
      case m1 => rw [HI.out.2.2.2]; omega
      case m2 => simp only [maxLen]; omega
      case m3 => omega
      have HN := Lib.hid (show MkS w (w3.setCell ⟨G, rows.length, none⟩ (.slice (some ⟨wr.heap.size, 0, none⟩) n n)) G n (rows ++ [⟨some ⟨wr.heap.size, 0, none⟩, n, List.replicate n 0⟩]) from HK.out.new (by rw [Hrl.out]; exact hlt) hn2 (by simp) hb3 (by
        have h := madeCells_one (Value.int .i64) 0 n
        rw [← h]
        exact hown3))
      have HD : Hid (∀ x ∈ rows, ∀ b, x.val.ownBlock = some b → b < wr.heap.size) := fun x hx b hb => (own_block (HK.out.c x hx).1 b hb).2
      rw [Hrl.out] at HN
      clear c0 f0 c3 f3 hb3 hown3 hg3 HK HKo hGl
      generalize w3.setCell ⟨G, i, none⟩ (.slice (some ⟨wr.heap.size, 0, none⟩) n n) = w4 at *
      generalize wr.heap.size = g at *
      obtain ⟨l0, _, _, hgl, hGl⟩ := HN.out.last (by rw [Hrl.out]; exact hlt)
      rw [Hrl.out, List.length_replicate] at l0
      go_wp2_with fail
      clear l0 hgl hGl
      have hd0 := Lib.hid (show MkS w w4 G n (rows ++ [⟨some ⟨g, 0, none⟩, n, ((List.range n).map fun j => mx (fun k => plusF (gm (matR ra) i k) (gm (matR rb) k j)) n).take 0 ++ List.replicate (n - 0) 0⟩]) by simpa using HN.out)
      clear HN
      go_loopg [7, 8, 28] n (fun k _ _ v wr => PD2 w G g n ((List.range n).map fun j => mx (fun k => plusF (gm (matR ra) i k) (gm (matR rb) k j)) n) rows k v wr)
      case atStart => exact ⟨0, rfl, by omega, hd0.out⟩
      case round =>
        obtain ⟨j, rfl, hj, hk⟩ := hrel
        clear hd0
        have Hj := Lib.hid hj
        have HK := Lib.hid hk
        clear hj hk
        by_cases hjl : j < n
        · have HF := Lib.hid (show ((((List.range n).map fun j => mx (fun k => plusF (gm (matR ra) i k) (gm (matR rb) k j)) n).take j ++ List.replicate (n - j) 0).set j (mx (fun k => plusF (gm (matR ra) i k) (gm (matR rb) k j)) n)) = ((List.range n).map fun j => mx (fun k => plusF (gm (matR ra) i k) (gm (matR rb) k j)) n).take (j + 1) ++ List.replicate (n - (j + 1)) 0 by
            have h := fill_set ((List.range n).map fun j => mx (fun k => plusF (gm (matR ra) i k) (gm (matR rb) k j)) n) 0 j (by simpa using hjl)
            simpa using h)
          have HZl := Lib.hid (show (((List.range n).map fun j => mx (fun k => plusF (gm (matR ra) i k) (gm (matR rb) k j)) n).take j ++ List.replicate (n - j) 0).length = n by simp; omega)
          generalize ((List.range n).map fun j => mx (fun k => plusF (gm (matR ra) i k) (gm (matR rb) k j)) n).take j ++ List.replicate (n - j) 0 = Z at *
          obtain ⟨l0, l1, l2, hgl, hGl⟩ := HK.out.last (by rw [Hrl.out]; exact hlt)
          have l3 := l1 j (by rw [HZl.out]; exact hjl)
          have l4 := l2 j
          rw [Hrl.out, HZl.out] at l0
          have HS := Lib.hid (HK.out.set HD.out j (-1125899906842624))
          generalize Z[j]'(by rw [HZl.out]; exact hjl) = zj at *
          clear l1 l2
          go_wp2_with fail
          clear l0 l3 l4 hgl hGl HK
          go_loopg [8, 39] n (fun k _ v wr => PD3 w G g n Z j (fun k => plusF (gm (matR ra) i k) (gm (matR rb) k j)) rows k v wr)
          case atStart => exact ⟨0, rfl, by omega, HS.out⟩
          case round =>
            obtain ⟨t, rfl, ht, hk⟩ := hrel
            clear HS
            have Ht := Lib.hid ht
            have HK := Lib.hid hk
            clear ht hk
            by_cases htl : t < n
            · have hia : i < ra.length := by rw [HSA.out.1]; exact hlt
              have htb : t < rb.length := by rw [HSB.out.1]; exact htl
              have hra := HSA.out.2 ra[i] (List.getElem_mem hia)
              have hrb := HSB.out.2 rb[t] (List.getElem_mem htb)
              have ga := gm_row hia (k := t) (by rw [hra]; exact htl)
              have gb := gm_row htb (k := j) (by rw [hrb]; exact hjl)
              obtain ⟨bx, ox, rfl, hbx, x0⟩ := rd1 (HA.out.r.grow HK.out.bel) i hia
              obtain ⟨by', oy, rfl, hby, y0⟩ := rd1 (HB.out.r.grow HK.out.bel) t htb
              obtain ⟨bu, ou, eu, hbu, u0⟩ := rd1 ((HA.out.c ra[i] (List.getElem_mem hia)).r.grow HK.out.bel) t (by rw [hra]; exact htl)
              obtain ⟨bv, ov, ev, hbv, v0⟩ := rd1 ((HB.out.c rb[t] (List.getElem_mem htb)).r.grow HK.out.bel) j (by rw [hrb]; exact hjl)
              rw [← ga] at u0
              rw [← gb] at v0
              unfold Row.val at x0 y0
              rw [eu, hra] at x0
              rw [ev, hrb] at y0
              have ba := HBA.out i t hlt htl
              have bb := HBB.out t j htl hjl
              generalize ra[i].c = cu at *
              generalize rb[t].c = cv at *
              clear hra hrb ga gb eu ev hia htb
              have HM := Lib.hid (show mx (fun k => plusF (gm (matR ra) i k) (gm (matR rb) k j)) (t + 1) = max (mx (fun k => plusF (gm (matR ra) i k) (gm (matR rb) k j)) t) (plusF (gm (matR ra) i t) (gm (matR rb) t j)) from rfl)
              generalize gm (matR ra) i t = ea at *
              generalize gm (matR rb) t j = eb at *
              generalize mx (fun k => plusF (gm (matR ra) i k) (gm (matR rb) k j)) t = mt at *
              have hz := HK.out.bel.size
              obtain ⟨l0, l1, l2, hgl, hGl⟩ := HK.out.last (by rw [Hrl.out]; exact hlt)
              have l3 := l1 j (by rw [List.length_set, HZl.out]; exact hjl)
              rw [List.getElem_set_self] at l3
              rw [Hrl.out, List.length_set, HZl.out] at l0
              clear l1 l2
              have hbx' : bx < wr.heap.size := by omega
              have hby' : by' < wr.heap.size := by omega
              have hbu' : bu < wr.heap.size := by omega
              have hbv' : bv < wr.heap.size := by omega
              go_upto_region 13 with fail
              refine wp_region_overT 28 (by kernel_rfl) (by kernel_rfl) ?_
              simp only [List.take_succ_cons, List.take_zero, List.drop_succ_cons, List.drop_zero]
              repeat (go_big_quiet_step ((go_at_call 49; exact callsOverSame (sum_any _ _ _ (by omega) (by omega)))))
              refine wpQuiet_nil ?_
              intro w6 hb6
              have HK6 := Lib.hid (HK.out.grow hb6)
              clear HK hb6 l0 l3 hgl hGl x0 y0 u0 v0
              obtain ⟨_, l1, l2, hgl, hGl⟩ := HK6.out.last (by rw [Hrl.out]; exact hlt)
              have l3 := l1 j (by rw [List.length_set, HZl.out]; exact hjl)
              have l4 := l2 j
              rw [List.getElem_set_self] at l3
              have HS := Lib.hid (HK6.out.set HD.out j (max mt (plusF ea eb)))
              rw [List.set_set] at HS
              clear l1 l2
              go_wp2_with fail
              go_roundg (n - t - 1)
              case measure => have := Ht.out; omega
              case rel => exact ⟨t + 1, by first | rfl | go_num, by omega, by rw [HM.out]; exact HS.out⟩
            · obtain rfl : t = n := by have := Ht.out; omega
              rw [HF.out] at HK
              go_wp2_with fail
              go_roundg (t - j - 1)
              case measure => have := Hj.out; omega
              case rel => exact ⟨j + 1, by first | rfl | go_num, by omega, HK.out⟩
        · obtain rfl : j = n := by have := Hj.out; omega
          have hrow : ((List.range j).map fun t => mx (fun k => plusF (gm (matR ra) i k) (gm (matR rb) k t)) j).take j ++ List.replicate (j - j) 0 = ((List.range j).map fun t => mx (fun k => plusF (gm (matR ra) i k) (gm (matR rb) k t)) j) := by
            rw [Nat.sub_self, List.replicate_zero, List.append_nil, List.take_of_length_le (by simp)]
          rw [hrow] at HK
          have HMr := Lib.hid (show matR (rows ++ [⟨some ⟨g, 0, none⟩, j, (List.range j).map fun t => mx (fun k => plusF (gm (matR ra) i k) (gm (matR rb) k t)) j⟩]) = (prodM j (matR ra) (matR rb)).take (i + 1) by
            rw [List.take_succ_eq_append_getElem (by rw [HPl.out]; exact hlt), HPi.out, ← Hm.out]
            simp [matR])
          clear hrow
          go_wp2_with fail
          go_roundg (j - i - 1)
          case measure => have := Hi.out; omega
          case rel => exact ⟨i + 1, _, by first | rfl | go_num, by omega, HMr.out, by simp [Hrl.out], HK.out⟩
    · obtain rfl : i = n := by have := Hi.out; omega
      have HO := Lib.hid (HK.out.done Hrl.out hn2)
      have HMr := Lib.hid (show matR rows = prodM i (matR ra) (matR rb) by rw [Hm.out, List.take_of_length_le (by rw [HPl.out]; exact Nat.le_refl _)])
      go_wp2_with fail
      go_ret
      exact ⟨some ⟨G, 0, none⟩, i, rows, by rw [Hrl.out]; rfl, HMr.out, by rw [Hrl.out]; exact HO.out, HK.out.bel⟩
end Go.Proofs.Ythmnalaeckfaaaa
