import Derived.Test.YthmnalaeckfaaaaMp4
namespace Go.Proofs.Ythmnalaeckfaaaa
open Go.RowKit
theorem MOwn.app {wr w9 : World} {base : Nat} {v v9 : Value} {rows : List Row} {o : Obj} {x : Row} (h : MOwn wr base v rows) (hx : RowOwn wr base x) (ho : w9.ownsRow base 22 1 v9 (rows.length + 1) (rows.map Row.val ++ [x.val])) (hg : (wr.alloc o).grownBy w9 v.ownBlock) (hn : rows.length ≤ 4611686018427387903) : MOwn w9 base v9 (rows ++ [x]) := by
  have hint : ∀ {base n : Nat} {v' : Value} {ys : List Value}, wr.ownsRow base 3 1 v' n ys → w9.ownsRow base 3 1 v' n ys := fun {base n v' ys} ho' => by
    refine (World.ownsRow.alloc ho' o).kept hg ?_
    rcases h.o.2 with ⟨rfl, _⟩ | ⟨g, cap, cur, rfl, _, hh, _⟩
    · rcases ho'.2 with ⟨rfl, _⟩ | ⟨g', cap', cur', rfl, _⟩
      · exact .inl rfl
      · right; intro e; simp [Value.ownBlock] at e
    · right
      intro e
      rcases ho'.2 with ⟨rfl, _⟩ | ⟨g', cap', cur', rfl, _, hh', _⟩
      · simp [Value.ownBlock] at e
      · simp [Value.ownBlock] at e
        subst e
        rw [hh] at hh'
        injection hh' with hh'
        injection hh' with _ h2
        cases h2
  refine ⟨?_, fun q hq => ?_, by simp; omega⟩
  · rw [List.length_append, List.map_append]
    simpa using ho
  · rcases List.mem_append.1 hq with hq | hq
    · exact ⟨hint (h.c q hq).1, (h.c q hq).2⟩
    · simp at hq
      subst hq
      exact ⟨hint hx.1, hx.2⟩
/-- rows so far, by appends -/
def PR1 (w : World) (P : List (List Int)) (n : Nat) (k : Nat) (v5 v : Value) (wr : World) : Prop :=
  ∃ (i : Nat) (rows : List Row), v = .int .i64 i ∧ i + k = n ∧ matR rows = P.take i ∧ rows.length = i ∧ MOwn wr w.heap.size v5 rows ∧ Below w.heap.size w wr
def PR2 (wS : World) (L : List Int) (n : Nat) (k : Nat) (v7 v : Value) (wr : World) : Prop :=
  ∃ j : Nat, v = .int .i64 j ∧ j + k = n ∧ wr.ownsRow wS.heap.size 3 1 v7 (L.take j).length ((L.take j).map (Value.int .i64)) ∧ Below wS.heap.size wS wr
def PR3 (wS : World) (f : Nat → Int) (l : List Int) (v7 : Value) (n : Nat) (k : Nat) (v9 v : Value) (wr : World) : Prop :=
  ∃ t : Nat, v = .int .i64 t ∧ t + k = n ∧ v9 = .int .i64 (mx f t) ∧ wr.ownsRow wS.heap.size 3 1 v7 l.length (l.map (Value.int .i64)) ∧ Below wS.heap.size wS wr
def PR4 (wS : World) (g n : Nat) (L : List Int) (k : Nat) (v : Value) (wr : World) : Prop :=
  ∃ j : Nat, v = .int .i64 j ∧ j + k = n ∧ wr.ownsRow wS.heap.size 3 1 (.slice (some ⟨g, 0, none⟩) n n) n ((L.take j ++ List.replicate (n - j) 0).map (Value.int .i64)) ∧ Below wS.heap.size wS wr
attribute [local go_sem ↓] run_max_keep
set_option maxRecDepth 100000 in
set_option maxHeartbeats 3200000 in
theorem raw_any (A B : Option Addr) (n ca cb : Nat) (ra rb : List Row) (w : World) (ha : MRd w A ra) (hb : MRd w B rb) (hn : 1 ≤ n ∧ n ≤ 12) (hsa : Sq n (matR ra)) (hsb : Sq n (matR rb)) (hba : Bd 1099511627776 (matR ra) n) (hbb : Bd 1099511627776 (matR rb) n) :
    Calls Try.prog 45 #[.slice A n ca, .slice B n cb] w (MatOut (prodM n (matR ra) (matR rb)) w) := by
  have HA := Lib.hid ha
  have HB := Lib.hid hb
  have HSA := Lib.hid (show ra.length = n ∧ ∀ x ∈ ra, x.zs.length = n from ⟨by simpa [matR] using hsa.1, fun x hx => hsa.2 x.zs (List.mem_map.2 ⟨x, hx, rfl⟩)⟩)
  have HSB := Lib.hid (show rb.length = n ∧ ∀ x ∈ rb, x.zs.length = n from ⟨by simpa [matR] using hsb.1, fun x hx => hsb.2 x.zs (List.mem_map.2 ⟨x, hx, rfl⟩)⟩)
  have HBA := Lib.hid hba
  have HBB := Lib.hid hbb
  obtain ⟨hn1, hn2⟩ := hn
  clear ha hb hsa hsb hba hbb
  obtain ⟨i0, a1, a2, a3, a4⟩ := info_parts infoInt
  have HI := Lib.hid (And.intro a1 (And.intro a2 (And.intro a3 a4)))
  clear a1 a2 a3 a4
  obtain ⟨r0, a1, a2, a3, a4⟩ := info_parts infoRow
  have HIr := Lib.hid (And.intro a1 (And.intro a2 (And.intro a3 a4)))
  clear a1 a2 a3 a4
  have HPl := Lib.hid (prod_len (n := n) (a := matR ra) (b := matR rb))
  have HK0 := Lib.hid (show MOwn w w.heap.size (.slice none 0 0) [] from ⟨World.ownsRow_nil _ _ _ _, fun x hx => by simp at hx, by simp⟩)
  go_enter Try.func45, Try.ntmps45
  go_wp2_with fail
  go_loopg [5, 6, 7, 8, 9, 10, 13] n (fun k v5 _ _ _ _ _ v wr => PR1 w (prodM n (matR ra) (matR rb)) n k v5 v wr)
  case atStart => exact ⟨0, [], rfl, by omega, rfl, rfl, HK0.out, Below.refl _ _⟩
  case round =>
    obtain ⟨i, rows, rfl, hi, hm, hrl, hk, hbl⟩ := hrel
    clear HK0
    have Hi := Lib.hid hi
    have Hm := Lib.hid hm
    have Hrl := Lib.hid hrl
    have HK := Lib.hid hk
    have HBl := Lib.hid hbl
    have hws := hbl.size
    clear hi hm hrl hk hbl
    obtain ⟨A5, c5, rfl, _, _⟩ := own_slice HK.out.o
    by_cases hlt : i < n
    · have HPi := Lib.hid (prod_row (n := n) (a := matR ra) (b := matR rb) (i := i) (by rw [HPl.out]; exact hlt))
      have HLl : Hid (((List.range n).map fun j => mx (fun k => plusF (gm (matR ra) i k) (gm (matR rb) k j)) n).length = n) := by show _ = _; simp
      have HLa : Hid (∀ j, j < n → ((List.range n).map fun j => mx (fun k => plusF (gm (matR ra) i k) (gm (matR rb) k j)) n)[j]? = some (mx (fun k => plusF (gm (matR ra) i k) (gm (matR rb) k j)) n)) := fun j h => by simp [h]
      generalize ((List.range n).map fun j => mx (fun k => plusF (gm (matR ra) i k) (gm (matR rb) k j)) n) = L at *
      go_wp2_with fail
      obtain ⟨wS, rfl⟩ : ∃ wS : World, wS = wr := ⟨_, rfl⟩
      go_loopg [7, 8, 9, 10, 18] n (fun k v7 _ _ _ v wx => PR2 wS L n k v7 v wx)
      case atStart => exact ⟨0, rfl, by omega, World.ownsRow_nil _ _ _ _, Below.refl _ _⟩
      case round =>
        obtain ⟨j, rfl, hj, ho, hbl⟩ := hrel
        have Hj := Lib.hid hj
        have HO := Lib.hid ho
        have HB2 := Lib.hid hbl
        clear hj ho hbl
        by_cases hjl : j < n
        · have HLj := Lib.hid (HLa.out j hjl)
          have HTk := Lib.hid (show L.take (j + 1) = L.take j ++ [mx (fun k => plusF (gm (matR ra) i k) (gm (matR rb) k j)) n] by
            obtain ⟨h, e⟩ := List.getElem?_eq_some_iff.1 HLj.out
            rw [List.take_succ_eq_append_getElem h, e])
          have HTl := Lib.hid (show (L.take j).length = j by have := HLl.out; simp; omega)
          generalize L.take j = l at *
          obtain ⟨A7, c7, e7, _, _⟩ := own_slice HO.out
          subst e7
          go_wp2_with fail
          go_loopg [9, 10, 23] n (fun k v9 _ v wx => PR3 wS (fun k => plusF (gm (matR ra) i k) (gm (matR rb) k j)) l (.slice A7 l.length c7) n k v9 v wx)
          case atStart => exact ⟨0, rfl, by omega, rfl, HO.out, HB2.out⟩
          case round =>
            clear HO HB2
            obtain ⟨t, rfl, ht, rfl, ho, hbl⟩ := hrel
            have Ht := Lib.hid ht
            have HO := Lib.hid ho
            have HB2 := Lib.hid hbl
            have HBw := Lib.hid (HBl.out.trans (hbl.mono hws))
            have hz := HBw.out.size
            clear ht ho hbl
            by_cases htl : t < n
            · have hia : i < ra.length := by rw [HSA.out.1]; exact hlt
              have htb : t < rb.length := by rw [HSB.out.1]; exact htl
              have hra := HSA.out.2 ra[i] (List.getElem_mem hia)
              have hrb := HSB.out.2 rb[t] (List.getElem_mem htb)
              have ga := gm_row hia (k := t) (by rw [hra]; exact htl)
              have gb := gm_row htb (k := j) (by rw [hrb]; exact hjl)
              obtain ⟨bx, ox, rfl, hbx, x0⟩ := rd1 (HA.out.r.grow HBw.out) i hia
              obtain ⟨by', oy, rfl, hby, y0⟩ := rd1 (HB.out.r.grow HBw.out) t htb
              obtain ⟨bu, ou, eu, hbu, u0⟩ := rd1 ((HA.out.c ra[i] (List.getElem_mem hia)).r.grow HBw.out) t (by rw [hra]; exact htl)
              obtain ⟨bv, ov, ev, hbv, v0⟩ := rd1 ((HB.out.c rb[t] (List.getElem_mem htb)).r.grow HBw.out) j (by rw [hrb]; exact hjl)
              rw [← ga] at u0
              rw [← gb] at v0
              unfold Row.val at x0 y0
              rw [eu, hra] at x0
              rw [ev, hrb] at y0
              have ba := HBA.out i t hlt htl
              have bb := HBB.out t j htl hjl
              generalize ra[i].c = cu at *
              generalize rb[t].c = cv at *
              clear hra hrb ga gb eu ev hia htb
              have HM := Lib.hid (show mx (fun k => plusF (gm (matR ra) i k) (gm (matR rb) k j)) (t + 1) = max (mx (fun k => plusF (gm (matR ra) i k) (gm (matR rb) k j)) t) (plusF (gm (matR ra) i t) (gm (matR rb) t j)) from rfl)
              generalize gm (matR ra) i t = ea at *
              generalize gm (matR rb) t j = eb at *
              generalize mx (fun k => plusF (gm (matR ra) i k) (gm (matR rb) k j)) t = mt at *
              have hbx' : bx < wr.heap.size := by omega
              have hby' : by' < wr.heap.size := by omega
              have hbu' : bu < wr.heap.size := by omega
              have hbv' : bv < wr.heap.size := by omega
              go_upto_region 13 with fail
              refine wp_region_overL (by kernel_rfl) (by kernel_rfl) ?_
              repeat (go_big_quiet_step ((go_at_call 50; exact callsOverSame (plus_any _ _ _ (by omega) (by omega)))))
              refine wpQuiet_nil ?_
              intro w6 hb6
              have HO6 := Lib.hid (own_grow HO.out hb6)
              have HB6 := Lib.hid (HB2.out.trans (hb6.mono HB2.out.size))
              clear hb6 HO HB2
              go_wp2_with fail
              go_roundg (n - t - 1)
              case measure => have := Ht.out; omega
              case rel => exact ⟨t + 1, by first | rfl | go_num, by omega, by rw [HM.out], HO6.out, HB6.out⟩
            · obtain rfl : t = n := by have := Ht.out; omega
              generalize mx (fun k => plusF (gm (matR ra) i k) (gm (matR rb) k j)) t = mt at *
              have hsS := HB2.out.size
              have hll : l.length ≤ 12 := by rw [HTl.out]; omega
              go_wp2_with (at_builtin; refine wpList_append_own_at _ rfl _ _ 22 rfl (wS.heap.size) 3 i0 _ 1 8 Try.underlying22 HI.out.1 HI.out.2.1 HI.out.2.2.1 HI.out.2.2.2 rfl (by omega) _ l.length _ rfl (World.ownsRow.alloc HO.out _) ⟨wr.heap.size, 0, none⟩ 1 1 [.int .i64 mt] rfl rfl ?c0 ?c1 ?c2 ?c3 ?c4 ?_; rotate_right; intro v' w' hown' hg' _ hat')
              case c0 => exact news_new _ _ _
              case c1 => intro u hu; simp at hu; subst hu; rfl
              case c2 => simp only [maxLen]; omega
              case c3 => omega
              case c4 => simp; omega
              have HO9 := Lib.hid (show w'.ownsRow wS.heap.size 3 1 v' (L.take (j + 1)).length ((L.take (j + 1)).map (Value.int .i64)) by
                rw [HTk.out, List.length_append, List.map_append]
                exact hown')
              have HB9 := Lib.hid (below_app (HB2.out.alloc hsS _) (World.ownsRow.alloc HO.out _) (Nat.le_refl _) (by simp; omega) hg')
              clear hown' hg' hat' HO HB2 HBw
              go_wp2_with fail
              go_roundg (t - j - 1)
              case measure => have := Hj.out; omega
              case rel => exact ⟨j + 1, by first | rfl | go_num, by omega, HO9.out, HB9.out⟩
        · obtain rfl : j = n := by have := Hj.out; omega
          have htk : L.take j = L := List.take_of_length_le (by rw [HLl.out]; exact Nat.le_refl _)
          rw [htk] at HO
          clear htk
          obtain ⟨A7, c7, e7, _, _⟩ := own_slice HO.out
          subst e7
          have hsS := HB2.out.size
          have HM9 := Lib.hid (HK.out.grow HB2.out)
          have hr12 : rows.length ≤ 12 := by rw [Hrl.out]; omega
          have hL12 : L.length ≤ 12 := by rw [HLl.out]; exact hn2
          go_wp2_with (at_builtin; refine wpList_append_own_at _ rfl _ _ 23 rfl w.heap.size 22 r0 _ 1 24 Try.underlying23 HIr.out.1 HIr.out.2.1 HIr.out.2.2.1 HIr.out.2.2.2 rfl (by omega) _ rows.length _ rfl (World.ownsRow.alloc HM9.out.o _) ⟨wr.heap.size, 0, none⟩ 1 1 [.slice A7 L.length c7] rfl rfl ?c0 ?c1 ?c2 ?c3 ?c4 ?_; rotate_right; intro v9 w9 ho9 hg9 _ _)
          case c0 => exact news_new _ _ _
          case c1 => intro u hu; simp at hu; subst hu; rfl
          case c2 => simp only [maxLen]; omega
          case c3 => omega
          case c4 => simp; omega
          have HA9 := Lib.hid (HM9.out.app (x := ⟨A7, c7, L⟩) ⟨own_base HO.out hws, by simp only; omega⟩ ho9 hg9 (by omega))
          have HB9 := Lib.hid (below_app ((HBl.out.trans (HB2.out.mono hws)).alloc (by omega) _) (World.ownsRow.alloc HM9.out.o _) (Nat.le_refl _) (by simp; omega) hg9)
          have HMr := Lib.hid (show matR (rows ++ [⟨A7, c7, L⟩]) = (prodM j (matR ra) (matR rb)).take (i + 1) by
            rw [List.take_succ_eq_append_getElem (by rw [HPl.out]; exact hlt), HPi.out, ← Hm.out]
            simp [matR])
          clear ho9 hg9 HM9 HO HB2
          go_wp2_with fail
          go_roundg (j - i - 1)
          case measure => have := Hi.out; omega
          case rel => exact ⟨i + 1, _, by first | rfl | go_num, by omega, HMr.out, by simp [Hrl.out], HA9.out, HB9.out⟩
    · obtain rfl : i = n := by have := Hi.out; omega
      have HMr := Lib.hid (show matR rows = prodM i (matR ra) (matR rb) by rw [Hm.out, List.take_of_length_le (by rw [HPl.out]; exact Nat.le_refl _)])
      go_wp2_with fail
      go_ret
      exact ⟨A5, c5, rows, rfl, HMr.out, HK.out, HBl.out⟩
end Go.Proofs.Ythmnalaeckfaaaa
