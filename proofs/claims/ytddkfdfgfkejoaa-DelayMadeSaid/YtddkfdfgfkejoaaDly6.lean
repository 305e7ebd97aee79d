import Derived.Test.YtddkfdfgfkejoaaDly5
import Derived.Test.YtddkfdfgfkejoaaData2
namespace Go.Proofs.Ytddkfdfgfkejoaa
open Go.RowKit

/-- the state of keep2.Delay -/
structure DG (w : World) (v6 v7 v8 : Value) (ms : List Mom) (ws : List Wt) (ps : List Pri) (l : List Int) (wr : World) : Prop where
  src : Src wr w.heap.size l
  bel : Below w.heap.size w wr
  lt : w.heap.size < wr.heap.size
  om : wr.ownsRow (w.heap.size + 1) 33 2 v6 ms.length (ms.flatMap Mom.cells)
  ow : wr.ownsRow (w.heap.size + 1) 35 4 v7 ws.length (ws.flatMap Wt.cells)
  op : wr.ownsRow (w.heap.size + 1) 39 2 v8 ps.length (ps.flatMap Pri.cells)
section
variable {w wr w1 : World} {v6 v7 v8 : Value} {ms : List Mom} {ws : List Wt} {ps : List Pri} {l l' : List Int}
theorem DG.turn (h : DG w v6 v7 v8 ms ws ps l wr) (hs : Src w1 w.heap.size l') (ht : Turn w.heap.size wr w1) : DG w v6 v7 v8 ms ws ps l' w1 :=
  ⟨hs, ht.below h.bel (Nat.le_refl _), by rw [ht.size]; exact h.lt, own_turn h.om ht (by omega), own_turn h.ow ht (by omega), own_turn h.op ht (by omega)⟩
theorem DG.alloc (h : DG w v6 v7 v8 ms ws ps l wr) (o : Obj) : DG w v6 v7 v8 ms ws ps l (wr.alloc o) :=
  have hb : Below wr.heap.size wr (wr.alloc o) := (Below.refl _ _).alloc (Nat.le_refl _) _
  ⟨h.src.below hb h.lt, h.bel.trans (hb.mono h.bel.size), by have := h.lt; simp; omega, own_grow h.om hb, own_grow h.ow hb, own_grow h.op hb⟩
theorem DG.appM {v : Value} {x : Mom} (h : DG w v6 v7 v8 ms ws ps l wr) (ho : w1.ownsRow (w.heap.size + 1) 33 2 v (ms.length + 1) (ms.flatMap Mom.cells ++ x.cells)) (hg : wr.grownBy w1 v6.ownBlock) : DG w v v7 v8 (ms ++ [x]) ws ps l w1 :=
  ⟨h.src.app h.om (by omega) h.lt hg, below_app h.bel h.om (by omega) (Nat.le_of_lt h.lt) hg, Nat.lt_of_lt_of_le h.lt hg.size, by simpa using ho, own_app h.ow h.om (by decide) hg, own_app h.op h.om (by decide) hg⟩
theorem DG.appW {v : Value} {x : Wt} (h : DG w v6 v7 v8 ms ws ps l wr) (ho : w1.ownsRow (w.heap.size + 1) 35 4 v (ws.length + 1) (ws.flatMap Wt.cells ++ x.cells)) (hg : wr.grownBy w1 v7.ownBlock) : DG w v6 v v8 ms (ws ++ [x]) ps l w1 :=
  ⟨h.src.app h.ow (by omega) h.lt hg, below_app h.bel h.ow (by omega) (Nat.le_of_lt h.lt) hg, Nat.lt_of_lt_of_le h.lt hg.size, own_app h.om h.ow (by decide) hg, by simpa using ho, own_app h.op h.ow (by decide) hg⟩
theorem DG.appP {v : Value} {x : Pri} (h : DG w v6 v7 v8 ms ws ps l wr) (ho : w1.ownsRow (w.heap.size + 1) 39 2 v (ps.length + 1) (ps.flatMap Pri.cells ++ x.cells)) (hg : wr.grownBy w1 v8.ownBlock) : DG w v6 v7 v ms ws (ps ++ [x]) l w1 :=
  ⟨h.src.app h.op (by omega) h.lt hg, below_app h.bel h.op (by omega) (Nat.le_of_lt h.lt) hg, Nat.lt_of_lt_of_le h.lt hg.size, own_app h.om h.op (by decide) hg, own_app h.ow h.op (by decide) hg, by simpa using ho⟩
end

/-- what keep2.Delay has made after i moments -/
structure DlyOk (i : Nat) (ms : List Mom) (ws : List Wt) (ps : List Pri) : Prop where
  m : ms.length = i
  w : ws.length ≤ 2 * i
  p : ps.length ≤ i
  mt : ∀ x ∈ ms, 0 ≤ x.time ∧ x.time ≤ 20 * i + 30
  wt : ∀ k ∈ ws, 0 ≤ k.fr ∧ k.fr < k.tt ∧ k.tt < i ∧ 0 ≤ k.mn ∧ k.mn < 40 ∧ -1 ≤ k.mx ∧ k.mx < 25
  pd : (ps.map Pri.mo).Pairwise (· < ·)
  pt : ∀ d ∈ ps, 0 ≤ d.mo ∧ d.mo < i ∧ 0 ≤ d.sec ∧ d.sec < 60
theorem DlyOk.valid {i : Nat} {ms : List Mom} {ws : List Wt} {ps : List Pri} (h : DlyOk i ms ws ps) (hi : i ≤ 6) : Valid ms ws ps := by
  refine ⟨⟨by have := h.m; omega, by have := h.w; omega, by have := h.p; omega, fun x hx => ?_, fun k hk => ?_, fun j hj => ?_⟩, fun x => x.toNat, fun k hk => ?_⟩
  · have := h.mt x hx
    simp [clkB]; omega
  · rw [wtB_ok]
    have := h.wt k hk
    have hm := h.m
    exact ⟨by omega, by omega, by omega, by omega, by omega, by omega, by omega, by omega, by omega⟩
  · have h1 := h.pt ps[j] (List.getElem_mem hj)
    have hm := h.m
    refine ⟨by simp [momB]; omega, by simp [clkB]; omega, fun hmem => ?_⟩
    obtain ⟨d, hd, e⟩ := List.mem_map.1 hmem
    obtain ⟨r, hr, rfl⟩ := List.mem_take_iff_getElem.1 hd
    have h2 := List.pairwise_iff_getElem.1 h.pd r j (by simp; omega) (by simpa using hj) (by omega)
    simp at h2
    omega
  · have := h.wt k hk
    show k.fr.toNat < k.tt.toNat
    omega

def DlyOut (w : World) (e : Ending) (w' : World) : Prop :=
  ∃ (v6 v7 v8 : Value) (n : Nat) (ms : List Mom) (ws : List Wt) (ps : List Pri), e = .returned (.tuple #[v6, v7, v8]) ∧ 1 ≤ n ∧ n ≤ 6 ∧ DlyOk n ms ws ps ∧ Below w.heap.size w w' ∧
    w'.ownsRow (w.heap.size + 1) 33 2 v6 ms.length (ms.flatMap Mom.cells) ∧ w'.ownsRow (w.heap.size + 1) 35 4 v7 ws.length (ws.flatMap Wt.cells) ∧ w'.ownsRow (w.heap.size + 1) 39 2 v8 ps.length (ps.flatMap Pri.cells)
def D1 (w : World) (n k : Nat) (v6 v7 v8 v : Value) (wr : World) : Prop :=
  ∃ (i : Nat) (ms : List Mom) (ws : List Wt) (ps : List Pri) (l : List Int), v = .int .i64 i ∧ i + k = n ∧ DlyOk i ms ws ps ∧ DG w v6 v7 v8 ms ws ps l wr

def D2 (w : World) (i : Nat) (ms : List Mom) (ps : List Pri) (v6 v8 : Value) (k : Nat) (v7 v : Value) (wr : World) : Prop :=
  ∃ (j : Nat) (ws : List Wt) (l : List Int), v = .int .i64 j ∧ j = k ∧ j ≤ 2 ∧ ws.length + j ≤ 2 * i + 2 ∧ (∀ k ∈ ws, 0 ≤ k.fr ∧ k.fr < k.tt ∧ k.tt < ((i + 1 : Nat) : Int) ∧ 0 ≤ k.mn ∧ k.mn < 40 ∧ -1 ≤ k.mx ∧ k.mx < 25) ∧ DG w v6 v7 v8 ms ws ps l wr

theorem dw_snoc {i : Nat} {ws : List Wt} {f m x : Int} (h : ∀ k ∈ ws, 0 ≤ k.fr ∧ k.fr < k.tt ∧ k.tt < ((i + 1 : Nat) : Int) ∧ 0 ≤ k.mn ∧ k.mn < 40 ∧ -1 ≤ k.mx ∧ k.mx < 25) (h0 : 0 ≤ f) (h1 : f < i) (h2 : 0 ≤ m) (h3 : m < 40) (h4 : -1 ≤ x) (h5 : x < 25) :
    ∀ k ∈ ws ++ [⟨f, i, m, x⟩], 0 ≤ k.fr ∧ k.fr < k.tt ∧ k.tt < ((i + 1 : Nat) : Int) ∧ 0 ≤ k.mn ∧ k.mn < 40 ∧ -1 ≤ k.mx ∧ k.mx < 25 := by
  intro k hk
  rcases List.mem_append.1 hk with hk | hk
  · exact h k hk
  · simp at hk; subst hk; simp; omega
theorem DG.setMx {w wr : World} {v6 v8 : Value} {ms : List Mom} {ws : List Wt} {ps : List Pri} {l : List Int} {f t m x : Int} {v7 : Value} (h : DG w v6 v7 v8 ms (ws ++ [⟨f, t, m, x⟩]) ps l wr) (g c : Nat) (hv : v7 = .slice (some ⟨g, 0, none⟩) (ws ++ [(⟨f, t, m, x⟩ : Wt)]).length c) (hg : w.heap.size + 1 ≤ g) :
    DG w v6 v7 v8 ms (ws ++ [⟨f, t, m, -1⟩]) ps l (wr.setCell ⟨g, ws.length * 4 + 3, none⟩ (.int .i64 (-1))) := by
  subst hv
  have hne1 := own_ne h.om h.ow (by decide)
  have hne2 := own_ne h.op h.ow (by decide)
  refine ⟨h.src.keep (fun k hk => Below.heap_setCell _ _ _ _ (by simp; omega)), h.bel.setCell (by simp; omega) _, by simpa [World.setCell] using h.lt, ?_, ?_, ?_⟩
  · refine own_far h.om (fun e => ?_)
    rcases hne1 with h1 | h1
    · rw [h1] at e; cases e
    · exact h1 e
  · have h1 := (h.ow.stored (ws.length * 4 + 3) (.int .i64 (-1))).1
    have e2 : (((ws ++ [(⟨f, t, m, x⟩ : Wt)]).flatMap Wt.cells).set (ws.length * 4 + 3) (.int .i64 (-1))) = (ws ++ [(⟨f, t, m, -1⟩ : Wt)]).flatMap Wt.cells := by
      rw [List.flatMap_append, List.flatMap_append, List.set_append_right _ _ (by rw [flat_len Wt.cells 4 Wt.len]; omega), flat_len Wt.cells 4 Wt.len]
      simp [Wt.cells]
    rw [e2] at h1
    simpa using h1
  · refine own_far h.op (fun e => ?_)
    rcases hne2 with h1 | h1
    · rw [h1] at e; cases e
    · exact h1 e
theorem dlyok_n {i : Nat} {ms : List Mom} {ws ws2 : List Wt} {ps : List Pri} {qa : Int} (h : DlyOk i ms ws ps) (hb : Bool) (h0 : 0 ≤ qa) (h1 : qa < 30) (hw : ws2.length ≤ 2 * i + 2) (hwk : ∀ k ∈ ws2, 0 ≤ k.fr ∧ k.fr < k.tt ∧ k.tt < ((i + 1 : Nat) : Int) ∧ 0 ≤ k.mn ∧ k.mn < 40 ∧ -1 ≤ k.mx ∧ k.mx < 25) :
    DlyOk (i + 1) (ms ++ [⟨20 * (i : Int) + qa, hb⟩]) ws2 ps := by
  refine ⟨by simp [h.m], by omega, by have := h.p; omega, fun x hx => ?_, hwk, h.pd, fun d hd => by have := h.pt d hd; omega⟩
  rcases List.mem_append.1 hx with hx | hx
  · have := h.mt x hx; omega
  · simp at hx; subst hx; simp; omega
theorem dlyok_p {i : Nat} {ms : List Mom} {ws ws2 : List Wt} {ps : List Pri} {qa qs : Int} (h : DlyOk i ms ws ps) (hb : Bool) (h0 : 0 ≤ qa) (h1 : qa < 30) (hw : ws2.length ≤ 2 * i + 2) (hwk : ∀ k ∈ ws2, 0 ≤ k.fr ∧ k.fr < k.tt ∧ k.tt < ((i + 1 : Nat) : Int) ∧ 0 ≤ k.mn ∧ k.mn < 40 ∧ -1 ≤ k.mx ∧ k.mx < 25) (hs0 : 0 ≤ qs) (hs1 : qs < 60) :
    DlyOk (i + 1) (ms ++ [⟨20 * (i : Int) + qa, hb⟩]) ws2 (ps ++ [⟨i, qs⟩]) := by
  have hn := dlyok_n h hb h0 h1 hw hwk
  refine ⟨hn.m, hn.w, by have := h.p; simp; omega, hn.mt, hn.wt, ?_, fun d hd => ?_⟩
  · rw [List.map_append, List.pairwise_append]
    refine ⟨h.pd, by simp, fun a ha b hb' => ?_⟩
    obtain ⟨d, hd, rfl⟩ := List.mem_map.1 ha
    simp at hb'
    subst hb'
    exact (h.pt d hd).2.1
  · rcases List.mem_append.1 hd with hd | hd
    · exact hn.pt d hd
    · simp at hd; subst hd; simp; omega

set_option maxHeartbeats 3200000 in
theorem mkdelay_any (A : Option Addr) (n c : Nat) (z : List Int) (w : World) (h : Rd w w.heap.size 1 A n (z.map (Value.int .i64))) (hn : n ≤ maxLen) :
    Calls Try.prog 12 #[.slice A n c] w (DlyOut w) := by
  have H := Lib.hid h
  have HN := Lib.hid hn
  clear h hn
  obtain ⟨HMi, a1, a2, a3, a4⟩ := info_parts infoMom
  have HM := Lib.hid (And.intro a1 (And.intro a2 (And.intro a3 a4)))
  obtain ⟨HWi, b1, b2, b3, b4⟩ := info_parts infoWt
  have HW := Lib.hid (And.intro b1 (And.intro b2 (And.intro b3 b4)))
  obtain ⟨HPi, c1, c2, c3, c4⟩ := info_parts infoPri
  have HP := Lib.hid (And.intro c1 (And.intro c2 (And.intro c3 c4)))
  clear a1 a2 a3 a4 b1 b2 b3 b4 c1 c2 c3 c4
  go_enter Try.func12, Try.ntmps12
  go_wp2_with fail
  refine (from_any A n c z w H.out HN.out).mono ?_
  rintro e w0 ⟨rfl, hs, hb, hz⟩
  go_wp2_with fail
  refine (next_any _ _ _ _ hs (by omega) (by omega)).mono ?_
  rintro e w1 ⟨rfl, hs1, ht1⟩
  have hk := nextV_bd z 6 (by omega) (by omega)
  generalize nextV z 6 = q at *
  obtain ⟨hq0, hq1⟩ := hk
  obtain ⟨k0, rfl⟩ := Int.eq_ofNat_of_zero_le hq0
  have HD : Hid (DG w (.slice none 0 0) (.slice none 0 0) (.slice none 0 0) [] [] [] z.tail w1) := ⟨hs1, ht1.below hb (Nat.le_refl _), by rw [ht1.size]; omega, World.ownsRow_nil _ _ _ _, World.ownsRow_nil _ _ _ _, World.ownsRow_nil _ _ _ _⟩
  clear hs hs1 ht1 hb hz H HN
  go_wp2_with fail
  go_loopg [6, 7, 8, 10, 11, 12] (1 + k0) (fun k v6 v7 v8 v _ _ wr => D1 w (1 + k0) k v6 v7 v8 v wr)
  case atStart => exact ⟨0, [], [], [], z.tail, rfl, by omega, ⟨rfl, by simp, by simp, by simp, by simp, by simp, by simp⟩, HD.out⟩
  case round =>
    obtain ⟨i, ms, ws, ps, l, rfl, hi, hok, hdg⟩ := hrel
    have Hi := Lib.hid hi
    have HK := Lib.hid hok
    clear HD
    have HD := Lib.hid hdg
    clear hi hok hdg
    by_cases hlt : i < 1 + k0
    · have hml : ms.length = i := HK.out.m
      have hwl : ws.length ≤ 2 * i := HK.out.w
      have hpl : ps.length ≤ i := HK.out.p
      have Hml := Lib.hid hml
      have hml2 : ms.length ≤ 6 := by omega
      clear hml
      go_wp2_with fail
      refine (next_any _ _ _ _ HD.out.src (by omega) (by omega)).mono ?_
      rintro e wqa ⟨rfl, hs2, ht2⟩
      have HD1 := Lib.hid (HD.out.turn hs2 ht2)
      have hk := nextV_bd l 30 (by omega) (by omega)
      generalize nextV l 30 = qa at *
      obtain ⟨hqa0, hqa1⟩ := hk
      clear hs2 ht2 HD
      go_wp2_with fail
      refine (next_any _ _ _ _ HD1.out.src (by omega) (by omega)).mono ?_
      rintro e wqb ⟨rfl, hs2, ht2⟩
      have HD2 := Lib.hid (HD1.out.turn hs2 ht2)
      have hk := nextV_bd l.tail 2 (by omega) (by omega)
      generalize nextV l.tail 2 = qb at *
      obtain ⟨hqb0, hqb1⟩ := hk
      clear hs2 ht2 HD1
      have hlw := HD2.out.lt
      have HD3 := Lib.hid (HD2.out.alloc (.cells #[.int .i64 (20 * (i : Int) + qa), .bool (qb == 0)] 33))
      clear HD2
      go_wp2_with (at_builtin; refine wpList_append_own_at _ rfl _ _ 23 rfl (w.heap.size + 1) 33 HMi _ 2 16 Try.underlying23 HM.out.1 HM.out.2.1 HM.out.2.2.1 HM.out.2.2.2 rfl (by omega) _ ms.length _ rfl HD3.out.om ⟨wqb.heap.size, 0, none⟩ 1 1 [.int .i64 (20 * (i : Int) + qa), .bool (qb == 0)] rfl rfl ?c0 ?c1 ?c2 ?c3 ?c4 ?_; rotate_right; intro v' w' hown' hg' _ hat')
      case c0 => exact news_new _ _ _
      case c1 => intro u hu; simp only [List.mem_cons, List.not_mem_nil, or_false] at hu; (repeat (rcases hu with rfl | hu <;> try rfl)); try (subst hu; rfl)
      case c2 => simp only [maxLen]; omega
      case c3 => omega
      case c4 => simp; omega
      have HD4 := Lib.hid (HD3.out.appM (x := ⟨20 * (i : Int) + qa, (qb == 0)⟩) hown' hg')
      clear hown' hg' hat' HD3 hlw
      generalize (qb == 0) = hb at *
      refine (next_any _ _ _ _ HD4.out.src (by omega) (by omega)).mono ?_
      rintro e wqk ⟨rfl, hs2, ht2⟩
      have HD5 := Lib.hid (HD4.out.turn hs2 ht2)
      have hk := nextV_bd l.tail.tail 3 (by omega) (by omega)
      generalize nextV l.tail.tail 3 = qk at *
      obtain ⟨hqk0, hqk1⟩ := hk
      clear hs2 ht2 HD4
      obtain ⟨kk, rfl⟩ := Int.eq_ofNat_of_zero_le hqk0
      have hw0 : ∀ k ∈ ws, 0 ≤ k.fr ∧ k.fr < k.tt ∧ k.tt < ((i + 1 : Nat) : Int) ∧ 0 ≤ k.mn ∧ k.mn < 40 ∧ -1 ≤ k.mx ∧ k.mx < 25 := fun k hk => by have := HK.out.wt k hk; omega
      have Hw0 := Lib.hid hw0
      clear hw0
      go_wp2_with fail
      go_loopg [7, 11, 12] kk (fun k v7 v _ wr => D2 w i (ms ++ [⟨20 * (i : Int) + qa, hb⟩]) ps v' u8 k v7 v wr)
      case atStart => exact ⟨kk, ws, _, rfl, rfl, by omega, by omega, Hw0.out, HD5.out⟩
      case round =>
        obtain ⟨j, ws2, l2, rfl, rfl, hj2, hwl2, hwk2, hdg2⟩ := hrel
        have HW2 := Lib.hid hwk2
        have HD6 := Lib.hid hdg2
        clear hwk2 hdg2 HD5 Hw0
        by_cases hj0 : 0 < j
        · by_cases hi0 : 0 < i
          · go_wp2_with fail
            refine (next_any _ _ _ _ HD6.out.src (by omega) (by omega)).mono ?_
            rintro e wqf ⟨rfl, hs2, ht2⟩
            have HD7 := Lib.hid (HD6.out.turn hs2 ht2)
            have hk := nextV_bd l2 (i : Int) (by omega) (by omega)
            generalize nextV l2 (i : Int) = qf at *
            obtain ⟨hqf0, hqf1⟩ := hk
            clear hs2 ht2 HD6
            go_wp2_with fail
            refine (next_any _ _ _ _ HD7.out.src (by omega) (by omega)).mono ?_
            rintro e wqm ⟨rfl, hs2, ht2⟩
            have HD8 := Lib.hid (HD7.out.turn hs2 ht2)
            have hk := nextV_bd l2.tail 40 (by omega) (by omega)
            generalize nextV l2.tail 40 = qm at *
            obtain ⟨hqm0, hqm1⟩ := hk
            clear hs2 ht2 HD7
            go_wp2_with fail
            refine (next_any _ _ _ _ HD8.out.src (by omega) (by omega)).mono ?_
            rintro e wqx ⟨rfl, hs2, ht2⟩
            have HD9 := Lib.hid (HD8.out.turn hs2 ht2)
            have hk := nextV_bd l2.tail.tail 50 (by omega) (by omega)
            generalize nextV l2.tail.tail 50 = qx at *
            obtain ⟨hqx0, hqx1⟩ := hk
            clear hs2 ht2 HD8
            have hlw := HD9.out.lt
            have HDa := Lib.hid (HD9.out.alloc (.cells #[.int .i64 qf, .int .i64 (i : Int), .int .i64 qm, .int .i64 (qx - 25)] 35))
            clear HD9
            go_upto_region 14 with (at_builtin; refine wpList_append_own_at _ rfl _ _ 24 rfl (w.heap.size + 1) 35 HWi _ 4 32 Try.underlying24 HW.out.1 HW.out.2.1 HW.out.2.2.1 HW.out.2.2.2 rfl (by omega) _ ws2.length _ rfl HDa.out.ow ⟨wqx.heap.size, 0, none⟩ 1 1 [.int .i64 qf, .int .i64 (i : Int), .int .i64 qm, .int .i64 (qx - 25)] rfl rfl ?c0 ?c1 ?c2 ?c3 ?c4 ?_; rotate_right; intro v7' w' hown' hg' _ hat')
            case c0 => exact news_new _ _ _
            case c1 => intro u hu; simp only [List.mem_cons, List.not_mem_nil, or_false] at hu; rcases hu with rfl | rfl | rfl | rfl <;> rfl
            case c2 => simp only [maxLen]; omega
            case c3 => omega
            case c4 => simp; omega
            have HDb := Lib.hid (HDa.out.appW (x := ⟨qf, i, qm, qx - 25⟩) hown' hg')
            clear hown' hg' hat' HDa hlw
            obtain ⟨g7, c7, rfl, hg7, hg7l⟩ := HDb.out.ow.form (by simp)
            have e1 : (ws2 ++ [(⟨qf, i, qm, qx - 25⟩ : Wt)]).length = ws2.length + 1 := by simp
            have hcm := HDb.out.ow
            obtain ⟨hc7, hm7⟩ := own_cap hcm
            unfold maxLen at hm7
            have q3 := (ownWt hcm rfl ws2.length (by simp)).2.2.2
            have f3 := hcm.frozenAt (ws2.length * 4 + 3)
            rw [List.getElem_append_right (by omega)] at q3
            simp only [Nat.sub_self, List.getElem_cons_zero] at q3
            clear hcm
            rw [e1] at hc7 ⊢
            clear e1
            by_cases hneg : qx - 25 < 0
            · have hdc := HDb.out.setMx g7 c7 (by rfl) hg7
              have HDc := Lib.hid hdc
              clear hdc HDb
              go_wp2_with fail
              go_roundg (j - 1)
              case measure => omega
              case rel => exact ⟨j - 1, _, _, by first | rfl | go_num, rfl, by omega, by simp; omega, dw_snoc (f := qf) (m := qm) (x := -1) HW2.out (by omega) (by omega) (by omega) (by omega) (by omega) (by omega), by have h := HDc.out; rw [List.length_append] at h; exact h⟩
            · go_wp2_with fail
              go_roundg (j - 1)
              case measure => omega
              case rel => exact ⟨j - 1, _, _, by first | rfl | go_num, rfl, by omega, by simp; omega, dw_snoc (f := qf) (m := qm) (x := qx - 25) HW2.out (by omega) (by omega) (by omega) (by omega) (by omega) (by omega), by have h := HDb.out; rw [List.length_append] at h; exact h⟩
          · have hi0' : decide (0 < i) = false := by simpa using hi0
            go_wp2_with fail
            refine (next_any _ _ _ _ HD6.out.src (by omega) (by omega)).mono ?_
            rintro e wqp ⟨rfl, hs2, ht2⟩
            have HD7 := Lib.hid (HD6.out.turn hs2 ht2)
            have hk := nextV_bd l2 3 (by omega) (by omega)
            generalize nextV l2 3 = qp at *
            obtain ⟨hqp0, hqp1⟩ := hk
            clear hs2 ht2 HD6
            by_cases hqp : qp = 0
            · have hqp' : (qp == 0) = true := by simpa using hqp
              clear hqp
              go_wp2_with fail
              refine (next_any _ _ _ _ HD7.out.src (by omega) (by omega)).mono ?_
              rintro e wqs ⟨rfl, hs2, ht2⟩
              have HD8 := Lib.hid (HD7.out.turn hs2 ht2)
              have hk := nextV_bd l2.tail 60 (by omega) (by omega)
              generalize nextV l2.tail 60 = qs at *
              obtain ⟨hqs0, hqs1⟩ := hk
              clear hs2 ht2 HD7
              have hlw := HD8.out.lt
              have HD9 := Lib.hid (HD8.out.alloc (.cells #[.int .i64 (i : Int), .int .i64 qs] 39))
              clear HD8
              go_wp2_with (at_builtin; refine wpList_append_own_at _ rfl _ _ 25 rfl (w.heap.size + 1) 39 HPi _ 2 16 Try.underlying25 HP.out.1 HP.out.2.1 HP.out.2.2.1 HP.out.2.2.2 rfl (by omega) _ ps.length _ rfl HD9.out.op ⟨wqs.heap.size, 0, none⟩ 1 1 [.int .i64 (i : Int), .int .i64 qs] rfl rfl ?c0 ?c1 ?c2 ?c3 ?c4 ?_; rotate_right; intro v' w' hown' hg' _ hat')
              case c0 => exact news_new _ _ _
              case c1 => intro u hu; simp only [List.mem_cons, List.not_mem_nil, or_false] at hu; (repeat (rcases hu with rfl | hu <;> try rfl)); try (subst hu; rfl)
              case c2 => simp only [maxLen]; omega
              case c3 => omega
              case c4 => simp; omega
              have HDa := Lib.hid (HD9.out.appP (x := ⟨i, qs⟩) hown' hg')
              clear hown' hg' hat' HD9 hlw
              go_roundg (1 + k0 - i - 1)
              case measure => have := Hi.out; omega
              case rel => exact ⟨i + 1, _, _, _, _, by first | rfl | go_num, by omega, dlyok_p HK.out hb (by omega) (by omega) (by omega) HW2.out (by omega) (by omega), HDa.out⟩
            · have hqp' : (qp == 0) = false := by simpa using hqp
              clear hqp
              go_wp2_with fail
              go_roundg (1 + k0 - i - 1)
              case measure => have := Hi.out; omega
              case rel => exact ⟨i + 1, _, _, _, _, by first | rfl | go_num, by omega, dlyok_n HK.out hb (by omega) (by omega) (by omega) HW2.out, HD7.out⟩
        · have hj0' : decide (0 < j) = false := by simpa using hj0
          go_wp2_with fail
          refine (next_any _ _ _ _ HD6.out.src (by omega) (by omega)).mono ?_
          rintro e wqp ⟨rfl, hs2, ht2⟩
          have HD7 := Lib.hid (HD6.out.turn hs2 ht2)
          have hk := nextV_bd l2 3 (by omega) (by omega)
          generalize nextV l2 3 = qp at *
          obtain ⟨hqp0, hqp1⟩ := hk
          clear hs2 ht2 HD6
          by_cases hqp : qp = 0
          · have hqp' : (qp == 0) = true := by simpa using hqp
            clear hqp
            go_wp2_with fail
            refine (next_any _ _ _ _ HD7.out.src (by omega) (by omega)).mono ?_
            rintro e wqs ⟨rfl, hs2, ht2⟩
            have HD8 := Lib.hid (HD7.out.turn hs2 ht2)
            have hk := nextV_bd l2.tail 60 (by omega) (by omega)
            generalize nextV l2.tail 60 = qs at *
            obtain ⟨hqs0, hqs1⟩ := hk
            clear hs2 ht2 HD7
            have hlw := HD8.out.lt
            have HD9 := Lib.hid (HD8.out.alloc (.cells #[.int .i64 (i : Int), .int .i64 qs] 39))
            clear HD8
            go_wp2_with (at_builtin; refine wpList_append_own_at _ rfl _ _ 25 rfl (w.heap.size + 1) 39 HPi _ 2 16 Try.underlying25 HP.out.1 HP.out.2.1 HP.out.2.2.1 HP.out.2.2.2 rfl (by omega) _ ps.length _ rfl HD9.out.op ⟨wqs.heap.size, 0, none⟩ 1 1 [.int .i64 (i : Int), .int .i64 qs] rfl rfl ?c0 ?c1 ?c2 ?c3 ?c4 ?_; rotate_right; intro v' w' hown' hg' _ hat')
            case c0 => exact news_new _ _ _
            case c1 => intro u hu; simp only [List.mem_cons, List.not_mem_nil, or_false] at hu; (repeat (rcases hu with rfl | hu <;> try rfl)); try (subst hu; rfl)
            case c2 => simp only [maxLen]; omega
            case c3 => omega
            case c4 => simp; omega
            have HDa := Lib.hid (HD9.out.appP (x := ⟨i, qs⟩) hown' hg')
            clear hown' hg' hat' HD9 hlw
            go_roundg (1 + k0 - i - 1)
            case measure => have := Hi.out; omega
            case rel => exact ⟨i + 1, _, _, _, _, by first | rfl | go_num, by omega, dlyok_p HK.out hb (by omega) (by omega) (by omega) HW2.out (by omega) (by omega), HDa.out⟩
          · have hqp' : (qp == 0) = false := by simpa using hqp
            clear hqp
            go_wp2_with fail
            go_roundg (1 + k0 - i - 1)
            case measure => have := Hi.out; omega
            case rel => exact ⟨i + 1, _, _, _, _, by first | rfl | go_num, by omega, dlyok_n HK.out hb (by omega) (by omega) (by omega) HW2.out, HD7.out⟩
    · go_wp2_with fail
      go_ret3
      obtain rfl : i = 1 + k0 := by have := Hi.out; omega
      exact ⟨_, _, _, 1 + k0, ms, ws, ps, rfl, by omega, by omega, HK.out, HD.out.bel, HD.out.om, HD.out.ow, HD.out.op⟩
end Go.Proofs.Ytddkfdfgfkejoaa
