import Derived.Test.YtddkfdfgfkejoaaDly16
import Derived.Test.YtddkfdfgfkejoaaDlyMath8
namespace Go.Proofs.Ytddkfdfgfkejoaa
open Go.RowKit

def CauseOut (ms : List Mom) (ws : List Wt) (ps : List Pri) (i : Int) (w : World) (e : Ending) (w' : World) : Prop :=
  Below w.heap.size w w' ∧ ((¬ Valid ms ws ps ∧ e = .returned (.tuple #[.slice none 0 0, .int .i64 1])) ∨
    (Valid ms ws ps ∧ ¬ (0 ≤ i ∧ i < (ms.length : Int)) ∧ e = .returned (.tuple #[.slice none 0 0, .int .i64 4])) ∨
    (Valid ms ws ps ∧ (0 ≤ i ∧ i < (ms.length : Int)) ∧ ∃ (v : Value) (L base sec : List Int) (kept : List Bool), e = .returned (.tuple #[v, .int .i64 0]) ∧ Sol ms ws ps base sec kept ∧ Chain ms ws base sec kept i L ∧ L.length < ms.length ∧
      w'.ownsRow w.heap.size 3 1 v L.length (L.map (Value.int .i64))))
def CsL (w2 : World) (ms : List Mom) (ws : List Wt) (base sec : List Int) (kept : List Bool) (rank : Int → Nat) (i0 : Int) (k : Nat) (v3 v12 : Value) (wr : World) : Prop :=
  ∃ (i : Nat) (L : List Int), v3 = .int .i64 i ∧ i < ms.length ∧ rank i = k ∧ L.length + rank i ≤ rank i0 ∧ (∀ R, Chain ms ws base sec kept i R → Chain ms ws base sec kept i0 (L ++ R)) ∧
    wr.ownsRow w2.heap.size 3 1 v12 L.length (L.map (Value.int .i64)) ∧ Below w2.heap.size w2 wr

set_option maxRecDepth 100000 in
set_option maxHeartbeats 3200000 in
theorem cause_any (A B C : Option Addr) (a b c a' b' c' : Nat) (ms : List Mom) (ws : List Wt) (ps : List Pri) (i : Int) (w : World) (hA : Rd w w.heap.size 2 A a (ms.flatMap Mom.cells)) (hB : Rd w w.heap.size 4 B b (ws.flatMap Wt.cells)) (hC : Rd w w.heap.size 2 C c (ps.flatMap Pri.cells))
    (ha : a = ms.length) (hb : b = ws.length) (hc : c = ps.length) (hal : ms.length ≤ 4611686018427387904) (hbl : ws.length ≤ 4611686018427387904) (hcl : ps.length ≤ 4611686018427387904) :
    Calls Try.prog 20 #[.slice A a a', .slice B b b', .slice C c c', .int .i64 i] w (CauseOut ms ws ps i w) := by
  subst ha hb hc
  have HA := Lib.hid hA
  have HB := Lib.hid hB
  have HC := Lib.hid hC
  obtain ⟨i0, hi0, hz0, hz1, hz2⟩ := info_parts infoInt
  have HI := Lib.hid (And.intro hi0 (And.intro hz0 (And.intro hz1 hz2)))
  clear hA hB hC hi0 hz0 hz1 hz2
  go_enter Try.func20, Try.ntmps20
  go_wp2_with fail
  refine (propagate_any A B C _ _ _ a' b' c' ms ws ps w HA.out HB.out HC.out rfl rfl rfl hal hbl hcl).mono ?_
  rintro e w1 ⟨hb1, hcase⟩
  have Hb1 := Lib.hid hb1
  have hs1 := hb1.size
  clear hb1
  rcases hcase with ⟨hv, vb, vs, vk, base, sec, kept, rfl, hsol, hob, hos, hok⟩ | ⟨hv, rfl⟩
  case inr =>
    have HV := Lib.hid hv
    clear hv
    go_wp2_with fail
    go_ret2
    exact ⟨(by have hbelh := Hb1.out; have hbels := hbelh.size; exact (by repeat (first | exact Below.refl _ _ | (with_reducible refine Below.drew ?_) | (with_reducible refine below_drewN ?_ _) | (with_reducible refine Below.alloc ?_ (by first | omega | (simp; done) | (simp; omega)) _) | (with_reducible refine Below.setCell ?_ (by first | omega | (simp; done) | (simp; omega)) _) | (refine Below.trans ?_ (Below.mono (by with_reducible assumption) (by first | omega | (simp; done) | (simp; omega))))))), .inl ⟨HV.out, rfl⟩⟩
  obtain ⟨Ab, cb, rfl, _, _⟩ := own_slice hob
  obtain ⟨As, cs, rfl, _, _⟩ := own_slice hos
  obtain ⟨Ak, ck, rfl, _, _⟩ := own_slice hok
  have HV := Lib.hid hv
  have Hsol := Lib.hid hsol
  have HSB := Lib.hid (hv.solB hsol)
  have HR := Lib.hid (And.intro (Rd.of_own hob) (And.intro (Rd.of_own hos) (Rd.of_own hok)))
  have hl6 : ms.length ≤ 64 := hv.1.m
  have hl2 : ws.length ≤ 200 := hv.1.w
  clear hv hsol hob hos hok
  by_cases h0 : 0 ≤ i
  case neg =>
    go_wp2_with fail
    go_ret2
    exact ⟨(by have hbelh := Hb1.out; have hbels := hbelh.size; exact (by repeat (first | exact Below.refl _ _ | (with_reducible refine Below.drew ?_) | (with_reducible refine below_drewN ?_ _) | (with_reducible refine Below.alloc ?_ (by first | omega | (simp; done) | (simp; omega)) _) | (with_reducible refine Below.setCell ?_ (by first | omega | (simp; done) | (simp; omega)) _) | (refine Below.trans ?_ (Below.mono (by with_reducible assumption) (by first | omega | (simp; done) | (simp; omega))))))), .inr (.inl ⟨HV.out, fun h => by omega, rfl⟩)⟩
  by_cases h1 : i < (ms.length : Int)
  case neg =>
    go_wp2_with fail
    go_ret2
    exact ⟨(by have hbelh := Hb1.out; have hbels := hbelh.size; exact (by repeat (first | exact Below.refl _ _ | (with_reducible refine Below.drew ?_) | (with_reducible refine below_drewN ?_ _) | (with_reducible refine Below.alloc ?_ (by first | omega | (simp; done) | (simp; omega)) _) | (with_reducible refine Below.setCell ?_ (by first | omega | (simp; done) | (simp; omega)) _) | (refine Below.trans ?_ (Below.mono (by with_reducible assumption) (by first | omega | (simp; done) | (simp; omega))))))), .inr (.inl ⟨HV.out, fun h => by omega, rfl⟩)⟩
  obtain ⟨i, rfl⟩ := Int.eq_ofNat_of_zero_le h0
  obtain ⟨rank, hr, hrn⟩ := acyc_rank HV.out.2 HSB.out.wk
  have Hr := Lib.hid hr
  have Hrn := Lib.hid (hrn i h0 h1)
  clear hr hrn
  have hd1 : decide ((i : Int) < 0) = false := by simp
  have hd2 : decide (ms.length ≤ i) = false := by simp; omega
  have hd3 : decide ((ms.length : Int) ≤ (i : Int)) = false := by simp; omega
  go_upto_region 7 with fail
  clear hd1 hd2 hd3
  have HX2 := Lib.hid (Blk.new w1 58 #[.slice Ab ms.length cb, .slice As ms.length cs, .slice Ak ws.length ck])
  have hb2 : Below w1.heap.size w1 (w1.alloc (.cells #[.slice Ab ms.length cb, .slice As ms.length cs, .slice Ak ws.length ck] 58)) := (Below.refl _ _).alloc (Nat.le_refl _) _
  have Hb2 := Lib.hid hb2
  have Hb02 := Lib.hid (Hb1.out.trans (hb2.mono hs1))
  have hxl := HX2.out.lt
  clear hb2
  generalize w1.alloc (.cells #[.slice Ab ms.length cb, .slice As ms.length cs, .slice Ak ws.length ck] 58) = w2 at *
  have HR2 := Lib.hid (And.intro ((HA.out.grow Hb02.out).more Hb02.out.size) (And.intro ((HB.out.grow Hb02.out).more Hb02.out.size) (And.intro ((HR.out.1.grow Hb2.out).more Hb2.out.size) (And.intro ((HR.out.2.1.grow Hb2.out).more Hb2.out.size) ((HR.out.2.2.grow Hb2.out).more Hb2.out.size)))))
  clear HR Hb2
  generalize w1.heap.size = X at *
  go_loopg [3, 12, 13] (rank i) (fun k v3 v12 _ wr => CsL w2 ms ws base sec kept rank i k v3 v12 wr)
  case atStart => exact ⟨i, [], rfl, by omega, rfl, by simp, fun R h => h, World.ownsRow_nil _ _ _ _, Below.refl _ _⟩
  case round =>
    obtain ⟨j, L, rfl, hj, hk, hlen, hch, hown, hbel⟩ := hrel
    have Hk := Lib.hid hk
    have Hlen := Lib.hid hlen
    have Hch := Lib.hid hch
    have HO := Lib.hid hown
    have HL := Lib.hid hbel
    clear hk hlen hch hown hbel
    have hX := HX2.out.same (HL.out.block X hxl)
    have x0 := hX.cell 0
    have x1 := hX.cell 1
    have x2 := hX.cell 2
    simp at x0 x1 x2
    clear hX
    have hsz := HL.out.size
    obtain ⟨A12, c12, rfl, hc12, hm12⟩ := own_slice HO.out
    unfold maxLen at hm12
    go_wp2_with fail
    refine (reason_any A B Ab As Ak _ _ _ _ _ a' b' ms ws base sec kept j wr ((HR2.out.1.grow HL.out).more hsz) ((HR2.out.2.1.grow HL.out).more hsz) ((HR2.out.2.2.1.grow HL.out).more hsz) ((HR2.out.2.2.2.1.grow HL.out).more hsz) ((HR2.out.2.2.2.2.grow HL.out).more hsz) rfl rfl HSB.out hj).mono ?_
    rintro e w5 ⟨rfl, hb5⟩
    have HO5 := Lib.hid (own_grow HO.out hb5)
    have HL5 := Lib.hid (HL.out.trans (hb5.mono hsz))
    clear x0 x1 x2 hb5 HO HL hsz
    have hsz := HL5.out.size
    rcases rsn_cases ms ws base sec kept j with ⟨e1, hc0⟩ | ⟨q, hq, e1, e2, e3, e4, hc0⟩
    · rw [e1]
      have HC0 := Lib.hid (Hch.out [] hc0)
      clear e1 hc0
      go_wp2_with fail
      go_ret2
      refine ⟨Hb02.out.trans (HL5.out.mono Hb02.out.size), .inr (.inr ⟨HV.out, ⟨by omega, by omega⟩, _, L, base, sec, kept, rfl, Hsol.out, by simpa using HC0.out, ?_, own_base HO5.out Hb02.out.size⟩)⟩
      have := Hlen.out
      have := Hrn.out
      omega
    · rw [e1]
      have HC0 := Lib.hid hc0
      have Hrk := Lib.hid (Hr.out ws[q] (List.getElem_mem hq))
      rw [e2] at Hrk
      have hok := HSB.out.wk ws[q] (List.getElem_mem hq)
      obtain ⟨bw, ow, rfl, hbw, d0, _⟩ := rdWt (HR2.out.2.1.grow HL5.out) rfl q hq
      clear e1 e2 e3 e4 hc0
      have f0 : 0 ≤ ws[q].fr := hok.f0
      have f1 : ws[q].fr < ms.length := hok.f1
      clear hok
      have hll : L.length ≤ 64 := by have := Hlen.out; have := Hrn.out; omega
      generalize ws[q].fr = f at *
      obtain ⟨f, rfl⟩ := Int.eq_ofNat_of_zero_le f0
      go_wp2_with (at_builtin; refine wpList_append_own_at _ rfl _ _ 22 rfl w2.heap.size 3 i0 _ 1 8 Try.underlying22 HI.out.1 HI.out.2.1 HI.out.2.2.1 HI.out.2.2.2 rfl (by omega) _ L.length _ rfl (World.ownsRow.alloc HO5.out _) ⟨w5.heap.size, 0, none⟩ 1 1 [.int .i64 (q : Int)] rfl rfl ?c0 ?c1 ?c2 ?c3 ?c4 ?_; rotate_right; intro v' w' hown' hg' _ hat'; have d1 := cell_app hg' ((World.cell?_alloc_lt _ _ _ (World.block_lt_of_cell? _ _ d0)).trans d0) (fun e => by have := (own_block HO5.out _ e).1; omega))
      case c0 => exact news_new _ _ _
      case c1 => intro u hu; simp at hu; subst hu; rfl
      case c2 => simp only [maxLen]; omega
      case c3 => omega
      case c4 => simp; omega
      have HO6 := Lib.hid hown'
      have HL6 := Lib.hid (below_app (HL5.out.alloc hsz _) (World.ownsRow.alloc HO5.out _) (Nat.le_refl _) (by simp; omega) hg')
      clear hown' hg' hat' d0 d1
      go_roundg (rank f)
      case measure => have := Hrk.out; have := Hk.out; omega
      case rel =>
        refine ⟨f, L ++ [(q : Int)], rfl, by omega, rfl, by have := Hrk.out; have := Hlen.out; simp; omega, fun R hR => ?_, by rw [List.length_append, List.map_append]; exact HO6.out, HL6.out⟩
        have := Hch.out _ (HC0.out R hR)
        simpa using this
end Go.Proofs.Ytddkfdfgfkejoaa
