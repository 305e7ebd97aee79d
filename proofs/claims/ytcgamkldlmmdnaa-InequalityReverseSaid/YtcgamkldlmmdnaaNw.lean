import Derived.Test.YtcgamkldlmmdnaaIne9
import Derived.Deep.RegionLaw
namespace Go.Proofs.Ytcgamkldlmmdnaa
open Go.RowKit

theorem Turn.cell {b : Nat} {w w' : World} (t : Turn b w w') {g o : Nat} {u : Value} (h : w.cell? ⟨g, o, none⟩ = some u) (hne : g ≠ b) : w'.cell? ⟨g, o, none⟩ = some u := (World.cell?_of_block (t.block g hne)).trans h
theorem Turn.blk {b : Nat} {w w' : World} (t : Turn b w w') {g : Nat} {ty : TypeId} {cs : Array Value} (h : Blk w g ty cs) (hne : g ≠ b) : Blk w' g ty cs := h.same (t.block g hne)
structure Evt where
  kd : Int
  ln : Int
  rd : Int
def Evt.cells (x : Evt) : List Value := [.int .i64 x.kd, .int .i64 x.ln, .int .i64 x.rd]
theorem Evt.len (x : Evt) : x.cells.length = 3 := rfl
theorem Evt.one (x : Evt) : ∀ u ∈ x.cells, u.oneCell' = true := by intro u hu; simp only [Evt.cells, List.mem_cons, List.not_mem_nil, or_false] at hu; rcases hu with rfl | rfl | rfl <;> rfl
theorem infoEvt : (Try.prog.info? 60).map (fun i => (i.zero, i.size, i.bytes)) = some (some (.agg #[.int .i64 0, .int .i64 0, .int .i64 0]), 3, 24) := by kernel_rfl
/-- the memory of keep.Network: the result's block R, the source's b, the network's B -/
structure NW (w : World) (R b B : Nat) (T : Int) (l : List Int) (vE : Value) (es : List Evt) (vA : Value) (acts : List Act) (wr : World) : Prop where
  bel : Below w.heap.size w wr
  src : Src wr b l
  res : Blk wr R 26 #[.int .i64 0, .slice none 0 0, .slice none 0 0]
  net : Blk wr B 26 #[.int .i64 T, vE, vA]
  oe : wr.ownsRow (B + 1) 60 3 vE es.length (es.flatMap Evt.cells)
  oa : wr.ownsRow (B + 1) 62 6 vA acts.length (acts.flatMap Act.cells)
  hR : w.heap.size ≤ R
  hb : R < b
  hB : b < B
section
variable {w wr w' : World} {R b B : Nat} {T : Int} {l l' : List Int} {vE vA : Value} {es : List Evt} {acts : List Act}
theorem NW.turn (h : NW w R b B T l vE es vA acts wr) (hs : Src w' b l') (ht : Turn b wr w') : NW w R b B T l' vE es vA acts w' :=
  ⟨ht.below h.bel (by have := h.hR; have := h.hb; omega), hs, ht.blk h.res (by have := h.hb; omega), ht.blk h.net (by have := h.hB; omega), own_turn h.oe ht (by have := h.hB; omega), own_turn h.oa ht (by have := h.hB; omega), h.hR, h.hb, h.hB⟩
theorem NW.grow (h : NW w R b B T l vE es vA acts wr) (hb : Below wr.heap.size wr w') : NW w R b B T l vE es vA acts w' :=
  ⟨h.bel.trans (hb.mono h.bel.size), h.src.keep (fun k hk => hb.block k (by have := h.net.lt; have := h.hB; omega)), h.res.bel hb, h.net.bel hb, own_grow h.oe hb, own_grow h.oa hb, h.hR, h.hb, h.hB⟩
theorem Blk.grown {X : World} {row : Option Nat} {g : Nat} {ty : TypeId} {cs : Array Value} (h : Blk X g ty cs) (hg : X.grownBy w' row) (hne : row ≠ some g) : Blk w' g ty cs := h.same (hg.block g h.lt (fun e => hne e.symm))
theorem NW.blkG (h : NW w R b B T l vE es vA acts wr) {o : Obj} {v : Value} {e : TypeId} {s m : Nat} {xs : List Value} (hv : wr.ownsRow (B + 1) e s v m xs) (hg : (wr.alloc o).grownBy w' v.ownBlock) : Blk w' B 26 #[.int .i64 T, vE, vA] :=
  (h.net.al o).grown hg (fun e => by have := (own_block hv _ e).1; omega)
theorem NW.appE (h : NW w R b B T l vE es vA acts wr) {o : Obj} {v' : Value} {x : Evt} (hown : w'.ownsRow (B + 1) 60 3 v' (es.length + 1) (es.flatMap Evt.cells ++ x.cells)) (hg : (wr.alloc o).grownBy w' vE.ownBlock) : NW w R b B T l v' (es ++ [x]) vA acts (w'.setCell ⟨B, 1, none⟩ v') := by
  have hbe := own_block h.oe
  have hB := h.hB
  have hb := h.hb
  have hR := h.hR
  have hl := h.net.lt
  have hsz := h.bel.size
  have hng : ∀ g, g ≤ B → vE.ownBlock ≠ some g := fun g hg e => by have := (hbe g e).1; omega
  refine ⟨(below_app (h.bel.alloc h.bel.size _) (World.ownsRow.alloc h.oe _) (by omega) (by simp; omega) hg).setCell (by simp; omega) _, ?_, ((h.res.al o).grown hg (hng R (by omega))).far (by omega), ?_, ?_, ?_, hR, hb, hB⟩
  · refine h.src.keep (fun k hk => ?_)
    rw [Below.heap_setCell _ _ _ _ (by simp; omega), hg.block k (by simp; omega) (fun e => hng k (by omega) e.symm), Below.heap_alloc _ _ _ (by omega)]
  · exact ((h.net.al o).grown hg (hng B (by omega))).set_ 1 v'
  · rw [List.length_append, List.flatMap_append]
    simp only [List.flatMap_cons, List.flatMap_nil, List.append_nil, List.length_cons, List.length_nil]
    exact own_far hown (fun e => by have := (own_block hown _ e).1; simp at this; omega)
  · exact own_far (own_app (World.ownsRow.alloc h.oa _) (World.ownsRow.alloc h.oe _) (by decide) hg) (fun e => by have := (own_block h.oa _ e).1; simp at this; omega)
theorem NW.appA (h : NW w R b B T l vE es vA acts wr) {o : Obj} {v' : Value} {x : Act} (hown : w'.ownsRow (B + 1) 62 6 v' (acts.length + 1) (acts.flatMap Act.cells ++ x.cells)) (hg : (wr.alloc o).grownBy w' vA.ownBlock) : NW w R b B T l vE es v' (acts ++ [x]) (w'.setCell ⟨B, 2, none⟩ v') := by
  have hbe := own_block h.oa
  have hB := h.hB
  have hb := h.hb
  have hR := h.hR
  have hl := h.net.lt
  have hsz := h.bel.size
  have hng : ∀ g, g ≤ B → vA.ownBlock ≠ some g := fun g hg e => by have := (hbe g e).1; omega
  refine ⟨(below_app (h.bel.alloc h.bel.size _) (World.ownsRow.alloc h.oa _) (by omega) (by simp; omega) hg).setCell (by simp; omega) _, ?_, ((h.res.al o).grown hg (hng R (by omega))).far (by omega), ?_, ?_, ?_, hR, hb, hB⟩
  · refine h.src.keep (fun k hk => ?_)
    rw [Below.heap_setCell _ _ _ _ (by simp; omega), hg.block k (by simp; omega) (fun e => hng k (by omega) e.symm), Below.heap_alloc _ _ _ (by omega)]
  · exact ((h.net.al o).grown hg (hng B (by omega))).set_ 2 v'
  · exact own_far (own_app (World.ownsRow.alloc h.oe _) (World.ownsRow.alloc h.oa _) (by decide) hg) (fun e => by have := (own_block h.oe _ e).1; simp at this; omega)
  · rw [List.length_append, List.flatMap_append]
    simp only [List.flatMap_cons, List.flatMap_nil, List.append_nil, List.length_cons, List.length_nil]
    exact own_far hown (fun e => by have := (own_block hown _ e).1; simp at this; omega)
theorem NW.drew (h : NW w R b B T l vE es vA acts wr) : NW w R b B T l vE es vA acts wr.drew := h.grow (Below.refl _ _).drew
end
def NL1 (w : World) (R b B : Nat) (T : Int) (k : Nat) (v5 : Value) (wr : World) : Prop :=
  ∃ (j : Nat) (l : List Int) (vE : Value) (es : List Evt), v5 = .int .i64 (j : Int) ∧ j = k ∧ es.length + j ≤ 5 ∧ 1 ≤ es.length + j ∧ NW w R b B T l vE es (.slice none 0 0) [] wr

/-- with an activity of the call's own in block Xa -/
structure NWA (w : World) (R b B Xa : Nat) (T : Int) (l : List Int) (vE : Value) (es : List Evt) (vA : Value) (acts : List Act) (cs : Array Value) (wr : World) : Prop where
  nw : NW w R b B T l vE es vA acts wr
  ak : Blk wr Xa 62 cs
  hX : B < Xa
  e1 : vE.ownBlock ≠ some Xa
  e2 : vA.ownBlock ≠ some Xa
section
variable {w wr w' : World} {R b B Xa : Nat} {T : Int} {l l' : List Int} {vE vA : Value} {es : List Evt} {acts : List Act} {cs : Array Value}
theorem NWA.turn (h : NWA w R b B Xa T l vE es vA acts cs wr) (hs : Src w' b l') (ht : Turn b wr w') : NWA w R b B Xa T l' vE es vA acts cs w' :=
  ⟨h.nw.turn hs ht, ht.blk h.ak (by have := h.hX; have := h.nw.hB; omega), h.hX, h.e1, h.e2⟩
theorem NWA.set (h : NWA w R b B Xa T l vE es vA acts cs wr) (i : Nat) (u : Value) : NWA w R b B Xa T l vE es vA acts (cs.setIfInBounds i u) (wr.setCell ⟨Xa, i, none⟩ u) := by
  have hX := h.hX
  have hB := h.nw.hB
  have hb := h.nw.hb
  have hR := h.nw.hR
  refine ⟨⟨h.nw.bel.setCell (by simp; omega) _, h.nw.src.keep (fun k hk => Below.heap_setCell _ _ _ _ (by simp; omega)), h.nw.res.far (by omega), h.nw.net.far (by omega), own_far h.nw.oe h.e1, own_far h.nw.oa h.e2, hR, hb, hB⟩, h.ak.set_ i u, hX, h.e1, h.e2⟩
theorem NWA.drew (h : NWA w R b B Xa T l vE es vA acts cs wr) : NWA w R b B Xa T l vE es vA acts cs wr.drew := ⟨h.nw.drew, h.ak.dr, h.hX, h.e1, h.e2⟩
theorem NW.withA (h : NW w R b B T l vE es vA acts wr) (cs : Array Value) : NWA w R b B wr.heap.size T l vE es vA acts cs (wr.alloc (.cells cs 62)) :=
  ⟨h.grow ((Below.refl _ _).alloc (Nat.le_refl _) _), Blk.new _ _ _, h.net.lt, fun e => by have := (own_block h.oe _ e).2; omega, fun e => by have := (own_block h.oa _ e).2; omega⟩
end
/-- what keep.Network makes -/
structure NetSm (T : Int) (ne : Nat) (acts : List Act) : Prop where
  t0 : 2 ≤ T
  t1 : T ≤ 9
  e0 : 1 ≤ ne
  e1 : ne ≤ 5
  n : acts.length ≤ 8
  a : ∀ x ∈ acts, 0 ≤ x.fr ∧ x.fr < ne ∧ 0 ≤ x.tt ∧ x.tt < ne ∧ x.fr ≠ x.tt ∧ -T ≤ x.mn ∧ x.mn < 2 * T ∧ x.mn ≤ x.mx ∧ x.mx - x.mn < T ∧ 0 ≤ x.wt ∧ x.wt < 5
theorem NetSm.ok {T : Int} {ne : Nat} {acts : List Act} (h : NetSm T ne acts) : NetOk T ne acts :=
  ⟨h.t0, by have := h.t1; omega, by have := h.e1; omega, by have := h.n; omega, fun x hx => by
    have := h.a x hx
    have := h.t1
    exact ⟨by omega, by omega, by omega, by omega, by omega, by omega, by omega, by omega, by omega, by omega, by omega⟩⟩
def NL2 (w : World) (R b B : Nat) (T : Int) (vE : Value) (es : List Evt) (k : Nat) (v7 : Value) (wr : World) : Prop :=
  ∃ (j : Nat) (l : List Int) (vA : Value) (acts : List Act), v7 = .int .i64 (j : Int) ∧ j = k ∧ acts.length + j ≤ 8 ∧ (∀ x ∈ acts, 0 ≤ x.fr ∧ x.fr < es.length ∧ 0 ≤ x.tt ∧ x.tt < es.length ∧ x.fr ≠ x.tt ∧ -T ≤ x.mn ∧ x.mn < 2 * T ∧ x.mn ≤ x.mx ∧ x.mx - x.mn < T ∧ 0 ≤ x.wt ∧ x.wt < 5) ∧ NW w R b B T l vE es vA acts wr
/-- the network that comes back -/
def NetOut (w : World) (e : Ending) (w' : World) : Prop :=
  ∃ (T : Int) (AE AA : Option Addr) (ne ce ca : Nat) (acts : List Act), e = .returned (.agg #[.int .i64 T, .slice AE ne ce, .slice AA acts.length ca]) ∧ NetSm T ne acts ∧ w'.ownsRow (w.heap.size + 1) 62 6 (.slice AA acts.length ca) acts.length (acts.flatMap Act.cells) ∧ Below w.heap.size w w'
theorem infoAct' : (Try.prog.info? 62).map (fun i => (i.zero, i.size, i.bytes)) = some (some (.agg #[.int .i64 0, .int .i64 0, .int .i64 0, .int .i64 0, .int .i64 0, .int .i64 0]), 6, 48) := infoAct

set_option maxRecDepth 100000 in
set_option maxHeartbeats 6400000 in
theorem mknet_any (A : Option Addr) (n c : Nat) (z : List Int) (w : World) (h : Rd w w.heap.size 1 A n (z.map (Value.int .i64))) (hn : n ≤ maxLen) :
    Calls Try.prog 12 #[.slice A n c] w (NetOut w) := by
  have H := Lib.hid h
  have HN := Lib.hid hn
  clear h hn
  obtain ⟨HEi, a1, a2, a3, a4⟩ := info_parts infoEvt
  have HE := Lib.hid (And.intro a1 (And.intro a2 (And.intro a3 a4)))
  clear a1 a2 a3 a4
  obtain ⟨HAi, a1, a2, a3, a4⟩ := info_parts infoAct
  have HAI := Lib.hid (And.intro a1 (And.intro a2 (And.intro a3 a4)))
  clear a1 a2 a3 a4
  have Hb0 := Lib.hid (show Below w.heap.size w (w.alloc (.cells #[.int .i64 0, .slice none 0 0, .slice none 0 0] 26)) from (Below.refl _ _).alloc (Nat.le_refl _) _)
  have HR0 := Lib.hid (Blk.new w 26 #[.int .i64 0, .slice none 0 0, .slice none 0 0])
  go_enter Try.func12, Try.ntmps12
  go_wp2_with fail
  obtain ⟨R, hR⟩ : ∃ R, R = w.heap.size := ⟨_, rfl⟩
  generalize hw0 : w.alloc (.cells #[.int .i64 0, .slice none 0 0, .slice none 0 0] 26) = w0 at *
  have hz0 : w0.heap.size = w.heap.size + 1 := by rw [← hw0]; simp
  clear hw0
  rw [← hR] at ⊢
  rw [show Blk w0 w.heap.size 26 #[.int .i64 0, .slice none 0 0, .slice none 0 0] = Blk w0 R 26 #[.int .i64 0, .slice none 0 0, .slice none 0 0] by rw [hR]] at HR0
  refine (from_any A n c z w0 ((H.out.grow Hb0.out).more Hb0.out.size) HN.out).mono ?_
  rintro e w1 ⟨rfl, hs1, hb1, hz1⟩
  generalize w0.heap.size = b at *
  have HRb := Lib.hid (show w.heap.size ≤ R ∧ R < b ∧ w1.heap.size = b + 1 by omega)
  have Hs1 := Lib.hid hs1
  have Hb1 := Lib.hid (Hb0.out.trans (hb1.mono (by omega)))
  have HR1 := Lib.hid (HR0.out.same (hb1.block R (by omega)))
  clear hs1 hb1 hz1 hz0 Hb0 HR0 hR
  go_wp2_with fail
  refine (next_any b z 8 w1 Hs1.out (by omega) (by omega)).mono ?_
  rintro e w2 ⟨rfl, hs2, ht2⟩
  have hk := nextV_bd z 8 (by omega) (by omega)
  generalize nextV z 8 = q at *
  obtain ⟨hq0, hq1⟩ := hk
  have HN2 := Lib.hid (show NW w R b w2.heap.size (2 + q) z.tail (.slice none 0 0) [] (.slice none 0 0) [] (w2.alloc (.cells #[.int .i64 (2 + q), .slice none 0 0, .slice none 0 0] 26)) from
    ⟨(ht2.below Hb1.out (by have := HRb.out; omega)).alloc (by rw [ht2.size]; have := HRb.out; omega) _, hs2.keep (fun k hk => Below.heap_alloc _ _ _ (by rw [ht2.size]; have := HRb.out; omega)), (ht2.blk HR1.out (by have := HRb.out; omega)).al _, Blk.new _ _ _, World.ownsRow_nil _ _ _ _, World.ownsRow_nil _ _ _ _, HRb.out.1, HRb.out.2.1, by rw [ht2.size]; have := HRb.out; omega⟩)
  clear hs2 ht2 Hs1 Hb1 HR1 HRb
  go_upto_region 3 with fail
  generalize w2.alloc (.cells #[.int .i64 (2 + q), .slice none 0 0, .slice none 0 0] 26) = w3 at *
  generalize w2.heap.size = B at *
  have hT0 : 2 ≤ 2 + q := by omega
  have hT1 : 2 + q ≤ 9 := by omega
  generalize 2 + q = T at *
  clear hq0 hq1
  go_wp2_with fail
  refine (next_any b z.tail 5 w3 HN2.out.src (by omega) (by omega)).mono ?_
  rintro e w4 ⟨rfl, hs2, ht2⟩
  have HN3 := Lib.hid (HN2.out.turn hs2 ht2)
  have hk := nextV_bd z.tail 5 (by omega) (by omega)
  generalize nextV z.tail 5 = q2 at *
  generalize z.tail.tail = l0 at *
  clear hs2 ht2 HN2 H
  obtain ⟨hq0, hq1⟩ := hk
  obtain ⟨m, rfl⟩ := Int.eq_ofNat_of_zero_le hq0
  go_wp2_with fail
  go_loopg [5] (1 + m) (fun k v5 wr => NL1 w R b B T k v5 wr)
  case atStart => exact ⟨1 + m, l0, _, [], by first | rfl | go_num, rfl, by simp; try omega, by simp; try omega, HN3.out⟩
  case round =>
    obtain ⟨j, l, vE, es, rfl, rfl, hl5, hl1, hnw⟩ := hrel
    clear HN3
    have HNW := Lib.hid hnw
    clear hnw
    obtain ⟨AE, ce, rfl, hce, hme⟩ := own_slice HNW.out.oe
    unfold maxLen at hme
    cases j with
    | zero =>
      have x1 := HNW.out.net.cell 1
      simp at x1
      go_wp2_with fail
      refine (next_any b _ _ _ HNW.out.src (by omega) (by omega)).mono ?_
      rintro e w5 ⟨rfl, hs2, ht2⟩
      have HN5 := Lib.hid (HNW.out.turn hs2 ht2)
      have hk := nextV_bd l 9 (by omega) (by omega)
      generalize nextV l 9 = q9 at *
      obtain ⟨hq90, hq91⟩ := hk
      clear hs2 ht2 HNW
      obtain ⟨k9, rfl⟩ := Int.eq_ofNat_of_zero_le hq90
      generalize l.tail = l1 at *
      have hes1 : 1 ≤ es.length := by omega
      have hes5 : es.length ≤ 5 := by omega
      clear x1 hl5 hl1
      go_wp2_with fail
      go_loopg [7, 8] k9 (fun k v7 _ wr => NL2 w R b B T (.slice AE es.length ce) es k v7 wr)
      case atStart => exact ⟨k9, l1, _, [], rfl, rfl, by simp; omega, by simp, HN5.out⟩
      case round =>
        obtain ⟨j, l2, vA, acts, rfl, rfl, hla, hok, hnw⟩ := hrel
        clear HN5
        have HNW := Lib.hid hnw
        have Hok := Lib.hid hok
        clear hnw hok
        cases j with
        | zero =>
          obtain ⟨AA, ca, rfl, hca, hma⟩ := own_slice HNW.out.oa
          have x0 := HNW.out.net.cell 0
          have x1 := HNW.out.net.cell 1
          have x2 := HNW.out.net.cell 2
          have r0 := HNW.out.res.cell 0
          have r1 := HNW.out.res.cell 1
          have r2 := HNW.out.res.cell 2
          have f0 := HNW.out.res.frozen 0
          have f1 := HNW.out.res.frozen 1
          have f2 := HNW.out.res.frozen 2
          simp at x0 x1 x2 r0 r1 r2
          have HZ := Lib.hid (((HNW.out.res.set_ 0 (.int .i64 T)).set_ 1 (.slice AE es.length ce)).set_ 2 (.slice AA acts.length ca))
          have hRw := HNW.out.hR
          have HNS := Lib.hid (show NetSm T es.length acts from ⟨hT0, hT1, hes1, hes5, by omega, Hok.out⟩)
          have hRB : R < B := by have := HNW.out.hb; have := HNW.out.hB; omega
          have HOA := Lib.hid (own_base (own_far (p := ⟨R, 2, none⟩) (u := .slice AA acts.length ca) (own_far (p := ⟨R, 1, none⟩) (u := .slice AE es.length ce) (own_far (p := ⟨R, 0, none⟩) (u := .int .i64 T) HNW.out.oa (fun e => by have := (own_block HNW.out.oa _ e).1; simp at this; omega)) (fun e => by have := (own_block HNW.out.oa _ e).1; simp at this; omega)) (fun e => by have := (own_block HNW.out.oa _ e).1; simp at this; omega)) (show w.heap.size + 1 ≤ B + 1 by omega))
          have HBL := Lib.hid (((HNW.out.bel.setCell (p := ⟨R, 0, none⟩) (by simp; omega) (.int .i64 T)).setCell (p := ⟨R, 1, none⟩) (by simp; omega) (.slice AE es.length ce)).setCell (p := ⟨R, 2, none⟩) (by simp; omega) (.slice AA acts.length ca))
          go_wp2_with fail
          have g0 := HZ.out.cell 0
          have g1 := HZ.out.cell 1
          have g2 := HZ.out.cell 2
          simp at g0 g1 g2
          exact bodyPost_ret (v := .agg #[.int .i64 T, .slice AE es.length ce, .slice AA acts.length ca]) (by simp [results, Try.results12, go_sem, g0, g1, g2]) rfl ⟨T, AE, AA, es.length, ce, ca, acts, rfl, HNS.out, HOA.out, HBL.out⟩
        | succ j =>
        by_cases hes : es.length ≤ 1
        · have hes' : decide (1 < es.length) = false := by simp; omega
          obtain ⟨AA, ca, rfl, hca, hma⟩ := own_slice HNW.out.oa
          have x0 := HNW.out.net.cell 0
          have x1 := HNW.out.net.cell 1
          have x2 := HNW.out.net.cell 2
          have r0 := HNW.out.res.cell 0
          have r1 := HNW.out.res.cell 1
          have r2 := HNW.out.res.cell 2
          have f0 := HNW.out.res.frozen 0
          have f1 := HNW.out.res.frozen 1
          have f2 := HNW.out.res.frozen 2
          simp at x0 x1 x2 r0 r1 r2
          have HZ := Lib.hid (((HNW.out.res.set_ 0 (.int .i64 T)).set_ 1 (.slice AE es.length ce)).set_ 2 (.slice AA acts.length ca))
          have hRw := HNW.out.hR
          have HNS := Lib.hid (show NetSm T es.length acts from ⟨hT0, hT1, hes1, hes5, by omega, Hok.out⟩)
          have hRB : R < B := by have := HNW.out.hb; have := HNW.out.hB; omega
          have HOA := Lib.hid (own_base (own_far (p := ⟨R, 2, none⟩) (u := .slice AA acts.length ca) (own_far (p := ⟨R, 1, none⟩) (u := .slice AE es.length ce) (own_far (p := ⟨R, 0, none⟩) (u := .int .i64 T) HNW.out.oa (fun e => by have := (own_block HNW.out.oa _ e).1; simp at this; omega)) (fun e => by have := (own_block HNW.out.oa _ e).1; simp at this; omega)) (fun e => by have := (own_block HNW.out.oa _ e).1; simp at this; omega)) (show w.heap.size + 1 ≤ B + 1 by omega))
          have HBL := Lib.hid (((HNW.out.bel.setCell (p := ⟨R, 0, none⟩) (by simp; omega) (.int .i64 T)).setCell (p := ⟨R, 1, none⟩) (by simp; omega) (.slice AE es.length ce)).setCell (p := ⟨R, 2, none⟩) (by simp; omega) (.slice AA acts.length ca))
          go_wp2_with fail
          have g0 := HZ.out.cell 0
          have g1 := HZ.out.cell 1
          have g2 := HZ.out.cell 2
          simp at g0 g1 g2
          exact bodyPost_ret (v := .agg #[.int .i64 T, .slice AE es.length ce, .slice AA acts.length ca]) (by simp [results, Try.results12, go_sem, g0, g1, g2]) rfl ⟨T, AE, AA, es.length, ce, ca, acts, rfl, HNS.out, HOA.out, HBL.out⟩
        · have hes2 : 2 ≤ es.length := by omega
          go_wp2_with fail
          refine (next_any b _ _ _ HNW.out.src (by omega) (by omega)).mono ?_
          rintro e w6 ⟨rfl, hs2, ht2⟩
          have HN6 := Lib.hid (HNW.out.turn hs2 ht2)
          have hk := nextV_bd l2 6 (by omega) (by omega)
          generalize nextV l2 6 = q6 at *
          obtain ⟨hq60, hq61⟩ := hk
          clear hs2 ht2 HNW
          generalize l2.tail = l3 at *
          go_wp2_with fail
          refine (next_any b _ _ _ HN6.out.src (by omega) (by omega)).mono ?_
          rintro e w7 ⟨rfl, hs2, ht2⟩
          have HN7 := Lib.hid (HN6.out.turn hs2 ht2)
          have hk := nextV_bd l3 (es.length : Int) (by omega) (by omega)
          generalize nextV l3 (es.length : Int) = fr at *
          obtain ⟨hfr0, hfr1⟩ := hk
          clear hs2 ht2 HN6
          generalize l3.tail = l4 at *
          go_wp2_with fail
          refine (next_any b _ _ _ HN7.out.src (by omega) (by omega)).mono ?_
          rintro e w8 ⟨rfl, hs2, ht2⟩
          have HN8 := Lib.hid (HN7.out.turn hs2 ht2)
          have hk := nextV_bd l4 5 (by omega) (by omega)
          generalize nextV l4 5 = wt at *
          obtain ⟨hwt0, hwt1⟩ := hk
          clear hs2 ht2 HN7
          generalize l4.tail = l5 at *
          go_upto_region 12 with fail
          refine world_gen (fun wx => NWA w R b B w8.heap.size T l5 (.slice AE es.length ce) es vA acts #[.int .i64 (1 + q6), .int .i64 fr, .int .i64 0, .int .i64 0, .int .i64 0, .int .i64 wt] wx) (HN8.out.withA _) ?_
          generalize w8.heap.size = Xa
          intro wx hnwa
          clear HN8
          have hx1 := hnwa.ak.cell 1
          simp at hx1
          have hnd := hnwa.drew
          have hsd := hnd.nw.src
          have hXb : Xa ≠ b := by have := hnwa.hX; have := hnwa.nw.hB; omega
          have hkq := nextV_bd l5 ((es.length : Int) - 1) (by omega) (by omega)
          have e1 : IntKind.i64.wrap (fr + 1) = fr + 1 := IntWalk.i64_in _ (by omega)
          have e2 : IntKind.i64.wrap ((es.length : Int) - 1) = (es.length : Int) - 1 := IntWalk.i64_in _ (by omega)
          have e3 : IntKind.i64.wrap (fr + 1 + nextV l5 ((es.length : Int) - 1)) = fr + 1 + nextV l5 ((es.length : Int) - 1) := IntWalk.i64_in _ (by omega)
          have e4 : (fr + 1 + nextV l5 ((es.length : Int) - 1)).tmod (es.length : Int) = (fr + 1 + nextV l5 ((es.length : Int) - 1)) % (es.length : Int) := Int.tmod_eq_emod_of_nonneg (by omega)
          have hz1 : ¬ ((es.length : Int) = 0) := by omega
          have hz2 : ((es.length : Int) == 0) = false := by simpa using hz1
          have hz3 : ¬ es = [] := fun h => by rw [h] at hes2; simp at hes2
          go_region_held3 (fun w' => w'.cell? ⟨Xa, 1, none⟩ = some (.int .i64 fr)) (first | go_keep | exact ht.cell (by assumption) hXb | exact ((hna.set 2 _).ak.cell 1).trans rfl) (first | (go_at_call 33; refine (next_any b _ _ _ (by assumption) (by omega) (by omega)).mono ?_; rintro e w5 ⟨rfl, hs, ht⟩; have hna : NWA w R b B Xa T _ (.slice AE es.length ce) es vA acts #[.int .i64 (1 + q6), .int .i64 fr, .int .i64 0, .int .i64 0, .int .i64 0, .int .i64 wt] w5 := NWA.turn (by assumption) hs ht; have hak := hna.ak; have ha2 := hak.cell 2; have hf2 := hak.frozen 2; simp at ha2))
          have HQ := Lib.hid hkq
          have H12 := Lib.hid (hna.set 2 (.int .i64 ((fr + 1 + nextV l5 ((es.length : Int) - 1)) % (es.length : Int))))
          clear e1 e2 e3 e4 hz1 hz2 hz3 hkq hna hak ha2 hf2 hs ht hsd hnd hnwa hx1
          generalize hqv : nextV l5 ((es.length : Int) - 1) = qt at *
          have Htt := Lib.hid (show 0 ≤ (fr + 1 + qt) % (es.length : Int) ∧ (fr + 1 + qt) % (es.length : Int) < es.length ∧ fr ≠ (fr + 1 + qt) % (es.length : Int) by
            have := HQ.out
            have h1 := Int.emod_nonneg (fr + 1 + qt) (show (es.length : Int) ≠ 0 by omega)
            have h2 := Int.emod_lt_of_pos (fr + 1 + qt) (show 0 < (es.length : Int) by omega)
            refine ⟨h1, h2, fun e => ?_⟩
            have h3 := Int.mul_ediv_add_emod (fr + 1 + qt) es.length
            by_cases c : fr + 1 + qt < es.length
            · rw [Int.emod_eq_of_lt (by omega) c] at e; omega
            · rw [show (fr + 1 + qt) % (es.length : Int) = fr + 1 + qt - es.length by
                rw [← Int.sub_emod_right]
                exact Int.emod_eq_of_lt (by omega) (by omega)] at e
              omega)
          generalize (fr + 1 + qt) % (es.length : Int) = tt at *
          clear hqv HQ
          simp only [List.setIfInBounds_toArray, List.set_cons_succ, List.set_cons_zero] at H12
          go_upto_region 13 with fail
          refine world_gen (fun wx => NWA w R b B Xa T l5.tail (.slice AE es.length ce) es vA acts #[.int .i64 (1 + q6), .int .i64 fr, .int .i64 tt, .int .i64 0, .int .i64 0, .int .i64 wt] wx) (by first | exact H12.out | exact H12.out.drew) ?_
          intro wx13 hnwa
          clear H12
          generalize l5.tail = l6 at *
          have hx0 := hnwa.nw.net.cell 0
          simp at hx0
          have hnd := hnwa.drew
          have hsd := hnd.nw.src
          have hBb : B ≠ b := by have := hnwa.nw.hB; omega
          have hBX : B ≠ Xa := by have := hnwa.hX; omega
          have hkq := nextV_bd l6 (3 * T) (by omega) (by omega)
          have e1 : IntKind.i64.wrap (3 * T) = 3 * T := IntWalk.i64_in _ (by omega)
          have e2 : IntKind.i64.wrap (nextV l6 (3 * T) - T) = nextV l6 (3 * T) - T := IntWalk.i64_in _ (by omega)
          go_region_held3 (fun w' => w'.cell? ⟨B, 0, none⟩ = some (.int .i64 T)) (first | go_keep | exact ht.cell (by assumption) hBb | exact ((hna.set 3 _).nw.net.cell 0).trans rfl) (first | (go_at_call 33; refine (next_any b _ _ _ (by assumption) (by omega) (by omega)).mono ?_; rintro e w5 ⟨rfl, hs, ht⟩; have hna : NWA w R b B Xa T _ (.slice AE es.length ce) es vA acts #[.int .i64 (1 + q6), .int .i64 fr, .int .i64 tt, .int .i64 0, .int .i64 0, .int .i64 wt] w5 := NWA.turn (by assumption) hs ht; have hak := hna.ak; have ha2 := hak.cell 3; have hf2 := hak.frozen 3; simp at ha2))
          have H13 := Lib.hid (hna.set 3 (.int .i64 (nextV l6 (3 * T) - T)))
          clear e1 e2 hna hak ha2 hf2 hs ht hsd hnd hnwa hx0
          have hmn0 : -T ≤ nextV l6 (3 * T) - T := by omega
          have hmn1 : nextV l6 (3 * T) - T < 2 * T := by omega
          clear hkq
          generalize nextV l6 (3 * T) - T = mn at *
          simp only [List.setIfInBounds_toArray, List.set_cons_succ, List.set_cons_zero] at H13
          go_upto_region 14 with fail
          refine world_gen (fun wx => NWA w R b B Xa T l6.tail (.slice AE es.length ce) es vA acts #[.int .i64 (1 + q6), .int .i64 fr, .int .i64 tt, .int .i64 mn, .int .i64 0, .int .i64 wt] wx) (by first | exact H13.out | exact H13.out.drew) ?_
          intro wx14 hnwa
          clear H13
          generalize l6.tail = l7 at *
          have hx0 := hnwa.nw.net.cell 0
          have hx3 := hnwa.ak.cell 3
          simp at hx0 hx3
          have hnd := hnwa.drew
          have hsd := hnd.nw.src
          have hkq := nextV_bd l7 T (by omega) (by omega)
          have e2 : IntKind.i64.wrap (mn + nextV l7 T) = mn + nextV l7 T := IntWalk.i64_in _ (by omega)
          go_region_held3 (fun w' => w'.cell? ⟨B, 0, none⟩ = some (.int .i64 T) ∧ w'.cell? ⟨Xa, 3, none⟩ = some (.int .i64 mn)) (first | go_keep | exact ⟨hna.nw.net.cell 0, hna.ak.cell 3⟩ | exact ⟨((hna.set 4 _).nw.net.cell 0).trans rfl, ((hna.set 4 _).ak.cell 3).trans rfl⟩) (first | (go_at_call 33; refine (next_any b _ _ _ (by assumption) (by omega) (by omega)).mono ?_; rintro e w5 ⟨rfl, hs, ht⟩; have hna : NWA w R b B Xa T _ (.slice AE es.length ce) es vA acts #[.int .i64 (1 + q6), .int .i64 fr, .int .i64 tt, .int .i64 mn, .int .i64 0, .int .i64 wt] w5 := NWA.turn (by assumption) hs ht; have hak := hna.ak; have ha2 := hak.cell 4; have hf2 := hak.frozen 4; simp at ha2))
          have H14 := Lib.hid (hna.set 4 (.int .i64 (mn + nextV l7 T)))
          clear e2 hna hak ha2 hf2 hs ht hsd hnd hnwa hx0 hx3
          have hmx0 : mn ≤ mn + nextV l7 T := by omega
          have hmx1 : mn + nextV l7 T - mn < T := by omega
          clear hkq
          generalize mn + nextV l7 T = mx at *
          simp only [List.setIfInBounds_toArray, List.set_cons_succ, List.set_cons_zero] at H14
          go_upto_region 15 with fail
          refine world_gen (fun wx => NWA w R b B Xa T l7.tail (.slice AE es.length ce) es vA acts #[.int .i64 (1 + q6), .int .i64 fr, .int .i64 tt, .int .i64 mn, .int .i64 mx, .int .i64 wt] wx) (by first | exact H14.out | exact H14.out.drew) ?_
          intro wx15 hnwa
          clear H14
          generalize l7.tail = l8 at *
          have HNA := Lib.hid hnwa
          have hx2 := hnwa.nw.net.cell 2
          have ha0 := hnwa.ak.cell 0
          have ha1 := hnwa.ak.cell 1
          have ha2 := hnwa.ak.cell 2
          have ha3 := hnwa.ak.cell 3
          have ha4 := hnwa.ak.cell 4
          have ha5 := hnwa.ak.cell 5
          simp at hx2 ha0 ha1 ha2 ha3 ha4 ha5
          obtain ⟨AA, ca, rfl, hca, hma⟩ := own_slice hnwa.nw.oa
          have hBl := hnwa.nw.net.lt
          clear hnwa
          go_wp2_with (at_builtin; refine wpList_append_own_at _ rfl _ _ 24 rfl (B + 1) 62 HAi _ 6 48 Try.underlying24 HAI.out.1 HAI.out.2.1 HAI.out.2.2.1 HAI.out.2.2.2 rfl (by omega) _ acts.length _ rfl (World.ownsRow.alloc HNA.out.nw.oa _) ⟨wx15.heap.size, 0, none⟩ 1 1 (Act.cells ⟨1 + q6, fr, tt, mn, mx, wt⟩) rfl rfl ?c0 ?c1 ?c2 ?c3 ?c4 ?_; rotate_right; intro v' w' hown' hg' _ _; obtain ⟨A9, c9, rfl, _, _⟩ := own_slice hown'; have hbk9 := HNA.out.nw.blkG HNA.out.nw.oa hg'; have hc9 := hbk9.cell 2; have hf9 := hbk9.frozen 2; simp at hc9)
          case c0 => exact news_new _ _ _
          case c1 => exact Act.one _
          case c2 => simp only [maxLen]; omega
          case c3 => omega
          case c4 => simp; omega
          have HN9 := Lib.hid (HNA.out.nw.appA hown' hg')
          clear hown' hg' hbk9 hc9 hf9 HNA hx2 ha0 ha1 ha2 ha3 ha4 ha5
          go_roundg j
          case measure => omega
          case rel =>
            refine ⟨j, _, _, _, by first | rfl | go_num, rfl, by simp; omega, fun x hx => ?_, HN9.out⟩
            rcases List.mem_append.1 hx with hx | hx
            · exact Hok.out x hx
            · simp at hx
              subst hx
              have := Htt.out
              simp only
              omega
    | succ j =>
      have x1 := HNW.out.net.cell 1
      simp at x1
      have hBb : B ≠ b := by have := HNW.out.hB; omega
      go_upto_region 6 with fail
      have hnd := HNW.out.drew
      have hsd := hnd.src
      go_region_law (first | (go_simp; go_at_call 33; refine (next_any b _ _ _ (by assumption) (by omega) (by omega)).mono ?_; rintro e w5 ⟨rfl, hs, ht⟩; have hnw : NW w R b B T _ (.slice AE es.length ce) es (.slice none 0 0) [] w5 := NW.turn (by assumption) hs ht; have x1 := hnw.net.cell 1; simp at x1; have hBl := hnw.net.lt) | (refine step_append_lies _ (by rfl) _ _ _ (by rfl) (B + 1) 60 HEi _ 3 24 Try.underlying23 HE.out.1 HE.out.2.1 HE.out.2.2.1 HE.out.2.2.2 rfl (by omega) _ es.length _ (by rfl) (by first | exact World.ownsRow.alloc hnw.oe _ | exact (World.ownsRow.alloc hnw.oe _).drew) ⟨_, 0, none⟩ 1 1 [_, _, _] (by rfl) (by rfl) (World.news_of_block (cs := #[_, _, _]) (t := 60) (fr := (0, 0)) (heap_alloc_new _ _)) (by simp [Value.oneCell']) (by omega) (by simp only [maxLen]; omega) (by omega) (by simp; have := hnw.net.lt; omega) _ rfl ?_; intro gg gcap w9 hown9 hgrow9 hat9 hgl9; have hbk9 := hnw.blkG hnw.oe hgrow9; have hc9 := hbk9.cell 1; have hf9 := hbk9.frozen 1; simp at hc9))
      all_goals
        have HN9 := Lib.hid (hnw.appE (x := ⟨_, _, _⟩) hown9 hgrow9)
        clear hnw hown9 hgrow9 hat9 hgl9 hs ht hbk9 hc9 hf9 x1 hsd hnd HNW
        go_wp2_with fail
        go_roundg j
        case measure => omega
        case rel => exact ⟨j, _, _, _, by first | rfl | go_num, rfl, by simp; omega, by simp; omega, HN9.out⟩
end Go.Proofs.Ytcgamkldlmmdnaa
