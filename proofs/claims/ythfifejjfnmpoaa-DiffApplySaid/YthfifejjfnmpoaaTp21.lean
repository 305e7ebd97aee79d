import Derived.Test.YthfifejjfnmpoaaTp17
namespace Go.Proofs.Ythfifejjfnmpoaa
open Go.RowKit
theorem Kp.turn {B b : Nat} {w w' : World} {l : List Int} (h : Src w b l) (ht : Turn b w w') (hB : B ≤ b) : Kp B w w' := by
  obtain ⟨A, n, cap, i, zs, h1, _⟩ := h
  refine ⟨by rw [ht.size]; exact Nat.le_refl _, fun k hk hc => ht.block k fun e => ?_⟩
  subst e
  rcases hc with hc | ⟨cs, hc⟩
  · omega
  · unfold Blk at h1 hc; rw [h1] at hc; injection hc with hc; injection hc with _ hc; cases hc
structure GnS (w : World) (b : Nat) (v : Value) (ts : List CT) (l : List Int) (wr : World) : Prop where
  src : Src wr b l
  o : wr.ownsRow (b + 1) 28 4 v ts.length (ts.flatMap CT.cells)
  m : ∀ t ∈ ts, TM wr w.heap.size t
  bel : Below w.heap.size w wr
  hb : w.heap.size ≤ b
  bl : b < wr.heap.size
section
variable {w wr w' : World} {b : Nat} {v v' : Value} {ts : List CT} {l l' : List Int}
theorem GnS.turn (h : GnS w b v ts l wr) (hs : Src w' b l') (ht : Turn b wr w') : GnS w b v ts l' w' :=
  ⟨hs, own_turn h.o ht (by omega), fun t hm => (h.m t hm).kp (Kp.turn h.src ht h.hb), ht.below h.bel h.hb, h.hb, by rw [ht.size]; exact h.bl⟩
theorem GnS.grow (h : GnS w b v ts l wr) (hb : Below wr.heap.size wr w') : GnS w b v ts l w' :=
  ⟨h.src.below hb h.bl, own_grow h.o hb, fun t hm => (h.m t hm).kp (Kp.bel hb), h.bel.trans (hb.mono h.bel.size), h.hb, Nat.lt_of_lt_of_le h.bl hb.size⟩
theorem GnS.app {o : Obj} {x : CT} (h : GnS w b v ts l wr) (hx : TM wr w.heap.size x) (ho : w'.ownsRow (b + 1) 28 4 v' (ts.length + 1) (ts.flatMap CT.cells ++ x.cells)) (hg : (wr.alloc o).grownBy w' v.ownBlock) : GnS w b v' (ts ++ [x]) l w' := by
  have hb : Below wr.heap.size wr (wr.alloc o) := (Below.refl _ _).alloc (Nat.le_refl _) _
  have hG := h.grow hb
  have hw := h.hb
  have hk : Kp w.heap.size (wr.alloc o) w' := Kp.grown hG.o (by decide) (by omega) hg
  refine ⟨hG.src.keep fun k hk => hg.block k (Nat.lt_of_le_of_lt hk hG.bl) (fun e => by have := (own_block h.o k e.symm).1; omega), by rw [List.length_append, List.flatMap_append]; simpa using ho, fun t ht => ?_, hG.bel.grown hg hG.bel.size (fun k hk => by have := (own_block h.o k hk).1; omega), h.hb, Nat.lt_of_lt_of_le hG.bl hg.size⟩
  rcases List.mem_append.1 ht with ht | ht
  · exact (hG.m t ht).kp hk
  · simp at ht; subst ht; exact (hx.kp (Kp.bel hb)).kp hk
end
/-- all below bx is as it was, but block b -/
structure Sb (b bx : Nat) (w w' : World) : Prop where
  os : w'.os = w.os
  tape : w'.tape = w.tape
  output : w'.output = w.output
  size : w.heap.size ≤ w'.heap.size
  block : ∀ k, k < bx → k ≠ b → w'.heap[k]? = w.heap[k]?
theorem Sb.refl (b bx : Nat) (w : World) : Sb b bx w w := ⟨rfl, rfl, rfl, Nat.le_refl _, fun _ _ _ => rfl⟩
theorem Sb.turn {b bx : Nat} {w w1 w2 : World} (h : Sb b bx w w1) (ht : Turn b w1 w2) : Sb b bx w w2 := ⟨ht.os.trans h.os, ht.tape.trans h.tape, ht.output.trans h.output, by rw [ht.size]; exact h.size, fun k hk hn => (ht.block k hn).trans (h.block k hk hn)⟩
theorem Sb.bel {b bx B : Nat} {w w1 w2 : World} (h : Sb b bx w w1) (ht : Below B w1 w2) (hB : bx ≤ B) : Sb b bx w w2 := ⟨ht.os.trans h.os, ht.tape.trans h.tape, ht.output.trans h.output, Nat.le_trans h.size ht.size, fun k hk hn => (ht.block k (by omega)).trans (h.block k hk hn)⟩
theorem Sb.gns {w wr wx : World} {b : Nat} {v : Value} {ts : List CT} {l l' : List Int} (h : GnS w b v ts l wr) (hs : Src wx b l') (hb : Sb b wr.heap.size wr wx) : GnS w b v ts l' wx := by
  obtain ⟨A, n, cap, i, zs, h1, _⟩ := h.src
  have hw := h.hb
  have hk : Kp w.heap.size wr wx := ⟨hb.size, fun k hk hc => hb.block k hk fun e => by
    subst e
    rcases hc with hc | ⟨cs, hc⟩
    · omega
    · unfold Blk at h1 hc; rw [h1] at hc; injection hc with hc; injection hc with _ hc; cases hc⟩
  refine ⟨hs, ?_, fun t ht => (h.m t ht).kp hk, h.bel.trans ⟨hb.os, hb.tape, hb.output, hb.size, fun k hkk => hb.block k (Nat.lt_of_lt_of_le hkk h.bel.size) (by omega)⟩, h.hb, Nat.lt_of_lt_of_le h.bl hb.size⟩
  refine ⟨h.o.1, ?_⟩
  rcases h.o.2 with h2 | ⟨g, cap, cur, rfl, hbg, hh, r⟩
  · exact .inl h2
  · exact .inr ⟨g, cap, cur, rfl, hbg, by rw [hb.block g (Array.getElem?_eq_some_iff.1 hh).1 (by omega)]; exact hh, r⟩
structure GnT (ts : List CT) (z : Int) : Prop where
  asc : (ts.map CT.pt).Pairwise fun x y => k1 x < k1 y
  ok : ∀ t ∈ ts, okT t.pt = true ∧ 1 ≤ k1 t.pt ∧ k1 t.pt ≤ z ∧ t.dy ≤ 1
  z0 : 0 ≤ z
theorem GnT.chk {ts : List CT} {z : Int} (h : GnT ts z) (hl : ts.length ≤ 1024) : chkT (ts.map CT.pt) = true :=
  chkT_iff.2 ⟨by simpa using hl, fun t ht => by obtain ⟨x, hx, rfl⟩ := List.mem_map.1 ht; exact (h.ok x hx).1, List.Pairwise.imp (fun h => .inl h) h.asc⟩
def GnOut (w : World) (e : Ending) (w' : World) : Prop :=
  ∃ (A : Option Addr) (c : Nat) (ts : List CT), e = .returned (.slice A ts.length c) ∧ TO w' w.heap.size (.slice A ts.length c) ts ∧ ts.length ≤ 5 ∧ GnT ts 45 ∧ Below w.heap.size w w'
structure InS (b bx : Nat) (w0 wx : World) (ln dy : Int) (vD vA : Value) (dep arr l : List Int) : Prop where
  src : Src wx b l
  sb : Sb b bx w0 wx
  x : Blk wx bx 28 #[.int .i64 ln, .int .i64 dy, vD, vA]
  d : wx.ownsRow (bx + 1) 3 1 vD dep.length (dep.map (Value.int .i64))
  a : wx.ownsRow (bx + 1) 3 1 vA arr.length (arr.map (Value.int .i64))
  ap : vD.ownBlock = none ∨ vD.ownBlock ≠ vA.ownBlock
  hb : b < bx
section
variable {b bx : Nat} {w0 wx w' : World} {ln dy : Int} {vD vA v' : Value} {dep arr l l' : List Int}
theorem InS.turn (h : InS b bx w0 wx ln dy vD vA dep arr l) (hs : Src w' b l') (ht : Turn b wx w') : InS b bx w0 w' ln dy vD vA dep arr l' :=
  ⟨hs, h.sb.turn ht, h.x.same (ht.block bx (by have := h.hb; omega)), own_turn h.d ht (by have := h.hb; omega), own_turn h.a ht (by have := h.hb; omega), h.ap, h.hb⟩
theorem ap_sym {u v : Value} (h : u.ownBlock = none ∨ u.ownBlock ≠ v.ownBlock) : v.ownBlock = none ∨ v.ownBlock ≠ u.ownBlock := by
  rcases h with h | h
  · rw [h]
    rcases Option.eq_none_or_eq_some v.ownBlock with e | ⟨k, e⟩
    · exact .inl e
    · right; rw [e]; simp
  · exact .inr (fun e => h e.symm)
theorem InS.core {o : Obj} {vX : Value} {row row' : List Int} {y : Int} (h : InS b bx w0 wx ln dy vD vA dep arr l) (hr : wx.ownsRow (bx + 1) 3 1 vX row.length (row.map (Value.int .i64))) (hn : w'.ownsRow (bx + 1) 3 1 v' (row.length + 1) (row.map (Value.int .i64) ++ [.int .i64 y])) (hg : (wx.alloc o).grownBy w' vX.ownBlock) (he : row' = row ++ [y]) (off : Nat) :
    Src (w'.setCell ⟨bx, off, none⟩ v') b l ∧ Sb b bx w0 (w'.setCell ⟨bx, off, none⟩ v') ∧ Blk w' bx 28 #[.int .i64 ln, .int .i64 dy, vD, vA] ∧ (w'.setCell ⟨bx, off, none⟩ v').ownsRow (bx + 1) 3 1 v' row'.length (row'.map (Value.int .i64)) := by
  have hxl := h.x.lt
  have hbb := h.hb
  have hX : Blk w' bx 28 #[.int .i64 ln, .int .i64 dy, vD, vA] := (h.x.al o).same (hg.block bx (by simp; omega) (fun e => own_nb hr h.x (by decide) e.symm))
  have hlow : ∀ k, k < bx → (w'.setCell ⟨bx, off, none⟩ v').heap[k]? = wx.heap[k]? := fun k hk => by
    rw [Below.heap_setCell _ _ _ _ (by simp; omega), hg.block k (by simp; omega) (fun e => by have := (own_block hr k e.symm).1; omega), Below.heap_alloc _ _ _ (by omega)]
  refine ⟨h.src.keep fun k hk => hlow k (by omega), ⟨?_, ?_, ?_, ?_, fun k hk hn' => (hlow k hk).trans (h.sb.block k hk hn')⟩, hX, ?_⟩
  · exact hg.os.trans h.sb.os
  · exact hg.tape.trans h.sb.tape
  · exact hg.output.trans h.sb.output
  · have := h.sb.size; have := hg.size; simp [World.setCell] at this ⊢; omega
  · subst he
    rw [List.length_append, List.map_append]
    exact own_far hn (own_nb hn hX (by decide))
theorem InS.appD {o : Obj} {y : Int} (h : InS b bx w0 wx ln dy vD vA dep arr l) (hn : w'.ownsRow (bx + 1) 3 1 v' (dep.length + 1) (dep.map (Value.int .i64) ++ [.int .i64 y])) (hg : (wx.alloc o).grownBy w' vD.ownBlock) (hat : v'.ownBlock = vD.ownBlock ∨ v'.ownBlock = some (wx.alloc o).heap.size) : InS b bx w0 (w'.setCell ⟨bx, 2, none⟩ v') ln dy v' vA (dep ++ [y]) arr l := by
  obtain ⟨h1, h2, h3, h4⟩ := h.core h.d hn hg rfl 2
  have ha : w'.ownsRow (bx + 1) 3 1 vA arr.length (arr.map (Value.int .i64)) := (World.ownsRow.alloc h.a o).kept hg (ap_sym h.ap)
  refine ⟨h1, h2, by simpa using h3.set_ 2 v', h4, own_far ha (own_nb ha h3 (by decide)), ?_, h.hb⟩
  rcases hat with e | e
  · rw [e]; exact h.ap
  · right; rw [e]; intro e'; have := (own_block h.a _ e'.symm).2; simp at this; omega
theorem InS.appA {o : Obj} {y : Int} (h : InS b bx w0 wx ln dy vD vA dep arr l) (hn : w'.ownsRow (bx + 1) 3 1 v' (arr.length + 1) (arr.map (Value.int .i64) ++ [.int .i64 y])) (hg : (wx.alloc o).grownBy w' vA.ownBlock) (hat : v'.ownBlock = vA.ownBlock ∨ v'.ownBlock = some (wx.alloc o).heap.size) : InS b bx w0 (w'.setCell ⟨bx, 3, none⟩ v') ln dy vD v' dep (arr ++ [y]) l := by
  obtain ⟨h1, h2, h3, h4⟩ := h.core h.a hn hg rfl 3
  have ha : w'.ownsRow (bx + 1) 3 1 vD dep.length (dep.map (Value.int .i64)) := (World.ownsRow.alloc h.d o).kept hg h.ap
  refine ⟨h1, h2, by simpa using h3.set_ 3 v', own_far ha (own_nb ha h3 (by decide)), h4, ?_, h.hb⟩
  rcases hat with e | e
  · rw [e]; exact h.ap
  · rcases Option.eq_none_or_eq_some vD.ownBlock with hd | ⟨k, hd⟩
    · exact .inl hd
    · right; rw [e, hd]; intro e'; injection e' with e'; have := (own_block h.d _ hd).2; simp at e'; omega
end
def Gn1 (w : World) (b : Nat) (k : Nat) (v4 v5 v6 : Value) (wr : World) : Prop :=
  ∃ (ts : List CT) (z : Int) (l : List Int), v5 = .int .i64 z ∧ v6 = .int .i64 k ∧ ts.length + k ≤ 5 ∧ z ≤ 9 * ts.length ∧ GnT ts z ∧ GnS w b v4 ts l wr
def Gn2 (b bx : Nat) (ln dy z : Int) (m k : Nat) (v8 v9 : Value) (w0 wx : World) : Prop :=
  ∃ (dep arr : List Int) (vD vA : Value) (x : Int) (l : List Int), v8 = .int .i64 x ∧ v9 = .int .i64 k ∧ dep.length = arr.length ∧ dep.length + k = m ∧ z ≤ x ∧ x ≤ z + 3 * dep.length ∧ (dep.length = 0 → x = z) ∧ (0 < dep.length → dep.headD 0 = z) ∧ InS b bx w0 wx ln dy vD vA dep arr l
theorem headD_snoc (dep : List Int) (x z : Int) (h : 0 < dep.length → dep.headD 0 = z) (h0 : dep.length = 0 → x = z) : (dep ++ [x]).headD 0 = z := by
  cases dep with
  | nil => exact h0 rfl
  | cons a r => exact h (by simp)
theorem gnt_snoc {ts : List CT} {t : CT} {z z' : Int} (h : GnT ts z) (hz : z < z') (h1 : 0 ≤ t.ln) (h2 : 0 ≤ t.dy) (h2' : t.dy ≤ 1) (_h : 0 ≤ z') (h3 : t.dep.length = t.arr.length) (h4 : 1 ≤ t.dep.length) (h5 : t.dep.length ≤ 2) (h6 : t.dep.headD 0 = z') : GnT (ts ++ [t]) z' := by
  have hk : k1 t.pt = z' := h6
  have hz0 := h.z0
  refine ⟨?_, fun x hx => ?_, by omega⟩
  · rw [List.map_append]
    refine List.pairwise_append.2 ⟨h.asc, by simp, fun x hx y hy => ?_⟩
    simp at hy
    subst hy
    obtain ⟨x', hx', rfl⟩ := List.mem_map.1 hx
    have := (h.ok x' hx').2.2.1
    show k1 _ < k1 _
    omega
  · rcases List.mem_append.1 hx with hx | hx
    · have := h.ok x hx; exact ⟨this.1, this.2.1, by omega, this.2.2.2⟩
    · simp at hx
      subst hx
      exact ⟨okT_iff.2 ⟨h1, h2, h3, h4, by show x.dep.length ≤ 12; omega, by omega⟩, by omega, by omega, h2'⟩
set_option maxRecDepth 100000 in
set_option maxHeartbeats 6400000 in
theorem trips_any (A : Option Addr) (m c : Nat) (zs : List Int) (w : World) (h : Rd w w.heap.size 1 A m (zs.map (Value.int .i64))) (hm : m ≤ maxLen) :
    Calls Try.prog 12 #[.slice A m c] w (GnOut w) := by
  have H := Lib.hid h
  have Hn := Lib.hid hm
  clear h hm
  obtain ⟨iT, b1, b2, b3, b4⟩ := info_parts infoTr
  have HIT := Lib.hid (And.intro b1 (And.intro b2 (And.intro b3 b4)))
  clear b1 b2 b3 b4
  obtain ⟨i0, a1, a2, a3, a4⟩ := info_parts infoInt
  have HI := Lib.hid (And.intro a1 (And.intro a2 (And.intro a3 a4)))
  clear a1 a2 a3 a4
  go_enter Try.func12, Try.ntmps12
  go_wp2_with fail
  refine (from_any A m c zs w H.out Hn.out).mono ?_
  rintro e w1 ⟨rfl, hs1, hb1, hz1⟩
  obtain ⟨b, hb⟩ : ∃ b, b = w.heap.size := ⟨_, rfl⟩
  have HS1 := Lib.hid (show GnS w b (.slice none 0 0) [] zs w1 from ⟨by rw [hb]; exact hs1, World.ownsRow_nil _ _ _ _, by simp, hb1, by omega, by omega⟩)
  rw [← hb] at ⊢
  clear hs1 hb1 hz1 hb
  go_wp2_with fail
  refine (next_any b zs 6 _ HS1.out.src (by omega) (by omega)).mono ?_
  rintro e w2 ⟨rfl, hsq, htq⟩
  have hqq := nextV_bd zs 6 (by omega) (by omega)
  generalize nextV zs 6 = q at *
  obtain ⟨q0, q1⟩ := hqq
  generalize (zs).tail = l2 at *
  have HS2 := Lib.hid (HS1.out.turn hsq htq)
  obtain ⟨k0, rfl⟩ : ∃ k0 : Nat, q = (k0 : Int) := ⟨q.toNat, by omega⟩
  clear hsq htq HS1
  go_wp2_with fail
  go_loopg [4, 5, 6, 7, 8, 9] k0 (fun k v4 v5 v6 _ _ v wr => Gn1 w b k v4 v5 v6 wr)
  case atStart => exact ⟨[], 0, l2, rfl, rfl, by simp; omega, by simp, ⟨List.Pairwise.nil, by simp, by omega⟩, HS2.out⟩
  case round =>
    obtain ⟨ts, z, l, rfl, rfl, hk, hz9, hg, hs⟩ := hrel
    have HS := Lib.hid hs
    have HG := Lib.hid hg
    clear hs hg HS2
    obtain ⟨Ao, co, rfl, _, _⟩ := own_slice HS.out.o
    by_cases h0 : gk = 0
    case pos =>
      subst h0
      have HGF := Lib.hid (show GnT ts 45 from ⟨HG.out.asc, fun t ht => by have h := HG.out.ok t ht; exact ⟨h.1, h.2.1, by omega, h.2.2.2⟩, by omega⟩)
      go_wp2_with fail
      go_ret
      have hbw := HS.out.hb
      exact ⟨Ao, co, ts, rfl, ⟨own_base HS.out.o (by omega), HS.out.m⟩, by omega, HGF.out, HS.out.bel⟩
    obtain ⟨K, hK⟩ : ∃ K, gk = K + 1 := ⟨gk - 1, by omega⟩
    subst hK
    have hpos : (0 : Int) < ((K + 1 : Nat) : Int) := by omega
    have hz0 := HG.out.z0
    clear h0
    go_wp2_with fail
    refine (next_any b l 9 _ HS.out.src (by omega) (by omega)).mono ?_
    rintro e w3 ⟨rfl, hsq, htq⟩
    have hqq := nextV_bd l 9 (by omega) (by omega)
    generalize nextV l 9 = qa at *
    obtain ⟨qa0, qa1⟩ := hqq
    generalize (l).tail = l3 at *
    have HS3 := Lib.hid (HS.out.turn hsq htq)
    clear hsq htq HS
    go_wp2_with fail
    refine (next_any b l3 3 _ HS3.out.src (by omega) (by omega)).mono ?_
    rintro e w4 ⟨rfl, hsq, htq⟩
    have hqq := nextV_bd l3 3 (by omega) (by omega)
    generalize nextV l3 3 = qb at *
    obtain ⟨qb0, qb1⟩ := hqq
    generalize (l3).tail = l4 at *
    have HS4 := Lib.hid (HS3.out.turn hsq htq)
    clear hsq htq HS3
    go_wp2_with fail
    refine (next_any b l4 2 _ HS4.out.src (by omega) (by omega)).mono ?_
    rintro e w5 ⟨rfl, hsq, htq⟩
    have hqq := nextV_bd l4 2 (by omega) (by omega)
    generalize nextV l4 2 = qc at *
    obtain ⟨qc0, qc1⟩ := hqq
    generalize (l4).tail = l5 at *
    have HS5 := Lib.hid (HS4.out.turn hsq htq)
    clear hsq htq HS4
    go_upto_region 9 with fail
    refine world_gen (fun w6 => Blk w6 w5.heap.size 28 #[.int .i64 qb, .int .i64 qc, .slice none 0 0, .slice none 0 0] ∧ Below w5.heap.size w5 w6) ⟨Blk.new w5 _ _, (by repeat (first | exact Below.refl _ _ | (with_reducible refine Below.drew ?_) | (with_reducible refine below_drewN ?_ _) | (with_reducible refine Below.alloc ?_ (by first | omega | (simp; done) | (simp; omega)) _) | (with_reducible refine Below.setCell ?_ (by first | omega | (simp; done) | (simp; omega)) _) | (refine Below.trans ?_ (Below.mono (by with_reducible assumption) (by first | omega | (simp; done) | (simp; omega))))))⟩ ?_
    rintro w6 ⟨hx6, hb6⟩
    have HX6 := Lib.hid hx6
    have HS6 := Lib.hid (HS5.out.grow hb6)
    have HSB6 := Lib.hid ((Sb.refl b w5.heap.size w5).bel hb6 (Nat.le_refl _))
    have hbx6 := hb6.size
    have hbx := HS5.out.bl
    clear hx6 hb6
    go_wp2_with fail
    refine (next_any b l5 2 _ HS6.out.src (by omega) (by omega)).mono ?_
    rintro e w7 ⟨rfl, hsq, htq⟩
    have hqq := nextV_bd l5 2 (by omega) (by omega)
    generalize nextV l5 2 = qd at *
    obtain ⟨qd0, qd1⟩ := hqq
    generalize (l5).tail = l7 at *
    have HS7 := Lib.hid (HS6.out.turn hsq htq)
    have HX7 := Lib.hid (HX6.out.same (htq.block w5.heap.size (by omega)))
    have HSB := Lib.hid (HSB6.out.turn htq)
    clear hsq htq
    obtain ⟨nd, rfl⟩ : ∃ nd : Nat, qd = (nd : Int) := ⟨qd.toNat, by omega⟩
    have HIN := Lib.hid (show InS b w5.heap.size w5 w7 qb qc (.slice none 0 0) (.slice none 0 0) [] [] l7 from ⟨HS7.out.src, HSB.out, HX7.out, World.ownsRow_nil _ _ _ _, World.ownsRow_nil _ _ _ _, .inl rfl, by omega⟩)
    clear HS6 HS7 HX6 HX7 HSB6 HSB
    go_wp2_with fail
    go_loopg [8, 9] (nd + 1) (fun k v8 v9 wx => Gn2 b w5.heap.size qb qc (z + (1 + qa)) (nd + 1) k v8 v9 w5 wx)
    case atStart => exact ⟨[], [], _, _, _, l7, rfl, by first | rfl | (congr 1; omega), rfl, by simp, by omega, by simp, fun _ => rfl, fun h => by simp at h, HIN.out⟩
    case round =>
      clear HIN
      obtain ⟨dep, arr, vD, vA, x, l, rfl, rfl, hda, hdk, hx0, hx1, hxd, hhd, hin⟩ := hrel
      rename World => wx
      obtain ⟨AD, cD, rfl, _, _⟩ := own_slice hin.d
      obtain ⟨AA, cA, rfl, _, _⟩ := own_slice hin.a
      have HIN := Lib.hid hin
      have Hda := Lib.hid hda
      have Hdk := Lib.hid hdk
      have Hxd := Lib.hid hxd
      have Hhd := Lib.hid hhd
      have x0 := hin.x.cell 0
      have x1 := hin.x.cell 1
      have x2 := hin.x.cell 2
      have x3 := hin.x.cell 3
      simp at x0 x1 x2 x3
      have hxl := hin.x.lt
      have hdn : dep.length ≤ 2 := by omega
      have han : arr.length ≤ 2 := by omega
      clear hin hda hdk hxd hhd
      by_cases h0 : gk = 0
      · subst h0
        have HGS := Lib.hid (Sb.gns HS5.out HIN.out.src HIN.out.sb)
        have HTM := Lib.hid (show TM wx w.heap.size ⟨qb, qc, AD, cD, AA, cA, dep, arr⟩ from ⟨IRd.of_own HIN.out.d (show dep.length ≤ _ by omega), IRd.of_own HIN.out.a (show arr.length ≤ _ by omega)⟩)
        have HGT := Lib.hid (gnt_snoc HG.out (t := ⟨qb, qc, AD, cD, AA, cA, dep, arr⟩) (z' := z + (1 + qa)) (by omega) (by first | omega | (dsimp only; omega)) (by first | omega | (dsimp only; omega)) (by first | omega | (dsimp only; omega)) (by first | omega | (dsimp only; omega)) (Hda.out) (by have := Hdk.out; dsimp only; omega) (by first | omega | (dsimp only; omega)) (Hhd.out (by have := Hdk.out; omega)))
        have htl : ts.length ≤ 5 := by omega
        have hgl := HGS.out.bl
        go_upto_region 6 with (at_builtin; refine wpList_append_own_at _ rfl _ _ 22 rfl ((b + 1)) 28 iT _ 4 64 Try.underlying22 HIT.out.1 HIT.out.2.1 HIT.out.2.2.1 HIT.out.2.2.2 rfl (by omega) _ (ts.length) _ rfl (World.ownsRow.alloc HGS.out.o _) ⟨(wx).heap.size, 0, none⟩ 1 1 (CT.cells ⟨qb, qc, AD, cD, AA, cA, dep, arr⟩) rfl rfl ?c0 ?c1 ?c2 ?c3 ?c4 ?_; rotate_right; intro v' w' hown' hg' _ hat')
        case c0 => first | exact news_new _ _ (CT.cells ⟨qb, qc, AD, cD, AA, cA, dep, arr⟩) | exact fun _ _ h => h
        case c1 => exact CT.one _
        case c2 => simp only [maxLen]; omega
        case c3 => omega
        case c4 => first | omega | (simp; omega)
        have HS9 := Lib.hid (HGS.out.app (x := ⟨qb, qc, AD, cD, AA, cA, dep, arr⟩) HTM.out hown' hg')
        clear hown' hg' hat' HGS HTM HIN x0 x1 x2 x3 hxl
        go_wp2_with fail
        go_roundg K
        case measure => omega
        case rel => exact ⟨ts ++ [⟨qb, qc, AD, cD, AA, cA, dep, arr⟩], z + (1 + qa), l, by first | rfl | (congr 1; omega), by first | rfl | (congr 1; omega), by simp; omega, by simp; omega, HGT.out, HS9.out⟩
      · obtain ⟨K2, hK2⟩ : ∃ K2, gk = K2 + 1 := ⟨gk - 1, by omega⟩
        subst hK2
        have hpos2 : (0 : Int) < ((K2 + 1 : Nat) : Int) := by omega
        have hK2b : K2 ≤ 2 := by have := Hdk.out; omega
        have hxb := HIN.out.hb
        clear h0
        go_upto_region 14 with (at_builtin; refine wpList_append_own_at _ rfl _ _ 23 rfl (w5.heap.size + 1) 3 i0 _ 1 8 Try.underlying23 HI.out.1 HI.out.2.1 HI.out.2.2.1 HI.out.2.2.2 rfl (by omega) _ dep.length _ rfl (World.ownsRow.alloc HIN.out.d _) ⟨wx.heap.size, 0, none⟩ 1 1 [.int .i64 x] rfl rfl ?c0 ?c1 ?c2 ?c3 ?c4 ?_; rotate_right; intro v' w' hown' hg' _ hat'; have HAT := Lib.hid hat'; obtain ⟨A8, c8, rfl, _, _⟩ := own_slice hown'; have hxx : Blk w' w5.heap.size 28 #[.int .i64 qb, .int .i64 qc, .slice AD dep.length cD, .slice AA arr.length cA] := (HIN.out.x.al _).same (hg'.block w5.heap.size (by simp; omega) (fun e => own_nb HIN.out.d HIN.out.x (by decide) e.symm)); have y2 := hxx.cell 2; have g2 := hxx.frozen 2; have hyl := hxx.lt; simp only [List.getElem?_toArray, List.getElem?_cons_succ, List.getElem?_cons_zero] at y2)
        case c0 => first | exact news_new _ _ [.int .i64 x] | exact fun _ _ h => h
        case c1 => intro u hu; simp at hu; subst hu; rfl
        case c2 => simp only [maxLen]; omega
        case c3 => omega
        case c4 => first | omega | (simp; omega)
        have HI1 := Lib.hid (HIN.out.appD hown' hg' HAT.out)
        clear hown' hg' HAT hxx y2 g2 hyl x0 x1 x2 x3 HIN
        refine world_gen (fun w8 => InS b w5.heap.size w5 w8 qb qc (.slice A8 (dep.length + 1) c8) (.slice AA arr.length cA) (dep ++ [x]) arr l) HI1.out ?_
        intro w8 hi8
        have HI8 := Lib.hid hi8
        clear hi8 HI1
        go_wp2_with fail
        refine (next_any b l 3 _ HI8.out.src (by omega) (by omega)).mono ?_
        rintro e w9 ⟨rfl, hsq, htq⟩
        have hqq := nextV_bd l 3 (by omega) (by omega)
        generalize nextV l 3 = qe at *
        obtain ⟨qe0, qe1⟩ := hqq
        generalize (l).tail = l9 at *
        have HI9 := Lib.hid (HI8.out.turn hsq htq)
        clear hsq htq HI8
        have z0 := HI9.out.x.cell 0
        have z1 := HI9.out.x.cell 1
        have z2 := HI9.out.x.cell 2
        have z3 := HI9.out.x.cell 3
        simp at z0 z1 z2 z3
        have hzl := HI9.out.x.lt
        go_upto_region 12 with (at_builtin; refine wpList_append_own_at _ rfl _ _ 23 rfl (w5.heap.size + 1) 3 i0 _ 1 8 Try.underlying23 HI.out.1 HI.out.2.1 HI.out.2.2.1 HI.out.2.2.2 rfl (by omega) _ arr.length _ rfl (World.ownsRow.alloc HI9.out.a _) ⟨w9.heap.size, 0, none⟩ 1 1 [.int .i64 (x + (1 + qe))] rfl rfl ?d0 ?d1 ?d2 ?d3 ?d4 ?_; rotate_right; intro v'' w'' hown' hg' _ hat'; have HAT := Lib.hid hat'; obtain ⟨A9, c9, rfl, _, _⟩ := own_slice hown'; have hxx : Blk w'' w5.heap.size 28 #[.int .i64 qb, .int .i64 qc, .slice A8 (dep.length + 1) c8, .slice AA arr.length cA] := (HI9.out.x.al _).same (hg'.block w5.heap.size (by simp; omega) (fun e => own_nb HI9.out.a HI9.out.x (by decide) e.symm)); have y3 := hxx.cell 3; have g3 := hxx.frozen 3; have hyl := hxx.lt; simp only [List.getElem?_toArray, List.getElem?_cons_succ, List.getElem?_cons_zero] at y3)
        case d0 => first | exact news_new _ _ [.int .i64 (x + (1 + qe))] | exact fun _ _ h => h
        case d1 => intro u hu; simp at hu; subst hu; rfl
        case d2 => simp only [maxLen]; omega
        case d3 => omega
        case d4 => first | omega | (simp; omega)
        have HI1 := Lib.hid (HI9.out.appA hown' hg' HAT.out)
        clear hown' hg' HAT hxx y3 g3 hyl z0 z1 z2 z3 HI9
        go_wp2_with fail
        go_roundg K2
        case measure => omega
        case rel => exact ⟨dep ++ [x], arr ++ [x + (1 + qe)], _, _, _, l9, by first | rfl | (congr 1; omega), by first | rfl | (congr 1; omega), by simp; exact Hda.out, by simp; have := Hdk.out; omega, by omega, by simp; omega, fun h => by simp at h, fun _ => headD_snoc dep x _ Hhd.out Hxd.out, HI1.out⟩
end Go.Proofs.Ythfifejjfnmpoaa
