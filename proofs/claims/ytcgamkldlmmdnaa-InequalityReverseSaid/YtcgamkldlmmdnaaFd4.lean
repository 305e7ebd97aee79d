import Derived.Test.YtcgamkldlmmdnaaFd3
namespace Go.Proofs.Ytcgamkldlmmdnaa
open Go.RowKit

section
variable {w wr w' : World} {X G1 G2 ne na : Nat} {xs : Array Value} {root : List Int} {dn : List Bool}
theorem TrS.setR (h : TrS w wr X G1 G2 ne na xs root dn) (i : Nat) (b : Int) : TrS w (wr.setCell ⟨G1, i, none⟩ (.int .i64 b)) X G1 G2 ne na xs (root.set i b) dn := by
  have h1 := (own_block h.r G1 rfl).1
  have hX := h.hX
  exact ⟨h.x.far (by omega), h.bel.setCell (by simp; omega) _, own1_set h.r i b, own_far h.d (ne_far (own_ne h.d h.r (by decide)) rfl), hX⟩
theorem TrS.dr (h : TrS w wr X G1 G2 ne na xs root dn) : TrS w wr.drew X G1 G2 ne na xs root dn := h.grow (Below.refl _ _).drew
end
/-- a slice of one that was just built -/
theorem own_new1 {base : Nat} {e : TypeId} (w : World) (u : Value) (hb : base ≤ w.heap.size) : (w.alloc (.cells #[u] e)).ownsRow base e 1 (.slice (some ⟨w.heap.size, 0, none⟩) 1 1) 1 [u] :=
  ⟨rfl, .inr ⟨w.heap.size, 1, #[u], rfl, hb, heap_alloc_new w _, Nat.le_refl _, by simp [maxLen], rfl, rfl⟩⟩
/-- the memory of the walk back -/
structure PaB (w wr : World) (X G1 M ne : Nat) (xs : Array Value) (via : List Int) (v17 v18 : Value) (ars ss : List Int) : Prop where
  x : Blk wr X 26 xs
  bel : Below w.heap.size w wr
  r : wr.ownsRow (X + 1) 3 1 (.slice (some ⟨G1, 0, none⟩) ne ne) ne (via.map (Value.int .i64))
  a : wr.ownsRow M 3 1 v17 ars.length (ars.map (Value.int .i64))
  s : wr.ownsRow M 3 1 v18 ss.length (ss.map (Value.int .i64))
  d : v17.ownBlock = none ∨ v17.ownBlock ≠ v18.ownBlock
  hM : w.heap.size ≤ X ∧ X < M ∧ G1 < M ∧ M ≤ wr.heap.size
section
variable {w wr w' : World} {X G1 M ne : Nat} {xs : Array Value} {via : List Int} {v17 v18 v' : Value} {ars ss : List Int} {o : Obj} {u : Int}
theorem PaB.grow (h : PaB w wr X G1 M ne xs via v17 v18 ars ss) (hb : Below wr.heap.size wr w') : PaB w w' X G1 M ne xs via v17 v18 ars ss :=
  ⟨h.x.bel hb, h.bel.trans (hb.mono h.bel.size), own_grow h.r hb, own_grow h.a hb, own_grow h.s hb, h.d, by have := h.hM; have := hb.size; omega⟩
theorem grown_fresh (hg : (wr.alloc o).grownBy w' (some wr.heap.size)) : Below wr.heap.size wr w' :=
  ((Below.refl _ _).alloc (Nat.le_refl _) o).grown hg (by simp) (fun k hk => by injection hk with hk; omega)
theorem PaB.preA (h : PaB w wr X G1 M ne xs via v17 v18 ars ss) (hg : (wr.alloc o).grownBy w' (some wr.heap.size)) (ho : w'.ownsRow M 3 1 v' (1 + ars.length) ([Value.int .i64 u] ++ ars.map (Value.int .i64))) (hat : v'.ownBlock = some wr.heap.size ∨ v'.ownBlock = some (wr.alloc o).heap.size) :
    PaB w w' X G1 M ne xs via v' v18 (u :: ars) ss := by
  have h1 := h.grow (grown_fresh hg)
  refine ⟨h1.x, h1.bel, h1.r, by rw [List.length_cons, Nat.add_comm]; exact ho, h1.s, .inr (fun e => ?_), h1.hM⟩
  have h2 := own_block h.s
  rcases hat with hat | hat
  · have := (h2 wr.heap.size (by rw [← e, hat])).2; omega
  · have := (h2 (wr.alloc o).heap.size (by rw [← e, hat])).2; simp at this; omega
theorem PaB.preS (h : PaB w wr X G1 M ne xs via v17 v18 ars ss) (hg : (wr.alloc o).grownBy w' (some wr.heap.size)) (ho : w'.ownsRow M 3 1 v' (1 + ss.length) ([Value.int .i64 u] ++ ss.map (Value.int .i64))) (hat : v'.ownBlock = some wr.heap.size ∨ v'.ownBlock = some (wr.alloc o).heap.size) :
    PaB w w' X G1 M ne xs via v17 v' ars (u :: ss) := by
  have h1 := h.grow (grown_fresh hg)
  refine ⟨h1.x, h1.bel, h1.r, h1.a, by rw [List.length_cons, Nat.add_comm]; exact ho, .inr (fun e => ?_), h1.hM⟩
  have h2 := own_block h.a
  rcases hat with hat | hat
  · have := (h2 wr.heap.size (by rw [e, hat])).2; omega
  · have := (h2 (wr.alloc o).heap.size (by rw [e, hat])).2; simp at this; omega
end
def Pa4 (w : World) (X G1 M ne : Nat) (acts : List Act) (via : List Int) (from_ : Int) (ord : List Int) (res : List Int × List Int) (xs : Array Value) (k : Nat) (v17 v18 v19 : Value) (wr : World) : Prop :=
  ∃ (x : Int) (ars ss : List Int) (q : Nat), v19 = .int .i64 x ∧ x ∈ ord ∧ k = ord.idxOf x ∧ k ≤ q ∧ ars.length + q ≤ ne ∧ ss.length + q ≤ ne ∧ chF acts via from_ q x ars ss = res ∧ PaB w wr X G1 M ne xs via v17 v18 ars ss
theorem chF_done (acts : List Act) (via : List Int) (from_ : Int) (ars ss : List Int) : ∀ q, chF acts via from_ q from_ ars ss = (ars, ss)
  | 0 => rfl
  | q + 1 => by unfold chF; rw [if_pos rfl]
def Pa1 (w : World) (X G1 ne : Nat) (xs : Array Value) (k : Nat) (v : Value) (wr : World) : Prop :=
  ∃ j : Nat, v = .int .i64 j ∧ j + k = ne ∧ Blk wr X 26 xs ∧ Below w.heap.size w wr ∧ wr.ownsRow (X + 1) 3 1 (.slice (some ⟨G1, 0, none⟩) ne ne) ne (((List.replicate ne (-1)).take j ++ List.replicate ((List.replicate ne (-1 : Int)).length - j) 0).map (Value.int .i64))
def Pa2 (w : World) (X G1 G2 ne : Nat) (acts : List Act) (tree : List Int) (from_ : Int) (xs : Array Value) (k : Nat) (v : Value) (wr : World) : Prop :=
  ∃ t : Nat, v = .int .i64 t ∧ t + k = ne ∧ TrS w wr X G1 G2 ne ne xs (pAll ne acts tree from_ t).2 (pAll ne acts tree from_ t).1
def Pa3 (w : World) (X G1 G2 ne : Nat) (acts : List Act) (tree : List Int) (s : List Bool × List Int) (xs : Array Value) (k : Nat) (v : Value) (wr : World) : Prop :=
  ∃ j : Nat, v = .int .i64 j ∧ j + k = tree.length ∧ TrS w wr X G1 G2 ne ne xs (pRow acts tree s j).2 (pRow acts tree s j).1
/-- the lists of arcs and signs that path gives, or none -/
def pathF (ne : Nat) (acts : List Act) (tree : List Int) (from_ to_ : Int) : Option (List Int × List Int) :=
  if gb (pAll ne acts tree from_ ne).1 to_ = true then some (chF acts (pAll ne acts tree from_ ne).2 from_ ne to_ [] []) else none
def PathOut (ne : Nat) (acts : List Act) (tree : List Int) (from_ to_ : Int) (w : World) (e : Ending) (w' : World) : Prop :=
  Below w.heap.size w w' ∧ match pathF ne acts tree from_ to_ with
  | none => e = .returned (.tuple #[.slice none 0 0, .slice none 0 0, .bool false])
  | some p => ∃ (A B : Option Addr) (c d : Nat), e = .returned (.tuple #[.slice A p.1.length c, .slice B p.2.length d, .bool true]) ∧ w'.ownsRow (w.heap.size + 1) 3 1 (.slice A p.1.length c) p.1.length (p.1.map (Value.int .i64)) ∧ w'.ownsRow (w.heap.size + 1) 3 1 (.slice B p.2.length d) p.2.length (p.2.map (Value.int .i64)) ∧
     ((Value.slice A p.1.length c).ownBlock = none ∨ (Value.slice A p.1.length c).ownBlock ≠ (Value.slice B p.2.length d).ownBlock)

set_option maxRecDepth 100000 in
set_option maxHeartbeats 6400000 in
theorem path_any (T : Int) (AE AA AT : Option Addr) (ne ce ca ct : Nat) (acts : List Act) (tree : List Int) (from_ to_ : Nat) (w : World) (hA : Rd w w.heap.size 6 AA acts.length (acts.flatMap Act.cells)) (hT : Rd w w.heap.size 1 AT tree.length (tree.map (Value.int .i64))) (htl : tree.length ≤ 4611686018427387904) (hN : NetOk T ne acts) (hO : TreeOk ne acts tree) (hfr : from_ < ne) (hto : to_ < ne) :
    Calls Try.prog 53 #[.agg #[.int .i64 T, .slice AE ne ce, .slice AA acts.length ca], .slice AT tree.length ct, .int .i64 (from_ : Int), .int .i64 (to_ : Int)] w (PathOut ne acts tree from_ to_ w) := by
  have HA := Lib.hid hA
  have HR := Lib.hid hT
  have HN := Lib.hid hN
  have HOk := Lib.hid hO
  have ht0 := hN.t0
  have ht1 := hN.t1
  have hne := hN.e
  have hna := hN.n
  clear hA hN hT hO
  obtain ⟨i0, hi0, hz0, hz1, hz2⟩ := info_parts infoInt
  have HI := Lib.hid (And.intro hi0 (And.intro hz0 (And.intro hz1 hz2)))
  obtain ⟨j0, hj0, hy0, hy1, hy2⟩ := info_parts infoBool
  have HJ := Lib.hid (And.intro hj0 (And.intro hy0 (And.intro hy1 hy2)))
  clear hi0 hz0 hz1 hz2 hj0 hy0 hy1 hy2
  go_enter Try.func53, Try.ntmps53
  go_upto_region 1 with fail
  refine world_gen (fun w1 => Below w.heap.size w w1 ∧ Blk w1 w.heap.size 26 #[.int .i64 T, .slice AE ne ce, .slice AA acts.length ca]) ⟨(Below.refl _ _).alloc (Nat.le_refl _) _, Blk.new _ _ _⟩ ?_
  rintro w1 ⟨hb0, hx0⟩
  obtain ⟨X, hX⟩ : ∃ X, X = w.heap.size := ⟨_, rfl⟩
  rw [← hX] at ⊢
  rw [show Blk w1 w.heap.size = Blk w1 X by rw [hX]] at hx0
  have hXw : w.heap.size ≤ X := by omega
  have hXw2 : X ≤ w.heap.size := by omega
  clear hX
  have HX1 := Lib.hid hx0
  have Hb1 := Lib.hid hb0
  have x1 := hx0.cell 1
  simp at x1
  clear hx0 hb0
  have hxl := HX1.out.lt
  go_upto_region 2 with (at_make; refine wpList_make_full _ rfl _ _ 22 rfl (X + 1) 3 i0 _ 1 Try.underlying22 HI.out.1 HI.out.2.1 HI.out.2.2.1 .i64 .i64 _ _ ne rfl rfl rfl rfl ?m1 ?m2 ?m3 ?_; rotate_right; intro w2 hown2 hg2)
  case m1 => rw [HI.out.2.2.2]; omega
  case m2 => simp only [maxLen]; omega
  case m3 => omega
  have hb2 : Below w1.heap.size w1 w2 := (Below.refl _ _).grown hg2 (Nat.le_refl _) (by simp)
  have HT1 := Lib.hid (show Pa1 w X w1.heap.size ne #[.int .i64 T, .slice AE ne ce, .slice AA acts.length ca] ne (.int .i64 ((0 : Nat) : Int)) w2 from ⟨0, rfl, by omega, HX1.out.bel hb2, Hb1.out.trans (hb2.mono Hb1.out.size), by
    rw [← fill_zero _ _ _ (List.length_replicate (n := ne) (a := (-1 : Int)))]
    have := madeCells_one (Value.int .i64) 0 ne
    rw [← this]
    exact hown2⟩)
  clear hown2 hg2 hb2 HX1 Hb1 x1 hxl
  generalize w1.heap.size = G1 at *
  go_wp2_with fail
  go_loopg [12, 28] ne (fun k _ v wr => Pa1 w X G1 ne #[.int .i64 T, .slice AE ne ce, .slice AA acts.length ca] k v wr)
  case atStart => exact HT1.out
  case round =>
    obtain ⟨j, rfl, hj, hx, hb, ho⟩ := hrel
    clear HT1
    have Hj := Lib.hid hj
    have HX := Lib.hid hx
    have Hb := Lib.hid hb
    have HO := Lib.hid ho
    clear hj hx hb ho
    by_cases hlt : j < ne
    · have hil : j < (List.replicate ne (-1 : Int)).length := by rw [List.length_replicate]; exact hlt
      have hset := own1_set HO.out j (List.replicate ne (-1 : Int))[j]
      rw [fill_set _ _ _ hil, List.getElem_replicate] at hset
      have HS := Lib.hid hset
      have q0 := own1 HO.out j (by rw [fill_len _ _ _ (by omega)]; exact hil)
      have q1 := HO.out.frozenAt j
      have hG := (own_block HO.out G1 rfl).1
      clear hset
      go_wp2_with fail
      go_roundg (ne - j - 1)
      case measure => have := Hj.out; omega
      case rel => exact ⟨j + 1, by first | rfl | go_num, by omega, HX.out.far (by omega), Hb.out.setCell (by simp; omega) _, HS.out⟩
    · have ho := HO.out
      rw [fill_all _ _ _ (by rw [List.length_replicate]; omega)] at ho
      have HO1 := Lib.hid ho
      clear HO ho Hj
      have x1 := HX.out.cell 1
      simp at x1
      have hxl := HX.out.lt
      go_upto_region 8 with (at_make; refine wpList_make_full _ rfl _ _ 80 rfl (X + 1) 4 j0 _ 1 Try.underlying80 HJ.out.1 HJ.out.2.1 HJ.out.2.2.1 .i64 .i64 _ _ ne rfl rfl rfl rfl ?m1 ?m2 ?m3 ?_; rotate_right; intro w3 hown3 hg3)
      case m1 => rw [HJ.out.2.2.2]; omega
      case m2 => simp only [maxLen]; omega
      case m3 => omega
      have hb3 : Below wr.heap.size wr w3 := (Below.refl _ _).grown hg3 (Nat.le_refl _) (by simp)
      have HT := Lib.hid (show TrS w w3 X G1 wr.heap.size ne ne #[.int .i64 T, .slice AE ne ce, .slice AA acts.length ca] (List.replicate ne (-1)) (List.replicate ne false) from ⟨HX.out.bel hb3, Hb.out.trans (hb3.mono Hb.out.size), own_grow HO1.out hb3, by
        have := madeCells_one Value.bool false ne
        rw [← this]
        exact hown3, hXw⟩)
      clear hown3 hg3 hb3 HX Hb HO1 x1 hxl hlt
      generalize wr.heap.size = G2 at *
      have q0 := own1 HT.out.d from_ (by simp; omega)
      have q1 := HT.out.d.frozenAt from_
      have HT2 := Lib.hid (show TrS w (w3.setCell ⟨G2, from_, none⟩ (.bool true)) X G1 G2 ne ne #[.int .i64 T, .slice AE ne ce, .slice AA acts.length ca] (pAll ne acts tree from_ 0).2 (pAll ne acts tree from_ 0).1 from HT.out.setD from_ true)
      clear HT
      go_wp2_with fail
      clear q0 q1
      go_loopg [14, 15, 16] ne (fun k v _ _ wr => Pa2 w X G1 G2 ne acts tree from_ #[.int .i64 T, .slice AE ne ce, .slice AA acts.length ca] k v wr)
      case atStart => exact ⟨0, rfl, by omega, HT2.out⟩
      case round =>
        obtain ⟨t, rfl, htk, hts⟩ := hrel
        clear HT2
        have Htk := Lib.hid htk
        have HT := Lib.hid hts
        clear htk hts
        have x1 := HT.out.x.cell 1
        simp at x1
        by_cases hltt : t < ne
        · go_wp2_with fail
          clear x1
          have HL := Lib.hid (pAll_len ne acts tree from_ t)
          have HSs := Lib.hid (show pAll ne acts tree from_ (t + 1) = pRow acts tree (pAll ne acts tree from_ t) tree.length from rfl)
          generalize pAll ne acts tree from_ t = s0 at *
          go_loopg [15, 16] tree.length (fun k v _ wr => Pa3 w X G1 G2 ne acts tree s0 #[.int .i64 T, .slice AE ne ce, .slice AA acts.length ca] k v wr)
          case atStart => exact ⟨0, rfl, by omega, HT.out⟩
          case round =>
            obtain ⟨j, rfl, hj, hts⟩ := hrel
            clear HT
            have Hj := Lib.hid hj
            have HT := Lib.hid hts
            clear hj hts
            by_cases hltj : j < tree.length
            · obtain ⟨b, off, rfl, hb, q⟩ := rd1 (HR.out.grow HT.out.bel) j hltj
              have hrg := HOk.out.rg tree[j] (List.getElem_mem hltj)
              have hgi : gi tree j = tree[j] := gi_nat tree j hltj
              have Hst : Hid (pRow acts tree s0 (j + 1) = pStep acts tree[j] (pRow acts tree s0 j)) := by show pStep acts (gi tree j) _ = _; rw [hgi]
              clear hgi
              generalize tree[j] = tj at *
              obtain ⟨a, rfl⟩ := Int.eq_ofNat_of_zero_le hrg.1
              have hal : a < acts.length := by omega
              clear hrg
              obtain ⟨ba, oa, rfl, hba, d0, d1, d2, d3, d4, d5⟩ := rdAct (HA.out.grow HT.out.bel) rfl a hal
              have hok := HN.out.a acts[a] (List.getElem_mem hal)
              have hlen := pRow_len acts tree s0 j
              have hl0 := HL.out
              have hf0 := hok.f0
              have hf1 := hok.f1
              have hg0 := hok.t0
              have hg1 := hok.t1
              have hft := hok.ft
              clear hok
              unfold pStep at Hst
              rw [ag_nat acts a hal] at Hst
              generalize pRow acts tree s0 j = st at *
              obtain ⟨dn, via⟩ := st
              simp only at HT hlen Hst
              have hdl : dn.length = ne := by omega
              have hvl : via.length = ne := by omega
              clear hlen hl0
              generalize acts[a] = aj at *
              obtain ⟨kd, fr, tt, mn, mx, wt⟩ := aj
              simp only at d0 d1 d2 d3 d4 d5 hf0 hf1 hg0 hg1 hft Hst
              obtain ⟨f, rfl⟩ := Int.eq_ofNat_of_zero_le hf0
              obtain ⟨g, rfl⟩ := Int.eq_ofNat_of_zero_le hg0
              simp only [Int.toNat_natCast] at Hst
              have x2 := HT.out.x.cell 2
              simp at x2
              have hxl := HT.out.x.lt
              have hba' : ba < wr.heap.size := World.block_lt_of_cell? _ _ d0
              have hb' : b < wr.heap.size := World.block_lt_of_cell? _ _ q
              go_upto_region 15 with fail
              go_region
              go_upto_region 16 with fail
              refine world_gen (fun w6 => TrS w w6 X G1 G2 ne ne #[.int .i64 T, .slice AE ne ce, .slice (some ⟨ba, oa, none⟩) acts.length ca] via dn ∧ Blk w6 wr.heap.size 62 #[.int .i64 kd, .int .i64 f, .int .i64 g, .int .i64 mn, .int .i64 mx, .int .i64 wt] ∧ w6.cell? ⟨b, off + j, none⟩ = some (.int .i64 a)) ⟨HT.out.grow ((Below.refl _ _).alloc (Nat.le_refl _) _).drew, (Blk.new _ _ _).dr, by rw [← q]; exact (World.cell?_alloc_lt _ _ _ hb')⟩ ?_
              rintro w6 ⟨ht6, ha6, q⟩
              have HT6 := Lib.hid ht6
              have a1 := ha6.cell 1
              have a2 := ha6.cell 2
              simp at a1 a2
              have hYl := ha6.lt
              have hg1 := own_block HT.out.r G1 rfl
              have hg2 := own_block HT.out.d G2 rfl
              have hg12 : G1 ≠ G2 := fun e => ne_far (own_ne HT.out.r HT.out.d (by decide)) rfl (by rw [← e]; rfl)
              have hYG1 : wr.heap.size ≠ G1 := by omega
              have hYG2 : wr.heap.size ≠ G2 := by omega
              have hbG1 : b ≠ G1 := by omega
              have hbG2 : b ≠ G2 := by omega
              generalize wr.heap.size = Y at *
              clear ht6 ha6 HT x2 hxl d0 d1 d2 d3 d4 d5 hba'
              have p1 := own1 HT6.out.d f (by omega)
              have p2 := own1 HT6.out.d g (by omega)
              rw [← gb_nat dn f (by omega)] at p1
              rw [← gb_nat dn g (by omega)] at p2
              cases e1 : gb dn f <;> cases e2 : gb dn g <;> rw [e1] at p1 Hst <;> rw [e2] at p2 Hst
              · have HS := Lib.hid (show pRow acts tree s0 (j + 1) = (dn, via) by rw [Hst.out]; simp)
                go_wp2_with fail
                go_roundg (tree.length - j - 1)
                case measure => have := Hj.out; omega
                case rel => exact ⟨j + 1, by first | rfl | go_num, by omega, by rw [HS.out]; exact HT6.out⟩
              · have HS := Lib.hid (show pRow acts tree s0 (j + 1) = (dn.set f true, via.set f (a : Int)) by rw [Hst.out]; simp)
                have z0 := own1 HT6.out.r f (by omega)
                have z1 := HT6.out.r.frozenAt f
                have z2 := HT6.out.d.frozenAt f
                have HU := Lib.hid ((HT6.out.dr.setD f true).setR f (a : Int))
                go_upto_region 19 with fail
                go_region
                all_goals
                  go_wp2_with fail
                  go_roundg (tree.length - j - 1)
                  case measure => have := Hj.out; omega
                  case rel => exact ⟨j + 1, by first | rfl | go_num, by omega, by rw [HS.out]; exact HU.out⟩
              · have HS := Lib.hid (show pRow acts tree s0 (j + 1) = (dn.set g true, via.set g (a : Int)) by rw [Hst.out]; simp)
                have z0 := own1 HT6.out.r g (by omega)
                have z1 := HT6.out.r.frozenAt g
                have z2 := HT6.out.d.frozenAt g
                have HU := Lib.hid ((HT6.out.dr.setD g true).setR g (a : Int))
                go_upto_region 17 with fail
                go_region
                all_goals
                  go_wp2_with fail
                  go_roundg (tree.length - j - 1)
                  case measure => have := Hj.out; omega
                  case rel => exact ⟨j + 1, by first | rfl | go_num, by omega, by rw [HS.out]; exact HU.out⟩
              · have HS := Lib.hid (show pRow acts tree s0 (j + 1) = (dn, via) by rw [Hst.out]; simp)
                go_wp2_with fail
                go_roundg (tree.length - j - 1)
                case measure => have := Hj.out; omega
                case rel => exact ⟨j + 1, by first | rfl | go_num, by omega, by rw [HS.out]; exact HT6.out⟩
            · obtain rfl : j = tree.length := by have := Hj.out; omega
              go_wp2_with fail
              go_roundg (ne - t - 1)
              case measure => have := Htk.out; omega
              case rel => exact ⟨t + 1, by first | rfl | go_num, by omega, by rw [HSs.out]; exact HT.out⟩
        · obtain rfl : t = ne := by have := Htk.out; omega
          obtain ⟨ord, hps, _⟩ := PSt.done HOk.out (show (0 : Int) ≤ (from_ : Int) by omega) (show (from_ : Int) < (t : Int) by omega)
          have HPF := Lib.hid (show pathF t acts tree from_ to_ = if gb (pAll t acts tree from_ t).1 to_ = true then some (chF acts (pAll t acts tree from_ t).2 from_ t to_ [] []) else none from rfl)
          have HP := Lib.hid hps
          clear hps
          generalize pAll t acts tree from_ t = s1 at *
          obtain ⟨dn, via⟩ := s1
          simp only at HT HPF HP
          have p1 := own1 HT.out.d to_ (by have := HP.out.l1; simp at this; omega)
          rw [← gb_nat dn to_ (by have := HP.out.l1; simp at this; omega)] at p1
          cases e1 : gb dn to_ <;> rw [e1] at p1 HPF
          · go_wp2_with fail
            go_ret3
            refine ⟨HT.out.bel, ?_⟩
            rw [HPF.out]
            rfl
          · have HB := Lib.hid (show PaB w wr X G1 wr.heap.size t #[.int .i64 T, .slice AE t ce, .slice AA acts.length ca] via (.slice none 0 0) (.slice none 0 0) [] [] from
              ⟨HT.out.x, HT.out.bel, HT.out.r, World.ownsRow_nil _ _ _ _, World.ownsRow_nil _ _ _ _, .inl rfl, by have := HT.out.x.lt; have := (own_block HT.out.r G1 rfl).2; omega⟩)
            have hmem : (to_ : Int) ∈ ord := (HP.out.mem to_ (by omega) (by omega)).1 e1
            have hidx : ord.idxOf (to_ : Int) ≤ t := by
              have h1 : ord.idxOf (to_ : Int) < ord.length := List.idxOf_lt_length_of_mem hmem
              have h2 := nodup_le2 t ord HP.out.nd HP.out.rg
              omega
            rw [if_pos rfl] at HPF
            have HR4 : Hid (∃ res, pathF t acts tree from_ to_ = some res ∧ chF acts via from_ t to_ [] [] = res) := ⟨_, HPF.out, rfl⟩
            clear HPF
            obtain ⟨res, hr1, hr2⟩ := HR4.out
            have HPF := Lib.hid hr1
            have HS4 := Lib.hid (show Pa4 w X G1 wr.heap.size t acts via from_ ord res #[.int .i64 T, .slice AE t ce, .slice AA acts.length ca] (ord.idxOf (to_ : Int)) (.slice none 0 0) (.slice none 0 0) (.int .i64 (to_ : Int)) wr from
              ⟨to_, [], [], t, rfl, hmem, rfl, hidx, by simp, by simp, hr2, HB.out⟩)
            clear HR4 hr1 hr2 HB hmem hidx
            go_wp2_with fail
            clear HT p1 x1 Htk hltt
            generalize wr.heap.size = M at *
            go_loopg [17, 18, 19, 20, 21] (ord.idxOf (to_ : Int)) (fun k v17 v18 v19 _ _ wr => Pa4 w X G1 M t acts via from_ ord res #[.int .i64 T, .slice AE t ce, .slice AA acts.length ca] k v17 v18 v19 wr)
            case atStart => exact HS4.out
            case round =>
              clear HS4
              obtain ⟨x, ars, ss, q, rfl, hx, hk, hkq, hla, hls, hch, hpb⟩ := hrel
              obtain ⟨A17, c17, rfl, hc17, hm17⟩ := own_slice hpb.a
              obtain ⟨A18, c18, rfl, hc18, hm18⟩ := own_slice hpb.s
              have Hk := Lib.hid hk
              have HC := Lib.hid hch
              have HB := Lib.hid hpb
              have Hx := Lib.hid hx
              clear hk hch hpb hx
              by_cases hxf : x = (from_ : Int)
              · have hxf' : (x != (from_ : Int)) = false := by simpa using hxf
                have HRes := Lib.hid (show (ars, ss) = res by rw [← HC.out, hxf]; exact (chF_done _ _ _ _ _ _).symm)
                clear hxf
                go_wp2_with fail
                go_ret3
                refine ⟨HB.out.bel, ?_⟩
                rw [HPF.out]
                have hM := HB.out.hM
                rw [← HRes.out]
                exact ⟨A17, A18, c17, c18, rfl, own_base HB.out.a (by omega), own_base HB.out.s (by omega), HB.out.d⟩
              · have hxf' : (x != (from_ : Int)) = true := by simpa using hxf
                obtain ⟨hvt, hmo, hix, _, _⟩ := HP.out.back Hx.out hxf
                simp only at hvt hmo hix
                have hxr := HP.out.rg x Hx.out
                obtain ⟨xn, rfl⟩ := Int.eq_ofNat_of_zero_le hxr.1
                have hxn : xn < t := by omega
                obtain ⟨q, rfl⟩ : ∃ q', q = q' + 1 := ⟨q - 1, by have := Hk.out; omega⟩
                have hstep : chF acts via from_ (q + 1) xn ars ss = chF acts via from_ q ((ag acts (gi via xn)).fr + (ag acts (gi via xn)).tt - xn) (gi via xn :: ars) ((if (ag acts (gi via xn)).fr = (xn : Int) then -1 else 1) :: ss) := by
                  conv => lhs; unfold chF
                  rw [if_neg hxf]
                rw [HC.out] at hstep
                have hvl : via.length = t := by have := HP.out.l2; simpa using this
                have z0 := own1 HB.out.r xn (by omega)
                have hgv : gi via xn = via[xn] := gi_nat via xn (by omega)
                rw [hgv] at hvt hmo hix hstep
                have Hz := Lib.hid (fun (w6 : World) (h : PaB w w6 X G1 M t #[.int .i64 T, .slice AE t ce, .slice AA acts.length ca] via (.slice A17 ars.length c17) (.slice A18 ss.length c18) ars ss) => own1 h.r xn (by omega))
                clear hgv
                generalize via[xn] = tv at *
                have hrg := HOk.out.rg tv hvt
                obtain ⟨a, rfl⟩ := Int.eq_ofNat_of_zero_le hrg.1
                have hal : a < acts.length := by omega
                rw [ag_nat acts a hal] at hmo hix hstep
                obtain ⟨ba, oa, rfl, hba, d0, d1, d2, d3, d4, d5⟩ := rdAct (HA.out.grow HB.out.bel) rfl a hal
                have hok := HN.out.a acts[a] (List.getElem_mem hal)
                have hf0 := hok.f0
                have hf1 := hok.f1
                have hg0 := hok.t0
                have hg1 := hok.t1
                clear hok hrg hxr
                generalize acts[a] = aj at *
                obtain ⟨kd, fr, tt, mn, mx, wt⟩ := aj
                simp only at d0 d1 d2 d3 d4 d5 hf0 hf1 hg0 hg1 hmo hix hstep
                obtain ⟨f, rfl⟩ := Int.eq_ofNat_of_zero_le hf0
                obtain ⟨g, rfl⟩ := Int.eq_ofNat_of_zero_le hg0
                have HSt := Lib.hid hstep
                have Hmo := Lib.hid hmo
                have Hix := Lib.hid hix
                clear hstep hmo hix
                have x2 := HB.out.x.cell 2
                simp at x2
                have hxl := HB.out.x.lt
                have hgl := (own_block HB.out.r G1 rfl).2
                have hba' : ba < wr.heap.size := World.block_lt_of_cell? _ _ d0
                go_upto_region 25 with fail
                go_region
                go_upto_region 26 with fail
                refine world_gen (fun w6 => PaB w w6 X G1 M t #[.int .i64 T, .slice AE t ce, .slice (some ⟨ba, oa, none⟩) acts.length ca] via (.slice A17 ars.length c17) (.slice A18 ss.length c18) ars ss ∧ Blk w6 wr.heap.size 62 #[.int .i64 kd, .int .i64 f, .int .i64 g, .int .i64 mn, .int .i64 mx, .int .i64 wt]) ⟨HB.out.grow ((Below.refl _ _).alloc (Nat.le_refl _) _).drew, (Blk.new _ _ _).dr⟩ ?_
                rintro w6 ⟨hb6, ha6⟩
                have z0 := Hz.out w6 hb6
                have HB6 := Lib.hid hb6
                have HA6 := Lib.hid ha6
                have a1 := ha6.cell 1
                have a2 := ha6.cell 2
                simp at a1 a2
                have hM6 := hb6.hM
                generalize wr.heap.size = Y at *
                clear hb6 ha6 HB Hz x2 hxl d0 d1 d2 d3 d4 d5 hba'
                have hn17 : A17 = none → ars.length = 0 ∧ c17 = 0 := fun e => by have := HB6.out.a; rw [e] at this; exact own_nil this
                have hn18 : A18 = none → ss.length = 0 ∧ c18 = 0 := fun e => by have := HB6.out.s; rw [e] at this; exact own_nil this
                have Hn17 := Lib.hid hn17
                have Hn18 := Lib.hid hn18
                clear hn17 hn18
                by_cases hfx : (f : Int) = (xn : Int)
                · have hfx' : ((f : Int) == (xn : Int)) = true := by simpa using hfx
                  rw [if_pos hfx] at HSt
                  clear hfx
                  go_wp2_with (at_builtin; first | (refine wpList_append_any rfl _ _ 22 rfl M 3 i0 _ 1 8 Try.underlying22 HI.out.1 HI.out.2.1 HI.out.2.2.1 HI.out.2.2.2 rfl (by omega) (.slice (some ⟨w6.heap.size, 0, none⟩) 1 1) 1 [.int .i64 (a : Int)] rfl (own_new1 _ _ hM6.2.2.2) A17 ars.length c17 _ (ars.map (Value.int .i64)) rfl Hn17.out (Rd.of_own (World.ownsRow.alloc HB6.out.a _)) (fun u hu => by obtain ⟨_, _, rfl⟩ := List.mem_map.1 hu; rfl) ?r1 ?r2 ?r3 ?_; rotate_right; intro v7 w7 ho7 hg7 hat7; have HB7 := Lib.hid (HB6.out.preA hg7 ho7 hat7); have HA7 := Lib.hid (HA6.out.bel (grown_fresh hg7)); have hM7 := HB7.out.hM; clear ho7 hg7 hat7 HB6 HA6 a1 a2 z0) | (refine wpList_append_any rfl _ _ 22 rfl M 3 i0 _ 1 8 Try.underlying22 HI.out.1 HI.out.2.1 HI.out.2.2.1 HI.out.2.2.2 rfl (by omega) (.slice (some ⟨w7.heap.size, 0, none⟩) 1 1) 1 [.int .i64 (-1)] rfl (own_new1 _ _ hM7.2.2.2) A18 ss.length c18 _ (ss.map (Value.int .i64)) rfl Hn18.out (Rd.of_own (World.ownsRow.alloc HB7.out.s _)) (fun u hu => by obtain ⟨_, _, rfl⟩ := List.mem_map.1 hu; rfl) ?r4 ?r5 ?r6 ?_; rotate_right; intro v8 w8 ho8 hg8 hat8; have hy8 := HA7.out.bel (grown_fresh hg8); have y1 := hy8.cell 1; have y2 := hy8.cell 2; simp at y1 y2))
                  case r1 => simp only [maxLen]; omega
                  case r2 => omega
                  case r3 => first | omega | (simp; omega)
                  case r4 => simp only [maxLen]; omega
                  case r5 => omega
                  case r6 => first | omega | (simp; omega)
                  have HB8 := Lib.hid (HB7.out.preS hg8 ho8 hat8)
                  go_roundg (ord.idxOf ((f : Int) + (g : Int) - (xn : Int)))
                  case measure => have := Hix.out; have := Hk.out; omega
                  case rel => exact ⟨_, _, _, q, rfl, Hmo.out, rfl, by have := Hix.out; have := Hk.out; omega, by simp; omega, by simp; omega, HSt.out.symm, HB8.out⟩
                · have hfx' : ((f : Int) == (xn : Int)) = false := by simpa using hfx
                  rw [if_neg hfx] at HSt
                  clear hfx
                  go_wp2_with (at_builtin; first | (refine wpList_append_any rfl _ _ 22 rfl M 3 i0 _ 1 8 Try.underlying22 HI.out.1 HI.out.2.1 HI.out.2.2.1 HI.out.2.2.2 rfl (by omega) (.slice (some ⟨w6.heap.size, 0, none⟩) 1 1) 1 [.int .i64 (a : Int)] rfl (own_new1 _ _ hM6.2.2.2) A17 ars.length c17 _ (ars.map (Value.int .i64)) rfl Hn17.out (Rd.of_own (World.ownsRow.alloc HB6.out.a _)) (fun u hu => by obtain ⟨_, _, rfl⟩ := List.mem_map.1 hu; rfl) ?r1 ?r2 ?r3 ?_; rotate_right; intro v7 w7 ho7 hg7 hat7; have HB7 := Lib.hid (HB6.out.preA hg7 ho7 hat7); have HA7 := Lib.hid (HA6.out.bel (grown_fresh hg7)); have hM7 := HB7.out.hM; clear ho7 hg7 hat7 HB6 HA6 a1 a2 z0) | (refine wpList_append_any rfl _ _ 22 rfl M 3 i0 _ 1 8 Try.underlying22 HI.out.1 HI.out.2.1 HI.out.2.2.1 HI.out.2.2.2 rfl (by omega) (.slice (some ⟨w7.heap.size, 0, none⟩) 1 1) 1 [.int .i64 (1)] rfl (own_new1 _ _ hM7.2.2.2) A18 ss.length c18 _ (ss.map (Value.int .i64)) rfl Hn18.out (Rd.of_own (World.ownsRow.alloc HB7.out.s _)) (fun u hu => by obtain ⟨_, _, rfl⟩ := List.mem_map.1 hu; rfl) ?r4 ?r5 ?r6 ?_; rotate_right; intro v8 w8 ho8 hg8 hat8; have hy8 := HA7.out.bel (grown_fresh hg8); have y1 := hy8.cell 1; have y2 := hy8.cell 2; simp at y1 y2))
                  case r1 => simp only [maxLen]; omega
                  case r2 => omega
                  case r3 => first | omega | (simp; omega)
                  case r4 => simp only [maxLen]; omega
                  case r5 => omega
                  case r6 => first | omega | (simp; omega)
                  have HB8 := Lib.hid (HB7.out.preS hg8 ho8 hat8)
                  go_roundg (ord.idxOf ((f : Int) + (g : Int) - (xn : Int)))
                  case measure => have := Hix.out; have := Hk.out; omega
                  case rel => exact ⟨_, _, _, q, rfl, Hmo.out, rfl, by have := Hix.out; have := Hk.out; omega, by simp; omega, by simp; omega, HSt.out.symm, HB8.out⟩
end Go.Proofs.Ytcgamkldlmmdnaa
