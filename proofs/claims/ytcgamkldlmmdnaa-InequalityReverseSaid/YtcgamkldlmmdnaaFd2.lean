import Derived.Test.YtcgamkldlmmdnaaFd
namespace Go.Proofs.Ytcgamkldlmmdnaa
open Go.RowKit

theorem ne_far {v1 v2 : Value} {g : Nat} (h : v1.ownBlock = none ∨ v1.ownBlock ≠ v2.ownBlock) (hg : v2.ownBlock = some g) : v1.ownBlock ≠ some g := by
  intro e
  rcases h with h | h
  · rw [h] at e; cases e
  · exact h (by rw [e, hg])
/-- the memory of Tree and Forest: the network's box X, the labels G1, and G2 -/
structure TrS (w wr : World) (X G1 G2 ne na : Nat) (xs : Array Value) (root : List Int) (dn : List Bool) : Prop where
  x : Blk wr X 26 xs
  bel : Below w.heap.size w wr
  r : wr.ownsRow (X + 1) 3 1 (.slice (some ⟨G1, 0, none⟩) ne ne) ne (root.map (Value.int .i64))
  d : wr.ownsRow (X + 1) 4 1 (.slice (some ⟨G2, 0, none⟩) na na) na (dn.map Value.bool)
  hX : w.heap.size ≤ X
section
variable {w wr w' : World} {X G1 G2 ne na : Nat} {xs : Array Value} {root root' : List Int} {dn : List Bool}
theorem TrS.grow (h : TrS w wr X G1 G2 ne na xs root dn) (hb : Below wr.heap.size wr w') : TrS w w' X G1 G2 ne na xs root dn :=
  ⟨h.x.bel hb, h.bel.trans (hb.mono h.bel.size), own_grow h.r hb, own_grow h.d hb, h.hX⟩
theorem TrS.merge (h : TrS w wr X G1 G2 ne na xs root dn) (hg : wr.grownBy w' (some G1)) (ho : w'.ownsRow (X + 1) 3 1 (.slice (some ⟨G1, 0, none⟩) ne ne) ne (root'.map (Value.int .i64))) : TrS w w' X G1 G2 ne na xs root' dn := by
  have h1 := (own_block h.r G1 rfl).1
  have hX := h.hX
  exact ⟨h.x.grown hg (fun e => by injection e with e; omega), h.bel.grown hg (by have := h.bel.size; omega) (fun k hk => by injection hk with hk; omega), ho, h.d.kept hg (own_ne h.d h.r (by decide)), hX⟩
theorem TrS.setD (h : TrS w wr X G1 G2 ne na xs root dn) (i : Nat) (b : Bool) : TrS w (wr.setCell ⟨G2, i, none⟩ (.bool b)) X G1 G2 ne na xs root (dn.set i b) := by
  have h1 := (own_block h.d G2 rfl).1
  have hX := h.hX
  exact ⟨h.x.far (by omega), h.bel.setCell (by simp; omega) _, own_far h.r (ne_far (own_ne h.r h.d (by decide)) rfl), own1_set h.d i b, hX⟩
end
def Tr1 (w : World) (X G1 ne : Nat) (xs : Array Value) (k : Nat) (v : Value) (wr : World) : Prop :=
  ∃ j : Nat, v = .int .i64 j ∧ j + k = ne ∧ Blk wr X 26 xs ∧ Below w.heap.size w wr ∧ wr.ownsRow (X + 1) 3 1 (.slice (some ⟨G1, 0, none⟩) ne ne) ne (((iotaL ne).take j ++ List.replicate ((iotaL ne).length - j) 0).map (Value.int .i64))
def Tr2 (w : World) (X G1 G2 ne : Nat) (acts : List Act) (xs : Array Value) (N k : Nat) (v : Value) (wr : World) : Prop :=
  ∃ t : Nat, v = .int .i64 t ∧ t + k = N ∧ TrS w wr X G1 G2 ne acts.length xs (trAll ne acts t).1 (trAll ne acts t).2
def Tr3 (w : World) (X G1 G2 ne : Nat) (acts : List Act) (xs : Array Value) (t k : Nat) (v : Value) (wr : World) : Prop :=
  ∃ j : Nat, v = .int .i64 j ∧ j + k = acts.length ∧ TrS w wr X G1 G2 ne acts.length xs (trRow acts t (trAll ne acts t) j).1 (trRow acts t (trAll ne acts t) j).2
def Tr4 (w : World) (X G2 : Nat) (acts : List Act) (dn : List Bool) (k : Nat) (v9 v : Value) (wr : World) : Prop :=
  ∃ j : Nat, v = .int .i64 j ∧ j + k = acts.length ∧ wr.ownsRow (G2 + 1) 3 1 v9 (takL dn j).length ((takL dn j).map (Value.int .i64)) ∧ wr.ownsRow (X + 1) 4 1 (.slice (some ⟨G2, 0, none⟩) acts.length acts.length) acts.length (dn.map Value.bool) ∧ Below w.heap.size w wr
/-- what Tree gives -/
def TreeOut (T : Int) (ne : Nat) (acts : List Act) (w : World) (e : Ending) (w' : World) : Prop :=
  ∃ (A : Option Addr) (c : Nat), e = .returned (.slice A (treeF T ne acts).length c) ∧ w'.ownsRow (w.heap.size + 1) 3 1 (.slice A (treeF T ne acts).length c) (treeF T ne acts).length ((treeF T ne acts).map (Value.int .i64)) ∧ Below w.heap.size w w'

set_option maxRecDepth 100000 in
set_option maxHeartbeats 6400000 in
theorem tree_any (T : Int) (AE AA : Option Addr) (ne ce ca : Nat) (acts : List Act) (w : World) (hA : Rd w w.heap.size 6 AA acts.length (acts.flatMap Act.cells)) (hN : NetOk T ne acts) :
    Calls Try.prog 35 #[.agg #[.int .i64 T, .slice AE ne ce, .slice AA acts.length ca]] w (TreeOut T ne acts w) := by
  have HA := Lib.hid hA
  have HN := Lib.hid hN
  have ht0 := hN.t0
  have ht1 := hN.t1
  have hne := hN.e
  have hna := hN.n
  clear hA hN
  obtain ⟨i0, hi0, hz0, hz1, hz2⟩ := info_parts infoInt
  have HI := Lib.hid (And.intro hi0 (And.intro hz0 (And.intro hz1 hz2)))
  obtain ⟨j0, hj0, hy0, hy1, hy2⟩ := info_parts infoBool
  have HJ := Lib.hid (And.intro hj0 (And.intro hy0 (And.intro hy1 hy2)))
  clear hi0 hz0 hz1 hz2 hj0 hy0 hy1 hy2
  go_enter Try.func35, Try.ntmps35
  go_upto_region 1 with fail
  refine world_gen (fun w1 => Below w.heap.size w w1 ∧ Blk w1 w.heap.size 26 #[.int .i64 T, .slice AE ne ce, .slice AA acts.length ca]) ⟨(Below.refl _ _).alloc (Nat.le_refl _) _, Blk.new _ _ _⟩ ?_
  rintro w0 ⟨hb0, hx0⟩
  obtain ⟨X, hX⟩ : ∃ X, X = w.heap.size := ⟨_, rfl⟩
  rw [← hX] at ⊢
  rw [show Blk w0 w.heap.size = Blk w0 X by rw [hX]] at hx0
  have hXw : w.heap.size ≤ X := by omega
  have hXw2 : X ≤ w.heap.size := by omega
  clear hX
  have HX0 := Lib.hid hx0
  have Hb0 := Lib.hid hb0
  have x0 := hx0.cell 0
  have x1 := hx0.cell 1
  have x2 := hx0.cell 2
  simp at x0 x1 x2
  clear hx0 hb0
  go_wp2_with fail
  refine (rnetchk_any T AE AA ne ce ca acts w0 ((HA.out.grow (show Below w.heap.size w w0 from by have := Hb0.out; exact this)).more Hb0.out.size) (by omega) (by omega)).mono ?_
  rintro e w1 ⟨rfl, hb1⟩
  rw [netB_yes HN.out]
  have HX1 := Lib.hid (HX0.out.bel hb1)
  have Hb1 := Lib.hid (Hb0.out.trans (hb1.mono Hb0.out.size))
  clear x0 x1 x2 hb1 HX0 Hb0
  have x1 := HX1.out.cell 1
  simp at x1
  have hxl := HX1.out.lt
  go_upto_region 4 with (at_make; refine wpList_make_full _ rfl _ _ 22 rfl (X + 1) 3 i0 _ 1 Try.underlying22 HI.out.1 HI.out.2.1 HI.out.2.2.1 .i64 .i64 _ _ ne rfl rfl rfl rfl ?m1 ?m2 ?m3 ?_; rotate_right; intro w2 hown2 hg2)
  case m1 => rw [HI.out.2.2.2]; omega
  case m2 => simp only [maxLen]; omega
  case m3 => omega
  have hb2 : Below w1.heap.size w1 w2 := (Below.refl _ _).grown hg2 (Nat.le_refl _) (by simp)
  have HT1 := Lib.hid (show Tr1 w X w1.heap.size ne #[.int .i64 T, .slice AE ne ce, .slice AA acts.length ca] ne (.int .i64 ((0 : Nat) : Int)) w2 from ⟨0, rfl, by omega, HX1.out.bel hb2, Hb1.out.trans (hb2.mono Hb1.out.size), by
    rw [← fill_zero _ _ _ (iotaL_len ne)]
    have := madeCells_one (Value.int .i64) 0 ne
    rw [← this]
    exact hown2⟩)
  clear hown2 hg2 hb2 HX1 Hb1 x1 hxl
  generalize w1.heap.size = G1 at *
  go_wp2_with fail
  go_loopg [4, 20] ne (fun k _ v wr => Tr1 w X G1 ne #[.int .i64 T, .slice AE ne ce, .slice AA acts.length ca] k v wr)
  case atStart => exact HT1.out
  case round =>
    obtain ⟨j, rfl, hj, hx, hb, ho⟩ := hrel
    clear HT1
    have Hj := Lib.hid hj
    have HX := Lib.hid hx
    have Hb := Lib.hid hb
    have HO := Lib.hid ho
    clear hj hx hb ho
    by_cases hlt : j < ne
    · have hil : j < (iotaL ne).length := by rw [iotaL_len]; exact hlt
      have hset := own1_set HO.out j (iotaL ne)[j]
      rw [fill_set _ _ _ hil, iotaL_get ne j hlt] at hset
      have HS := Lib.hid hset
      have q0 := own1 HO.out j (by rw [fill_len _ _ _ (by omega)]; exact hil)
      have q1 := HO.out.frozenAt j
      have hG := (own_block HO.out G1 rfl).1
      clear hset
      go_wp2_with fail
      go_roundg (ne - j - 1)
      case measure => have := Hj.out; omega
      case rel => exact ⟨j + 1, by first | rfl | go_num, by omega, HX.out.far (by omega), Hb.out.setCell (by simp; omega) _, HS.out⟩
    · have ho := HO.out
      rw [fill_all _ _ _ (by rw [iotaL_len]; omega)] at ho
      have HO1 := Lib.hid ho
      clear HO ho Hj
      have x2 := HX.out.cell 2
      simp at x2
      have hxl := HX.out.lt
      go_upto_region 10 with (at_make; refine wpList_make_full _ rfl _ _ 80 rfl (X + 1) 4 j0 _ 1 Try.underlying80 HJ.out.1 HJ.out.2.1 HJ.out.2.2.1 .i64 .i64 _ _ acts.length rfl rfl rfl rfl ?m1 ?m2 ?m3 ?_; rotate_right; intro w3 hown3 hg3)
      case m1 => rw [HJ.out.2.2.2]; omega
      case m2 => simp only [maxLen]; omega
      case m3 => omega
      have hb3 : Below wr.heap.size wr w3 := (Below.refl _ _).grown hg3 (Nat.le_refl _) (by simp)
      have HT := Lib.hid (show TrS w w3 X G1 wr.heap.size ne acts.length #[.int .i64 T, .slice AE ne ce, .slice AA acts.length ca] (trAll ne acts 0).1 (trAll ne acts 0).2 from ⟨HX.out.bel hb3, Hb.out.trans (hb3.mono Hb.out.size), own_grow HO1.out hb3, by
        have := madeCells_one Value.bool false acts.length
        show w3.ownsRow _ _ _ _ _ ((List.replicate acts.length false).map Value.bool)
        rw [← this]
        exact hown3, hXw⟩)
      clear hown3 hg3 hb3 HX Hb HO1 x2 hxl hlt
      generalize wr.heap.size = G2 at *
      obtain ⟨N, rfl⟩ := Int.eq_ofNat_of_zero_le (show 0 ≤ T by omega)
      go_wp2_with fail
      go_loopg [6, 7, 8] N (fun k v _ _ wr => Tr2 w X G1 G2 ne acts #[.int .i64 (N : Int), .slice AE ne ce, .slice AA acts.length ca] N k v wr)
      case atStart => exact ⟨0, rfl, by omega, HT.out⟩
      case round =>
        obtain ⟨t, rfl, htk, hts⟩ := hrel
        clear HT
        have Htk := Lib.hid htk
        have HT := Lib.hid hts
        clear htk hts
        have x0 := HT.out.x.cell 0
        simp at x0
        by_cases hltt : t < N
        · obtain ⟨wo, rfl⟩ : ∃ wo : World, wo = wr := ⟨_, rfl⟩
          go_wp2_with fail
          clear x0
          go_loopg [7, 8] acts.length (fun k v _ wr => Tr3 w X G1 G2 ne acts #[.int .i64 (N : Int), .slice AE ne ce, .slice AA acts.length ca] t k v wr)
          case atStart => exact ⟨0, rfl, by omega, HT.out⟩
          case round =>
            obtain ⟨j, rfl, hj, hts⟩ := hrel
            clear HT
            have Hj := Lib.hid hj
            have HT := Lib.hid hts
            clear hj hts
            have x2 := HT.out.x.cell 2
            simp at x2
            have hxl := HT.out.x.lt
            by_cases hltj : j < acts.length
            · obtain ⟨ba, oa, rfl, hba, d0, d1, d2, d3, d4, d5⟩ := rdAct (HA.out.grow HT.out.bel) rfl j hltj
              have hok := HN.out.a acts[j] (List.getElem_mem hltj)
              have hlen := trRow_len acts t (trAll ne acts t) j
              have hlen2 := trAll_len ne acts t
              have Hst : Hid (trRow acts t (trAll ne acts t) (j + 1) = trStep t acts[j] j (trRow acts t (trAll ne acts t) j)) := by show trStep t (ag acts j) j _ = _; rw [ag_nat acts j hltj]
              have hm0 := hok.m0
              have hm1 := hok.m1
              have hmm := hok.mm
              have hf0 := hok.f0
              have hf1 := hok.f1
              have hg0 := hok.t0
              have hg1 := hok.t1
              clear hok
              generalize trRow acts t (trAll ne acts t) j = st at *
              obtain ⟨root, dn⟩ := st
              simp only at HT hlen
              have hdl : dn.length = acts.length := by omega
              clear hlen hlen2
              generalize acts[j] = aj at *
              obtain ⟨kd, fr, tt, mn, mx, wt⟩ := aj
              simp only at d0 d1 d2 d3 d4 d5 hm0 hm1 hmm hf0 hf1 hg0 hg1
              have hba' : ba < wr.heap.size := World.block_lt_of_cell? _ _ d0
              go_upto_region 17 with fail
              refine world_gen (fun w6 => TrS w w6 X G1 G2 ne acts.length #[.int .i64 (N : Int), .slice AE ne ce, .slice (some ⟨ba, oa, none⟩) acts.length ca] root dn ∧ Blk w6 wr.heap.size 62 #[.int .i64 kd, .int .i64 fr, .int .i64 tt, .int .i64 mn, .int .i64 mx, .int .i64 wt]) ⟨HT.out.grow ((Below.refl _ _).alloc (Nat.le_refl _) _), Blk.new _ _ _⟩ ?_
              rintro w6 ⟨ht6, ha6⟩
              have HT6 := Lib.hid ht6
              have a0 := ha6.cell 0
              have a1 := ha6.cell 1
              have a2 := ha6.cell 2
              have a3 := ha6.cell 3
              have a4 := ha6.cell 4
              have a5 := ha6.cell 5
              simp at a0 a1 a2 a3 a4 a5
              clear ht6 ha6 HT x2 hxl d0 d1 d2 d3 d4 d5 hba'
              by_cases hsp : mx - mn = (t : Int)
              · have hsp' : (mx - mn == (t : Int)) = true := by simpa using hsp
                have Hsp := Lib.hid hsp
                clear hsp
                go_wp2_with fail
                refine (merge_any (X + 1) G1 ne root ⟨kd, fr, tt, mn, mx, wt⟩ w6 HT6.out.r (by omega) hf0 hf1 hg0 hg1).mono ?_
                rintro e w7 ⟨rfl, ho7, hg7⟩
                have HT7 := Lib.hid (HT6.out.merge hg7 ho7)
                clear a0 a1 a2 a3 a4 a5 HT6 ho7 hg7
                cases hmb : mergeB root ⟨kd, fr, tt, mn, mx, wt⟩
                · have HS := Lib.hid (show trRow acts t (trAll ne acts t) (j + 1) = (mergeR root ⟨kd, fr, tt, mn, mx, wt⟩, dn) by rw [Hst.out]; unfold trStep; rw [if_pos Hsp.out, hmb]; rfl)
                  go_wp2_with fail
                  go_roundg (acts.length - j - 1)
                  case measure => have := Hj.out; omega
                  case rel => exact ⟨j + 1, by first | rfl | go_num, by omega, by rw [HS.out]; exact HT7.out⟩
                · have HS := Lib.hid (show trRow acts t (trAll ne acts t) (j + 1) = (mergeR root ⟨kd, fr, tt, mn, mx, wt⟩, dn.set j true) by rw [Hst.out]; unfold trStep; rw [if_pos Hsp.out, hmb]; rfl)
                  have HT8 := Lib.hid (HT7.out.setD j true)
                  have q0 := own1 HT7.out.d j (by omega)
                  have q1 := HT7.out.d.frozenAt j
                  go_wp2_with fail
                  go_roundg (acts.length - j - 1)
                  case measure => have := Hj.out; omega
                  case rel => exact ⟨j + 1, by first | rfl | go_num, by omega, by rw [HS.out]; exact HT8.out⟩
              · have hsp' : (mx - mn == (t : Int)) = false := by simpa using hsp
                have HS := Lib.hid (show trRow acts t (trAll ne acts t) (j + 1) = (root, dn) by rw [Hst.out]; unfold trStep; rw [if_neg hsp])
                clear hsp
                go_wp2_with fail
                go_roundg (acts.length - j - 1)
                case measure => have := Hj.out; omega
                case rel => exact ⟨j + 1, by first | rfl | go_num, by omega, by rw [HS.out]; exact HT6.out⟩
            · obtain rfl : j = acts.length := by have := Hj.out; omega
              go_wp2_with fail
              go_roundg (N - t - 1)
              case measure => have := Htk.out; omega
              case rel => exact ⟨t + 1, by first | rfl | go_num, by omega, HT.out⟩
        · obtain rfl : t = N := by have := Htk.out; omega
          have HD := Lib.hid HT.out.d
          have Hbel := Lib.hid HT.out.bel
          have Hdl := Lib.hid (trAll_len ne acts t).2
          have HTF := Lib.hid (show treeF (t : Int) ne acts = takL (trAll ne acts t).2 acts.length by unfold treeF; rw [Int.toNat_natCast])
          generalize (trAll ne acts t).2 = dn at *
          go_wp2_with fail
          clear x0 HT Htk
          go_loopg [9, 10, 67] acts.length (fun k v9 _ v wr => Tr4 w X G2 acts dn k v9 v wr)
          case atStart => exact ⟨0, rfl, by omega, by simpa [takL] using World.ownsRow_nil _ _ _ _, HD.out, Hbel.out⟩
          case round =>
            clear HD Hbel
            obtain ⟨j, rfl, hj, hv, hd, hb⟩ := hrel
            obtain ⟨A9, c9, rfl, hc9, hm9⟩ := own_slice hv
            have Hj := Lib.hid hj
            have HV := Lib.hid hv
            have HD := Lib.hid hd
            have Hb := Lib.hid hb
            clear hj hv hd hb
            have hG2 := own_block HD.out G2 rfl
            by_cases hltj : j < acts.length
            · have hjd : j < dn.length := by rw [Hdl.out]; exact hltj
              have q0 := own1 HD.out j hjd
              have qg : dn[j] = gb dn j := (gb_nat dn j hjd).symm
              rw [qg] at q0
              have hol := takL_len dn j
              have Hs1 := Lib.hid (takL_succ dn j)
              clear qg
              cases hci : gb dn j <;> rw [hci] at q0
              · go_wp2_with fail
                go_roundg (acts.length - j - 1)
                case measure => have := Hj.out; omega
                case rel =>
                  refine ⟨j + 1, by first | rfl | go_num, by omega, ?_, HD.out, Hb.out⟩
                  rw [Hs1.out, hci, if_neg (by simp)]
                  exact HV.out
              · have hwl := Hb.out.size
                go_wp2_with (at_builtin; refine wpList_append_own_at _ rfl _ _ 22 rfl (G2 + 1) 3 i0 _ 1 8 Try.underlying22 HI.out.1 HI.out.2.1 HI.out.2.2.1 HI.out.2.2.2 rfl (by omega) _ (takL dn j).length _ rfl (World.ownsRow.alloc HV.out _) ⟨wr.heap.size, 0, none⟩ 1 1 [.int .i64 (j : Int)] rfl rfl ?c0 ?c1 ?c2 ?c3 ?c4 ?_; rotate_right; intro v' w' hown' hg' _ hat')
                case c0 => exact news_new _ _ _
                case c1 => intro u hu; simp at hu; subst hu; rfl
                case c2 => simp only [maxLen]; omega
                case c3 => omega
                case c4 => simp; omega
                have hob := own_block HV.out
                have hnG : ∀ g, some g = Value.ownBlock _ → G2 + 1 ≤ g := fun g e => (hob g e.symm).1
                have Hg' := Lib.hid hg'
                have Hown' := Lib.hid hown'
                have HnG := Lib.hid hnG
                clear hg' hown' hat' hob hnG
                go_roundg (acts.length - j - 1)
                case measure => have := Hj.out; omega
                case rel =>
                  refine ⟨j + 1, by first | rfl | go_num, by omega, ?_, ?_, ?_⟩
                  · have := Hown'.out
                    rw [Hs1.out, if_pos hci]
                    simpa using this
                  · exact (World.ownsRow.alloc HD.out _).kept Hg'.out (.inr (fun e => by have := HnG.out G2 e; omega))
                  · exact (Hb.out.alloc Hb.out.size _).grown Hg'.out (by simp; have := Hb.out.size; omega) (fun g e => by have := HnG.out g e.symm; omega)
            · obtain rfl : j = acts.length := by have := Hj.out; omega
              go_wp2_with fail
              go_ret
              refine ⟨A9, c9, ?_, ?_, Hb.out⟩
              · rw [HTF.out]; rfl
              · rw [HTF.out]
                exact own_base HV.out (by omega)
end Go.Proofs.Ytcgamkldlmmdnaa
