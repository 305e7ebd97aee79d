import Derived.Test.YtcgamkldlmmdnaaFd5
import Derived.Test.YtcgamkldlmmdnaaBunA
namespace Go.Proofs.Ytcgamkldlmmdnaa
open Go.RowKit

theorem infoCyc : (Try.prog.info? 32).map (fun i => (i.zero, i.size, i.bytes)) = some (some (.agg #[.slice none 0 0, .slice none 0 0]), 2, 48) := by kernel_rfl
/-- a cycle whose lists the call made -/
structure CyOwn (w : World) (base : Nat) (c : Cyc) : Prop where
  r : w.ownsRow base 3 1 (.slice c.Ar c.arcs.length c.cr) c.arcs.length (c.arcs.map (Value.int .i64))
  s : w.ownsRow base 3 1 (.slice c.As c.signs.length c.cs) c.signs.length (c.signs.map (Value.int .i64))
  hr : c.arcs.length ≤ 4611686018427387904
  hs : c.signs.length ≤ 4611686018427387904
theorem CyOwn.grow {w w' : World} {base : Nat} {c : Cyc} (h : CyOwn w base c) (hb : Below w.heap.size w w') : CyOwn w' base c := ⟨own_grow h.r hb, own_grow h.s hb, h.hr, h.hs⟩
theorem CyOwn.rd {w : World} {base : Nat} {c : Cyc} (h : CyOwn w base c) : CyRd w c := ⟨Rd.of_own h.r, Rd.of_own h.s, h.hr, h.hs⟩
/-- the memory of Fundamental -/
structure FuS (w wr : World) (X : Nat) (xs : Array Value) (v6 : Value) (l : List Cyc) : Prop where
  x : Blk wr X 26 xs
  bel : Below w.heap.size w wr
  row : wr.ownsRow (X + 1) 32 2 v6 l.length (l.flatMap Cyc.cells)
  cy : ∀ c ∈ l, CyOwn wr (X + 1) c
  hX : w.heap.size ≤ X
section
variable {w wr w' : World} {X : Nat} {xs : Array Value} {v6 v' : Value} {l : List Cyc}
theorem FuS.grow (h : FuS w wr X xs v6 l) (hb : Below wr.heap.size wr w') : FuS w w' X xs v6 l :=
  ⟨h.x.bel hb, h.bel.trans (hb.mono h.bel.size), own_grow h.row hb, fun c hc => (h.cy c hc).grow hb, h.hX⟩
theorem FuS.push (h : FuS w wr X xs v6 l) (c : Cyc) (hc : CyOwn wr (X + 1) c) {o : Obj} (hg : (wr.alloc o).grownBy w' v6.ownBlock) (ho : w'.ownsRow (X + 1) 32 2 v' (l.length + 1) (l.flatMap Cyc.cells ++ c.cells)) : FuS w w' X xs v' (l ++ [c]) := by
  have hb := own_block h.row
  have hX := h.hX
  have hal : Below wr.heap.size wr (wr.alloc o) := (Below.refl _ _).alloc (Nat.le_refl _) o
  have h1 := h.grow hal
  refine ⟨h1.x.grown hg (fun e => by have := (hb X (by rw [← e])).1; omega), ?_, by simpa using ho, fun c' hc' => ?_, hX⟩
  · exact h1.bel.grown hg (by have := h1.bel.size; omega) (fun k hk => by have := (hb k hk).1; omega)
  · have h2 : CyOwn (wr.alloc o) (X + 1) c' := by
      rcases List.mem_append.1 hc' with hc' | hc'
      · exact h1.cy c' hc'
      · simp at hc'; subst hc'; exact hc.grow hal
    exact ⟨h2.r.kept hg (own_ne h2.r h1.row (by decide)), h2.s.kept hg (own_ne h2.s h1.row (by decide)), h2.hr, h2.hs⟩
end
def cyP (c : Cyc) : List Int × List Int := (c.arcs, c.signs)
def Fu1 (w : World) (X : Nat) (T : Int) (ne : Nat) (acts : List Act) (tree : List Int) (xs : Array Value) (k : Nat) (v6 v7 : Value) (wr : World) : Prop :=
  ∃ (i : Nat) (l : List Cyc), v7 = .int .i64 i ∧ i + k = acts.length ∧ l.map cyP = fundL ne acts tree i ∧ (∀ c ∈ l, CycOk T ne acts c.arcs c.signs) ∧ FuS w wr X xs v6 l
/-- what Fundamental gives -/
def FundOut (T : Int) (ne : Nat) (acts : List Act) (tree : List Int) (w : World) (e : Ending) (w' : World) : Prop :=
  Below w.heap.size w w' ∧ ∃ (A : Option Addr) (c : Nat) (er : Int) (l : List Cyc), e = .returned (.tuple #[.slice A l.length c, .int .i64 er]) ∧ l.map cyP = fundF ne acts tree ∧ (∀ c ∈ l, CycOk T ne acts c.arcs c.signs) ∧ CysRd w' A l
/-- the same, and the capacities -/
def FundOut2 (T : Int) (ne : Nat) (acts : List Act) (tree : List Int) (w : World) (e : Ending) (w' : World) : Prop :=
  Below w.heap.size w w' ∧ ∃ (A : Option Addr) (c : Nat) (er : Int) (l : List Cyc), e = .returned (.tuple #[.slice A l.length c, .int .i64 er]) ∧ l.map cyP = fundF ne acts tree ∧ (∀ c ∈ l, CycOk T ne acts c.arcs c.signs) ∧ CysRd w' A l ∧ ∀ c ∈ l, c.arcs.length ≤ c.cr
/-- an address at or above a block -/
def LoA (lo : Nat) (A : Option Addr) : Prop := ∀ a, A = some a → lo ≤ a.block
theorem own_lo {w : World} {base : Nat} {e : TypeId} {sz n c : Nat} {A : Option Addr} {xs : List Value} (h : w.ownsRow base e sz (.slice A n c) n xs) {lo : Nat} (hl : lo ≤ base) : LoA lo A := by
  intro a ha
  rcases h.2 with ⟨hv, _⟩ | ⟨g, cap, cur, hv, hb, _⟩
  · injection hv with h1
    rw [ha] at h1
    cases h1
  · injection hv with h1
    rw [ha] at h1
    injection h1 with h1
    rw [h1]
    show lo ≤ g
    omega
/-- the same, and where it lies -/
def FundOut3 (T : Int) (ne : Nat) (acts : List Act) (tree : List Int) (w : World) (e : Ending) (w' : World) : Prop :=
  Below w.heap.size w w' ∧ ∃ (A : Option Addr) (c : Nat) (er : Int) (l : List Cyc), e = .returned (.tuple #[.slice A l.length c, .int .i64 er]) ∧ l.map cyP = fundF ne acts tree ∧ (∀ c ∈ l, CycOk T ne acts c.arcs c.signs) ∧ CysRd w' A l ∧ (∀ c ∈ l, c.arcs.length ≤ c.cr) ∧ LoA w.heap.size A ∧ ∀ c ∈ l, LoA w.heap.size c.Ar ∧ LoA w.heap.size c.As

set_option maxRecDepth 100000 in
set_option maxHeartbeats 6400000 in
theorem fund_any3 (T : Int) (AE AA AT : Option Addr) (ne ce ca ct : Nat) (acts : List Act) (tree : List Int) (w : World) (hA : Rd w w.heap.size 6 AA acts.length (acts.flatMap Act.cells)) (hT : Rd w w.heap.size 1 AT tree.length (tree.map (Value.int .i64))) (htl : tree.length ≤ 4611686018427387904) (hN : NetOk T ne acts) :
    Calls Try.prog 34 #[.agg #[.int .i64 T, .slice AE ne ce, .slice AA acts.length ca], .slice AT tree.length ct] w (FundOut3 T ne acts tree w) := by
  have HA := Lib.hid hA
  have HR := Lib.hid hT
  have HN := Lib.hid hN
  have ht0 := hN.t0
  have ht1 := hN.t1
  have hne := hN.e
  have hna := hN.n
  clear hA hN hT
  obtain ⟨i0, hi0, hz0, hz1, hz2⟩ := info_parts infoInt
  have HI := Lib.hid (And.intro hi0 (And.intro hz0 (And.intro hz1 hz2)))
  obtain ⟨j0, hj0, hy0, hy1, hy2⟩ := info_parts infoCyc
  have HJ := Lib.hid (And.intro hj0 (And.intro hy0 (And.intro hy1 hy2)))
  clear hi0 hz0 hz1 hz2 hj0 hy0 hy1 hy2
  go_enter Try.func34, Try.ntmps34
  go_upto_region 1 with fail
  refine world_gen (fun w1 => Below w.heap.size w w1 ∧ Blk w1 w.heap.size 26 #[.int .i64 T, .slice AE ne ce, .slice AA acts.length ca]) ⟨(Below.refl _ _).alloc (Nat.le_refl _) _, Blk.new _ _ _⟩ ?_
  rintro w0 ⟨hb0, hx0⟩
  obtain ⟨X, hX⟩ : ∃ X, X = w.heap.size := ⟨_, rfl⟩
  rw [← hX] at ⊢
  rw [show Blk w0 w.heap.size = Blk w0 X by rw [hX]] at hx0
  have hXw : w.heap.size ≤ X := by omega
  have hXw2 : X ≤ w.heap.size := by omega
  clear hX
  have HX0 := Lib.hid hx0
  have Hb0 := Lib.hid hb0
  have x0 := hx0.cell 0
  have x1 := hx0.cell 1
  have x2 := hx0.cell 2
  simp at x0 x1 x2
  clear hx0 hb0
  go_wp2_with fail
  refine (forest_any T AE AA AT ne ce ca ct acts tree w0 ((HA.out.grow Hb0.out).more Hb0.out.size) ((HR.out.grow Hb0.out).more Hb0.out.size) htl HN.out).mono ?_
  rintro e w1 ⟨rfl, hb1⟩
  have HX1 := Lib.hid (HX0.out.bel hb1)
  have Hb1 := Lib.hid (Hb0.out.trans (hb1.mono Hb0.out.size))
  clear x0 x1 x2 hb1 HX0 Hb0
  cases hfo : forestB ne acts tree
  · have HF0 := Lib.hid (show fundF ne acts tree = [] by unfold fundF; rw [hfo]; rfl)
    go_wp2_with fail
    go_ret2
    exact ⟨Hb1.out, none, 0, _, [], rfl, by rw [HF0.out]; rfl, fun c hc => by simp at hc, ⟨Rd.of_own (World.ownsRow_nil _ 0 0 _), fun c hc => by simp at hc, by simp⟩, fun c hc => by simp at hc, (fun a ha => by cases ha), fun c hc => by simp at hc⟩
  · have HF0 := Lib.hid (show fundF ne acts tree = fundL ne acts tree acts.length by unfold fundF; rw [hfo]; rfl)
    have Hfo := Lib.hid hfo
    have HOk := Lib.hid (forest_ok (fun x hx => by have := HN.out.a x hx; exact ⟨this.f0, this.f1, this.t0, this.t1, this.ft⟩) hfo).1
    clear hfo
    have HF := Lib.hid (show FuS w w1 X #[.int .i64 T, .slice AE ne ce, .slice AA acts.length ca] (.slice none 0 0) [] from ⟨HX1.out, Hb1.out, World.ownsRow_nil _ _ _ _, fun c hc => by simp at hc, hXw⟩)
    clear HX1 Hb1
    go_wp2_with fail
    go_loopg [6, 7, 8, 9, 10] acts.length (fun k v6 v7 _ _ _ wr => Fu1 w X T ne acts tree #[.int .i64 T, .slice AE ne ce, .slice AA acts.length ca] k v6 v7 wr)
    case atStart => exact ⟨0, [], rfl, by omega, rfl, fun c hc => by simp at hc, HF.out⟩
    case round =>
      clear HF
      obtain ⟨i, l, rfl, hi, hm, hc, hfs⟩ := hrel
      obtain ⟨A6, c6, rfl, hc6, hm6⟩ := own_slice hfs.row
      have Hi := Lib.hid hi
      have Hm := Lib.hid hm
      have Hc := Lib.hid hc
      have HF := Lib.hid hfs
      clear hi hm hc hfs
      have x2 := HF.out.x.cell 2
      simp at x2
      have hxl := HF.out.x.lt
      by_cases hlt : i < acts.length
      · by_cases hmem : (i : Int) ∈ tree
        · have HS := Lib.hid (fund_skip (ne := ne) (acts := acts) i hmem)
          have hh : hasB tree i = true := by simpa [hasB] using hmem
          clear hmem
          go_wp2_with (go_at_call 52; refine (has_any AT ct tree (i : Int) wr _ (HR.out.grow HF.out.bel) htl).mono ?_; rintro e w' ⟨rfl, rfl⟩; rw [hh])
          go_roundg (acts.length - i - 1)
          case measure => have := Hi.out; omega
          case rel => exact ⟨i + 1, l, by first | rfl | go_num, by omega, by rw [HS.out]; exact Hm.out, Hc.out, HF.out⟩
        · obtain ⟨⟨p1, p2⟩, hp, hcy, hp1, hp2, hs⟩ := fund_step HN.out Hfo.out i hlt hmem
          simp only at hcy hp1 hp2 hs
          have hh : hasB tree i = false := by simpa [hasB] using hmem
          clear hmem
          have Hp := Lib.hid hp
          have Hcy := Lib.hid hcy
          have HS := Lib.hid hs
          clear hp hcy hs
          obtain ⟨ba, oa, rfl, hba, d0, d1, d2, d3, d4, d5⟩ := rdAct (HA.out.grow HF.out.bel) rfl i hlt
          have hok := HN.out.a acts[i] (List.getElem_mem hlt)
          have hf0 := hok.f0
          have hf1 := hok.f1
          have hg0 := hok.t0
          have hg1 := hok.t1
          clear hok d0 d3 d4 d5
          have hbal : ba < wr.heap.size := by have := HF.out.bel.size; omega
          generalize acts[i] = aj at *
          obtain ⟨kd, fr, tt, mn, mx, wt⟩ := aj
          simp only at d1 d2 hf0 hf1 hg0 hg1 Hp
          obtain ⟨f, rfl⟩ := Int.eq_ofNat_of_zero_le hf0
          obtain ⟨g, rfl⟩ := Int.eq_ofNat_of_zero_le hg0
          have x0 := HF.out.x.cell 0
          have x1 := HF.out.x.cell 1
          simp at x0 x1
          go_upto_region 8 with (go_at_call 52; refine (has_any AT ct tree (i : Int) wr _ (HR.out.grow HF.out.bel) htl).mono ?_; rintro e w' ⟨rfl, rfl⟩; rw [hh])
          refine wp_region_overM 14 _ rfl (by kernel_rfl) (by kernel_rfl) ?_
          simp only [List.take_succ_cons, List.take_zero]
          repeat (go_big_quiet_step ((fail)))
          refine wpQuiet_nil ?_
          intro w6 hb6
          have HF6 := Lib.hid (HF.out.grow hb6)
          go_wp2_with (go_at_call 53; refine (path_any T AE _ AT ne ce ca ct acts tree g f w6 ((HA.out.grow HF6.out.bel).more HF6.out.bel.size) ((HR.out.grow HF6.out.bel).more HF6.out.bel.size) htl HN.out HOk.out (by omega) (by omega)).mono ?_; rintro e w7 ⟨hb7, h7⟩; rw [Hp.out] at h7; obtain ⟨A1, A2, c1, c2, rfl, ho1, ho2, hdd⟩ := h7)
          simp only [midQ, List.drop_succ_cons, List.drop_zero]
          repeat (go_big_quiet_step (fail))
          refine wpQuiet_nil ?_
          have HF7 := Lib.hid (HF6.out.grow hb7)
          try simp only at ho1 ho2
          clear hdd hb7 HF HF6
          have hM7 : X + 1 ≤ w7.heap.size := by have := HF7.out.x.lt; omega
          have Hn1 : Hid (A1 = none → p1.length = 0 ∧ c1 = 0) := fun e => by rw [e] at ho1; exact own_nil ho1
          have Hn2 : Hid (A2 = none → p2.length = 0 ∧ c2 = 0) := fun e => by rw [e] at ho2; exact own_nil ho2
          have Ho1 := Lib.hid ho1
          have Ho2 := Lib.hid ho2
          clear ho1 ho2
          have hll : l.length ≤ i := by have := fundL_len ne acts tree i; rw [← Hm.out] at this; simpa using this
          go_wp2_with (at_builtin; first | (refine wpList_append_any rfl _ _ 22 rfl (X + 1) 3 i0 _ 1 8 Try.underlying22 HI.out.1 HI.out.2.1 HI.out.2.2.1 HI.out.2.2.2 rfl (by omega) (.slice (some ⟨w7.heap.size, 0, none⟩) 1 1) 1 [.int .i64 (i : Int)] rfl (own_new1 _ _ hM7) A1 p1.length c1 _ (p1.map (Value.int .i64)) rfl Hn1.out (Rd.of_own (World.ownsRow.alloc Ho1.out _)) (fun u hu => by obtain ⟨_, _, rfl⟩ := List.mem_map.1 hu; rfl) ?r1 ?r2 ?r3 ?_; rotate_right; intro v8 w8 ho8 hg8 hat8; rw [Nat.add_comm 1 p1.length] at ho8; obtain ⟨A8, c8, rfl, hc8, hm8⟩ := own_slice ho8; have Hb8 := Lib.hid (grown_fresh hg8); have hM8 : X + 1 ≤ w8.heap.size := (by have := Hb8.out.size; omega); have Ho8 := Lib.hid ho8; clear ho8 hg8 hat8) | (refine wpList_append_any rfl _ _ 22 rfl (X + 1) 3 i0 _ 1 8 Try.underlying22 HI.out.1 HI.out.2.1 HI.out.2.2.1 HI.out.2.2.2 rfl (by omega) (.slice (some ⟨w8.heap.size, 0, none⟩) 1 1) 1 [.int .i64 1] rfl (own_new1 _ _ hM8) A2 p2.length c2 _ (p2.map (Value.int .i64)) rfl Hn2.out (Rd.of_own (World.ownsRow.alloc (own_grow Ho2.out Hb8.out) _)) (fun u hu => by obtain ⟨_, _, rfl⟩ := List.mem_map.1 hu; rfl) ?r4 ?r5 ?r6 ?_; rotate_right; intro v9 w9 ho9 hg9 hat9; rw [Nat.add_comm 1 p2.length] at ho9; obtain ⟨A9, c9, rfl, hc9, hm9⟩ := own_slice ho9; have Hb9 := Lib.hid (grown_fresh hg9); have HF9 := Lib.hid ((HF7.out.grow Hb8.out).grow Hb9.out); have HC9 := Lib.hid (show CyOwn w9 (X + 1) ⟨A8, c8, A9, c9, (i : Int) :: p1, 1 :: p2⟩ from ⟨own_grow Ho8.out Hb9.out, ho9, by simp; omega, by simp; omega⟩); have hM9 : X + 1 ≤ w9.heap.size := (by have := Hb9.out.size; omega); clear ho9 hg9 hat9) | (refine wpList_append_own_at _ rfl _ _ 28 rfl (X + 1) 32 j0 _ 2 48 Try.underlying28 HJ.out.1 HJ.out.2.1 HJ.out.2.2.1 HJ.out.2.2.2 rfl (by omega) _ l.length _ rfl (World.ownsRow.alloc HF9.out.row _) ⟨w9.heap.size, 0, none⟩ 1 1 [.slice A8 (p1.length + 1) c8, .slice A9 (p2.length + 1) c9] rfl rfl ?c0 ?c1 ?c2 ?c3 ?c4 ?_; rotate_right; intro v' w' hown' hg' _ hat'))
          case r1 => simp only [maxLen]; omega
          case r2 => omega
          case r3 => first | omega | (simp; omega)
          case r4 => simp only [maxLen]; omega
          case r5 => omega
          case r6 => first | omega | (simp; omega)
          case c0 => exact news_new _ _ _
          case c1 => intro u hu; simp at hu; rcases hu with rfl | rfl <;> rfl
          case c2 => simp only [maxLen]; omega
          case c3 => omega
          case c4 => first | omega | (simp; omega)
          have HP := Lib.hid (HF9.out.push _ HC9.out hg' hown')
          go_roundg (acts.length - i - 1)
          case measure => have := Hi.out; omega
          case rel =>
            refine ⟨i + 1, _, by first | rfl | go_num, by omega, by rw [HS.out, List.map_append, Hm.out]; rfl, fun c hc => ?_, HP.out⟩
            rcases List.mem_append.1 hc with hc | hc
            · exact Hc.out c hc
            · simp at hc; subst hc; exact Hcy.out
      · obtain rfl : i = acts.length := by have := Hi.out; omega
        go_wp2_with fail
        go_ret2
        exact ⟨HF.out.bel, A6, c6, _, l, rfl, by rw [HF0.out]; exact Hm.out, Hc.out, ⟨Rd.of_own HF.out.row, fun c hc => (HF.out.cy c hc).rd, by have := fundL_len ne acts tree acts.length; rw [← Hm.out] at this; simp at this; omega⟩, fun c hc => (own_cap (HF.out.cy c hc).r).1, own_lo HF.out.row (by have := HF.out.hX; omega), fun c hc => ⟨own_lo (HF.out.cy c hc).r (by have := HF.out.hX; omega), own_lo (HF.out.cy c hc).s (by have := HF.out.hX; omega)⟩⟩
theorem fund_any2 (T : Int) (AE AA AT : Option Addr) (ne ce ca ct : Nat) (acts : List Act) (tree : List Int) (w : World) (hA : Rd w w.heap.size 6 AA acts.length (acts.flatMap Act.cells)) (hT : Rd w w.heap.size 1 AT tree.length (tree.map (Value.int .i64))) (htl : tree.length ≤ 4611686018427387904) (hN : NetOk T ne acts) :
    Calls Try.prog 34 #[.agg #[.int .i64 T, .slice AE ne ce, .slice AA acts.length ca], .slice AT tree.length ct] w (FundOut2 T ne acts tree w) :=
  (fund_any3 T AE AA AT ne ce ca ct acts tree w hA hT htl hN).mono fun _ _ ⟨h1, A, c, er, l, h2, h3, h4, h5, h6, _⟩ => ⟨h1, A, c, er, l, h2, h3, h4, h5, h6⟩
theorem fund_any (T : Int) (AE AA AT : Option Addr) (ne ce ca ct : Nat) (acts : List Act) (tree : List Int) (w : World) (hA : Rd w w.heap.size 6 AA acts.length (acts.flatMap Act.cells)) (hT : Rd w w.heap.size 1 AT tree.length (tree.map (Value.int .i64))) (htl : tree.length ≤ 4611686018427387904) (hN : NetOk T ne acts) :
    Calls Try.prog 34 #[.agg #[.int .i64 T, .slice AE ne ce, .slice AA acts.length ca], .slice AT tree.length ct] w (FundOut T ne acts tree w) :=
  (fund_any2 T AE AA AT ne ce ca ct acts tree w hA hT htl hN).mono fun _ _ ⟨h1, A, c, er, l, h2, h3, h4, h5, _⟩ => ⟨h1, A, c, er, l, h2, h3, h4, h5⟩
end Go.Proofs.Ytcgamkldlmmdnaa
