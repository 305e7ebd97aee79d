import Derived.Test.YtcgamkldlmmdnaaFd6
namespace Go.Proofs.Ytcgamkldlmmdnaa
open Go.RowKit

/-- what law14.fundamental gives -/
def LFund (T : Int) (ne : Nat) (acts : List Act) (w : World) (e : Ending) (w' : World) : Prop :=
  Below w.heap.size w w' ∧ ∃ (A : Option Addr) (c : Nat) (l : List Cyc), e = .returned (.slice A l.length c) ∧ l.map cyP = fundF ne acts (treeF T ne acts) ∧ (∀ c ∈ l, CycOk T ne acts c.arcs c.signs) ∧ CysRd w' A l
def LFund2 (T : Int) (ne : Nat) (acts : List Act) (w : World) (e : Ending) (w' : World) : Prop :=
  Below w.heap.size w w' ∧ ∃ (A : Option Addr) (c : Nat) (l : List Cyc), e = .returned (.slice A l.length c) ∧ l.map cyP = fundF ne acts (treeF T ne acts) ∧ (∀ c ∈ l, CycOk T ne acts c.arcs c.signs) ∧ CysRd w' A l ∧ ∀ c ∈ l, c.arcs.length ≤ c.cr
def LFund3 (T : Int) (ne : Nat) (acts : List Act) (w : World) (e : Ending) (w' : World) : Prop :=
  Below w.heap.size w w' ∧ ∃ (A : Option Addr) (c : Nat) (l : List Cyc), e = .returned (.slice A l.length c) ∧ l.map cyP = fundF ne acts (treeF T ne acts) ∧ (∀ c ∈ l, CycOk T ne acts c.arcs c.signs) ∧ CysRd w' A l ∧ (∀ c ∈ l, c.arcs.length ≤ c.cr) ∧ LoA w.heap.size A ∧ ∀ c ∈ l, LoA w.heap.size c.Ar ∧ LoA w.heap.size c.As
theorem LoA.le {lo lo' : Nat} {A : Option Addr} (h : LoA lo A) (hl : lo' ≤ lo) : LoA lo' A := fun a ha => Nat.le_trans hl (h a ha)
theorem treeF_len (T : Int) (ne : Nat) (acts : List Act) : (treeF T ne acts).length ≤ acts.length := takL_len _ _

set_option maxRecDepth 100000 in
set_option maxHeartbeats 6400000 in
theorem lfund_any3 (T : Int) (AE AA : Option Addr) (ne ce ca : Nat) (acts : List Act) (w : World) (hA : Rd w w.heap.size 6 AA acts.length (acts.flatMap Act.cells)) (hN : NetOk T ne acts) :
    Calls Try.prog 13 #[.agg #[.int .i64 T, .slice AE ne ce, .slice AA acts.length ca]] w (LFund3 T ne acts w) := by
  have HA := Lib.hid hA
  have HN := Lib.hid hN
  have hna := hN.n
  clear hA hN
  have htl := treeF_len T ne acts
  go_enter Try.func13, Try.ntmps13
  go_upto_region 1 with fail
  refine world_gen (fun w1 => Below w.heap.size w w1 ∧ Blk w1 w.heap.size 26 #[.int .i64 T, .slice AE ne ce, .slice AA acts.length ca]) ⟨(Below.refl _ _).alloc (Nat.le_refl _) _, Blk.new _ _ _⟩ ?_
  rintro w0 ⟨hb0, hx0⟩
  obtain ⟨X, hX⟩ : ∃ X, X = w.heap.size := ⟨_, rfl⟩
  rw [← hX] at ⊢
  rw [show Blk w0 w.heap.size = Blk w0 X by rw [hX]] at hx0
  clear hX
  have hxl := hx0.lt
  have x0 := hx0.cell 0
  have x1 := hx0.cell 1
  have x2 := hx0.cell 2
  simp at x0 x1 x2
  have HX0 := Lib.hid hx0
  have Hb0 := Lib.hid hb0
  clear hx0 hb0
  go_region_law (first | (go_simp; go_at_call 35; refine (tree_any T AE AA ne ce ca acts w0.drew ((HA.out.grow Hb0.out.drew).more Hb0.out.drew.size) HN.out).mono ?_; rintro e w1 ⟨At, ct, rfl, ho1, hb1⟩; have hx1 := (HX0.out.dr.bel hb1); have y0 := hx1.cell 0; have y1 := hx1.cell 1; have y2 := hx1.cell 2; simp at y0 y1 y2) | (go_simp; go_at_call 34; refine (fund_any3 T AE AA At ne ce ca ct acts (treeF T ne acts) w1 ((HA.out.grow (Hb0.out.drew.trans (hb1.mono Hb0.out.drew.size))).more (Hb0.out.drew.trans (hb1.mono Hb0.out.drew.size)).size) (Rd.of_own ho1) (by omega) HN.out).mono ?_; rintro e w2 ⟨hb2, A, c, er, l, rfl, hm, hc, hr, hcp, hlA, hlc⟩))
  all_goals
    have Hb1 := Lib.hid (Hb0.out.drew.trans (hb1.mono Hb0.out.drew.size))
    have Hb2 := Lib.hid (Hb1.out.trans (hb2.mono Hb1.out.size))
    have Hm := Lib.hid hm
    have Hc := Lib.hid hc
    have Hr := Lib.hid hr
    have Hcp := Lib.hid hcp
    have HlA := Lib.hid (hlA.le Hb1.out.size)
    have Hlc := Lib.hid (show ∀ c ∈ l, LoA w.heap.size c.Ar ∧ LoA w.heap.size c.As from fun c hc => ⟨(hlc c hc).1.le Hb1.out.size, (hlc c hc).2.le Hb1.out.size⟩)
    clear hm hc hr hb1 hb2 hcp hlA hlc
    go_wp2_with fail
    go_ret
    exact ⟨Hb2.out, A, c, l, rfl, Hm.out, Hc.out, Hr.out, Hcp.out, HlA.out, Hlc.out⟩
theorem lfund_any2 (T : Int) (AE AA : Option Addr) (ne ce ca : Nat) (acts : List Act) (w : World) (hA : Rd w w.heap.size 6 AA acts.length (acts.flatMap Act.cells)) (hN : NetOk T ne acts) :
    Calls Try.prog 13 #[.agg #[.int .i64 T, .slice AE ne ce, .slice AA acts.length ca]] w (LFund2 T ne acts w) :=
  (lfund_any3 T AE AA ne ce ca acts w hA hN).mono fun _ _ ⟨h1, A, c, l, h2, h3, h4, h5, h6, _⟩ => ⟨h1, A, c, l, h2, h3, h4, h5, h6⟩
theorem lfund_any (T : Int) (AE AA : Option Addr) (ne ce ca : Nat) (acts : List Act) (w : World) (hA : Rd w w.heap.size 6 AA acts.length (acts.flatMap Act.cells)) (hN : NetOk T ne acts) :
    Calls Try.prog 13 #[.agg #[.int .i64 T, .slice AE ne ce, .slice AA acts.length ca]] w (LFund T ne acts w) :=
  (lfund_any2 T AE AA ne ce ca acts w hA hN).mono fun _ _ ⟨h1, A, c, l, h2, h3, h4, h5, _⟩ => ⟨h1, A, c, l, h2, h3, h4, h5⟩
end Go.Proofs.Ytcgamkldlmmdnaa
