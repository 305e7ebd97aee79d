import Derived.Test.YtinjdcefagaaeaaGreatDoorQWo
import Derived.BigRegion
import Derived.WideMake
import Derived.Test.YtinjdcefagaaeaaGreatDoorQSp
import Derived.Test.YtinjdcefagaaeaaGreatDoorQAr
import Derived.Deep.RegionLaw
set_option linter.unusedVariables false
set_option linter.unusedSimpArgs false
namespace Go.Proofs.YtinjdcefagaaeaaGreatDoor
open Go.RowKit
/-! layout.side: the package variable 'sides' lies in block 0 -/
structure SideW (w : World) : Prop where
  a : w.cell? ⟨0, 0, none⟩ = some (.string ⟨#[65]⟩)
  b : w.cell? ⟨0, 1, none⟩ = some (.string ⟨#[66]⟩)
theorem SideW.go {w w' : World} (h : SideW w) (hb : Below w.heap.size w w') : SideW w' :=
  ⟨(hb.cell (World.block_lt_of_cell? _ _ h.a)).trans h.a, (hb.cell (World.block_lt_of_cell? _ _ h.b)).trans h.b⟩
set_option maxRecDepth 100000 in
theorem idx_A (W : World) : (Instr.index 312 (.agg #[.string ⟨#[65]⟩, .string ⟨#[66]⟩]) (.int .i64 0)).run Tryz.prog W = .ok (.string ⟨#[65]⟩) W := by first | kernel_rfl | rfl
set_option maxRecDepth 100000 in
theorem idx_B (W : World) : (Instr.index 312 (.agg #[.string ⟨#[65]⟩, .string ⟨#[66]⟩]) (.int .i64 1)).run Tryz.prog W = .ok (.string ⟨#[66]⟩) W := by first | kernel_rfl | rfl
def SdL (p : Bool) (k : Nat) (v : Value) (w wr : World) : Prop := (v = .int .i64 0 ∧ k = 2 ∧ wr = w) ∨ (p = true ∧ v = .int .i64 1 ∧ k = 1 ∧ wr = w)
set_option maxRecDepth 100000 in
set_option maxHeartbeats 1600000 in
theorem side_A (w : World) (h : SideW w) : Calls Tryz.prog 132 #[.string ⟨#[65]⟩] w fun e w' => e = .returned (.int .i64 0) ∧ w' = w := by
  have i0 := idx_A
  have i1 := idx_B
  have s0 := h.a
  have s1 := h.b
  have hl := World.block_lt_of_cell? _ _ h.a
  clear h
  go_enter Tryz.func132, Tryz.ntmps132
  go_wp2_with fail
  go_loopg [3, 4, 6] 2 (fun k _ _ v wr => SdL false k v w wr)
  case atStart => exact .inl ⟨rfl, rfl, rfl⟩
  case round =>
    rcases hrel with ⟨rfl, rfl, hw⟩ | ⟨hp, _⟩
    · obtain rfl := hw
      go_wp2_with fail
      go_ret
      exact ⟨rfl, rfl⟩
    · cases hp
set_option maxRecDepth 100000 in
set_option maxHeartbeats 1600000 in
theorem side_B (w : World) (h : SideW w) : Calls Tryz.prog 132 #[.string ⟨#[66]⟩] w fun e w' => e = .returned (.int .i64 1) ∧ w' = w := by
  have i0 := idx_A
  have i1 := idx_B
  have s0 := h.a
  have s1 := h.b
  have hl := World.block_lt_of_cell? _ _ h.a
  clear h
  go_enter Tryz.func132, Tryz.ntmps132
  go_wp2_with fail
  go_loopg [3, 4, 6] 2 (fun k _ _ v wr => SdL true k v w wr)
  case atStart => exact .inl ⟨rfl, rfl, rfl⟩
  case round =>
    rcases hrel with ⟨rfl, rfl, hw⟩ | ⟨_, rfl, rfl, hw⟩
    · obtain rfl := hw
      go_wp2_with fail
      go_roundg 1
      case measure => omega
      case rel => exact .inr ⟨rfl, rfl, rfl, rfl⟩
    · obtain rfl := hw
      go_wp2_with fail
      go_ret
      exact ⟨rfl, rfl⟩
end Go.Proofs.YtinjdcefagaaeaaGreatDoor
namespace Go.Proofs.YtinjdcefagaaeaaGreatDoor
open Go.RowKit
/-! the example's layout in memory -/
theorem Blk.new' (w : World) (t : TypeId) (cs : Array Value) (g : Nat) (h : g = w.heap.size) : Blk (w.alloc (.cells cs t)) g t cs := by subst h; exact Blk.new _ _ _
/-- block b holds at least these cells -/
structure Cs (w : World) (b : Nat) (L : List Value) : Prop where
  lt : b < w.heap.size
  c : ∀ (i : Nat) (v : Value), L[i]? = some v → w.cell? ⟨b, i, none⟩ = some v
theorem Cs.go {w w' : World} {b : Nat} {L : List Value} (h : Cs w b L) (hb : Below w.heap.size w w') : Cs w' b L :=
  ⟨Nat.lt_of_lt_of_le h.lt hb.size, fun i v hi => (hb.cell (p := ⟨b, i, none⟩) h.lt).trans (h.c i v hi)⟩
theorem Cs.bel {w w' : World} {b B : Nat} {L : List Value} (h : Cs w b L) (hB : b < B) (hb : Below B w w') : Cs w' b L :=
  ⟨Nat.lt_of_lt_of_le h.lt hb.size, fun i v hi => (hb.cell (p := ⟨b, i, none⟩) hB).trans (h.c i v hi)⟩
def nmF : Nat → UInt8 | 0 => 120 | 1 => 97 | _ => 121
def stF : Nat → Int | 0 => 0 | 1 => -1 | _ => 1
def secC (i : Nat) : List Value := [.string ⟨#[nmF i]⟩, .int .i64 10, .int .i64 20000, .int .i64 0, .int .i64 (stF i)]
def seL : List Value := secC 0 ++ secC 1 ++ secC 2
def lkC (i : Nat) : List Value := [.int .i64 i, .int .i64 1, .int .i64 ((i : Int) + 1), .int .i64 0, .int .i64 (-1), .int .i64 0]
def liL : List Value := lkC 0 ++ lkC 1
def snF : Nat → UInt8 | 0 => 88 | _ => 89
def staL : List Value := [.string ⟨#[snF 0]⟩, .string ⟨#[snF 1]⟩]
theorem results_cells2 {P : Program} {fn : Func} {p q : Tmp} {ty tz : TypeId} (h : fn.results = #[.cell p ty, .cell q tz]) (tmps : Array Value) (w : World) (a b : Addr) (va vb : Value)
    (hp : tmps.getD p undef = .pointer (some a)) (hq : tmps.getD q undef = .pointer (some b)) (ha : (loadVar ty a).run P w = .ok va w) (hb : (loadVar tz b).run P w = .ok vb w) :
    (results fn tmps).run P w = .ok (.tuple #[va, vb]) w := by
  have hp' : tmps[p]?.getD undef = .pointer (some a) := by simpa using hp
  have hq' : tmps[q]?.getD undef = .pointer (some b) := by simpa using hq
  simp [results, h, hp', hq', asAddr, ha, hb, Result.andThen]
theorem results_cells3 {P : Program} {fn : Func} {p q r : Tmp} {ty tz tu : TypeId} (h : fn.results = #[.cell p ty, .cell q tz, .cell r tu]) (tmps : Array Value) (w : World) (a b c : Addr) (va vb vc : Value)
    (hp : tmps.getD p undef = .pointer (some a)) (hq : tmps.getD q undef = .pointer (some b)) (hr : tmps.getD r undef = .pointer (some c)) (ha : (loadVar ty a).run P w = .ok va w) (hb : (loadVar tz b).run P w = .ok vb w) (hc : (loadVar tu c).run P w = .ok vc w) :
    (results fn tmps).run P w = .ok (.tuple #[va, vb, vc]) w := by
  have hp' : tmps[p]?.getD undef = .pointer (some a) := by simpa using hp
  have hq' : tmps[q]?.getD undef = .pointer (some b) := by simpa using hq
  have hr' : tmps[r]?.getD undef = .pointer (some c) := by simpa using hr
  simp [results, h, hp', hq', hr', asAddr, ha, hb, hc, Result.andThen]
structure LyA where
  st : Nat
  se : Nat
  li : Nat
  c1 : Nat
  c3 : Nat
  c4 : Nat
abbrev LyA.cs (L : LyA) : Array Value := #[.slice (some ⟨L.st, 0, none⟩) 2 L.c1, .slice none 0 0, .slice (some ⟨L.se, 0, none⟩) 3 L.c3, .slice (some ⟨L.li, 0, none⟩) 2 L.c4]
abbrev LyA.v (L : LyA) : Value := .agg L.cs
structure LayM (w : World) (L : LyA) : Prop where
  st : Cs w L.st staL
  se : Cs w L.se seL
  li : Cs w L.li liL
theorem LayM.go {w w' : World} {L : LyA} (h : LayM w L) (hb : Below w.heap.size w w') : LayM w' L := ⟨h.st.go hb, h.se.go hb, h.li.go hb⟩
theorem LayM.sec {w : World} {L : LyA} (h : LayM w L) (i : Nat) (hi : i < 3) : w.cell? ⟨L.se, i * 5, none⟩ = some (.string ⟨#[nmF i]⟩) ∧ w.cell? ⟨L.se, i * 5 + 1, none⟩ = some (.int .i64 10) ∧ w.cell? ⟨L.se, i * 5 + 2, none⟩ = some (.int .i64 20000) ∧ w.cell? ⟨L.se, i * 5 + 3, none⟩ = some (.int .i64 0) ∧ w.cell? ⟨L.se, i * 5 + 4, none⟩ = some (.int .i64 (stF i)) := by
  match i, hi with
  | 0, _ => exact ⟨h.se.c 0 _ rfl, h.se.c 1 _ rfl, h.se.c 2 _ rfl, h.se.c 3 _ rfl, h.se.c 4 _ rfl⟩
  | 1, _ => exact ⟨h.se.c 5 _ rfl, h.se.c 6 _ rfl, h.se.c 7 _ rfl, h.se.c 8 _ rfl, h.se.c 9 _ rfl⟩
  | 2, _ => exact ⟨h.se.c 10 _ rfl, h.se.c 11 _ rfl, h.se.c 12 _ rfl, h.se.c 13 _ rfl, h.se.c 14 _ rfl⟩
theorem LayM.lnk {w : World} {L : LyA} (h : LayM w L) (i : Nat) (hi : i < 2) : w.cell? ⟨L.li, i * 6, none⟩ = some (.int .i64 i) ∧ w.cell? ⟨L.li, i * 6 + 1, none⟩ = some (.int .i64 1) ∧ w.cell? ⟨L.li, i * 6 + 2, none⟩ = some (.int .i64 ((i : Int) + 1)) ∧ w.cell? ⟨L.li, i * 6 + 3, none⟩ = some (.int .i64 0) ∧ w.cell? ⟨L.li, i * 6 + 4, none⟩ = some (.int .i64 (-1)) ∧ w.cell? ⟨L.li, i * 6 + 5, none⟩ = some (.int .i64 0) := by
  match i, hi with
  | 0, _ => exact ⟨h.li.c 0 _ rfl, h.li.c 1 _ rfl, h.li.c 2 _ rfl, h.li.c 3 _ rfl, h.li.c 4 _ rfl, h.li.c 5 _ rfl⟩
  | 1, _ => exact ⟨h.li.c 6 _ rfl, h.li.c 7 _ rfl, h.li.c 8 _ rfl, h.li.c 9 _ rfl, h.li.c 10 _ rfl, h.li.c 11 _ rfl⟩
theorem LayM.sta {w : World} {L : LyA} (h : LayM w L) (i : Nat) (hi : i < 2) : w.cell? ⟨L.st, i, none⟩ = some (.string ⟨#[snF i]⟩) := by
  match i, hi with
  | 0, _ => exact h.st.c 0 _ rfl
  | 1, _ => exact h.st.c 1 _ rfl
theorem stF_bd (i : Nat) : -1 ≤ stF i ∧ stF i < 2 := by
  unfold stF; split <;> decide
set_option maxRecDepth 100000 in
set_option maxHeartbeats 1600000 in
theorem secin_ok (L : LyA) (nm : ByteArray) (s : Int) (w : World) (h1 : -1 ≤ s) (h2 : s < 2) :
    Calls Tryz.prog 72 #[L.v, .agg #[.string nm, .int .i64 10, .int .i64 20000, .int .i64 0, .int .i64 s]] w fun e w' => e = .returned (.bool true) ∧ Below w.heap.size w w' := by
  go_enter Tryz.func72, Tryz.ntmps72
  go_wp2_with fail
  go_ret
  exact ⟨rfl, (by repeat (first | exact Below.refl _ _ | (with_reducible refine Below.drew ?_) | (with_reducible refine below_drewN ?_ _) | (with_reducible refine Below.alloc ?_ (by first | omega | (simp; done) | (simp; omega)) _) | (with_reducible refine Below.setCell ?_ (by first | omega | (simp; done) | (simp; omega)) _) | (refine Below.trans ?_ (Below.mono (by with_reducible assumption) (by first | omega | (simp; done) | (simp; omega))))))⟩
set_option maxRecDepth 100000 in
set_option maxHeartbeats 1600000 in
theorem lnkin_ok (L : LyA) (a b : Int) (w : World) (h1 : 0 ≤ a) (h2 : a < 3) (h3 : 0 ≤ b) (h4 : b < 3) :
    Calls Tryz.prog 135 #[L.v, .agg #[.int .i64 a, .int .i64 1, .int .i64 b, .int .i64 0, .int .i64 (-1), .int .i64 0]] w fun e w' => e = .returned (.bool true) ∧ Below w.heap.size w w' := by
  go_enter Tryz.func135, Tryz.ntmps135
  go_wp2_with fail
  all_goals
    first
    | (go_ret; exact ⟨rfl, (by repeat (first | exact Below.refl _ _ | (with_reducible refine Below.drew ?_) | (with_reducible refine below_drewN ?_ _) | (with_reducible refine Below.alloc ?_ (by first | omega | (simp; done) | (simp; omega)) _) | (with_reducible refine Below.setCell ?_ (by first | omega | (simp; done) | (simp; omega)) _) | (refine Below.trans ?_ (Below.mono (by with_reducible assumption) (by first | omega | (simp; done) | (simp; omega))))))⟩)
    | (exfalso; have hu : some undef = some (Value.bool _) := by assumption; simp [undef] at hu)
set_option maxRecDepth 100000 in
set_option maxHeartbeats 1600000 in
theorem eidx_ok (a b : Int) (w : World) (h1 : 0 ≤ a) (h2 : a < 1000) (h3 : 0 ≤ b) (h4 : b < 2) :
    Calls Tryz.prog 137 #[.agg #[.int .i64 a, .int .i64 b]] w fun e w' => e = .returned (.int .i64 (2 * a + b)) ∧ Below w.heap.size w w' := by
  go_enter Tryz.func137, Tryz.ntmps137
  go_wp2_with fail
  go_ret
  exact ⟨rfl, (by repeat (first | exact Below.refl _ _ | (with_reducible refine Below.drew ?_) | (with_reducible refine below_drewN ?_ _) | (with_reducible refine Below.alloc ?_ (by first | omega | (simp; done) | (simp; omega)) _) | (with_reducible refine Below.setCell ?_ (by first | omega | (simp; done) | (simp; omega)) _) | (refine Below.trans ?_ (Below.mono (by with_reducible assumption) (by first | omega | (simp; done) | (simp; omega))))))⟩
set_option maxRecDepth 100000 in
set_option maxHeartbeats 1600000 in
theorem fitsnil_ok (a b c d p q : Int) (w : World) :
    Calls Tryz.prog 139 #[.agg #[.int .i64 a, .int .i64 b, .int .i64 c, .int .i64 d, .int .i64 p, .int .i64 q], .slice none 0 0] w fun e w' => e = .returned (.bool true) ∧ Below w.heap.size w w' := by
  go_enter Tryz.func139, Tryz.ntmps139
  go_wp2_with fail
  go_ret
  exact ⟨rfl, (by repeat (first | exact Below.refl _ _ | (with_reducible refine Below.drew ?_) | (with_reducible refine below_drewN ?_ _) | (with_reducible refine Below.alloc ?_ (by first | omega | (simp; done) | (simp; omega)) _) | (with_reducible refine Below.setCell ?_ (by first | omega | (simp; done) | (simp; omega)) _) | (refine Below.trans ?_ (Below.mono (by with_reducible assumption) (by first | omega | (simp; done) | (simp; omega))))))⟩
def JnL (w : World) (k : Nat) (v : Value) (wr : World) : Prop := k = 0 ∧ v = .int .i64 0 ∧ Below w.heap.size w wr
set_option maxRecDepth 100000 in
set_option maxHeartbeats 1600000 in
theorem joinnil_ok (a b c d : Int) (w : World) :
    Calls Tryz.prog 138 #[.slice none 0 0, .agg #[.int .i64 a, .int .i64 b], .agg #[.int .i64 c, .int .i64 d]] w fun e w' => e = .returned (.bool false) ∧ Below w.heap.size w w' := by
  go_enter Tryz.func138, Tryz.ntmps138
  go_wp2_with fail
  go_loopg [13] 0 (fun k v wr => JnL w k v wr)
  case atStart => exact ⟨rfl, rfl, (by repeat (first | exact Below.refl _ _ | (with_reducible refine Below.drew ?_) | (with_reducible refine below_drewN ?_ _) | (with_reducible refine Below.alloc ?_ (by first | omega | (simp; done) | (simp; omega)) _) | (with_reducible refine Below.setCell ?_ (by first | omega | (simp; done) | (simp; omega)) _) | (refine Below.trans ?_ (Below.mono (by with_reducible assumption) (by first | omega | (simp; done) | (simp; omega))))))⟩
  case round =>
    obtain ⟨hk, rfl, hb⟩ := hrel
    go_wp2_with fail
    go_ret
    exact ⟨rfl, hb⟩
set_option maxRecDepth 100000 in
set_option maxHeartbeats 1600000 in
theorem ends_ok (i : Nat) (p : Int) (q : Int) (w : World) :
    Calls Tryz.prog 136 #[.agg #[.int .i64 i, .int .i64 1, .int .i64 ((i : Int) + 1), .int .i64 0, .int .i64 p, .int .i64 q]] w fun e w' => e = .returned (.tuple #[.agg #[.int .i64 i, .int .i64 1], .agg #[.int .i64 ((i : Int) + 1), .int .i64 0]]) ∧ Below w.heap.size w w' := by
  go_enter Tryz.func136, Tryz.ntmps136
  go_upto_region 1 with fail
  refine world_gen (fun w0 => Below w.heap.size w w0 ∧ Blk w0 w.heap.size 249 #[.int .i64 i, .int .i64 1, .int .i64 ((i : Int) + 1), .int .i64 0, .int .i64 p, .int .i64 q] ∧ Blk w0 (w.heap.size + 1) 255 #[.int .i64 0, .int .i64 0] ∧ Blk w0 (w.heap.size + 2) 255 #[.int .i64 0, .int .i64 0]) ⟨(by repeat (first | exact Below.refl _ _ | (with_reducible refine Below.drew ?_) | (with_reducible refine below_drewN ?_ _) | (with_reducible refine Below.alloc ?_ (by first | omega | (simp; done) | (simp; omega)) _) | (with_reducible refine Below.setCell ?_ (by first | omega | (simp; done) | (simp; omega)) _) | (refine Below.trans ?_ (Below.mono (by with_reducible assumption) (by first | omega | (simp; done) | (simp; omega)))))), (by repeat (first | (refine Blk.new' _ _ _ _ ?_; first | rfl | (simp <;> omega)) | refine Blk.al ?_ _ | refine Blk.dr ?_ | refine Blk.drN ?_ _ | refine Blk.far ?_ (by first | omega | (simp; omega)))), (by repeat (first | (refine Blk.new' _ _ _ _ ?_; first | rfl | (simp <;> omega)) | refine Blk.al ?_ _ | refine Blk.dr ?_ | refine Blk.drN ?_ _ | refine Blk.far ?_ (by first | omega | (simp; omega)))), (by repeat (first | (refine Blk.new' _ _ _ _ ?_; first | rfl | (simp <;> omega)) | refine Blk.al ?_ _ | refine Blk.dr ?_ | refine Blk.drN ?_ _ | refine Blk.far ?_ (by first | omega | (simp; omega))))⟩ ?_
  rintro w0 ⟨hb0, hx0, hx1, hx2⟩
  have HB0 := Lib.hid hb0
  have x0 := hx0.cell 0
  have x1 := hx0.cell 1
  have x2 := hx0.cell 2
  have x3 := hx0.cell 3
  have y0 := hx1.cell 0
  have y1 := hx1.cell 1
  have z0 := hx2.cell 0
  have z1 := hx2.cell 1
  have g0 := hx1.frozen 0
  have g1 := hx1.frozen 1
  have u0 := hx2.frozen 0
  have u1 := hx2.frozen 1
  have HX1 := Lib.hid hx1
  have HX2 := Lib.hid hx2
  have l1 := hx1.lt
  have l2 := hx2.lt
  clear hb0 hx0 hx1 hx2
  simp at x0 x1 x2 x3 y0 y1 z0 z1
  generalize hX : w.heap.size = X at *
  go_region
  go_wp2_with fail
  have HR1 := Lib.hid (show Blk _ _ 255 #[.int .i64 i, .int .i64 1] from ((((HX1.out.set_ 0 (.int .i64 i)).set_ 1 (.int .i64 1)).far (by omega)).far (by omega) : Blk ((((w0.setCell ⟨X + 1, 0, none⟩ (.int .i64 i)).setCell ⟨X + 1, 1, none⟩ (.int .i64 1)).setCell ⟨X + 2, 0, none⟩ (.int .i64 ((i : Int) + 1))).setCell ⟨X + 2, 1, none⟩ (.int .i64 0)) (X + 1) 255 _))
  have HR2 := Lib.hid (show Blk _ _ 255 #[.int .i64 ((i : Int) + 1), .int .i64 0] from ((((HX2.out.far (by omega)).far (by omega)).set_ 0 (.int .i64 ((i : Int) + 1))).set_ 1 (.int .i64 0) : Blk ((((w0.setCell ⟨X + 1, 0, none⟩ (.int .i64 i)).setCell ⟨X + 1, 1, none⟩ (.int .i64 1)).setCell ⟨X + 2, 0, none⟩ (.int .i64 ((i : Int) + 1))).setCell ⟨X + 2, 1, none⟩ (.int .i64 0)) (X + 2) 255 _))
  refine bodyPost_ret (results_cells2 rfl _ _ ⟨X + 1, 0, none⟩ ⟨X + 2, 0, none⟩ _ _ rfl rfl (run_loadVar_row _ _ _ _ _ (0, 0) _ HR1.out Tryz.underlying255 rfl (by kernel_rfl)) (run_loadVar_row _ _ _ _ _ (0, 0) _ HR2.out Tryz.underlying255 rfl (by kernel_rfl))) rfl ?_
  exact ⟨rfl, by rw [hX]; exact (by have hbelh := HB0.out; have hbels := hbelh.size; exact (by repeat (first | exact Below.refl _ _ | (with_reducible refine Below.drew ?_) | (with_reducible refine below_drewN ?_ _) | (with_reducible refine Below.alloc ?_ (by first | omega | (simp; done) | (simp; omega)) _) | (with_reducible refine Below.setCell ?_ (by first | omega | (simp; done) | (simp; omega)) _) | (refine Below.trans ?_ (Below.mono (by with_reducible assumption) (by first | omega | (simp; done) | (simp; omega)))))))⟩
end Go.Proofs.YtinjdcefagaaeaaGreatDoor
namespace Go.Proofs.YtinjdcefagaaeaaGreatDoor
open Go.RowKit
/-! maps of names that were seen -/
section
variable {P : Program} {w : World}
theorem run_lookup_no {T K E : TypeId} {r clk : Nat} {es : Array MapEntry} {k : ByteArray} {z : Value} (hm : P.underlying T = some (.map K E)) (hk : P.underlying K = some .string) (hz : (zeroValue E).run P w = .ok z w)
    (hb : w.heap[r]? = some (.map es clk)) (hn : Instr.findNow .string (.string k) es.toList 0 = some none) : (Instr.lookup T (.map (some r)) (.string k) false).run P w = .ok z w := by
  have hc : ∀ e, (Instr.checkKey e 10000 K (.string k)).run P w = .ok () w := fun e => MapKept.run_checkKey (k := .string k) hk (by simp [MapKept.IsKey]) e 9999
  simp [Instr.lookup, run_underlying hm, MapKept.run_getObj_map hb, hc, MapKept.run_findKey hk hn, hz, Result.andThen]
theorem run_update_no {T K E : TypeId} {r clk : Nat} {es : Array MapEntry} {k : ByteArray} {v : Value} (hm : P.underlying T = some (.map K E)) (hk : P.underlying K = some .string)
    (hb : w.heap[r]? = some (.map es clk)) (hn : Instr.findNow .string (.string k) es.toList 0 = some none) :
    (Instr.mapUpdate T (.map (some r)) (.string k) v).run P w = .ok () (w.putObj r (.map (es.push { key := .string k, val := v, born := clk }) (clk + 1))) := by
  have hc : ∀ e, (Instr.checkKey e 10000 K (.string k)).run P w = .ok () w := fun e => MapKept.run_checkKey (k := .string k) hk (by simp [MapKept.IsKey]) e 9999
  simp [Instr.mapUpdate, run_underlying hm, MapKept.run_getObj_map hb, hc, MapKept.run_findKey hk hn, MapKept.run_setObj_map _ hb, Result.andThen, World.putObj]
end
theorem zero_bool (w : World) : (zeroValue 4).run Tryz.prog w = .ok (.bool false) w := by kernel_rfl
set_option maxRecDepth 100000 in
set_option maxHeartbeats 1600000 in
theorem chkname_ok (c : UInt8) (r clk : Nat) (es : Array MapEntry) (w : World) (hc : letB c.toNat = true) (hb : w.heap[r]? = some (.map es clk)) (hn : Instr.findNow .string (.string ⟨#[c]⟩) es.toList 0 = some none) :
    Calls Tryz.prog 71 #[.string ⟨#[c]⟩, .map (some r)] w fun e w' => e = .returned (.int .i64 0) ∧ w' = w.putObj r (.map (es.push { key := .string ⟨#[c]⟩, val := .bool true, born := clk }) (clk + 1)) := by
  have h1 := run_lookup_no (P := Tryz.prog) (w := w) Tryz.underlying179 Tryz.underlying9 (zero_bool w) hb hn
  have h2 := run_update_no (P := Tryz.prog) (w := w) (v := .bool true) Tryz.underlying179 Tryz.underlying9 hb hn
  clear hn hb
  go_enter Tryz.func71, Tryz.ntmps71
  go_wp2_with fail
  refine (name1_any c _ hc).mono ?_
  rintro e w2 ⟨rfl, rfl⟩
  go_wp2_with fail
  go_ret
  exact ⟨rfl, rfl⟩
end Go.Proofs.YtinjdcefagaaeaaGreatDoor
namespace Go.Proofs.YtinjdcefagaaeaaGreatDoor
open Go.RowKit
/-! layout.checkLinks -/
theorem Rd.of_blk {w : World} {g : Nat} {t : TypeId} {cs : List Value} {sz n : Nat} (h : Blk w g t cs.toArray) (hl : cs.length = n * sz) : Rd w w.heap.size sz (some ⟨g, 0, none⟩) n cs :=
  ⟨hl, fun _ => ⟨g, 0, rfl, h.lt, fun j u hu => by rw [Nat.zero_add, h.cell j]; simpa using hu⟩⟩
theorem infoLks : (Tryz.prog.info? 24).map (fun i => (i.zero, i.size, i.bytes)) = some (some (.slice none 0 0), 1, 24) := by kernel_rfl
theorem infoLk : (Tryz.prog.info? 249).map (fun i => (i.zero, i.size, i.bytes)) = some (some (.agg #[.int .i64 0, .int .i64 0, .int .i64 0, .int .i64 0, .int .i64 0, .int .i64 0]), 6, 48) := by kernel_rfl
structure ClS (w wr : World) (L : LyA) (g i : Nat) (es : List Value) : Prop where
  b : Below w.heap.size w wr
  x : Blk wr w.heap.size 26 L.cs
  o : wr.ownsRow w.heap.size 24 1 (.slice (some ⟨g, 0, none⟩) 6 6) 6 es
  n : es.length = 6
  e : ∀ j, i ≤ j → j < 6 → es[j]? = some (.slice none 0 0)
  g : w.heap.size < g
theorem ClS.go {w wr w' : World} {L : LyA} {g i : Nat} {es : List Value} (h : ClS w wr L g i es) (hb : Below wr.heap.size wr w') : ClS w w' L g i es :=
  ⟨h.b.trans (hb.mono h.b.size), h.x.same (hb.block _ h.x.lt), own_grow h.o hb, h.n, h.e, h.g⟩
theorem ClS.put {w wr : World} {L : LyA} {g i : Nat} {es : List Value} (h : ClS w wr L g i es) (j : Nat) (u : Value) (hj : j < i + 1) : ClS w (wr.setCell ⟨g, j, none⟩ u) L g (i + 1) (es.set j u) :=
  ⟨h.b.setCell (show w.heap.size ≤ g from Nat.le_of_lt h.g) _, h.x.far (Nat.ne_of_gt h.g), (h.o.stored j u).1, by rw [List.length_set]; exact h.n, fun q h1 h2 => by rw [List.getElem?_set_ne (by omega)]; exact h.e q (by omega) h2, h.g⟩
def ClL (w : World) (L : LyA) (g k : Nat) (v : Value) (wr : World) : Prop := ∃ (i : Nat) (es : List Value), v = .int .i64 i ∧ i + k = 2 ∧ ClS w wr L g (2 * i + 1) es
set_option maxRecDepth 100000 in
set_option maxHeartbeats 6400000 in
theorem clinks_ok (L : LyA) (w : World) (h : LayM w L) : Calls Tryz.prog 73 #[L.v] w fun e w' => e = .returned (.int .i64 0) ∧ Below w.heap.size w w' := by
  have H := Lib.hid h
  clear h
  obtain ⟨iL, b1, b2, b3, b4⟩ := info_parts infoLks
  have HIL := Lib.hid (And.intro b1 (And.intro b2 (And.intro b3 b4)))
  clear b1 b2 b3 b4
  obtain ⟨iK, b1, b2, b3, b4⟩ := info_parts infoLk
  have HIK := Lib.hid (And.intro b1 (And.intro b2 (And.intro b3 b4)))
  clear b1 b2 b3 b4
  go_enter Tryz.func73, Tryz.ntmps73
  go_upto_region 1 with fail
  refine world_gen (fun w0 => Below w.heap.size w w0 ∧ Blk w0 w.heap.size 26 L.cs) ⟨(by repeat (first | exact Below.refl _ _ | (with_reducible refine Below.drew ?_) | (with_reducible refine below_drewN ?_ _) | (with_reducible refine Below.alloc ?_ (by first | omega | (simp; done) | (simp; omega)) _) | (with_reducible refine Below.setCell ?_ (by first | omega | (simp; done) | (simp; omega)) _) | (refine Below.trans ?_ (Below.mono (by with_reducible assumption) (by first | omega | (simp; done) | (simp; omega)))))), (by repeat (first | (refine Blk.new' _ _ _ _ ?_; first | rfl | (simp <;> omega)) | refine Blk.al ?_ _ | refine Blk.dr ?_ | refine Blk.drN ?_ _ | refine Blk.far ?_ (by first | omega | (simp; omega))))⟩ ?_
  rintro w0 ⟨hb0, hx0⟩
  have HB0 := Lib.hid hb0
  have HX0 := Lib.hid hx0
  have x0 := hx0.cell 0
  have x1 := hx0.cell 1
  have x2 := hx0.cell 2
  have x3 := hx0.cell 3
  simp at x0 x1 x2 x3
  clear hb0 hx0
  go_upto_region 2 with (at_make; refine wpList_make_full _ rfl _ _ 252 rfl (w.heap.size) 24 iL _ 1 Tryz.underlying252 HIL.out.1 HIL.out.2.1 HIL.out.2.2.1 .i64 .i64 _ _ 6 rfl rfl rfl rfl ?m1 ?m2 ?m3 ?_; rotate_right; intro w3 ho3 hg3)
  case m1 => rw [HIL.out.2.2.2]; omega
  case m2 => simp only [maxLen]; omega
  case m3 => exact HB0.out.size
  have hb3 := bel_grow hg3
  have ho4 : w3.ownsRow w.heap.size 24 1 (.slice (some ⟨w0.heap.size, 0, none⟩) 6 6) 6 (List.replicate 6 (.slice none 0 0)) := by
    have h := ho3
    rw [Nat.mul_one, show (Value.slice none 0 0).cells = #[.slice none 0 0] from rfl, toList_madeCells_one] at h
    exact h
  have HS0 := Lib.hid (show ClS w w3 L w0.heap.size (2 * 0 + 1) (List.replicate 6 (.slice none 0 0)) from ⟨HB0.out.trans (hb3.mono HB0.out.size), HX0.out.same (hb3.block _ HX0.out.lt), ho4, rfl, fun j h1 h2 => List.getElem?_replicate_of_lt h2, HX0.out.lt⟩)
  clear ho4
  clear ho3 hg3 hb3 HX0 x0 x1 x2 x3 HB0
  generalize w0.heap.size = g at *
  have x0 := HS0.out.x.cell 0
  have x1 := HS0.out.x.cell 1
  have x2 := HS0.out.x.cell 2
  have x3 := HS0.out.x.cell 3
  simp at x0 x1 x2 x3
  go_wp2_with fail
  clear x0 x1 x2 x3
  go_loopg [18] 2 (fun k v wr => ClL w L g k v wr)
  case atStart => exact ⟨0, _, rfl, rfl, HS0.out⟩
  case round =>
    obtain ⟨i, es, rfl, hi, hs⟩ := hrel
    have HS := Lib.hid hs
    have Hi := Lib.hid hi
    clear hs hi HS0
    by_cases hlt : i < 2
    · have HLM := Lib.hid (H.out.go HS.out.b)
      obtain ⟨d0, d1, d2, d3, d4, d5⟩ := HLM.out.lnk i hlt
      have dl := HLM.out.li.lt
      have HGR := Lib.hid (own_block HS.out.o g rfl).2
      go_upto_region 5 with fail
      refine world_gen (fun w1 => ClS w w1 L g (2 * i + 1) es ∧ Blk w1 wr.heap.size 249 #[.int .i64 i, .int .i64 1, .int .i64 ((i : Int) + 1), .int .i64 0, .int .i64 (-1), .int .i64 0]) ⟨HS.out.go ((Below.refl _ _).alloc (Nat.le_refl _) _), Blk.new _ _ _⟩ ?_
      rintro w1 ⟨hs1, hk1⟩
      have HS1 := Lib.hid hs1
      have HK1 := Lib.hid hk1
      have x0 := hs1.x.cell 0
      have x1 := hs1.x.cell 1
      have x2 := hs1.x.cell 2
      have x3 := hs1.x.cell 3
      have k0 := hk1.cell 0
      have k1 := hk1.cell 1
      have k2 := hk1.cell 2
      have k3 := hk1.cell 3
      have k4 := hk1.cell 4
      have k5 := hk1.cell 5
      simp at x0 x1 x2 x3 k0 k1 k2 k3 k4 k5
      clear hs1 hk1 d0 d1 d2 d3 d4 d5 HS
      go_wp2_with fail
      refine (lnkin_ok L i ((i : Int) + 1) _ (by omega) (by omega) (by omega) (by omega)).mono ?_
      rintro e w2 ⟨rfl, hb2⟩
      have HS2 := Lib.hid (HS1.out.go hb2)
      have HK2 := Lib.hid (HK1.out.same (hb2.block _ HK1.out.lt))
      clear HS1 HK1 hb2 x0 x1 x2 x3 k0 k1 k2 k3 k4 k5
      have k0 := HK2.out.cell 0
      have k1 := HK2.out.cell 1
      have k2 := HK2.out.cell 2
      have k3 := HK2.out.cell 3
      have k4 := HK2.out.cell 4
      have k5 := HK2.out.cell 5
      simp at k0 k1 k2 k3 k4 k5
      go_wp2_with fail
      refine (ends_ok i (-1) 0 _).mono ?_
      rintro e w3 ⟨rfl, hb3⟩
      have HS3 := Lib.hid (HS2.out.go hb3)
      have HK3 := Lib.hid (HK2.out.same (hb3.block _ HK2.out.lt))
      have hK3 := HK3.out.lt
      clear HS2 HK2 hb3 k0 k1 k2 k3 k4 k5
      go_upto_region 8 with fail
      obtain ⟨ja, hja⟩ : ∃ ja : Nat, ja = 2 * i + 1 := ⟨_, rfl⟩
      obtain ⟨jb, hjb⟩ : ∃ jb : Nat, jb = 2 * i + 2 := ⟨_, rfl⟩
      have HJ := Lib.hid (And.intro hja hjb)
      have hA : ∀ W, Calls Tryz.prog 137 #[.agg #[.int .i64 i, .int .i64 1]] W fun e w' => e = .returned (.int .i64 (ja : Int)) ∧ Below W.heap.size W w' := fun W => (eidx_ok i 1 W (by omega) (by omega) (by omega) (by omega)).mono fun e w' h => ⟨by rw [h.1]; congr 2; omega, h.2⟩
      have hB : ∀ W, Calls Tryz.prog 137 #[.agg #[.int .i64 ((i : Int) + 1), .int .i64 0]] W fun e w' => e = .returned (.int .i64 (jb : Int)) ∧ Below W.heap.size W w' := fun W => (eidx_ok ((i : Int) + 1) 0 W (by omega) (by omega) (by omega) (by omega)).mono fun e w' h => ⟨by rw [h.1]; congr 2; omega, h.2⟩
      have HA := Lib.hid hA
      have HB := Lib.hid hB
      have hja6 : (ja : Int) < 6 := by omega
      have hjb6 : (jb : Int) < 6 := by omega
      have hab : ja ≠ jb := by omega
      clear hA hB hja hjb
      refine world_gen (fun w4 => ClS w w4 L g (2 * i + 1) es ∧ Blk w4 wr.heap.size 249 #[.int .i64 i, .int .i64 1, .int .i64 ((i : Int) + 1), .int .i64 0, .int .i64 (-1), .int .i64 0] ∧ Blk w4 w3.heap.size 255 #[.int .i64 i, .int .i64 1] ∧ Blk w4 (w3.heap.size + 1) 255 #[.int .i64 ((i : Int) + 1), .int .i64 0]) ⟨HS3.out.go (by repeat (first | exact Below.refl _ _ | (with_reducible refine Below.drew ?_) | (with_reducible refine below_drewN ?_ _) | (with_reducible refine Below.alloc ?_ (by first | omega | (simp; done) | (simp; omega)) _) | (with_reducible refine Below.setCell ?_ (by first | omega | (simp; done) | (simp; omega)) _) | (refine Below.trans ?_ (Below.mono (by with_reducible assumption) (by first | omega | (simp; done) | (simp; omega)))))), (by have hblk := HK3.out; repeat (first | exact hblk | refine Blk.al ?_ _ | refine Blk.dr ?_ | refine Blk.drN ?_ _)), (by repeat (first | (refine Blk.new' _ _ _ _ ?_; first | rfl | (simp <;> omega)) | refine Blk.al ?_ _ | refine Blk.dr ?_ | refine Blk.drN ?_ _ | refine Blk.far ?_ (by first | omega | (simp; omega)))), (by repeat (first | (refine Blk.new' _ _ _ _ ?_; first | rfl | (simp <;> omega)) | refine Blk.al ?_ _ | refine Blk.dr ?_ | refine Blk.drN ?_ _ | refine Blk.far ?_ (by first | omega | (simp; omega))))⟩ ?_
      rintro w4 ⟨hs4, hk4, ha4, hb4⟩
      have HS4 := Lib.hid hs4
      have HK4 := Lib.hid hk4
      have HA4 := Lib.hid ha4
      have HB4 := Lib.hid hb4
      have a0 := ha4.cell 0
      have a1 := ha4.cell 1
      have c0 := hb4.cell 0
      have c1 := hb4.cell 1
      have la := ha4.lt
      have lb := hb4.lt
      simp at a0 a1 c0 c1
      clear hs4 hk4 ha4 hb4 HS3 HK3
      refine wp_region_overL (by kernel_rfl) (by kernel_rfl) ?_
      repeat (go_big_quiet_step ((go_at_call 137; first | exact callsOver (HA.out _) | exact callsOver (HB.out _))))
      refine wpQuiet_nil ?_
      intro w5 hb5
      clear a0 a1 c0 c1 la lb
      have HS5 := Lib.hid (HS4.out.go hb5)
      have HK5 := Lib.hid (HK4.out.same ((hb5).block _ HK4.out.lt))
      have HA5 := Lib.hid (HA4.out.same ((hb5).block _ HA4.out.lt))
      have HB5 := Lib.hid (HB4.out.same ((hb5).block _ HB4.out.lt))
      have k0 := HK5.out.cell 0
      have k1 := HK5.out.cell 1
      have k2 := HK5.out.cell 2
      have k3 := HK5.out.cell 3
      have k4 := HK5.out.cell 4
      have k5 := HK5.out.cell 5
      have a0 := HA5.out.cell 0
      have a1 := HA5.out.cell 1
      have c0 := HB5.out.cell 0
      have c1 := HB5.out.cell 1
      have lk := HK5.out.lt
      have la := HA5.out.lt
      have lb := HB5.out.lt
      have lg := (own_block HS5.out.o g rfl).2
      simp at k0 k1 k2 k3 k4 k5 a0 a1 c0 c1
      have ea : (_ : World).cell? ⟨g, ja, none⟩ = some (.slice none 0 0) := (HS5.out.o.cellAt ja (by omega)).trans (HS5.out.e ja (by have := HJ.out; omega) (by omega))
      have eb : (_ : World).cell? ⟨g, jb, none⟩ = some (.slice none 0 0) := (HS5.out.o.cellAt jb (by omega)).trans (HS5.out.e jb (by have := HJ.out; omega) (by omega))
      clear HS4 HK4 HA4 HB4
      clear hb5
      go_wp2_with fail
      refine wp_region_overL (by kernel_rfl) (by kernel_rfl) ?_
      repeat (go_big_quiet_step ((go_at_call 138; exact callsOver (joinnil_ok _ _ _ _ _))))
      refine wpQuiet_nil ?_
      intro w6 hb6
      clear k0 k1 k2 k3 k4 k5 a0 a1 c0 c1 lk la lb lg ea eb
      have HS6 := Lib.hid (HS5.out.go hb6)
      have HK6 := Lib.hid (HK5.out.same ((hb6).block _ HK5.out.lt))
      have HA6 := Lib.hid (HA5.out.same ((hb6).block _ HA5.out.lt))
      have HB6 := Lib.hid (HB5.out.same ((hb6).block _ HB5.out.lt))
      have k0 := HK6.out.cell 0
      have k1 := HK6.out.cell 1
      have k2 := HK6.out.cell 2
      have k3 := HK6.out.cell 3
      have k4 := HK6.out.cell 4
      have k5 := HK6.out.cell 5
      have a0 := HA6.out.cell 0
      have a1 := HA6.out.cell 1
      have c0 := HB6.out.cell 0
      have c1 := HB6.out.cell 1
      have lk := HK6.out.lt
      have la := HA6.out.lt
      have lb := HB6.out.lt
      have lg := (own_block HS6.out.o g rfl).2
      simp at k0 k1 k2 k3 k4 k5 a0 a1 c0 c1
      have ea : (_ : World).cell? ⟨g, ja, none⟩ = some (.slice none 0 0) := (HS6.out.o.cellAt ja (by omega)).trans (HS6.out.e ja (by have := HJ.out; omega) (by omega))
      have eb : (_ : World).cell? ⟨g, jb, none⟩ = some (.slice none 0 0) := (HS6.out.o.cellAt jb (by omega)).trans (HS6.out.e jb (by have := HJ.out; omega) (by omega))
      clear HS5 HK5 HA5 HB5
      clear hb6
      go_wp2_with fail
      refine wp_region_overL (by kernel_rfl) (by kernel_rfl) ?_
      repeat (go_big_quiet_step ((go_at_call 139; exact callsOver (fitsnil_ok _ _ _ _ _ _ _))))
      refine wpQuiet_nil ?_
      intro w7 hb7
      clear k0 k1 k2 k3 k4 k5 a0 a1 c0 c1 lk la lb lg ea eb
      have HS7 := Lib.hid (HS6.out.go hb7)
      have HK7 := Lib.hid (HK6.out.same ((hb7).block _ HK6.out.lt))
      have HA7 := Lib.hid (HA6.out.same ((hb7).block _ HA6.out.lt))
      have HB7 := Lib.hid (HB6.out.same ((hb7).block _ HB6.out.lt))
      have k0 := HK7.out.cell 0
      have k1 := HK7.out.cell 1
      have k2 := HK7.out.cell 2
      have k3 := HK7.out.cell 3
      have k4 := HK7.out.cell 4
      have k5 := HK7.out.cell 5
      have a0 := HA7.out.cell 0
      have a1 := HA7.out.cell 1
      have c0 := HB7.out.cell 0
      have c1 := HB7.out.cell 1
      have lk := HK7.out.lt
      have la := HA7.out.lt
      have lb := HB7.out.lt
      have lg := (own_block HS7.out.o g rfl).2
      simp at k0 k1 k2 k3 k4 k5 a0 a1 c0 c1
      have ea : (_ : World).cell? ⟨g, ja, none⟩ = some (.slice none 0 0) := (HS7.out.o.cellAt ja (by omega)).trans (HS7.out.e ja (by have := HJ.out; omega) (by omega))
      have eb : (_ : World).cell? ⟨g, jb, none⟩ = some (.slice none 0 0) := (HS7.out.o.cellAt jb (by omega)).trans (HS7.out.e jb (by have := HJ.out; omega) (by omega))
      clear HS6 HK6 HA6 HB6
      clear hb7
      go_wp2_with fail
      refine wp_region_overL (by kernel_rfl) (by kernel_rfl) ?_
      repeat (go_big_quiet_step ((go_at_call 139; exact callsOver (fitsnil_ok _ _ _ _ _ _ _))))
      refine wpQuiet_nil ?_
      intro w8 hb8
      clear k0 k1 k2 k3 k4 k5 a0 a1 c0 c1 lk la lb lg ea eb
      have HS8 := Lib.hid (HS7.out.go hb8)
      have HK8 := Lib.hid (HK7.out.same ((hb8).block _ HK7.out.lt))
      have HA8 := Lib.hid (HA7.out.same ((hb8).block _ HA7.out.lt))
      have HB8 := Lib.hid (HB7.out.same ((hb8).block _ HB7.out.lt))
      have k0 := HK8.out.cell 0
      have k1 := HK8.out.cell 1
      have k2 := HK8.out.cell 2
      have k3 := HK8.out.cell 3
      have k4 := HK8.out.cell 4
      have k5 := HK8.out.cell 5
      have a0 := HA8.out.cell 0
      have a1 := HA8.out.cell 1
      have c0 := HB8.out.cell 0
      have c1 := HB8.out.cell 1
      have lk := HK8.out.lt
      have la := HA8.out.lt
      have lb := HB8.out.lt
      have lg := (own_block HS8.out.o g rfl).2
      simp at k0 k1 k2 k3 k4 k5 a0 a1 c0 c1
      have ea : (_ : World).cell? ⟨g, ja, none⟩ = some (.slice none 0 0) := (HS8.out.o.cellAt ja (by omega)).trans (HS8.out.e ja (by have := HJ.out; omega) (by omega))
      have eb : (_ : World).cell? ⟨g, jb, none⟩ = some (.slice none 0 0) := (HS8.out.o.cellAt jb (by omega)).trans (HS8.out.e jb (by have := HJ.out; omega) (by omega))
      clear HS7 HK7 HA7 HB7
      clear hb8
      have hsz := HS8.out.b.size
      go_upto_region 16 with fail
      go_region_law (first | (refine step_append_any (by rfl) _ _ _ (by rfl) w.heap.size 249 _ _ 6 48 Tryz.underlying24 HIK.out.1 HIK.out.2.1 HIK.out.2.2.1 HIK.out.2.2.2 rfl (by omega) (.slice none 0 0) 0 [] rfl (World.ownsRow_nil _ _ _ _) (some ⟨w8.heap.size, 0, none⟩) 1 1 (w8.heap.size + 1) [.int .i64 i, .int .i64 1, .int .i64 ((i : Int) + 1), .int .i64 0, .int .i64 (-1), .int .i64 0] rfl (fun e => by cases e) (Rd.more (Rd.of_blk (cs := [.int .i64 i, .int .i64 1, .int .i64 ((i : Int) + 1), .int .i64 0, .int .i64 (-1), .int .i64 0]) (n := 1) (sz := 6) (by repeat (first | (refine Blk.new' _ _ _ _ ?_; first | rfl | (simp <;> omega)) | refine Blk.al ?_ _ | refine Blk.dr ?_ | refine Blk.drN ?_ _ | refine Blk.far ?_ (by first | omega | (simp; omega)))) rfl) (by simp)) (by intro u hu; simp only [List.mem_cons, List.not_mem_nil, or_false] at hu; (repeat (rcases hu with rfl | hu <;> try rfl)); try (subst hu; rfl)) (by simp only [maxLen]; omega) (by omega) (by simp; omega) ?_; intro va wa hoa hga hta; obtain ⟨Aa, ca, rfl, _, _⟩ := own_slice hoa; have hba : Below w8.heap.size w8 wa := Below.grown (by repeat (first | exact Below.refl _ _ | (with_reducible refine Below.drew ?_) | (with_reducible refine below_drewN ?_ _) | (with_reducible refine Below.alloc ?_ (by first | omega | (simp; done) | (simp; omega)) _) | (with_reducible refine Below.setCell ?_ (by first | omega | (simp; done) | (simp; omega)) _) | (refine Below.trans ?_ (Below.mono (by with_reducible assumption) (by first | omega | (simp; done) | (simp; omega)))))) hga (by simp) (fun k hk => by simp [Value.ownBlock] at hk); have hsa := HS8.out.go hba; have HSa := Lib.hid hsa; have ea9 := (hsa.o.cellAt ja (by omega)).trans (hsa.e ja (by have := HJ.out; omega) (by omega)); have fa9 := hsa.o.frozenAt ja; have lg9 := (own_block hsa.o g rfl).2; clear hsa))
      all_goals
        have HS9 := Lib.hid (HSa.out.put ja (.slice Aa 1 ca) (by have := HJ.out; omega))
        have HK9 := Lib.hid (show Blk (wa.setCell ⟨g, ja, none⟩ (.slice Aa 1 ca)) wr.heap.size 249 _ from (HK8.out.same (hba.block _ HK8.out.lt)).far (by have := HGR.out; omega))
        clear HSa HS8 HK8 HA8 HB8 k0 k1 k2 k3 k4 k5 a0 a1 c0 c1 lk la lb lg ea eb ea9 fa9 lg9 hoa hga hta hba hsz
        generalize wa.setCell ⟨g, ja, none⟩ (.slice Aa 1 ca) = w9 at *
        have k0 := HK9.out.cell 0
        have k1 := HK9.out.cell 1
        have k2 := HK9.out.cell 2
        have k3 := HK9.out.cell 3
        have k4 := HK9.out.cell 4
        have k5 := HK9.out.cell 5
        have lk := HK9.out.lt
        have lg := (own_block HS9.out.o g rfl).2
        simp at k0 k1 k2 k3 k4 k5
        have eb := (HS9.out.o.cellAt jb (by omega)).trans (HS9.out.e jb (by have := HJ.out; omega) (by omega))
        have hsz := HS9.out.b.size
        go_upto_region 17 with fail
        go_region_law (first | (refine step_append_any (by rfl) _ _ _ (by rfl) w.heap.size 249 _ _ 6 48 Tryz.underlying24 HIK.out.1 HIK.out.2.1 HIK.out.2.2.1 HIK.out.2.2.2 rfl (by omega) (.slice none 0 0) 0 [] rfl (World.ownsRow_nil _ _ _ _) (some ⟨w9.heap.size, 0, none⟩) 1 1 (w9.heap.size + 1) [.int .i64 i, .int .i64 1, .int .i64 ((i : Int) + 1), .int .i64 0, .int .i64 (-1), .int .i64 0] rfl (fun e => by cases e) (Rd.more (Rd.of_blk (cs := [.int .i64 i, .int .i64 1, .int .i64 ((i : Int) + 1), .int .i64 0, .int .i64 (-1), .int .i64 0]) (n := 1) (sz := 6) (by repeat (first | (refine Blk.new' _ _ _ _ ?_; first | rfl | (simp <;> omega)) | refine Blk.al ?_ _ | refine Blk.dr ?_ | refine Blk.drN ?_ _ | refine Blk.far ?_ (by first | omega | (simp; omega)))) rfl) (by simp)) (by intro u hu; simp only [List.mem_cons, List.not_mem_nil, or_false] at hu; (repeat (rcases hu with rfl | hu <;> try rfl)); try (subst hu; rfl)) (by simp only [maxLen]; omega) (by omega) (by simp; omega) ?_; intro va wa hoa hga hta; obtain ⟨Aa, ca, rfl, _, _⟩ := own_slice hoa; have hba : Below w9.heap.size w9 wa := Below.grown (by repeat (first | exact Below.refl _ _ | (with_reducible refine Below.drew ?_) | (with_reducible refine below_drewN ?_ _) | (with_reducible refine Below.alloc ?_ (by first | omega | (simp; done) | (simp; omega)) _) | (with_reducible refine Below.setCell ?_ (by first | omega | (simp; done) | (simp; omega)) _) | (refine Below.trans ?_ (Below.mono (by with_reducible assumption) (by first | omega | (simp; done) | (simp; omega)))))) hga (by simp) (fun k hk => by simp [Value.ownBlock] at hk); have hsa := HS9.out.go hba; have HSa := Lib.hid hsa; have ea9 := (hsa.o.cellAt jb (by omega)).trans (hsa.e jb (by have := HJ.out; omega) (by omega)); have fa9 := hsa.o.frozenAt jb; have lg9 := (own_block hsa.o g rfl).2; clear hsa))
        all_goals
          have HT9 := Lib.hid (HSa.out.put jb (.slice Aa 1 ca) (by have := HJ.out; omega))
          have hm3 : 2 * i + 1 + 1 + 1 = 2 * (i + 1) + 1 := by omega
          rw [hm3] at HT9
          go_wp2_with fail
          go_roundg (2 - i - 1)
          case measure => have := Hi.out; omega
          case rel => exact ⟨i + 1, _, by first | rfl | go_num, by have := Hi.out; omega, HT9.out⟩
    · obtain rfl : i = 2 := by have := Hi.out; omega
      go_wp2_with fail
      go_ret
      exact ⟨rfl, HS.out.b⟩
end Go.Proofs.YtinjdcefagaaeaaGreatDoor
namespace Go.Proofs.YtinjdcefagaaeaaGreatDoor
open Go.RowKit
/-! layout.Check -/
def mpE (f : Nat → UInt8) : Nat → Array MapEntry
  | 0 => #[]
  | n + 1 => (mpE f n).push { key := .string ⟨#[f n]⟩, val := .bool true, born := n }
theorem mp_sn (j : Nat) (hj : j < 2) : Instr.findNow .string (.string ⟨#[snF j]⟩) (mpE snF j).toList 0 = some none := by
  match j, hj with
  | 0, _ => rfl
  | 1, _ => rfl
theorem mp_nm (j : Nat) (hj : j < 3) : Instr.findNow .string (.string ⟨#[nmF j]⟩) (mpE nmF j).toList 0 = some none := by
  match j, hj with
  | 0, _ => rfl
  | 1, _ => rfl
  | 2, _ => rfl
theorem let_sn (j : Nat) : letB (snF j).toNat = true := by
  match j with
  | 0 => rfl
  | _ + 1 => rfl
theorem let_nm (j : Nat) : letB (nmF j).toNat = true := by
  match j with
  | 0 => rfl
  | 1 => rfl
  | _ + 2 => rfl
theorem bel_put {B r : Nat} {w w' : World} (o : Obj) (h : Below B w w') (hr : B ≤ r) : Below B w (w'.putObj r o) :=
  ⟨h.os, h.tape, h.output, by simpa using h.size, fun k hk => (World.putObj_heap_other (by omega)).trans (h.block k hk)⟩
theorem Blk.put {w : World} {g r : Nat} {t : TypeId} {cs : Array Value} (h : Blk w g t cs) (o : Obj) (hne : g ≠ r) : Blk (w.putObj r o) g t cs := h.same (World.putObj_heap_other hne)
theorem idx_2a (a b : Value) (W : World) : (Instr.index 178 (.agg #[a, b]) (.int .i64 0)).run Tryz.prog W = .ok a W := by first | kernel_rfl | rfl
theorem idx_2b (a b : Value) (W : World) : (Instr.index 178 (.agg #[a, b]) (.int .i64 1)).run Tryz.prog W = .ok b W := by first | kernel_rfl | rfl
structure LcS (w wr : World) (L : LyA) : Prop where
  b : Below w.heap.size w wr
  x : Blk wr w.heap.size 26 L.cs
theorem LcS.go {w wr w' : World} {L : LyA} (h : LcS w wr L) (hb : Below wr.heap.size wr w') : LcS w w' L := ⟨h.b.trans (hb.mono h.b.size), h.x.same (hb.block _ h.x.lt)⟩
theorem LcS.put {w wr : World} {L : LyA} {r : Nat} (h : LcS w wr L) (o : Obj) (hr : w.heap.size < r) : LcS w (wr.putObj r o) L := ⟨bel_put o h.b (by omega), h.x.put o (by omega)⟩
def Lc1 (w : World) (L : LyA) (k : Nat) (v : Value) (wr : World) : Prop := LcS w wr L ∧ ((k = 2 ∧ v = .int .i64 0) ∨ (k = 1 ∧ v = .int .i64 1) ∨ (k = 0 ∧ v = .int .i64 2))
def Lc2 (w : World) (L : LyA) (r : Nat) (k : Nat) (v : Value) (wr : World) : Prop := ∃ j : Nat, v = .int .i64 j ∧ j + k = 2 ∧ LcS w wr L ∧ wr.heap[r]? = some (.map (mpE snF j) j)
def Lc2n (w : World) (L : LyA) (k : Nat) (v : Value) (wr : World) : Prop := v = .int .i64 0 ∧ k = 0 ∧ LcS w wr L
def Lc3 (w : World) (L : LyA) (r : Nat) (k : Nat) (v : Value) (wr : World) : Prop := ∃ j : Nat, v = .int .i64 j ∧ j + k = 3 ∧ LcS w wr L ∧ wr.heap[r]? = some (.map (mpE nmF j) j)
set_option maxRecDepth 100000 in
set_option maxHeartbeats 6400000 in
theorem lcheck_of (L : LyA) (w : World) (h : LayM w L) (hcl : ∀ W, LayM W L → Calls Tryz.prog 73 #[L.v] W fun e w' => e = .returned (.int .i64 0) ∧ Below W.heap.size W w') :
    Calls Tryz.prog 27 #[L.v] w fun e w' => e = .returned (.int .i64 0) ∧ Below w.heap.size w w' := by
  have H := Lib.hid h
  have HCL := Lib.hid hcl
  clear h hcl
  have i0 := idx_2a
  have i1 := idx_2b
  have hmm := @run_makeMap Tryz.prog
  go_enter Tryz.func27, Tryz.ntmps27
  go_upto_region 1 with fail
  refine world_gen (fun w0 => LcS w w0 L) ⟨(by repeat (first | exact Below.refl _ _ | (with_reducible refine Below.drew ?_) | (with_reducible refine below_drewN ?_ _) | (with_reducible refine Below.alloc ?_ (by first | omega | (simp; done) | (simp; omega)) _) | (with_reducible refine Below.setCell ?_ (by first | omega | (simp; done) | (simp; omega)) _) | (refine Below.trans ?_ (Below.mono (by with_reducible assumption) (by first | omega | (simp; done) | (simp; omega)))))), (by repeat (first | (refine Blk.new' _ _ _ _ ?_; first | rfl | (simp <;> omega)) | refine Blk.al ?_ _ | refine Blk.dr ?_ | refine Blk.drN ?_ _ | refine Blk.far ?_ (by first | omega | (simp; omega))))⟩ ?_
  rintro w0 hs0
  have HS0 := Lib.hid hs0
  have x0 := hs0.x.cell 0
  have x1 := hs0.x.cell 1
  have x2 := hs0.x.cell 2
  have x3 := hs0.x.cell 3
  simp at x0 x1 x2 x3
  clear hs0
  go_wp2_with fail
  clear x0 x1 x2 x3
  go_loopg [40] 2 (fun k v wr => Lc1 w L k v wr)
  case atStart => exact ⟨HS0.out, .inl ⟨rfl, rfl⟩⟩
  case round =>
    obtain ⟨hs1, hor⟩ := hrel
    have HS1 := Lib.hid hs1
    clear hs1 HS0
    rcases hor with ⟨rfl, rfl⟩ | ⟨rfl, rfl⟩ | ⟨rfl, rfl⟩
    · have HM := Lib.hid (show LcS w (wr.alloc (.map #[] 0)) L ∧ (wr.alloc (.map #[] 0)).heap[wr.heap.size]? = some (.map (mpE snF 0) 0) from ⟨HS1.out.go ((Below.refl _ _).alloc (Nat.le_refl _) _), heap_alloc_new _ _⟩)
      have hr : w.heap.size < wr.heap.size := HS1.out.x.lt
      clear HS1
      go_wp2_with fail
      generalize wr.alloc (.map #[] 0) = w1 at *
      generalize wr.heap.size = r at *
      go_loopg [46] 2 (fun k v wr => Lc2 w L r k v wr)
      case atStart => exact ⟨0, rfl, rfl, HM.out.1, HM.out.2⟩
      case round =>
        obtain ⟨j, rfl, hj, hs, hm⟩ := hrel
        have HS := Lib.hid hs
        have Hj := Lib.hid hj
        have HMM := Lib.hid hm
        clear hs hj hm HM
        by_cases hlt : j < 2
        · have HLM := Lib.hid (H.out.go HS.out.b)
          have d0 := HLM.out.sta j hlt
          have dl := HLM.out.st.lt
          go_wp2_with fail
          refine (chkname_ok _ r j _ _ (let_sn j) HMM.out (mp_sn j hlt)).mono ?_
          rintro e w2 ⟨rfl, rfl⟩
          have HP := Lib.hid (show LcS w (wr.putObj r (.map (mpE snF (j + 1)) (j + 1))) L ∧ (wr.putObj r (.map (mpE snF (j + 1)) (j + 1))).heap[r]? = some (.map (mpE snF (j + 1)) (j + 1)) from ⟨HS.out.put _ hr, World.putObj_heap_same (Array.getElem?_eq_some_iff.1 HMM.out).1⟩)
          go_wp2_with fail
          go_roundg (2 - j - 1)
          case measure => have := Hj.out; omega
          case rel => exact ⟨j + 1, by first | rfl | go_num, by have := Hj.out; omega, HP.out.1, HP.out.2⟩
        · obtain rfl : j = 2 := by have := Hj.out; omega
          go_wp2_with fail
          go_roundg 1
          case measure => have := Hj.out; omega
          case rel => exact ⟨HS.out, .inr (.inl ⟨rfl, rfl⟩)⟩
    · have HM := Lib.hid (show LcS w (wr.alloc (.map #[] 0)) L from HS1.out.go ((Below.refl _ _).alloc (Nat.le_refl _) _))
      clear HS1
      go_wp2_with fail
      generalize wr.alloc (.map #[] 0) = w1 at *
      generalize wr.heap.size = r at *
      go_loopg [46] 0 (fun k v wr => Lc2n w L k v wr)
      case atStart => exact ⟨rfl, rfl, HM.out⟩
      case round =>
        obtain ⟨rfl, hk, hs⟩ := hrel
        have HS := Lib.hid hs
        clear hs HM
        go_wp2_with fail
        go_roundg 0
        case measure => omega
        case rel => exact ⟨HS.out, .inr (.inr ⟨rfl, rfl⟩)⟩
    · have x2 := HS1.out.x.cell 2
      simp at x2
      have HM := Lib.hid (show LcS w (wr.alloc (.map #[] 0)) L ∧ (wr.alloc (.map #[] 0)).heap[wr.heap.size]? = some (.map (mpE nmF 0) 0) from ⟨HS1.out.go ((Below.refl _ _).alloc (Nat.le_refl _) _), heap_alloc_new _ _⟩)
      have hr : w.heap.size < wr.heap.size := HS1.out.x.lt
      clear HS1
      go_wp2_with fail
      generalize wr.alloc (.map #[] 0) = w1 at *
      generalize wr.heap.size = r at *
      clear x2
      go_loopg [62] 3 (fun k v wr => Lc3 w L r k v wr)
      case atStart => exact ⟨0, rfl, rfl, HM.out.1, HM.out.2⟩
      case round =>
        obtain ⟨j, rfl, hj, hs, hm⟩ := hrel
        have HS := Lib.hid hs
        have Hj := Lib.hid hj
        have HMM := Lib.hid hm
        clear hs hj hm HM
        by_cases hlt : j < 3
        · have HLM := Lib.hid (H.out.go HS.out.b)
          obtain ⟨d0, d1, d2, d3, d4⟩ := HLM.out.sec j hlt
          have dl := HLM.out.se.lt
          have hsb := stF_bd j
          have x0 := HS.out.x.cell 0
          have x1 := HS.out.x.cell 1
          have x2 := HS.out.x.cell 2
          have x3 := HS.out.x.cell 3
          simp at x0 x1 x2 x3
          go_upto_region 24 with fail
          have hrl := (Array.getElem?_eq_some_iff.1 HMM.out).1
          refine world_gen (fun w1 => LcS w w1 L ∧ w1.heap[r]? = some (.map (mpE nmF j) j) ∧ Blk w1 wr.heap.size 169 #[.string ⟨#[nmF j]⟩, .int .i64 10, .int .i64 20000, .int .i64 0, .int .i64 (stF j)]) ⟨HS.out.go ((Below.refl _ _).alloc (Nat.le_refl _) _), (Below.heap_alloc _ _ _ hrl).trans HMM.out, Blk.new _ _ _⟩ ?_
          rintro w1 ⟨hs1, hm1, hx1⟩
          have HS1 := Lib.hid hs1
          have HM1 := Lib.hid hm1
          have HX1 := Lib.hid hx1
          clear hs1 hm1 hx1 x0 x1 x2 x3 d0 d1 d2 d3 d4
          have s0 := HX1.out.cell 0
          simp at s0
          go_wp2_with fail
          refine (chkname_ok _ r j _ _ (let_nm j) HM1.out (mp_nm j hlt)).mono ?_
          rintro e w2 ⟨rfl, rfl⟩
          have HP := Lib.hid (show LcS w (w1.putObj r (.map (mpE nmF (j + 1)) (j + 1))) L ∧ (w1.putObj r (.map (mpE nmF (j + 1)) (j + 1))).heap[r]? = some (.map (mpE nmF (j + 1)) (j + 1)) ∧ Blk (w1.putObj r (.map (mpE nmF (j + 1)) (j + 1))) wr.heap.size 169 #[.string ⟨#[nmF j]⟩, .int .i64 10, .int .i64 20000, .int .i64 0, .int .i64 (stF j)] from ⟨HS1.out.put _ hr, World.putObj_heap_same (Array.getElem?_eq_some_iff.1 HM1.out).1, HX1.out.put _ (by omega)⟩)
          have hep : w1.putObj r (.map ((mpE nmF j).push { key := .string ⟨#[nmF j]⟩, val := .bool true, born := j }) (j + 1)) = w1.putObj r (.map (mpE nmF (j + 1)) (j + 1)) := rfl
          rw [hep]
          clear s0
          generalize w1.putObj r (.map (mpE nmF (j + 1)) (j + 1)) = w2 at *
          clear HS1 HM1 HX1 hep
          have x0 := HP.out.1.x.cell 0
          have x1 := HP.out.1.x.cell 1
          have x2 := HP.out.1.x.cell 2
          have x3 := HP.out.1.x.cell 3
          have s0 := HP.out.2.2.cell 0
          have s1 := HP.out.2.2.cell 1
          have s2 := HP.out.2.2.cell 2
          have s3 := HP.out.2.2.cell 3
          have s4 := HP.out.2.2.cell 4
          simp at x0 x1 x2 x3 s0 s1 s2 s3 s4
          go_wp2_with fail
          refine (secin_ok L _ _ _ hsb.1 hsb.2).mono ?_
          rintro e w3 ⟨rfl, hb3⟩
          have HS3 := Lib.hid (HP.out.1.go hb3)
          have HM3 := Lib.hid ((hb3.block _ (Array.getElem?_eq_some_iff.1 HP.out.2.1).1).trans HP.out.2.1)
          clear hb3 HP x0 x1 x2 x3 s0 s1 s2 s3 s4
          go_wp2_with fail
          go_roundg (3 - j - 1)
          case measure => have := Hj.out; omega
          case rel => exact ⟨j + 1, by first | rfl | go_num, by have := Hj.out; omega, HS3.out, HM3.out⟩
        · obtain rfl : j = 3 := by have := Hj.out; omega
          have x0 := HS.out.x.cell 0
          have x1 := HS.out.x.cell 1
          have x2 := HS.out.x.cell 2
          have x3 := HS.out.x.cell 3
          simp at x0 x1 x2 x3
          go_wp2_with fail
          refine (HCL.out _ (H.out.go HS.out.b)).mono ?_
          rintro e w2 ⟨rfl, hb2⟩
          go_wp2_with fail
          go_ret
          exact ⟨rfl, HS.out.b.trans (hb2.mono HS.out.b.size)⟩
end Go.Proofs.YtinjdcefagaaeaaGreatDoor
namespace Go.Proofs.YtinjdcefagaaeaaGreatDoor
open Go.RowKit
theorem lcheck_ok (L : LyA) (w : World) (h : LayM w L) : Calls Tryz.prog 27 #[L.v] w fun e w' => e = .returned (.int .i64 0) ∧ Below w.heap.size w w' := lcheck_of L w h fun W hW => clinks_ok L W hW
end Go.Proofs.YtinjdcefagaaeaaGreatDoor
