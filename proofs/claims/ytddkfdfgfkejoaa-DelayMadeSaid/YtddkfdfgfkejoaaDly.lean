import Derived.Test.YtddkfdfgfkejoaaData
import Derived.Test.YtddkfdfgfkejoaaTail
import Derived.Test.YtddkfdfgfkejoaaDlyMath
namespace Go.Proofs.Ytddkfdfgfkejoaa
open Go.RowKit
def Mom.cells (x : Mom) : List Value := [.int .i64 x.time, .bool x.hold]
theorem Mom.len (x : Mom) : x.cells.length = 2 := rfl
theorem Mom.one (x : Mom) : ∀ u ∈ x.cells, u.oneCell' = true := by intro u hu; simp only [Mom.cells, List.mem_cons, List.not_mem_nil, or_false] at hu; rcases hu with rfl | rfl <;> rfl
theorem infoMom : (Try.prog.info? 33).map (fun i => (i.zero, i.size, i.bytes)) = some (some (.agg #[.int .i64 0, .bool false]), 2, 16) := by kernel_rfl
theorem rdMom {w : World} {B n : Nat} {A : Option Addr} {xs : List Mom} (h : Rd w B 2 A n (xs.flatMap Mom.cells)) (hn : n = xs.length) (j : Nat) (hj : j < xs.length) :
    ∃ b off, A = some ⟨b, off, none⟩ ∧ b < B ∧ w.cell? ⟨b, off + j * 2, none⟩ = some (.int .i64 xs[j].time) ∧ w.cell? ⟨b, off + j * 2 + 1, none⟩ = some (.bool xs[j].hold) := by
  obtain ⟨b, off, rfl, hb, hc⟩ := h.2 (by omega)
  have h2 : ∀ i u, i < 2 → xs[j].cells[i]? = some u → w.cell? ⟨b, off + (j * 2 + i), none⟩ = some u := fun i u hi hu => hc _ u (by rw [flat_get Mom.cells 2 Mom.len xs j hj i hi]; exact hu)
  exact ⟨b, off, rfl, hb, h2 0 _ (by omega) rfl, h2 1 _ (by omega) rfl⟩
theorem ownMom {w : World} {base n cap g : Nat} {xs : List Mom} (h : w.ownsRow base 33 2 (.slice (some ⟨g, 0, none⟩) n cap) n (xs.flatMap Mom.cells)) (hn : n = xs.length) (j : Nat) (hj : j < xs.length) : w.cell? ⟨g, j * 2, none⟩ = some (.int .i64 xs[j].time) ∧ w.cell? ⟨g, j * 2 + 1, none⟩ = some (.bool xs[j].hold) := by
  have hc : ∀ i, i < 2 → w.cell? ⟨g, j * 2 + i, none⟩ = xs[j].cells[i]? := fun i hi => by
    rw [h.cellAt (j * 2 + i) (by omega)]
    exact flat_get Mom.cells 2 Mom.len xs j hj i hi
  exact ⟨hc 0 (by omega), hc 1 (by omega)⟩
def Wt.cells (x : Wt) : List Value := [.int .i64 x.fr, .int .i64 x.tt, .int .i64 x.mn, .int .i64 x.mx]
theorem Wt.len (x : Wt) : x.cells.length = 4 := rfl
theorem Wt.one (x : Wt) : ∀ u ∈ x.cells, u.oneCell' = true := by intro u hu; simp only [Wt.cells, List.mem_cons, List.not_mem_nil, or_false] at hu; rcases hu with rfl | rfl | rfl | rfl <;> rfl
theorem infoWt : (Try.prog.info? 35).map (fun i => (i.zero, i.size, i.bytes)) = some (some (.agg #[.int .i64 0, .int .i64 0, .int .i64 0, .int .i64 0]), 4, 32) := by kernel_rfl
theorem rdWt {w : World} {B n : Nat} {A : Option Addr} {xs : List Wt} (h : Rd w B 4 A n (xs.flatMap Wt.cells)) (hn : n = xs.length) (j : Nat) (hj : j < xs.length) :
    ∃ b off, A = some ⟨b, off, none⟩ ∧ b < B ∧ w.cell? ⟨b, off + j * 4, none⟩ = some (.int .i64 xs[j].fr) ∧ w.cell? ⟨b, off + j * 4 + 1, none⟩ = some (.int .i64 xs[j].tt) ∧ w.cell? ⟨b, off + j * 4 + 2, none⟩ = some (.int .i64 xs[j].mn) ∧ w.cell? ⟨b, off + j * 4 + 3, none⟩ = some (.int .i64 xs[j].mx) := by
  obtain ⟨b, off, rfl, hb, hc⟩ := h.2 (by omega)
  have h2 : ∀ i u, i < 4 → xs[j].cells[i]? = some u → w.cell? ⟨b, off + (j * 4 + i), none⟩ = some u := fun i u hi hu => hc _ u (by rw [flat_get Wt.cells 4 Wt.len xs j hj i hi]; exact hu)
  exact ⟨b, off, rfl, hb, h2 0 _ (by omega) rfl, h2 1 _ (by omega) rfl, h2 2 _ (by omega) rfl, h2 3 _ (by omega) rfl⟩
theorem ownWt {w : World} {base n cap g : Nat} {xs : List Wt} (h : w.ownsRow base 35 4 (.slice (some ⟨g, 0, none⟩) n cap) n (xs.flatMap Wt.cells)) (hn : n = xs.length) (j : Nat) (hj : j < xs.length) : w.cell? ⟨g, j * 4, none⟩ = some (.int .i64 xs[j].fr) ∧ w.cell? ⟨g, j * 4 + 1, none⟩ = some (.int .i64 xs[j].tt) ∧ w.cell? ⟨g, j * 4 + 2, none⟩ = some (.int .i64 xs[j].mn) ∧ w.cell? ⟨g, j * 4 + 3, none⟩ = some (.int .i64 xs[j].mx) := by
  have hc : ∀ i, i < 4 → w.cell? ⟨g, j * 4 + i, none⟩ = xs[j].cells[i]? := fun i hi => by
    rw [h.cellAt (j * 4 + i) (by omega)]
    exact flat_get Wt.cells 4 Wt.len xs j hj i hi
  exact ⟨hc 0 (by omega), hc 1 (by omega), hc 2 (by omega), hc 3 (by omega)⟩
def Pri.cells (x : Pri) : List Value := [.int .i64 x.mo, .int .i64 x.sec]
theorem Pri.len (x : Pri) : x.cells.length = 2 := rfl
theorem Pri.one (x : Pri) : ∀ u ∈ x.cells, u.oneCell' = true := by intro u hu; simp only [Pri.cells, List.mem_cons, List.not_mem_nil, or_false] at hu; rcases hu with rfl | rfl <;> rfl
theorem infoPri : (Try.prog.info? 39).map (fun i => (i.zero, i.size, i.bytes)) = some (some (.agg #[.int .i64 0, .int .i64 0]), 2, 16) := by kernel_rfl
theorem rdPri {w : World} {B n : Nat} {A : Option Addr} {xs : List Pri} (h : Rd w B 2 A n (xs.flatMap Pri.cells)) (hn : n = xs.length) (j : Nat) (hj : j < xs.length) :
    ∃ b off, A = some ⟨b, off, none⟩ ∧ b < B ∧ w.cell? ⟨b, off + j * 2, none⟩ = some (.int .i64 xs[j].mo) ∧ w.cell? ⟨b, off + j * 2 + 1, none⟩ = some (.int .i64 xs[j].sec) := by
  obtain ⟨b, off, rfl, hb, hc⟩ := h.2 (by omega)
  have h2 : ∀ i u, i < 2 → xs[j].cells[i]? = some u → w.cell? ⟨b, off + (j * 2 + i), none⟩ = some u := fun i u hi hu => hc _ u (by rw [flat_get Pri.cells 2 Pri.len xs j hj i hi]; exact hu)
  exact ⟨b, off, rfl, hb, h2 0 _ (by omega) rfl, h2 1 _ (by omega) rfl⟩
theorem ownPri {w : World} {base n cap g : Nat} {xs : List Pri} (h : w.ownsRow base 39 2 (.slice (some ⟨g, 0, none⟩) n cap) n (xs.flatMap Pri.cells)) (hn : n = xs.length) (j : Nat) (hj : j < xs.length) : w.cell? ⟨g, j * 2, none⟩ = some (.int .i64 xs[j].mo) ∧ w.cell? ⟨g, j * 2 + 1, none⟩ = some (.int .i64 xs[j].sec) := by
  have hc : ∀ i, i < 2 → w.cell? ⟨g, j * 2 + i, none⟩ = xs[j].cells[i]? := fun i hi => by
    rw [h.cellAt (j * 2 + i) (by omega)]
    exact flat_get Pri.cells 2 Pri.len xs j hj i hi
  exact ⟨hc 0 (by omega), hc 1 (by omega)⟩
theorem infoInt : (Try.prog.info? 3).map (fun i => (i.zero, i.size, i.bytes)) = some (some (.int .i64 0), 1, 8) := by kernel_rfl
theorem infoBool : (Try.prog.info? 4).map (fun i => (i.zero, i.size, i.bytes)) = some (some (.bool false), 1, 1) := by kernel_rfl

def clkB (x : Int) : Bool := decide (0 ≤ x ∧ x ≤ 4194304)
def momB (n : Nat) (x : Int) : Bool := decide (0 ≤ x ∧ x < n)

set_option maxHeartbeats 400000 in
theorem clk_any (x : Int) (w : World) : Calls Try.prog 34 #[.int .i64 x] w fun e w' => e = .returned (.bool (clkB x)) ∧ w = w' := by
  go_enter Try.func34, Try.ntmps34
  go_wp2
  all_goals
    go_ret
    refine ⟨ret_bool ?_, rfl⟩
    simp_all [clkB]
    try omega

set_option maxHeartbeats 400000 in
theorem mom_any (x : Int) (w : World) (b : Nat) (A : Option Addr) (n c : Nat) (hc : w.cell? ⟨b, 0, none⟩ = some (.slice A n c)) (_hn : n ≤ 64) :
    Calls Try.prog 33 #[.int .i64 x, .pointer (some ⟨b, 0, none⟩)] w fun e w' => e = .returned (.bool (momB n x)) ∧ w = w' := by
  by_cases h0 : 0 ≤ x
  · go_enter Try.func33, Try.ntmps33
    go_wp2
    all_goals
      go_ret
      refine ⟨ret_bool ?_, rfl⟩
      simp_all [momB]
  · have h0' : decide (0 ≤ x) = false := by simpa using h0
    go_enter Try.func33, Try.ntmps33
    go_wp2
    all_goals
      go_ret
      refine ⟨ret_bool ?_, rfl⟩
      simp_all [momB]
      try omega

/-- what topological leaves -/
def TopOut (n : Nat) (ws : List Wt) (w : World) (e : Ending) (w' : World) : Prop :=
  ∃ (v : Value) (ord : List Int), e = .returned v ∧ Topo n ws ord ∧ (Acyc ws → ord.length = n) ∧ w'.ownsRow w.heap.size 3 1 v ord.length (ord.map (Value.int .i64)) ∧ Below w.heap.size w w'

def T1 (w : World) (n : Nat) (ws : List Wt) (G k : Nat) (v : Value) (wr : World) : Prop :=
  ∃ (a : Nat) (op : List Int), v = .int .i64 a ∧ a + k = ws.length ∧ op.length = n ∧ (∀ j : Int, 0 ≤ j → j < (n : Int) → gi op j = ((cnt (ws.take a) j [] : Nat) : Int)) ∧ wr.ownsRow w.heap.size 3 1 (.slice (some ⟨G, 0, none⟩) n n) n (op.map (Value.int .i64)) ∧ Below w.heap.size w wr

theorem gi_rep (n : Nat) (j : Int) (h0 : 0 ≤ j) (h1 : j < n) : gi (List.replicate n 0) j = 0 := by
  unfold gi
  rw [List.getD_eq_getElem?_getD, List.getElem?_replicate, if_pos (by omega)]; rfl
def ord0 (op : List Int) (i : Nat) : List Int := ((List.range i).map Int.ofNat).filter fun j => decide (gi op j = 0)
theorem ord0_succ (op : List Int) (i : Nat) : ord0 op (i + 1) = if gi op i = 0 then ord0 op i ++ [(i : Int)] else ord0 op i := by
  unfold ord0
  rw [List.range_succ, List.map_append, List.filter_append]
  by_cases h : gi op i = 0
  · rw [if_pos h]; simp [h]
  · rw [if_neg h]; simp [h]
theorem ord0_len (op : List Int) (i : Nat) : (ord0 op i).length ≤ i := by
  unfold ord0
  refine Nat.le_trans (List.length_filter_le _ _) (by simp)
theorem kahn_start (n : Nat) (ws : List Wt) (op : List Int) (hl : op.length = n) (hv : ∀ j : Int, 0 ≤ j → j < (n : Int) → gi op j = ((cnt ws j [] : Nat) : Int)) : KahnO n ws 0 op (ord0 op n) := by
  have hmem : ∀ j : Int, j ∈ ord0 op n ↔ (0 ≤ j ∧ j < (n : Int)) ∧ gi op j = 0 := fun j => by
    unfold ord0
    rw [List.mem_filter, List.mem_map]
    constructor
    · rintro ⟨⟨i, hi, rfl⟩, h⟩
      have := List.mem_range.1 hi
      simp at h ⊢
      exact ⟨by omega, h⟩
    · rintro ⟨⟨h0, h1⟩, h⟩
      exact ⟨⟨j.toNat, List.mem_range.2 (by omega), by simp; omega⟩, by simpa using h⟩
  refine ⟨hl, fun j h0 h1 => by rw [hv j h0 h1]; simp, ⟨?_, fun x hx => ((hmem x).1 hx).1, fun t ht k hk e => ?_⟩, fun j h0 h1 => by rw [hmem]; simp [h0, h1]⟩
  · unfold ord0
    refine List.Pairwise.filter _ ?_
    refine List.Pairwise.map _ ?_ List.nodup_range
    intro a b hab e
    exact hab (Int.ofNat.inj e)
  · have h1 := (hmem _).1 (List.getElem_mem ht)
    have h2 := hv _ h1.1.1 h1.1.2
    rw [h1.2] at h2
    have h3 : cnt ws (ord0 op n)[t] [] = 0 := by omega
    rw [cnt_zero] at h3
    have := h3 k hk e
    simp at this
def T2 (w : World) (n : Nat) (op : List Int) (G k : Nat) (v8 v : Value) (wr : World) : Prop :=
  ∃ i : Nat, v = .int .i64 i ∧ i + k = n ∧ wr.ownsRow (G + 1) 3 1 v8 (ord0 op i).length ((ord0 op i).map (Value.int .i64)) ∧ wr.ownsRow w.heap.size 3 1 (.slice (some ⟨G, 0, none⟩) n n) n (op.map (Value.int .i64)) ∧ Below w.heap.size w wr ∧ G < wr.heap.size

def T3 (w : World) (n : Nat) (ws : List Wt) (G k : Nat) (v8 v : Value) (wr : World) : Prop :=
  ∃ (next : Nat) (op ord : List Int), v = .int .i64 next ∧ next + k = n ∧ KahnO n ws next op ord ∧ next ≤ ord.length ∧ wr.ownsRow (G + 1) 3 1 v8 ord.length (ord.map (Value.int .i64)) ∧ wr.ownsRow w.heap.size 3 1 (.slice (some ⟨G, 0, none⟩) n n) n (op.map (Value.int .i64)) ∧ Below w.heap.size w wr ∧ G < wr.heap.size

def T4 (w : World) (n : Nat) (ws : List Wt) (G : Nat) (ord P : List Int) (x : Int) (k : Nat) (v8 v : Value) (wr : World) : Prop :=
  ∃ (a : Nat) (op ord2 : List Int), v = .int .i64 a ∧ a + k = ws.length ∧ Kahn n ws P x a op ord2 ∧ ord = ord2.take ord.length ∧ wr.ownsRow (G + 1) 3 1 v8 ord2.length (ord2.map (Value.int .i64)) ∧ wr.ownsRow w.heap.size 3 1 (.slice (some ⟨G, 0, none⟩) n n) n (op.map (Value.int .i64)) ∧ Below w.heap.size w wr ∧ G < wr.heap.size

set_option maxHeartbeats 3200000 in
theorem topo_any (n : Nat) (A : Option Addr) (m c : Nat) (ws : List Wt) (w : World) (h : Rd w w.heap.size 4 A m (ws.flatMap Wt.cells)) (hm : m = ws.length) (hn : n ≤ 64) (hx : ws.length ≤ 200) (hw : ∀ k ∈ ws, WOk n k) :
    Calls Try.prog 35 #[.int .i64 n, .slice A m c] w (TopOut n ws w) := by
  subst hm
  have H := Lib.hid h
  have HW := Lib.hid hw
  obtain ⟨i0, hi0, hz0, hz1, hz2⟩ := info_parts infoInt
  have HI := Lib.hid (And.intro hi0 (And.intro hz0 (And.intro hz1 hz2)))
  clear hi0 hz0 hz1 hz2 h hw
  go_enter Try.func35, Try.ntmps35
  go_wp2_with (at_make; refine wpList_make_full _ rfl _ _ 22 rfl (w.heap.size) 3 i0 _ 1 Try.underlying22 HI.out.1 HI.out.2.1 HI.out.2.2.1 .i64 .i64 _ _ n rfl rfl rfl rfl ?m1 ?m2 ?m3 ?_; rotate_right; intro w2 hown2 hg2)
  case m1 => rw [HI.out.2.2.2]; omega
  case m2 => simp only [maxLen]; omega
  case m3 => omega
  have HO2 : Hid (w2.ownsRow w.heap.size 3 1 (.slice (some ⟨w.heap.size, 0, none⟩) n n) n ((List.replicate n (0 : Int)).map (Value.int .i64))) := by
    have := madeCells_one (Value.int .i64) 0 n
    rw [← this]
    exact hown2
  have Hb2 := Lib.hid (show Below w.heap.size w w2 from (Below.refl _ _).grown hg2 (Nat.le_refl _) (by simp))
  clear hown2 hg2
  obtain ⟨G, hG⟩ : ∃ G, G = w.heap.size := ⟨_, rfl⟩
  rw [← hG] at ⊢
  rw [show (Value.slice (some ⟨w.heap.size, 0, none⟩) n n) = Value.slice (some ⟨G, 0, none⟩) n n by rw [hG]] at HO2
  clear hG
  go_loopg [18] ws.length (fun k v wr => T1 w n ws G k v wr)
  case atStart => exact ⟨0, List.replicate n 0, rfl, by omega, by simp, fun j h0 h1 => by rw [gi_rep n j h0 h1]; simp [cnt], HO2.out, Hb2.out⟩
  case round =>
    obtain ⟨a, op, rfl, ha, hol, hval, hown, hbel⟩ := hrel
    have Ha := Lib.hid ha
    have Hol := Lib.hid hol
    have HV := Lib.hid hval
    have HO := Lib.hid hown
    have HB := Lib.hid hbel
    clear ha hol hval hown hbel HO2 Hb2
    by_cases hlt : a < ws.length
    · obtain ⟨b, off, rfl, hbb, d0, d1, d2, d3⟩ := rdWt (H.out.grow HB.out) rfl a hlt
      have hwk := HW.out ws[a] (List.getElem_mem hlt)
      have hcn : ∀ j : Int, cnt (ws.take (a + 1)) j [] = cnt (ws.take a) j [] + if ws[a].tt = j then 1 else 0 := fun j => by
        rw [(split_at ws a hlt).1, cnt_append]; simp [cnt, List.countP_cons]
      have Hcn := Lib.hid hcn
      clear hcn
      generalize ws[a] = k at *
      obtain ⟨kf, kt, km, kx⟩ := k
      simp only at d0 d1 d2 d3
      have t0 : 0 ≤ kt := hwk.t0
      have t1 : kt < n := hwk.t1
      clear hwk
      obtain ⟨r, rfl⟩ := Int.eq_ofNat_of_zero_le t0
      have hr : r < op.length := by rw [Hol.out]; omega
      have q0 := own1 HO.out r hr
      have qv : op[r] = ((cnt (ws.take a) r [] : Nat) : Int) := by rw [← HV.out r (by omega) (by omega), gi_nat op r hr]
      have hcl := cnt_le (ws.take a) r []
      have hcl2 : (ws.take a).length ≤ 200 := by simp; omega
      rw [qv] at q0
      generalize hcc : cnt (ws.take a) (r : Int) [] = cc at *
      have Hcc := Lib.hid hcc
      clear hcc qv
      have q1 := HO.out.frozenAt r
      have hGl : G < wr.heap.size := (own_block HO.out G rfl).2
      have hGo : w.heap.size ≤ G := (own_block HO.out G rfl).1
      have hrn : r < n := by omega
      go_wp2_with fail
      go_roundg (ws.length - a - 1)
      case measure => have := Ha.out; omega
      case rel =>
        refine ⟨a + 1, op.set r (cc + 1), by first | rfl | go_num, by omega, by simp [Hol.out], fun j h0 h1 => ?_, World.ownsRow.alloc (own1_set HO.out r _) _, (HB.out.setCell (p := ⟨G, r, none⟩) hGo _).alloc (by simp; exact HB.out.size) _⟩
        have := gi_set op r j (cc + 1) (by omega) (by rw [Hol.out]; omega) h0
        simp only [Int.toNat_natCast] at this
        rw [this, Hcn.out j]
        by_cases e : j = r
        · subst e; rw [if_pos rfl, if_pos rfl, Hcc.out]; omega
        · rw [if_neg e, if_neg (fun h => e h.symm), HV.out j h0 h1]; simp
    · have hval : ∀ j : Int, 0 ≤ j → j < (n : Int) → gi op j = ((cnt ws j [] : Nat) : Int) := fun j h0 h1 => by
        rw [HV.out j h0 h1, List.take_of_length_le (by omega)]
      have HV1 := Lib.hid hval
      have hGo : w.heap.size ≤ G := (own_block HO.out G rfl).1
      have hGl : G < wr.heap.size := (own_block HO.out G rfl).2
      clear hval HV Ha
      go_wp2_with fail
      go_loopg [8, 9, 10, 32] n (fun k v8 _ _ v wr => T2 w n op G k v8 v wr)
      case atStart => exact ⟨0, rfl, by omega, by simpa [ord0] using World.ownsRow_nil _ _ _ _, HO.out, HB.out, hGl⟩
      case round =>
        obtain ⟨i, rfl, hi, hord, hown, hbel, hGw⟩ := hrel
        have Hi := Lib.hid hi
        have HR := Lib.hid hord
        have HO3 := Lib.hid hown
        have HB3 := Lib.hid hbel
        clear hi hord hown hbel HO HB hGl
        by_cases hlt2 : i < n
        · have q0 := own1 HO3.out i (by rw [Hol.out]; exact hlt2)
          have qg : op[i]'(by rw [Hol.out]; exact hlt2) = gi op i := (gi_nat op i (by rw [Hol.out]; exact hlt2)).symm
          rw [qg] at q0
          have hol : (ord0 op i).length ≤ i := ord0_len op i
          have hs1 := ord0_succ op i
          have Hs1 := Lib.hid hs1
          clear qg hs1
          generalize hci : gi op i = ci at *
          have Hci := Lib.hid hci
          clear hci
          by_cases hc0 : ci = 0
          · have hc0' : (ci == 0) = true := by simpa using hc0
            have Hc0 := Lib.hid hc0
            clear hc0
            go_wp2_with (at_builtin; refine wpList_append_own_at _ rfl _ _ 22 rfl (G + 1) 3 i0 _ 1 8 Try.underlying22 HI.out.1 HI.out.2.1 HI.out.2.2.1 HI.out.2.2.2 rfl (by omega) _ (ord0 op i).length _ rfl (World.ownsRow.alloc HR.out _) ⟨wr.heap.size, 0, none⟩ 1 1 [.int .i64 (i : Int)] rfl rfl ?c0 ?c1 ?c2 ?c3 ?c4 ?_; rotate_right; intro v' w' hown' hg' _ hat')
            case c0 => exact news_new _ _ _
            case c1 => intro u hu; simp at hu; subst hu; rfl
            case c2 => simp only [maxLen]; omega
            case c3 => omega
            case c4 => simp; omega
            have hob := own_block HR.out
            have hnG : ∀ g, some g = Value.ownBlock _ → G + 1 ≤ g := fun g e => (hob g e.symm).1
            have Hg' := Lib.hid hg'
            have Hown' := Lib.hid hown'
            have HnG := Lib.hid hnG
            clear hg' hown' hat' hob hnG
            go_roundg (n - i - 1)
            case measure => have := Hi.out; omega
            case rel =>
              refine ⟨i + 1, by first | rfl | go_num, by omega, ?_, ?_, ?_, ?_⟩
              · have := Hown'.out
                rw [Hs1.out, Hc0.out, if_pos rfl]
                simpa using this
              · exact (World.ownsRow.alloc HO3.out _).kept Hg'.out (.inr (fun e => by have := HnG.out G e; omega))
              · exact (HB3.out.alloc HB3.out.size _).grown Hg'.out (by simp; have := HB3.out.size; omega) (fun g e => by have := HnG.out g e.symm; omega)
              · have := Hg'.out.size; simp at this; omega
          · have hc0' : (ci == 0) = false := by simpa using hc0
            have Hc0 := Lib.hid hc0
            clear hc0
            go_wp2_with fail
            go_roundg (n - i - 1)
            case measure => have := Hi.out; omega
            case rel =>
              refine ⟨i + 1, by first | rfl | go_num, by omega, ?_, HO3.out, HB3.out, hGw⟩
              rw [Hs1.out, if_neg Hc0.out]
              exact HR.out
        · obtain rfl : n = i := by have := Hi.out; omega
          have HK := Lib.hid (kahn_start n ws op Hol.out HV1.out)
          have hRl := ord0_len op n
          generalize ord0 op n = ord1 at *
          go_wp2_with fail
          go_loopg [8, 11, 13, 52] n (fun k v8 v _ _ wr => T3 w n ws G k v8 v wr)
          case atStart => exact ⟨0, op, ord1, rfl, by omega, HK.out, Nat.zero_le _, HR.out, HO3.out, HB3.out, hGw⟩
          case round =>
            obtain ⟨next, op, ord, rfl, hnx, hK, hle, hord, hown, hbel, hGw⟩ := hrel
            have Hnx := Lib.hid hnx
            have HK := Lib.hid hK
            have HR := Lib.hid hord
            have HO4 := Lib.hid hown
            have HB4 := Lib.hid hbel
            clear hnx hK hord hown hbel HO3 HB3
            obtain ⟨A8, c8, rfl, hc8, hm8⟩ := own_slice HR.out
            unfold maxLen at hm8
            by_cases hlt3 : next < ord.length
            · have hK0 := HK.out.enter hlt3
              have hxP : ord[next] ∉ ord.take next := by
                intro hm
                have hnd := HK.out.topo.nd
                rw [← List.take_append_drop next ord, List.drop_eq_getElem_cons hlt3] at hnd
                exact (List.nodup_append.1 hnd).2.2 _ hm _ List.mem_cons_self rfl
              have HK0 := Lib.hid hK0
              have HxP := Lib.hid hxP
              clear hK0 hxP
              obtain ⟨wo, rfl⟩ : ∃ wo : World, wo = wr := ⟨_, rfl⟩
              go_wp2_with fail
              go_loopg [8, 13, 52] ws.length (fun k v8 _ v wr => T4 w n ws G ord (ord.take next) ord[next] k v8 v wr)
              case atStart => exact ⟨0, op, ord, rfl, by omega, HK0.out, by simp, HR.out, HO4.out, HB4.out, hGw⟩
              case round =>
                obtain ⟨a2, op2, ord2, rfl, ha2, hK2, hpre, hord, hown, hbel, hGw2⟩ := hrel
                have Ha2 := Lib.hid ha2
                have HK2 := Lib.hid hK2
                have Hpre := Lib.hid hpre
                have HR2 := Lib.hid hord
                have HO5 := Lib.hid hown
                have HB5 := Lib.hid hbel
                have hol2 := nodup_le n ord2 HK2.out.topo.nd HK2.out.topo.lt
                have hpl : ord.length ≤ ord2.length := by have := congrArg List.length hpre; simp at this; omega
                clear ha2 hK2 hpre hord hown hbel HO4 HB4 HR
                by_cases hlt4 : a2 < ws.length
                · obtain ⟨b, off, rfl, hbb, d0, d1, d2, d3⟩ := rdWt (H.out.grow HB5.out) rfl a2 hlt4
                  obtain ⟨g8, cc8, rfl, hg8, hg8l⟩ := HR2.out.form (by omega)
                  have hx2 : ord2[next]'(by omega) = ord[next] := by
                    have h1 := List.getElem_of_eq Hpre.out hlt3
                    rw [h1]; simp
                  have q8 := own1 HR2.out next (by omega)
                  rw [hx2] at q8
                  have hsk := fun h => HK2.out.skip hlt4 h
                  have hdc := fun h => HK2.out.dec hlt4 h HxP.out HW.out
                  have hwk := HW.out ws[a2] (List.getElem_mem hlt4)
                  have Hsk := Lib.hid hsk
                  have Hdc := Lib.hid hdc
                  clear hsk hdc hx2
                  generalize ws[a2] = k at *
                  obtain ⟨kf, kt, km, kx⟩ := k
                  simp only at d0 d1 d2 d3 Hsk Hdc
                  have t0 : 0 ≤ kt := hwk.t0
                  have t1 : kt < n := hwk.t1
                  clear hwk
                  generalize hxx : ord[next] = x at *
                  have Hxx := Lib.hid hxx
                  clear hxx
                  obtain ⟨r, rfl⟩ := Int.eq_ofNat_of_zero_le t0
                  have hrn : r < n := by omega
                  have hr : r < op2.length := by rw [HK2.out.len]; omega
                  have q0 := own1 HO5.out r hr
                  have qg : op2[r] = gi op2 r := (gi_nat op2 r hr).symm
                  rw [qg] at q0
                  clear qg
                  have hgb : gi op2 r ≤ 400 ∧ 0 ≤ gi op2 r := by
                    rw [HK2.out.val r (by omega) (by omega)]
                    have h1 := cnt_le (ws.take a2) r (x :: ord.take next)
                    have h2 := cnt_le (ws.drop a2) r (ord.take next)
                    simp at h1 h2
                    omega
                  have q1 := HO5.out.frozenAt r
                  have hGo : w.heap.size ≤ G := (own_block HO5.out G rfl).1
                  have hm2 : next < ord2.length := by omega
                  by_cases hkx : kf = x
                  · have hkx' : (kf != x) = false := by simpa using hkx
                    have hd := Hdc.out hkx
                    obtain ⟨hd1, hd2, hd3⟩ := hd
                    have Hd2 := Lib.hid hd2
                    have Hd3 := Lib.hid hd3
                    clear hkx hd2 hd3 Hsk Hdc
                    go_upto_region 20 with fail
                    go_quiet (fail)
                    have hb1 : Below wr.heap.size wr ((wr.alloc (.cells #[.int .i64 kf, .int .i64 (r : Int), .int .i64 km, .int .i64 kx] 35)).drewN nq) := below_drewN ((Below.refl _ _).alloc (Nat.le_refl _) _) _
                    have hbx : Blk ((wr.alloc (.cells #[.int .i64 kf, .int .i64 (r : Int), .int .i64 km, .int .i64 kx] 35)).drewN nq) wr.heap.size 35 #[.int .i64 kf, .int .i64 (r : Int), .int .i64 km, .int .i64 kx] := Blk.new wr _ _
                    have HR3 := Lib.hid (own_grow HR2.out hb1)
                    have HO6 := Lib.hid (own_grow HO5.out hb1)
                    have HB6 := Lib.hid (HB5.out.trans (hb1.mono HB5.out.size))
                    have hlx : wr.heap.size < ((wr.alloc (.cells #[.int .i64 kf, .int .i64 (r : Int), .int .i64 km, .int .i64 kx] 35)).drewN nq).heap.size := hbx.lt
                    have HBX := Lib.hid hbx
                    clear hb1 hbx d0 d1 d2 d3 q0 q1 q8 HR2 HO5 HB5
                    generalize (wr.alloc (.cells #[.int .i64 kf, .int .i64 (r : Int), .int .i64 km, .int .i64 kx] 35)).drewN nq = w1 at *
                    generalize wr.heap.size = bx at *
                    have d0 := HBX.out.cell 0
                    have d1 := HBX.out.cell 1
                    simp at d0 d1
                    have q0 := own1 HO6.out r hr
                    have qg : op2[r] = gi op2 r := (gi_nat op2 r hr).symm
                    rw [qg] at q0
                    clear qg
                    have q1 := HO6.out.frozenAt r
                    have hGbx : G ≠ bx := by omega
                    generalize gi op2 r = gv at *
                    have hgv0 : 0 ≤ gv - 1 := by omega
                    by_cases hz : gv - 1 = 0
                    · have hz' : (gv - 1 == 0) = true := by simpa using hz
                      have HK3 := Lib.hid (Hd3.out hz)
                      clear hz Hd2 Hd3
                      go_upto_region 23 with fail
                      have HR4 := Lib.hid (own_far (p := ⟨G, r, none⟩) (u := .int .i64 (gv - 1)) HR3.out (by simp [Value.ownBlock]; omega))
                      have HO7 := Lib.hid (own1_set HO6.out r (gv - 1))
                      have HB7 := Lib.hid (HB6.out.setCell (p := ⟨G, r, none⟩) hGo (.int .i64 (gv - 1)))
                      have HBX7 := Lib.hid (HBX.out.same (Below.heap_setCell w1 ⟨G, r, none⟩ (.int .i64 (gv - 1)) bx (by simp; omega)))
                      clear HR3 HO6 HB6 HBX d0 d1 q0 q1 hlx
                      generalize w1.setCell ⟨G, r, none⟩ (.int .i64 (gv - 1)) = w4 at *
                      have d1 := HBX7.out.cell 1
                      simp at d1
                      have hGw4 : G < w4.heap.size := (own_block HO7.out G rfl).2
                      go_wp2_with (at_builtin; refine wpList_append_own_at _ rfl _ _ 22 rfl (G + 1) 3 i0 _ 1 8 Try.underlying22 HI.out.1 HI.out.2.1 HI.out.2.2.1 HI.out.2.2.2 rfl (by omega) _ ord2.length _ rfl (World.ownsRow.alloc HR4.out _) ⟨w4.heap.size, 0, none⟩ 1 1 [.int .i64 (r : Int)] rfl rfl ?c0 ?c1 ?c2 ?c3 ?c4 ?_; rotate_right; intro v' w' hown' hg' _ hat')
                      case c0 => exact news_new _ _ _
                      case c1 => intro u hu; simp at hu; subst hu; rfl
                      case c2 => simp only [maxLen]; omega
                      case c3 => omega
                      case c4 => simp; omega
                      have HOB := Lib.hid (own_block HR4.out)
                      have Hg' := Lib.hid hg'
                      have Hown' := Lib.hid hown'
                      clear hg' hown' hat'
                      go_roundg (ws.length - a2 - 1)
                      case measure => have := Ha2.out; omega
                      case rel =>
                        refine ⟨a2 + 1, _, ord2 ++ [(r : Int)], by first | rfl | go_num, by have := Ha2.out; omega, HK3.out, ?_, ?_, ?_, ?_, ?_⟩
                        · rw [List.take_append_of_le_length hpl]; exact Hpre.out
                        · have := Hown'.out; simpa using this
                        · exact (World.ownsRow.alloc HO7.out _).kept Hg'.out (.inr (fun e => by have := (HOB.out G e.symm).1; omega))
                        · exact (HB7.out.alloc HB7.out.size _).grown Hg'.out (by simp; have := HB7.out.size; omega) (fun g e => by have := (HOB.out g e).1; omega)
                        · have := Hg'.out.size; simp at this; omega
                    · have hz' : (gv - 1 == 0) = false := by simpa using hz
                      have HK3 := Lib.hid (Hd2.out hz)
                      clear hz Hd2 Hd3
                      go_wp2_with fail
                      go_roundg (ws.length - a2 - 1)
                      case measure => have := Ha2.out; omega
                      case rel =>
                        exact ⟨a2 + 1, _, ord2, by first | rfl | go_num, by have := Ha2.out; omega, HK3.out, Hpre.out, own_far HR3.out (by simp [Value.ownBlock]; omega), own1_set HO6.out r _, HB6.out.setCell (p := ⟨G, r, none⟩) hGo _, by simp [World.setCell]; omega⟩
                  · have hkx' : (kf != x) = true := by simpa using hkx
                    have HK3 := Lib.hid (Hsk.out hkx)
                    clear hkx Hsk Hdc
                    go_upto_region 20 with fail
                    go_quiet (fail)
                    go_wp2_with fail
                    have hb1 : Below wr.heap.size wr ((wr.alloc (.cells #[.int .i64 kf, .int .i64 (r : Int), .int .i64 km, .int .i64 kx] 35)).drewN nq) := below_drewN ((Below.refl _ _).alloc (Nat.le_refl _) _) _
                    go_roundg (ws.length - a2 - 1)
                    case measure => have := Ha2.out; omega
                    case rel =>
                      exact ⟨a2 + 1, op2, ord2, by first | rfl | go_num, by have := Ha2.out; omega, HK3.out, Hpre.out, own_grow HR2.out hb1, own_grow HO5.out hb1, HB5.out.trans (hb1.mono HB5.out.size), by have := hb1.size; omega⟩
                · go_wp2_with fail
                  go_roundg (n - next - 1)
                  case measure => have := Hnx.out; omega
                  case rel =>
                    have hfull : a2 = ws.length := by have := Ha2.out; omega
                    have hK3 := HK2.out
                    rw [hfull] at hK3
                    exact ⟨next + 1, op2, ord2, by first | rfl | go_num, by have := Hnx.out; omega, hK3.leave hlt3 Hpre.out rfl rfl, by omega, HR2.out, HO5.out, HB5.out, hGw2⟩
            · go_wp2_with fail
              go_ret
              exact ⟨_, ord, rfl, HK.out.topo, fun ha => HK.out.done (by omega) HW.out ha, own_base HR.out (by omega), HB4.out⟩
end Go.Proofs.Ytddkfdfgfkejoaa
