import Derived.Test.YtbmbdenjlbelaaaBd2
import Derived.Test.YtbmbdenjlbelaaaFd7
import Derived.Deep.RegionHeld3
namespace Go.Proofs.Ytbmbdenjlbelaaa
open Go.RowKit

theorem infoPrt : (Try.prog.info? 47).map (fun i => (i.zero, i.size, i.bytes)) = some (some (.agg #[.slice none 0 0, .slice none 0 0, .int .i64 0]), 3, 56) := by kernel_rfl
theorem Rd.mid {w w' : World} {lo hi sz n : Nat} {A : Option Addr} {xs : List Value} (h : Rd w hi sz A n xs) (hl : LoA lo A) (hk : ∀ k, lo ≤ k → k < hi → w'.heap[k]? = w.heap[k]?) : Rd w' hi sz A n xs :=
  ⟨h.1, fun hn => by
    obtain ⟨b, off, e, hb, hc⟩ := h.2 hn
    have := hl _ e
    exact ⟨b, off, e, hb, fun j u hu => (World.cell?_of_block (hk b this hb)).trans (hc j u hu)⟩⟩
/-- a cycle that lies between two blocks -/
structure CyB (w : World) (lo hi : Nat) (c : Cyc) : Prop where
  r : Rd w hi 1 c.Ar c.arcs.length (c.arcs.map (Value.int .i64))
  s : Rd w hi 1 c.As c.signs.length (c.signs.map (Value.int .i64))
  lr : LoA lo c.Ar
  ls : LoA lo c.As
  hr : c.arcs.length ≤ 4611686018427387904
  hs : c.signs.length ≤ 4611686018427387904
theorem CyB.mid {w w' : World} {lo hi : Nat} {c : Cyc} (h : CyB w lo hi c) (hk : ∀ k, lo ≤ k → k < hi → w'.heap[k]? = w.heap[k]?) : CyB w' lo hi c := ⟨h.r.mid h.lr hk, h.s.mid h.ls hk, h.lr, h.ls, h.hr, h.hs⟩
theorem CyB.rd {w : World} {lo hi : Nat} {c : Cyc} (h : CyB w lo hi c) (hh : hi ≤ w.heap.size) : CyRd w c := ⟨h.r.more hh, h.s.more hh, h.hr, h.hs⟩
/-- the memory of law15.some -/
structure SoS (w wr : World) (X b lo hi : Nat) (xs : Array Value) (Ac : Option Addr) (l : List Cyc) (lst : List Int) (v : Value) (ps : List Prt) : Prop where
  f : FeN w wr X xs
  src : Src wr b lst
  cr : Rd wr hi 2 Ac l.length (l.flatMap Cyc.cells)
  ca : LoA lo Ac
  cc : ∀ c ∈ l, CyB wr lo hi c
  o : wr.ownsRow hi 47 3 v ps.length (ps.flatMap Prt.cells)
  hX : w.heap.size ≤ X
  hXb : X < b
  hb : b < lo
  hl : lo ≤ hi
  hh : hi ≤ wr.heap.size
section
variable {w wr w' : World} {X b lo hi : Nat} {xs : Array Value} {Ac : Option Addr} {l : List Cyc} {lst lst' : List Int} {v v' : Value} {ps : List Prt}
theorem SoS.turn (h : SoS w wr X b lo hi xs Ac l lst v ps) (hs : Src w' b lst') (ht : Turn b wr w') : SoS w w' X b lo hi xs Ac l lst' v ps := by
  have h1 := h.hX
  have h2 := h.hXb
  have h3 := h.hb
  have h4 := h.hl
  have hk : ∀ k, lo ≤ k → k < hi → w'.heap[k]? = wr.heap[k]? := fun k hk _ => ht.block k (by omega)
  exact ⟨⟨ht.below h.f.bel (by omega), h.f.x.same (ht.block X (by omega))⟩, hs, h.cr.mid h.ca hk, h.ca, fun c hc => (h.cc c hc).mid hk, own_turn h.o ht (by omega), h1, h2, h3, h4, by rw [ht.size]; exact h.hh⟩
theorem SoS.grow (h : SoS w wr X b lo hi xs Ac l lst v ps) (hb : Below wr.heap.size wr w') : SoS w w' X b lo hi xs Ac l lst v ps := by
  have h5 := h.hh
  have h4 := h.hl
  have h3 := h.hb
  have hk : ∀ k, lo ≤ k → k < hi → w'.heap[k]? = wr.heap[k]? := fun k _ hk => hb.block k (by omega)
  exact ⟨h.f.grow hb, h.src.keep (fun k hk => hb.block k (by omega)), h.cr.mid h.ca hk, h.ca, fun c hc => (h.cc c hc).mid hk, own_grow h.o hb, h.hX, h.hXb, h.hb, h.hl, by have := hb.size; omega⟩
theorem SoS.drew (h : SoS w wr X b lo hi xs Ac l lst v ps) : SoS w wr.drew X b lo hi xs Ac l lst v ps := h.grow (Below.refl _ _).drew
theorem SoS.app (h : SoS w wr X b lo hi xs Ac l lst v ps) {o : Obj} {p : Prt} (ho : w'.ownsRow hi 47 3 v' (ps.length + 1) (ps.flatMap Prt.cells ++ p.cells)) (hg : (wr.alloc o).grownBy w' v.ownBlock) : SoS w w' X b lo hi xs Ac l lst v' (ps ++ [p]) := by
  have h1 := h.hX
  have h2 := h.hXb
  have h3 := h.hb
  have h4 := h.hl
  have h5 := h.hh
  have hlow : ∀ k, k < hi → w'.heap[k]? = wr.heap[k]? := fun k hk => by
    rw [hg.block k (by simp; omega) (fun e => by have := (own_block h.o k e.symm).1; omega), Below.heap_alloc _ _ _ (by omega)]
  refine ⟨⟨below_app (h.f.bel.alloc h.f.bel.size _) (World.ownsRow.alloc h.o _) (by omega) (by simp; have := h.f.bel.size; omega) hg, h.f.x.same (hlow X (by omega))⟩, h.src.keep (fun k hk => hlow k (by omega)), h.cr.keep (fun k hk => hlow k hk), h.ca, fun c hc => (h.cc c hc).mid (fun k _ hk => hlow k hk), ?_, h1, h2, h3, h4, by have := hg.size; simp at this; omega⟩
  rw [List.length_append, List.flatMap_append]
  simpa using ho
end
def SoOk (T : Int) (ne : Nat) (acts : List Act) (p : Prt) : Prop := CycOk T ne acts p.c.arcs p.c.signs ∧ p.c.arcs.length ≤ p.c.cr ∧ 1 ≤ p.tm ∧ p.tm ≤ 3
def SomeOut (T : Int) (ne : Nat) (acts : List Act) (w : World) (e : Ending) (w' : World) : Prop :=
  ∃ (A : Option Addr) (c : Nat) (ps : List Prt), e = .returned (.slice A ps.length c) ∧ PrsRd w' A ps ∧ (∀ p ∈ ps, SoOk T ne acts p) ∧ ps.length ≤ 3 ∧ ps.length ≤ c ∧ (A = none → ps.length = 0 ∧ c = 0) ∧ Below w.heap.size w w'
/-- the same, with the list's own memory -/
def SomeOwn (T : Int) (ne : Nat) (acts : List Act) (w : World) (e : Ending) (w' : World) : Prop :=
  ∃ (A : Option Addr) (c : Nat) (ps : List Prt), e = .returned (.slice A ps.length c) ∧ PrsRd w' A ps ∧ (∀ p ∈ ps, SoOk T ne acts p) ∧ ps.length ≤ 3 ∧ ps.length ≤ c ∧ (A = none → ps.length = 0 ∧ c = 0) ∧ Below w.heap.size w w' ∧ ∃ lo hi, w.heap.size ≤ hi ∧ w'.ownsRow hi 47 3 (.slice A ps.length c) ps.length (ps.flatMap Prt.cells) ∧ ∀ p ∈ ps, CyB w' lo hi p.c
def SoL (w : World) (X b lo hi : Nat) (xs : Array Value) (T : Int) (ne : Nat) (acts : List Act) (Ac : Option Addr) (l : List Cyc) (k : Nat) (v7 v : Value) (wr : World) : Prop :=
  ∃ (j : Nat) (lst : List Int) (ps : List Prt), v = .int .i64 j ∧ j = k ∧ ps.length + j ≤ 3 ∧ (∀ p ∈ ps, SoOk T ne acts p ∧ p.c ∈ l) ∧ SoS w wr X b lo hi xs Ac l lst v7 ps

set_option maxRecDepth 100000 in
set_option maxHeartbeats 3200000 in
theorem some_own (T : Int) (AE AA A1 : Option Addr) (ne ce ca n1 c1 : Nat) (acts : List Act) (z1 : List Int) (w : World) (hA : Rd w w.heap.size 6 AA acts.length (acts.flatMap Act.cells)) (hN : NetOk T ne acts) (h1 : Rd w w.heap.size 1 A1 n1 (z1.map (Value.int .i64))) (hm1 : n1 ≤ maxLen) :
    Calls Try.prog 16 #[.agg #[.int .i64 T, .slice AE ne ce, .slice AA acts.length ca], .slice A1 n1 c1] w (SomeOwn T ne acts w) := by
  have HA := Lib.hid hA
  have HN := Lib.hid hN
  have H1 := Lib.hid h1
  have Hm1 := Lib.hid hm1
  have hna := hN.n
  clear hA hN h1 hm1
  obtain ⟨i0, a1, a2, a3, a4⟩ := info_parts infoPrt
  have HI := Lib.hid (And.intro a1 (And.intro a2 (And.intro a3 a4)))
  clear a1 a2 a3 a4
  go_enter Try.func16, Try.ntmps16
  go_upto_region 1 with fail
  refine world_gen (fun w1 => FeN w w1 w.heap.size #[.int .i64 T, .slice AE ne ce, .slice AA acts.length ca] ∧ w1.heap.size = w.heap.size + 1) ⟨⟨(Below.refl _ _).alloc (Nat.le_refl _) _, Blk.new _ _ _⟩, by simp⟩ ?_
  rintro w0 ⟨hf0, hz0⟩
  obtain ⟨X, hX⟩ : ∃ X, X = w.heap.size := ⟨_, rfl⟩
  rw [← hX] at ⊢
  rw [show FeN w w0 w.heap.size = FeN w w0 X by rw [hX]] at hf0
  have hXw : w.heap.size ≤ X := by omega
  have hXb : X < w0.heap.size := by omega
  clear hX hz0
  have HF := Lib.hid hf0
  clear hf0
  go_wp2_with fail
  refine (from_any A1 n1 c1 z1 w0 ((H1.out.grow HF.out.bel).more HF.out.bel.size) Hm1.out).mono ?_
  rintro e w1 ⟨rfl, hs1, hb1, hz1⟩
  have HF1 := Lib.hid (HF.out.grow hb1)
  have Hs1 := Lib.hid hs1
  generalize w0.heap.size = b at *
  clear hs1 hb1 HF H1 Hm1
  have HF := HF1
  clear HF1
  have x0 := HF.out.x.cell 0
  have x1 := HF.out.x.cell 1
  have x2 := HF.out.x.cell 2
  simp at x0 x1 x2
  go_wp2_with fail
  refine (lfund_any3 T AE AA ne ce ca acts w1 ((HA.out.grow HF.out.bel).more HF.out.bel.size) HN.out).mono ?_
  rintro e w3 ⟨hb3, Ac, cc, l, rfl, hm, hc, hr, hcp, hlA, hlc⟩
  have hll : l.length ≤ 512 := by
    have h := congrArg List.length hm
    rw [List.length_map] at h
    unfold fundF at h
    split at h
    · have := fundL_len ne acts (treeF T ne acts) acts.length; omega
    · rw [List.length_nil] at h; omega
  have HS := Lib.hid (show SoS w w3 X b w1.heap.size w3.heap.size #[.int .i64 T, .slice AE ne ce, .slice AA acts.length ca] Ac l z1 (.slice none 0 0) [] from
    ⟨HF.out.grow hb3, Hs1.out.keep (fun k hk => hb3.block k (by omega)), hr.r, hlA, fun c hc => ⟨(hr.c c hc).r, (hr.c c hc).s, (hlc c hc).1, (hlc c hc).2, (hr.c c hc).hr, (hr.c c hc).hs⟩, World.ownsRow_nil _ _ _ _, hXw, hXb, by omega, hb3.size, Nat.le_refl _⟩)
  have HOk := Lib.hid (show ∀ c ∈ l, CycOk T ne acts c.arcs c.signs ∧ c.arcs.length ≤ c.cr from fun c h => ⟨hc c h, hcp c h⟩)
  clear hm hc hr hcp hlA hlc hb3 x0 x1 x2 HF Hs1 hz1
  generalize w1.heap.size = lo at *
  go_wp2_with fail
  refine (next_any b z1 4 w3 HS.out.src (by omega) (by omega)).mono ?_
  rintro e w4 ⟨rfl, hs4, ht4⟩
  have HS4 := Lib.hid (HS.out.turn hs4 ht4)
  have hk := nextV_bd z1 4 (by omega) (by omega)
  generalize nextV z1 4 = q4 at *
  obtain ⟨hq0, hq1⟩ := hk
  obtain ⟨k0, rfl⟩ := Int.eq_ofNat_of_zero_le hq0
  generalize w3.heap.size = hi at *
  clear hs4 ht4 HS
  go_wp2_with fail
  go_loopg [7, 8] k0 (fun k v7 v wr => SoL w X b lo hi #[.int .i64 T, .slice AE ne ce, .slice AA acts.length ca] T ne acts Ac l k v7 v wr)
  case atStart => exact ⟨k0, _, [], rfl, rfl, by simp; omega, by simp, HS4.out⟩
  case round =>
    obtain ⟨j, lst, ps, rfl, rfl, hpj, hok, hso⟩ := hrel
    clear HS4
    have HS := Lib.hid hso
    have Hok := Lib.hid hok
    clear hso hok
    obtain ⟨A7, c7, rfl, hc7, hm7⟩ := own_slice HS.out.o
    cases j with
    | zero =>
      go_wp2_with fail
      go_ret
      exact ⟨A7, c7, ps, rfl, ⟨Rd.of_own HS.out.o, fun p hp => (HS.out.cc p.c (Hok.out p hp).2).rd HS.out.hh, by omega⟩, fun p hp => (Hok.out p hp).1, by omega, hc7, (fun e => by have ho := HS.out.o; rw [e] at ho; exact own_nil ho), HS.out.f.bel, lo, hi, (by have := HS.out.hX; have := HS.out.hXb; have := HS.out.hb; have := HS.out.hl; omega), HS.out.o, fun p hp => HS.out.cc p.c (Hok.out p hp).2⟩
    | succ j =>
      by_cases hl0 : l.length = 0
      · have hl1 : decide ((0 : Int) < (l.length : Int)) = false := by rw [decide_eq_false_iff_not]; omega
        have hl2 : decide (0 < l.length) = false := by rw [decide_eq_false_iff_not]; omega
        have hl3 : l = [] := List.eq_nil_of_length_eq_zero hl0
        subst hl3
        go_wp2_with fail
        go_ret
        exact ⟨A7, c7, ps, rfl, ⟨Rd.of_own HS.out.o, fun p hp => (HS.out.cc p.c (Hok.out p hp).2).rd HS.out.hh, by omega⟩, fun p hp => (Hok.out p hp).1, by omega, hc7, (fun e => by have ho := HS.out.o; rw [e] at ho; exact own_nil ho), HS.out.f.bel, lo, hi, (by have := HS.out.hX; have := HS.out.hXb; have := HS.out.hb; have := HS.out.hl; omega), HS.out.o, fun p hp => HS.out.cc p.c (Hok.out p hp).2⟩
      · have hkq := nextV_bd lst l.length (by omega) (by omega)
        obtain ⟨q, hq⟩ := Int.eq_ofNat_of_zero_le hkq.1
        have hql : q < l.length := by omega
        have hk3 := nextV_bd lst.tail 3 (by omega) (by omega)
        obtain ⟨bc, oc, rfl, hbc, d0, d1⟩ := rdCyc HS.out.cr rfl q hql
        have hbl : lo ≤ bc := HS.out.ca _ rfl
        have hbb : b < lo := HS.out.hb
        have HCq := Lib.hid (List.getElem_mem hql)
        have HOq := Lib.hid (HOk.out l[q] (List.getElem_mem hql))
        generalize l[q] = cq at *
        have hcq : Hid (cq = ⟨cq.Ar, cq.cr, cq.As, cq.cs, cq.arcs, cq.signs⟩) := rfl
        obtain ⟨Ar, cr, As, cs, arcs, signs⟩ := cq
        simp only at d0 d1
        clear hcq
        have hne : bc ≠ b := by omega
        have hbh : bc < hi := hbc
        have HO7 : Hid (∀ g, (Value.slice A7 ps.length c7).ownBlock = some g → hi ≤ g) := fun g e => (own_block HS.out.o g e).1
        have hpl : ps.length ≤ 3 := by omega
        have hhs : hi ≤ wr.heap.size := HS.out.hh
        have e3 : IntKind.i64.wrap (1 + nextV lst.tail 3) = 1 + nextV lst.tail 3 := IntWalk.i64_in _ (by omega)
        have hsd := HS.out.drew
        have hsr := hsd.src
        clear hkq
        go_upto_region 7 with fail
        go_region_held3 (fun w' => w'.cell? ⟨bc, oc + q * 2, none⟩ = some (.slice Ar arcs.length cr) ∧ w'.cell? ⟨bc, oc + q * 2 + 1, none⟩ = some (.slice As signs.length cs))
          (first | go_keep | (go_split_ands; exact ⟨ht.cell (by assumption) hne, ht.cell (by assumption) hne⟩) | (go_split_ands; exact ⟨cell_app hgrow (by assumption) (fun e => by have := HO7.out _ e; omega), cell_app hgrow (by assumption) (fun e => by have := HO7.out _ e; omega)⟩))
          (first | (go_at_call 33; refine (next_any b _ _ _ (by assumption) (by omega) (by omega)).mono ?_; rintro e w5 ⟨rfl, hs, ht⟩; have hnw := SoS.turn (by assumption) hs ht) | (refine step_append_lies _ (by rfl) _ _ _ (by rfl) hi 47 i0 _ 3 56 Try.underlying32 HI.out.1 HI.out.2.1 HI.out.2.2.1 HI.out.2.2.2 rfl (by omega) _ ps.length _ (by rfl) (World.ownsRow.alloc hnw.o _) ⟨w5.heap.size, 0, none⟩ 1 1 [.slice Ar arcs.length cr, .slice As signs.length cs, .int .i64 (1 + nextV lst.tail 3)] (by rfl) (by rfl) (World.news_of_block (cs := #[.slice Ar arcs.length cr, .slice As signs.length cs, .int .i64 (1 + nextV lst.tail 3)]) (t := 47) (fr := (0, 0)) (heap_alloc_new _ _)) (by simp [Value.oneCell']) (by omega) (by simp only [maxLen]; omega) (by omega) (by simp; have := hnw.hh; omega) (w5.heap.size + 1) (by simp) ?_; intro gg gcap w9 hown9 hgrow hat9 hgl9))
        have HS9 := Lib.hid (hnw.app (p := ⟨⟨Ar, cr, As, cs, arcs, signs⟩, 1 + nextV lst.tail 3⟩) hown9 hgrow)
        have H3 := Lib.hid hk3
        clear hnw hown9 hgrow hat9 hgl9 hs ht e3 hsd hsr d0 d1 hk3 HS hq
        go_wp2_with fail
        go_roundg j
        case measure => omega
        case rel =>
          refine ⟨j, _, _, by first | rfl | go_num, rfl, by simp; omega, fun p hp => ?_, HS9.out⟩
          rcases List.mem_append.1 hp with hp | hp
          · exact Hok.out p hp
          · simp at hp
            subst hp
            have := H3.out
            exact ⟨⟨HOq.out.1, HOq.out.2, by simp only; omega, by simp only; omega⟩, HCq.out⟩
theorem some_any (T : Int) (AE AA A1 : Option Addr) (ne ce ca n1 c1 : Nat) (acts : List Act) (z1 : List Int) (w : World) (hA : Rd w w.heap.size 6 AA acts.length (acts.flatMap Act.cells)) (hN : NetOk T ne acts) (h1 : Rd w w.heap.size 1 A1 n1 (z1.map (Value.int .i64))) (hm1 : n1 ≤ maxLen) :
    Calls Try.prog 16 #[.agg #[.int .i64 T, .slice AE ne ce, .slice AA acts.length ca], .slice A1 n1 c1] w (SomeOut T ne acts w) :=
  (some_own T AE AA A1 ne ce ca n1 c1 acts z1 w hA hN h1 hm1).mono fun _ _ ⟨A, c, ps, h1, h2, h3, h4, h5, h6, h7, _⟩ => ⟨A, c, ps, h1, h2, h3, h4, h5, h6, h7⟩
end Go.Proofs.Ytbmbdenjlbelaaa
