import Derived.Test.YtpapembikcnhpaaDet6
import Derived.Test.YtpapembikcnhpaaData
namespace Go.Proofs.Ytpapembikcnhpaa
open Go.RowKit

/-- a pulse: resource, in, A, B -/
structure Pul where
  r : Int
  i : Bool
  a : Int
  b : Int
def Pul.cells (p : Pul) : List Value := [.int .i64 p.r, .bool p.i, .int .i64 p.a, .int .i64 p.b]
theorem Pul.len (p : Pul) : p.cells.length = 4 := rfl
def Pul.ok (p : Pul) : Prop := 0 ≤ p.r ∧ p.r < 3 ∧ 1 ≤ p.a ∧ p.a ≤ 3 ∧ 0 ≤ p.b ∧ p.b ≤ 3

theorem infoPul : (Try.prog.info? 31).map (fun i => (i.zero, i.size, i.bytes)) = some (some (.agg #[.int .i64 0, .bool false, .int .i64 0, .int .i64 0]), 4, 32) := by kernel_rfl

def PulRel (w : World) (k : Nat) (v4 v5 : Value) (wr : World) : Prop :=
  ∃ (l : List Int) (ps : List Pul), v5 = .int .i64 k ∧ k ≤ 11 ∧ ps.length + k ≤ 11 ∧ (∀ p ∈ ps, p.ok) ∧ Src wr w.heap.size l ∧ Below w.heap.size w wr ∧ w.heap.size < wr.heap.size ∧ wr.ownsRow (w.heap.size + 1) 31 4 v4 ps.length (ps.flatMap Pul.cells)
def PulOut (w : World) (e : Ending) (w' : World) : Prop :=
  ∃ (v : Value) (ps : List Pul), e = .returned v ∧ ps.length ≤ 11 ∧ (∀ p ∈ ps, p.ok) ∧ Below w.heap.size w w' ∧ w'.ownsRow w.heap.size 31 4 v ps.length (ps.flatMap Pul.cells)

/-- the state in a round: the source's list, the rest untold -/
structure PS (w : World) (v4 : Value) (ps : List Pul) (l : List Int) (wr : World) : Prop where
  src : Src wr w.heap.size l
  bel : Below w.heap.size w wr
  lt : w.heap.size < wr.heap.size
  own : wr.ownsRow (w.heap.size + 1) 31 4 v4 ps.length (ps.flatMap Pul.cells)
theorem PS.turn {w : World} {v4 : Value} {ps : List Pul} {l l' : List Int} {wr w1 : World} (h : PS w v4 ps l wr) (hs : Src w1 w.heap.size l') (ht : Turn w.heap.size wr w1) : PS w v4 ps l' w1 :=
  ⟨hs, ht.below h.bel (Nat.le_refl _), by rw [ht.size]; exact h.lt, own_turn h.own ht (by omega)⟩
theorem PS.alloc {w : World} {v4 : Value} {ps : List Pul} {l : List Int} {wr : World} (h : PS w v4 ps l wr) (o : Obj) : PS w v4 ps l (wr.alloc o) :=
  have hb : Below wr.heap.size wr (wr.alloc o) := (Below.refl _ _).alloc (Nat.le_refl _) _
  ⟨h.src.below hb h.lt, h.bel.trans (hb.mono h.bel.size), by have := h.lt; simp; omega, own_grow h.own hb⟩

theorem PS.far {w : World} {v4 : Value} {ps : List Pul} {l : List Int} {wr : World} (h : PS w v4 ps l wr) {P o : Nat} {u : Value} {cs : Array Value} (_hb : Blk wr P 31 cs) (hP : w.heap.size < P) (hne : v4.ownBlock ≠ some P) : PS w v4 ps l (wr.setCell ⟨P, o, none⟩ u) := by
  refine ⟨h.src.keep (fun k hk => Below.heap_setCell _ _ _ _ (by simp; omega)), h.bel.setCell (by simp; omega) _, by simpa [World.setCell] using h.lt, ?_⟩
  refine h.own.kept (row := some P) ?_ (.inr hne)
  exact ⟨rfl, rfl, rfl, by simp [World.setCell], fun k _ hk => Below.heap_setCell _ _ _ _ (by intro e; exact hk (by rw [e]))⟩

set_option maxHeartbeats 1600000 in
theorem pulses_any (A : Option Addr) (n c : Nat) (z : List Int) (w : World) (h : Rd w w.heap.size 1 A n (z.map (Value.int .i64))) (hn : n ≤ maxLen) :
    Calls Try.prog 22 #[.slice A n c] w (PulOut w) := by
  have H := Lib.hid h
  have HN := Lib.hid hn
  clear h hn
  obtain ⟨i0, hi0, hz0, hz1, hz2⟩ := info_parts infoPul
  have HI := Lib.hid (And.intro hi0 (And.intro hz0 (And.intro hz1 hz2)))
  clear hi0 hz0 hz1 hz2
  go_enter Try.func22, Try.ntmps22
  go_wp2_with fail
  refine (from_any A n c z w H.out HN.out).mono ?_
  rintro e w0 ⟨rfl, hs, hb, hz⟩
  go_wp2_with fail
  refine (next_any _ _ _ _ hs (by omega) (by omega)).mono ?_
  rintro e w1 ⟨rfl, hs1, ht1⟩
  have hk := nextV_bd z 12 (by omega) (by omega)
  generalize nextV z 12 = q at *
  obtain ⟨hq0, hq1⟩ := hk
  obtain ⟨k0, rfl⟩ := Int.eq_ofNat_of_zero_le hq0
  have H1 : Hid (PS w (.slice none 0 0) [] z.tail w1) := ⟨hs1, ht1.below hb (Nat.le_refl _), by rw [ht1.size]; omega, World.ownsRow_nil _ _ _ _⟩
  clear hs hs1 ht1 hb hz H HN
  go_wp2_with fail
  go_loopg [4, 5] k0 (fun k v4 v5 wr => PulRel w k v4 v5 wr)
  case atStart => exact ⟨z.tail, [], rfl, by omega, by simp; omega, by simp, H1.out.src, H1.out.bel, H1.out.lt, H1.out.own⟩
  case round =>
    obtain ⟨l, ps, rfl, hk11, hps, hok, hsrc, hbel, hlt, hown⟩ := hrel
    have HS : Hid (PS w _ ps l wr) := ⟨hsrc, hbel, hlt, hown⟩
    have HO := Lib.hid hok
    clear H1 hsrc hbel hlt hown hok hq0 hq1
    rcases gk with _ | k
    · go_wp2_with fail
      go_ret
      exact ⟨_, ps, rfl, by omega, HO.out, HS.out.bel, own_base HS.out.own (by omega)⟩
    · go_wp2_with fail
      refine (next_any _ _ _ _ HS.out.src (by omega) (by omega)).mono ?_
      rintro e wqr ⟨rfl, hs2, ht2⟩
      have HS1 := Lib.hid (HS.out.turn hs2 ht2)
      have hk := nextV_bd l 3 (by omega) (by omega)
      generalize nextV l 3 = qr at *
      obtain ⟨hqr0, hqr1⟩ := hk
      clear hs2 ht2 HS
      go_wp2_with fail
      refine (next_any _ _ _ _ HS1.out.src (by omega) (by omega)).mono ?_
      rintro e wqi ⟨rfl, hs2, ht2⟩
      have HS2 := Lib.hid (HS1.out.turn hs2 ht2)
      have hk := nextV_bd l.tail 2 (by omega) (by omega)
      generalize nextV l.tail 2 = qi at *
      obtain ⟨hqi0, hqi1⟩ := hk
      clear hs2 ht2 HS1
      go_wp2_with fail
      refine (next_any _ _ _ _ HS2.out.src (by omega) (by omega)).mono ?_
      rintro e wqa ⟨rfl, hs2, ht2⟩
      have HS3 := Lib.hid (HS2.out.turn hs2 ht2)
      have hk := nextV_bd l.tail.tail 3 (by omega) (by omega)
      generalize nextV l.tail.tail 3 = qa at *
      obtain ⟨hqa0, hqa1⟩ := hk
      clear hs2 ht2 HS2
      generalize (qi == 0) = inb at *
      go_wp2_with fail
      have HS4 := Lib.hid (HS3.out.alloc (.cells #[.int .i64 qr, .bool inb, .int .i64 (1 + qa), .int .i64 (1 + qa)] 31))
      have HB4 := Lib.hid (Blk.new wqa 31 #[.int .i64 qr, .bool inb, .int .i64 (1 + qa), .int .i64 (1 + qa)])
      have hP : w.heap.size < wqa.heap.size := HS3.out.lt
      have Hne := Lib.hid (show u4.ownBlock ≠ some wqa.heap.size from fun e => by have := (own_block HS3.out.own _ e).2; omega)
      refine (next_any _ _ _ _ HS4.out.src (by omega) (by omega)).mono ?_
      rintro e wq8 ⟨rfl, hs2, ht2⟩
      have HS5 := Lib.hid (HS4.out.turn hs2 ht2)
      have hk := nextV_bd l.tail.tail.tail 8 (by omega) (by omega)
      generalize nextV l.tail.tail.tail 8 = q8 at *
      obtain ⟨hq80, hq81⟩ := hk
      have HB5 := Lib.hid (HB4.out.same (ht2.block _ (by omega)))
      clear hs2 ht2 HS4 HB4 HS3
      generalize wqa.heap.size = P at *
      by_cases h8 : q8 = 0
      · have h8' : (q8 == 0) = true := by simpa using h8
        clear h8
        go_wp2_with fail
        refine (next_any _ _ _ _ HS5.out.src (by omega) (by omega)).mono ?_
        rintro e wqb ⟨rfl, hs2, ht2⟩
        have HS6 := Lib.hid (HS5.out.turn hs2 ht2)
        have hk := nextV_bd l.tail.tail.tail.tail 4 (by omega) (by omega)
        generalize nextV l.tail.tail.tail.tail 4 = qb at *
        obtain ⟨hqb0, hqb1⟩ := hk
        have HB6 := Lib.hid (HB5.out.same (ht2.block _ (by omega)))
        clear hs2 ht2 HS5 HB5
        have f3 := HB6.out.frozen 3
        have d3 := HB6.out.cell 3
        simp at d3
        have HB7 := Lib.hid (show Blk (wqb.setCell ⟨P, 3, none⟩ (.int .i64 qb)) P 31 #[.int .i64 qr, .bool inb, .int .i64 (1 + qa), .int .i64 qb] by have := HB6.out.set_ 3 (.int .i64 qb); simpa using this)
        have HS7 := Lib.hid (HS6.out.far (P := P) (o := 3) (u := .int .i64 qb) HB6.out (by omega) Hne.out)
        clear HS6 HB6
        go_upto_region 10 with fail
        clear f3 d3
        generalize wqb.setCell ⟨P, 3, none⟩ (.int .i64 qb) = wz at *
        have d0 := HB7.out.cell 0
        have d1 := HB7.out.cell 1
        have d2 := HB7.out.cell 2
        have d3 := HB7.out.cell 3
        simp at d0 d1 d2 d3
        have HSa := Lib.hid (HS7.out.alloc (.cells #[.int .i64 qr, .bool inb, .int .i64 (1 + qa), .int .i64 qb] 31))
        have hlt := HS7.out.lt
        go_wp2_with (at_builtin; refine wpList_append_own_at _ rfl _ _ 38 rfl (w.heap.size + 1) 31 i0 _ 4 32 Try.underlying38 HI.out.1 HI.out.2.1 HI.out.2.2.1 HI.out.2.2.2 rfl (by omega) _ ps.length _ rfl HSa.out.own ⟨wz.heap.size, 0, none⟩ 1 1 [.int .i64 qr, .bool inb, .int .i64 (1 + qa), .int .i64 qb] rfl rfl ?c0 ?c1 ?c2 ?c3 ?c4 ?_; rotate_right; intro v' w' hown' hg' _ _)
        case c0 => exact news_new _ _ _
        case c2 => simp only [maxLen]; omega
        case c3 => omega
        case c4 => simp; omega
        case c1 => intro u hu; simp at hu; rcases hu with rfl | rfl | rfl | rfl <;> rfl
        have hob := own_block HSa.out.own
        have HSb : Hid (PS w v' (ps ++ [⟨qr, inb, 1 + qa, qb⟩]) l.tail.tail.tail.tail.tail w') := by
          have hb' : Below (w.heap.size + 1) _ w' := (Below.refl _ _).grown hg' (by simp; omega) (fun g hg => (hob g hg).1)
          refine ⟨HSa.out.src.below hb' (by omega), HSa.out.bel.trans (hb'.mono (by omega)), ?_, ?_⟩
          · have := hg'.size; simp at this; omega
          · simpa [Pul.cells] using hown'
        clear hown' hg' HSa hob d0 d1 d2 d3
        go_roundg k
        case measure => omega
        case rel =>
          refine ⟨l.tail.tail.tail.tail.tail, ps ++ [⟨qr, inb, 1 + qa, qb⟩], by first | rfl | go_num, by omega, by simp; omega, ?_, HSb.out.src, HSb.out.bel, HSb.out.lt, HSb.out.own⟩
          intro p hp
          rcases List.mem_append.1 hp with hp | hp
          · exact HO.out p hp
          · simp at hp; subst hp; exact ⟨by simp; omega, by simp; omega, by simp; omega, by simp; omega, by simp; omega, by simp; omega⟩
      · have h8' : (q8 == 0) = false := by simpa using h8
        clear h8
        have d0 := HB5.out.cell 0
        have d1 := HB5.out.cell 1
        have d2 := HB5.out.cell 2
        have d3 := HB5.out.cell 3
        simp at d0 d1 d2 d3
        have HSa := Lib.hid (HS5.out.alloc (.cells #[.int .i64 qr, .bool inb, .int .i64 (1 + qa), .int .i64 (1 + qa)] 31))
        have hlt := HS5.out.lt
        go_wp2_with (at_builtin; refine wpList_append_own_at _ rfl _ _ 38 rfl (w.heap.size + 1) 31 i0 _ 4 32 Try.underlying38 HI.out.1 HI.out.2.1 HI.out.2.2.1 HI.out.2.2.2 rfl (by omega) _ ps.length _ rfl HSa.out.own ⟨wq8.heap.size, 0, none⟩ 1 1 [.int .i64 qr, .bool inb, .int .i64 (1 + qa), .int .i64 (1 + qa)] rfl rfl ?c0 ?c1 ?c2 ?c3 ?c4 ?_; rotate_right; intro v' w' hown' hg' _ _)
        case c0 => exact news_new _ _ _
        case c2 => simp only [maxLen]; omega
        case c3 => omega
        case c4 => simp; omega
        case c1 => intro u hu; simp at hu; rcases hu with rfl | rfl | rfl | rfl <;> rfl
        have hob := own_block HSa.out.own
        have HSb : Hid (PS w v' (ps ++ [⟨qr, inb, 1 + qa, (1 + qa)⟩]) l.tail.tail.tail.tail w') := by
          have hb' : Below (w.heap.size + 1) _ w' := (Below.refl _ _).grown hg' (by simp; omega) (fun g hg => (hob g hg).1)
          refine ⟨HSa.out.src.below hb' (by omega), HSa.out.bel.trans (hb'.mono (by omega)), ?_, ?_⟩
          · have := hg'.size; simp at this; omega
          · simpa [Pul.cells] using hown'
        clear hown' hg' HSa hob d0 d1 d2 d3
        go_roundg k
        case measure => omega
        case rel =>
          refine ⟨l.tail.tail.tail.tail, ps ++ [⟨qr, inb, 1 + qa, (1 + qa)⟩], by first | rfl | go_num, by omega, by simp; omega, ?_, HSb.out.src, HSb.out.bel, HSb.out.lt, HSb.out.own⟩
          intro p hp
          rcases List.mem_append.1 hp with hp | hp
          · exact HO.out p hp
          · simp at hp; subst hp; exact ⟨by simp; omega, by simp; omega, by simp; omega, by simp; omega, by simp; omega, by simp; omega⟩
end Go.Proofs.Ytpapembikcnhpaa
