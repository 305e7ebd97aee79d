import Derived.Test.YthmnalaeckfaaaaMpMath
import Derived.Test.YthmnalaeckfaaaaBunA
namespace Go.Proofs.Ythmnalaeckfaaaa
open Go.RowKit

/-- a row that lies in memory -/
structure Row where
  A : Option Addr
  c : Nat
  zs : List Int
def Row.val (r : Row) : Value := .slice r.A r.zs.length r.c
def matR (rows : List Row) : List (List Int) := rows.map (·.zs)
structure RowRd (w : World) (x : Row) : Prop where
  r : Rd w w.heap.size 1 x.A x.zs.length (x.zs.map (Value.int .i64))
  n : x.zs.length ≤ 4611686018427387904
theorem RowRd.grow {w w' : World} {r : Row} (h : RowRd w r) (hb : Below w.heap.size w w') : RowRd w' r := ⟨(h.r.grow hb).more hb.size, h.n⟩
/-- a list of rows that is read in a world -/
structure MRd (w : World) (A : Option Addr) (rows : List Row) : Prop where
  r : Rd w w.heap.size 1 A rows.length (rows.map Row.val)
  c : ∀ x ∈ rows, RowRd w x
  n : rows.length ≤ 4611686018427387904
theorem MRd.grow {w w' : World} {A : Option Addr} {rows : List Row} (h : MRd w A rows) (hb : Below w.heap.size w w') : MRd w' A rows := ⟨(h.r.grow hb).more hb.size, fun x hx => (h.c x hx).grow hb, h.n⟩

theorem fits_any (e : Int) (w : World) : Calls Try.prog 52 #[.int .i64 e] w fun r w' => r = .returned (.bool (fitB e)) ∧ w = w' := by
  by_cases h1 : e = -1125899906842624
  · subst h1
    go_enter Try.func52, Try.ntmps52
    go_wp2
    go_ret
    exact ⟨rfl, rfl⟩
  · have h1' : (e == -1125899906842624) = false := by simpa using h1
    have HF := Lib.hid (show fitB e = (decide (-68719476736 ≤ e) && decide (e ≤ 68719476736)) by unfold fitB; rw [h1']; rfl)
    by_cases h2 : -68719476736 ≤ e
    · have h2' : decide (-68719476736 ≤ e) = true := by simpa using h2
      rw [h2'] at HF
      go_enter Try.func52, Try.ntmps52
      go_wp2
      go_ret
      exact ⟨by rw [HF.out]; rfl, rfl⟩
    · have h2' : decide (-68719476736 ≤ e) = false := by simpa using h2
      rw [h2'] at HF
      go_enter Try.func52, Try.ntmps52
      go_wp2
      go_ret
      exact ⟨by rw [HF.out]; rfl, rfl⟩
theorem entry_any (e : Int) (w : World) : Calls Try.prog 53 #[.int .i64 e] w fun r w' => r = .returned (.bool (fitB e)) ∧ w = w' := by
  by_cases h1 : e = -1125899906842624
  · subst h1
    go_enter Try.func53, Try.ntmps53
    go_wp2
    go_ret
    exact ⟨rfl, rfl⟩
  · have h1' : (e == -1125899906842624) = false := by simpa using h1
    have HF := Lib.hid (show fitB e = (decide (-68719476736 ≤ e) && decide (e ≤ 68719476736)) by unfold fitB; rw [h1']; rfl)
    by_cases h2 : -68719476736 ≤ e
    · have h2' : decide (-68719476736 ≤ e) = true := by simpa using h2
      rw [h2'] at HF
      go_enter Try.func53, Try.ntmps53
      go_wp2
      go_ret
      exact ⟨by rw [HF.out]; rfl, rfl⟩
    · have h2' : decide (-68719476736 ≤ e) = false := by simpa using h2
      rw [h2'] at HF
      go_enter Try.func53, Try.ntmps53
      go_wp2
      go_ret
      exact ⟨by rw [HF.out]; rfl, rfl⟩
theorem sum_any (x y : Int) (w : World) (hx : -4611686018427387904 ≤ x ∧ x ≤ 4611686018427387903) (hy : -4611686018427387904 ≤ y ∧ y ≤ 4611686018427387903) : Calls Try.prog 49 #[.int .i64 x, .int .i64 y] w fun r w' => r = .returned (.int .i64 (plusF x y)) ∧ w = w' := by
  by_cases h1 : x = -1125899906842624
  · subst h1
    have HF := Lib.hid (show plusF (-1125899906842624) y = -1125899906842624 by unfold plusF; rw [if_pos (.inl rfl)])
    go_enter Try.func49, Try.ntmps49
    go_wp2
    go_ret
    exact ⟨by rw [HF.out]; rfl, rfl⟩
  · have h1' : (x == -1125899906842624) = false := by simpa using h1
    by_cases h2 : y = -1125899906842624
    · subst h2
      have HF := Lib.hid (show plusF x (-1125899906842624) = -1125899906842624 by unfold plusF; rw [if_pos (.inr rfl)])
      go_enter Try.func49, Try.ntmps49
      go_wp2
      go_ret
      exact ⟨by rw [HF.out]; rfl, rfl⟩
    · have h2' : (y == -1125899906842624) = false := by simpa using h2
      have HF := Lib.hid (show plusF x y = x + y by unfold plusF; rw [if_neg (fun h => h.elim h1 h2)])
      clear h1 h2
      go_enter Try.func49, Try.ntmps49
      go_wp2
      go_ret
      exact ⟨by rw [HF.out]; rfl, rfl⟩
theorem plus_any (x y : Int) (w : World) (hx : -4611686018427387904 ≤ x ∧ x ≤ 4611686018427387903) (hy : -4611686018427387904 ≤ y ∧ y ≤ 4611686018427387903) : Calls Try.prog 50 #[.int .i64 x, .int .i64 y] w fun r w' => r = .returned (.int .i64 (plusF x y)) ∧ w = w' := by
  by_cases h1 : x = -1125899906842624
  · subst h1
    have HF := Lib.hid (show plusF (-1125899906842624) y = -1125899906842624 by unfold plusF; rw [if_pos (.inl rfl)])
    go_enter Try.func50, Try.ntmps50
    go_wp2
    go_ret
    exact ⟨by rw [HF.out]; rfl, rfl⟩
  · have h1' : (x == -1125899906842624) = false := by simpa using h1
    by_cases h2 : y = -1125899906842624
    · subst h2
      have HF := Lib.hid (show plusF x (-1125899906842624) = -1125899906842624 by unfold plusF; rw [if_pos (.inr rfl)])
      go_enter Try.func50, Try.ntmps50
      go_wp2
      go_ret
      exact ⟨by rw [HF.out]; rfl, rfl⟩
    · have h2' : (y == -1125899906842624) = false := by simpa using h2
      have HF := Lib.hid (show plusF x y = x + y by unfold plusF; rw [if_neg (fun h => h.elim h1 h2)])
      clear h1 h2
      go_enter Try.func50, Try.ntmps50
      go_wp2
      go_ret
      exact ⟨by rw [HF.out]; rfl, rfl⟩

def VcL (w : World) (xs : List Int) (k : Nat) (v : Value) (wr : World) : Prop :=
  ∃ j : Nat, v = .int .i64 j ∧ j + k = xs.length ∧ (∀ e ∈ xs.take j, fitB e = true) ∧ w = wr
theorem vec_no1 {n : Int} {xs : List Int} (h : ¬ ((1 ≤ n ∧ n ≤ 12) ∧ (xs.length : Int) = n)) : vecB n xs = false := by
  cases hb : vecB n xs with
  | false => rfl
  | true => have := vecB_iff.1 hb; exact absurd ⟨this.1, this.2.1⟩ h
theorem vec_no2 {n : Int} {xs : List Int} {j : Nat} (hj : j < xs.length) (h : fitB xs[j] = false) : vecB n xs = false := by
  cases hb : vecB n xs with
  | false => rfl
  | true => have := (vecB_iff.1 hb).2.2 xs[j] (List.getElem_mem hj); rw [h] at this; cases this
theorem take_all {α : Type} {p : α → Prop} {xs : List α} {j : Nat} (hj : j < xs.length) (h : ∀ e ∈ xs.take j, p e) (h1 : p xs[j]) : ∀ e ∈ xs.take (j + 1), p e := by
  intro e he
  rw [List.take_succ_eq_append_getElem hj, List.mem_append, List.mem_singleton] at he
  rcases he with he | rfl
  · exact h e he
  · exact h1
set_option maxHeartbeats 1600000 in
theorem vector_any (n : Int) (A : Option Addr) (c : Nat) (xs : List Int) (w : World) (h : Rd w w.heap.size 1 A xs.length (xs.map (Value.int .i64))) (hl : xs.length ≤ 4611686018427387904) :
    Calls Try.prog 35 #[.int .i64 n, .slice A xs.length c] w fun e w' => e = .returned (.bool (vecB n xs)) ∧ w = w' := by
  have H := Lib.hid h
  clear h
  by_cases hc : (1 ≤ n ∧ n ≤ 12) ∧ (xs.length : Int) = n
  case neg =>
    have HF := Lib.hid (vec_no1 hc)
    by_cases h1 : n < 1
    · have h1' : decide (n < 1) = true := by simpa using h1
      by_cases h3 : (xs.length : Int) = n
      · have h3' : ((xs.length : Int) != n) = false := by simpa using h3
        clear hc h3
        go_enter Try.func35, Try.ntmps35
        go_wp2
        go_ret
        exact ⟨by rw [HF.out]; rfl, rfl⟩
      · have h3' : ((xs.length : Int) != n) = true := by simpa using h3
        clear hc h3
        go_enter Try.func35, Try.ntmps35
        go_wp2
        go_ret
        exact ⟨by rw [HF.out]; rfl, rfl⟩
    · have h1' : decide (n < 1) = false := by simpa using h1
      by_cases h2 : 12 < n
      · have h2' : decide (12 < n) = true := by simpa using h2
        by_cases h3 : (xs.length : Int) = n
        · have h3' : ((xs.length : Int) != n) = false := by simpa using h3
          clear hc h3
          go_enter Try.func35, Try.ntmps35
          go_wp2
          go_ret
          exact ⟨by rw [HF.out]; rfl, rfl⟩
        · have h3' : ((xs.length : Int) != n) = true := by simpa using h3
          clear hc h3
          go_enter Try.func35, Try.ntmps35
          go_wp2
          go_ret
          exact ⟨by rw [HF.out]; rfl, rfl⟩
      · have h2' : decide (12 < n) = false := by simpa using h2
        have h3' : ((xs.length : Int) != n) = true := by simp; omega
        clear hc
        go_enter Try.func35, Try.ntmps35
        go_wp2
        go_ret
        exact ⟨by rw [HF.out]; rfl, rfl⟩
  obtain ⟨⟨h1, h2⟩, rfl⟩ := hc
  have h1' : decide ((xs.length : Int) < 1) = false := by simp; omega
  have h2' : decide (12 < (xs.length : Int)) = false := by simp; omega
  have h3' : ((xs.length : Int) != (xs.length : Int)) = false := by simp
  go_enter Try.func35, Try.ntmps35
  go_wp2
  go_loopg [6, 21] xs.length (fun k _ v wr => VcL w xs k v wr)
  case atStart => exact ⟨0, rfl, by omega, by simp, rfl⟩
  case round =>
    obtain ⟨j, rfl, hj, ha, rfl⟩ := hrel
    have Hj := Lib.hid hj
    have Ha := Lib.hid ha
    clear hj ha
    by_cases hlt : j < xs.length
    · obtain ⟨b, off, rfl, hbb, q0⟩ := rd1 H.out j hlt
      have HT := Lib.hid (show fitB xs[j] = true → ∀ e ∈ xs.take (j + 1), fitB e = true from fun h => take_all hlt Ha.out h)
      have HNo := Lib.hid (show fitB xs[j] = false → vecB (xs.length : Int) xs = false from fun h => vec_no2 hlt h)
      generalize xs[j] = x at *
      go_wp2_with fail
      refine (fits_any x w).mono ?_
      rintro e w1 ⟨rfl, rfl⟩
      cases hf : fitB x
      · have HN := Lib.hid (HNo.out hf)
        clear hf
        go_wp2_with fail
        go_ret
        exact ⟨by rw [HN.out]; rfl, rfl⟩
      · have HN := Lib.hid (HT.out hf)
        clear hf
        go_wp2_with fail
        go_roundg (xs.length - j - 1)
        case measure => have := Hj.out; omega
        case rel => exact ⟨j + 1, by first | rfl | go_num, by omega, HN.out, rfl⟩
    · have HY := Lib.hid (show vecB (xs.length : Int) xs = true from vecB_iff.2 ⟨⟨h1, h2⟩, rfl, by have := Ha.out; rwa [List.take_of_length_le (by omega)] at this⟩)
      go_wp2_with fail
      go_ret
      exact ⟨by rw [HY.out]; rfl, rfl⟩
set_option maxHeartbeats 1600000 in
theorem rvector_any (n : Int) (A : Option Addr) (c : Nat) (xs : List Int) (w : World) (h : Rd w w.heap.size 1 A xs.length (xs.map (Value.int .i64))) (hl : xs.length ≤ 4611686018427387904) :
    Calls Try.prog 36 #[.int .i64 n, .slice A xs.length c] w fun e w' => e = .returned (.bool (vecB n xs)) ∧ w = w' := by
  have H := Lib.hid h
  clear h
  by_cases hc : (1 ≤ n ∧ n ≤ 12) ∧ (xs.length : Int) = n
  case neg =>
    have HF := Lib.hid (vec_no1 hc)
    by_cases h1 : n < 1
    · have h1' : decide (n < 1) = true := by simpa using h1
      by_cases h3 : (xs.length : Int) = n
      · have h3' : ((xs.length : Int) != n) = false := by simpa using h3
        clear hc h3
        go_enter Try.func36, Try.ntmps36
        go_wp2
        go_ret
        exact ⟨by rw [HF.out]; rfl, rfl⟩
      · have h3' : ((xs.length : Int) != n) = true := by simpa using h3
        clear hc h3
        go_enter Try.func36, Try.ntmps36
        go_wp2
        go_ret
        exact ⟨by rw [HF.out]; rfl, rfl⟩
    · have h1' : decide (n < 1) = false := by simpa using h1
      by_cases h2 : 12 < n
      · have h2' : decide (12 < n) = true := by simpa using h2
        by_cases h3 : (xs.length : Int) = n
        · have h3' : ((xs.length : Int) != n) = false := by simpa using h3
          clear hc h3
          go_enter Try.func36, Try.ntmps36
          go_wp2
          go_ret
          exact ⟨by rw [HF.out]; rfl, rfl⟩
        · have h3' : ((xs.length : Int) != n) = true := by simpa using h3
          clear hc h3
          go_enter Try.func36, Try.ntmps36
          go_wp2
          go_ret
          exact ⟨by rw [HF.out]; rfl, rfl⟩
      · have h2' : decide (12 < n) = false := by simpa using h2
        have h3' : ((xs.length : Int) != n) = true := by simp; omega
        clear hc
        go_enter Try.func36, Try.ntmps36
        go_wp2
        go_ret
        exact ⟨by rw [HF.out]; rfl, rfl⟩
  obtain ⟨⟨h1, h2⟩, rfl⟩ := hc
  have h1' : decide ((xs.length : Int) < 1) = false := by simp; omega
  have h2' : decide (12 < (xs.length : Int)) = false := by simp; omega
  have h3' : ((xs.length : Int) != (xs.length : Int)) = false := by simp
  go_enter Try.func36, Try.ntmps36
  go_wp2
  go_loopg [6, 21] xs.length (fun k _ v wr => VcL w xs k v wr)
  case atStart => exact ⟨0, rfl, by omega, by simp, rfl⟩
  case round =>
    obtain ⟨j, rfl, hj, ha, rfl⟩ := hrel
    have Hj := Lib.hid hj
    have Ha := Lib.hid ha
    clear hj ha
    by_cases hlt : j < xs.length
    · obtain ⟨b, off, rfl, hbb, q0⟩ := rd1 H.out j hlt
      have HT := Lib.hid (show fitB xs[j] = true → ∀ e ∈ xs.take (j + 1), fitB e = true from fun h => take_all hlt Ha.out h)
      have HNo := Lib.hid (show fitB xs[j] = false → vecB (xs.length : Int) xs = false from fun h => vec_no2 hlt h)
      generalize xs[j] = x at *
      go_wp2_with fail
      refine (entry_any x w).mono ?_
      rintro e w1 ⟨rfl, rfl⟩
      cases hf : fitB x
      · have HN := Lib.hid (HNo.out hf)
        clear hf
        go_wp2_with fail
        go_ret
        exact ⟨by rw [HN.out]; rfl, rfl⟩
      · have HN := Lib.hid (HT.out hf)
        clear hf
        go_wp2_with fail
        go_roundg (xs.length - j - 1)
        case measure => have := Hj.out; omega
        case rel => exact ⟨j + 1, by first | rfl | go_num, by omega, HN.out, rfl⟩
    · have HY := Lib.hid (show vecB (xs.length : Int) xs = true from vecB_iff.2 ⟨⟨h1, h2⟩, rfl, by have := Ha.out; rwa [List.take_of_length_le (by omega)] at this⟩)
      go_wp2_with fail
      go_ret
      exact ⟨by rw [HY.out]; rfl, rfl⟩

def CkL (w : World) (rows : List Row) (k : Nat) (v : Value) (wr : World) : Prop :=
  ∃ j : Nat, v = .int .i64 j ∧ j + k = rows.length ∧ (∀ r ∈ rows.take j, vecB rows.length r.zs = true) ∧ w = wr
theorem chk_no1 {rows : List Row} (h : ¬ (1 ≤ rows.length ∧ rows.length ≤ 12)) : chkM (matR rows) = false := by
  cases hb : chkM (matR rows) with
  | false => rfl
  | true => have := (chkM_iff.1 hb).1; simp [matR] at this; exact absurd this h
theorem chk_no2 {rows : List Row} {j : Nat} (hj : j < rows.length) (h : vecB rows.length rows[j].zs = false) : chkM (matR rows) = false := by
  cases hb : chkM (matR rows) with
  | false => rfl
  | true =>
    have := (chkM_iff.1 hb).2 rows[j].zs (List.mem_map.2 ⟨rows[j], List.getElem_mem hj, rfl⟩)
    simp only [matR, List.length_map] at this
    rw [h] at this; cases this
theorem chk_yes {rows : List Row} (h1 : 1 ≤ rows.length ∧ rows.length ≤ 12) (h : ∀ r ∈ rows, vecB rows.length r.zs = true) : chkM (matR rows) = true := by
  refine chkM_iff.2 ⟨by simpa [matR] using h1, fun r hr => ?_⟩
  obtain ⟨x, hx, rfl⟩ := List.mem_map.1 hr
  simp only [matR, List.length_map]
  exact h x hx
set_option maxHeartbeats 1600000 in
theorem check_any (A : Option Addr) (c : Nat) (rows : List Row) (w : World) (h : MRd w A rows) :
    Calls Try.prog 33 #[.slice A rows.length c] w fun e w' => e = .returned (.bool (chkM (matR rows))) ∧ w = w' := by
  have H := Lib.hid h
  have hln := h.n
  clear h
  by_cases hc : 1 ≤ rows.length ∧ rows.length ≤ 12
  case neg =>
    have HF := Lib.hid (chk_no1 hc)
    by_cases h1 : rows.length < 1
    · have h1' : decide (rows.length < 1) = true := by simpa using h1
      have h2' : decide ((rows.length : Int) < 1) = true := by simp; omega
      clear hc
      go_enter Try.func33, Try.ntmps33
      go_wp2
      go_ret
      exact ⟨by rw [HF.out]; rfl, rfl⟩
    · have h1' : decide (rows.length < 1) = false := by simpa using h1
      have h2' : decide ((rows.length : Int) < 1) = false := by rw [decide_eq_false_iff_not]; omega
      have h3' : decide (12 < rows.length) = true := by simp; omega
      have h4' : decide (12 < (rows.length : Int)) = true := by simp; omega
      clear hc
      go_enter Try.func33, Try.ntmps33
      go_wp2
      go_ret
      exact ⟨by rw [HF.out]; rfl, rfl⟩
  obtain ⟨h1, h2⟩ := hc
  have h1' : decide (rows.length < 1) = false := by rw [decide_eq_false_iff_not]; omega
  have h2' : decide ((rows.length : Int) < 1) = false := by rw [decide_eq_false_iff_not]; omega
  have h3' : decide (12 < rows.length) = false := by simp; omega
  have h4' : decide (12 < (rows.length : Int)) = false := by simp; omega
  go_enter Try.func33, Try.ntmps33
  go_wp2
  go_loopg [4, 15] rows.length (fun k _ v wr => CkL w rows k v wr)
  case atStart => exact ⟨0, rfl, by omega, by simp, rfl⟩
  case round =>
    obtain ⟨j, rfl, hj, ha, rfl⟩ := hrel
    have Hj := Lib.hid hj
    have Ha := Lib.hid ha
    clear hj ha
    by_cases hlt : j < rows.length
    · obtain ⟨b, off, rfl, hbb, q0⟩ := rd1 H.out.r j hlt
      have HR := Lib.hid (H.out.c rows[j] (List.getElem_mem hlt))
      have HT := Lib.hid (show vecB rows.length rows[j].zs = true → ∀ r ∈ rows.take (j + 1), vecB rows.length r.zs = true from fun h => take_all hlt Ha.out h)
      have HNo := Lib.hid (show vecB rows.length rows[j].zs = false → chkM (matR rows) = false from fun h => chk_no2 hlt h)
      generalize rows[j] = x at *
      unfold Row.val at q0
      go_wp2_with fail
      refine (vector_any _ x.A x.c x.zs w HR.out.r HR.out.n).mono ?_
      rintro e w1 ⟨rfl, rfl⟩
      cases hf : vecB rows.length x.zs
      · have HN := Lib.hid (HNo.out hf)
        clear hf
        go_wp2_with fail
        go_ret
        exact ⟨by rw [HN.out]; rfl, rfl⟩
      · have HN := Lib.hid (HT.out hf)
        clear hf
        go_wp2_with fail
        go_roundg (rows.length - j - 1)
        case measure => have := Hj.out; omega
        case rel => exact ⟨j + 1, by first | rfl | go_num, by omega, HN.out, rfl⟩
    · have HY := Lib.hid (show chkM (matR rows) = true from chk_yes ⟨h1, h2⟩ (by have := Ha.out; rwa [List.take_of_length_le (by omega)] at this))
      go_wp2_with fail
      go_ret
      exact ⟨by rw [HY.out]; rfl, rfl⟩
set_option maxHeartbeats 1600000 in
theorem rcheck_any (A : Option Addr) (c : Nat) (rows : List Row) (w : World) (h : MRd w A rows) :
    Calls Try.prog 34 #[.slice A rows.length c] w fun e w' => e = .returned (.bool (chkM (matR rows))) ∧ w = w' := by
  have H := Lib.hid h
  have hln := h.n
  clear h
  by_cases hc : 1 ≤ rows.length ∧ rows.length ≤ 12
  case neg =>
    have HF := Lib.hid (chk_no1 hc)
    by_cases h1 : rows.length < 1
    · have h1' : decide (rows.length < 1) = true := by simpa using h1
      have h2' : decide ((rows.length : Int) < 1) = true := by simp; omega
      clear hc
      go_enter Try.func34, Try.ntmps34
      go_wp2
      go_ret
      exact ⟨by rw [HF.out]; rfl, rfl⟩
    · have h1' : decide (rows.length < 1) = false := by simpa using h1
      have h2' : decide ((rows.length : Int) < 1) = false := by rw [decide_eq_false_iff_not]; omega
      have h3' : decide (12 < rows.length) = true := by simp; omega
      have h4' : decide (12 < (rows.length : Int)) = true := by simp; omega
      clear hc
      go_enter Try.func34, Try.ntmps34
      go_wp2
      go_ret
      exact ⟨by rw [HF.out]; rfl, rfl⟩
  obtain ⟨h1, h2⟩ := hc
  have h1' : decide (rows.length < 1) = false := by rw [decide_eq_false_iff_not]; omega
  have h2' : decide ((rows.length : Int) < 1) = false := by rw [decide_eq_false_iff_not]; omega
  have h3' : decide (12 < rows.length) = false := by simp; omega
  have h4' : decide (12 < (rows.length : Int)) = false := by simp; omega
  go_enter Try.func34, Try.ntmps34
  go_wp2
  go_loopg [5, 16] rows.length (fun k _ v wr => CkL w rows k v wr)
  case atStart => exact ⟨0, rfl, by omega, by simp, rfl⟩
  case round =>
    obtain ⟨j, rfl, hj, ha, rfl⟩ := hrel
    have Hj := Lib.hid hj
    have Ha := Lib.hid ha
    clear hj ha
    by_cases hlt : j < rows.length
    · obtain ⟨b, off, rfl, hbb, q0⟩ := rd1 H.out.r j hlt
      have HR := Lib.hid (H.out.c rows[j] (List.getElem_mem hlt))
      have HT := Lib.hid (show vecB rows.length rows[j].zs = true → ∀ r ∈ rows.take (j + 1), vecB rows.length r.zs = true from fun h => take_all hlt Ha.out h)
      have HNo := Lib.hid (show vecB rows.length rows[j].zs = false → chkM (matR rows) = false from fun h => chk_no2 hlt h)
      generalize rows[j] = x at *
      unfold Row.val at q0
      go_wp2_with fail
      refine (rvector_any _ x.A x.c x.zs w HR.out.r HR.out.n).mono ?_
      rintro e w1 ⟨rfl, rfl⟩
      cases hf : vecB rows.length x.zs
      · have HN := Lib.hid (HNo.out hf)
        clear hf
        go_wp2_with fail
        go_ret
        exact ⟨by rw [HN.out]; rfl, rfl⟩
      · have HN := Lib.hid (HT.out hf)
        clear hf
        go_wp2_with fail
        go_roundg (rows.length - j - 1)
        case measure => have := Hj.out; omega
        case rel => exact ⟨j + 1, by first | rfl | go_num, by omega, HN.out, rfl⟩
    · have HY := Lib.hid (show chkM (matR rows) = true from chk_yes ⟨h1, h2⟩ (by have := Ha.out; rwa [List.take_of_length_le (by omega)] at this))
      go_wp2_with fail
      go_ret
      exact ⟨by rw [HY.out]; rfl, rfl⟩
end Go.Proofs.Ythmnalaeckfaaaa
