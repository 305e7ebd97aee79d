import Derived.Test.YtinjdcefagaaeaaGreatDoorQBunA
import Derived.Test.YtinjdcefagaaeaaGreatDoorQBunM
import Derived.Laws.AppendOwnNone
import Derived.Laws.Slices
import Derived.OwnWalk
set_option linter.unusedVariables false
set_option linter.unusedSimpArgs false
namespace Go.Proofs.YtinjdcefagaaeaaGreatDoor
open Go.RowKit
theorem ret_pair {a b : Int} (h : a = b) : Ending.returned (.tuple #[.int .i64 a, .int .i64 0]) = .returned (.tuple #[.int .i64 b, .int .i64 0]) := by rw [h]
set_option maxHeartbeats 800000 in
theorem floor_any (a b : Int) (w : World) (hb : 1 ≤ b) (ha0 : -1000000000000 ≤ a) (ha1 : a ≤ 1000000000000) : Calls Tryz.prog 96 #[.int .i64 a, .int .i64 b] w fun e w' => e = .returned (.tuple #[.int .i64 (a / b), .int .i64 0]) ∧ w = w' := by
  have hex := tm_ex a b hb
  have hbd := td_bd a b hb
  by_cases h : 0 ≤ a
  · have h1 : 0 ≤ a % b := Int.emod_nonneg a (by omega)
    have h2 : decide (a % b < 0) = false := by simpa using h1
    clear hex hbd
    go_enter Tryz.func96, Tryz.ntmps96
    go_wp2_with fail
    go_ret2
    exact ⟨rfl, rfl⟩
  · obtain ⟨hb1, hb2⟩ := hbd.2 (by omega)
    by_cases hr : a.tmod b < 0
    · have e := (hex.2.1 hr).2
      have E := Lib.hid e
      have h2 : decide (a.tmod b < 0) = true := by simpa using hr
      clear hex hbd e
      go_enter Tryz.func96, Tryz.ntmps96
      go_wp2_with fail
      go_ret2
      exact ⟨ret_pair E.out, rfl⟩
    · have e := (hex.1 (by omega)).2
      have E := Lib.hid e
      have h2 : decide (a.tmod b < 0) = false := by simpa using hr
      clear hex hbd e
      go_enter Tryz.func96, Tryz.ntmps96
      go_wp2_with fail
      go_ret2
      exact ⟨ret_pair E.out, rfl⟩
set_option maxHeartbeats 800000 in
theorem ceil_any (a b : Int) (w : World) (hb : 1 ≤ b) (ha0 : -1000000000000 ≤ a) (ha1 : a ≤ 1000000000000) : Calls Tryz.prog 95 #[.int .i64 a, .int .i64 b] w fun e w' => e = .returned (.tuple #[.int .i64 (cdiv a b), .int .i64 0]) ∧ w = w' := by
  have hex := cdiv_ex a b hb
  have hbd := td_bd a b hb
  by_cases h : 0 ≤ a
  · have e0 : a.tdiv b = a / b := Int.tdiv_eq_ediv_of_nonneg h
    have e1 : a.tmod b = a % b := Int.tmod_eq_emod_of_nonneg h
    have hbd := hbd.1 h
    rw [e0] at hbd hex
    rw [e1] at hex
    obtain ⟨hb1, hb2⟩ := hbd
    clear e0 e1
    by_cases hr : 0 < a % b
    · have E := Lib.hid (hex.1 hr)
      have h2 : decide (0 < a % b) = true := by simpa using hr
      clear hex
      go_enter Tryz.func95, Tryz.ntmps95
      go_wp2_with fail
      go_ret2
      exact ⟨ret_pair (by first | exact E.out | (rw [Int.tdiv_eq_ediv_of_nonneg h]; exact E.out)), rfl⟩
    · have E := Lib.hid (hex.2 (by omega))
      have h2 : decide (0 < a % b) = false := by simpa using hr
      clear hex
      go_enter Tryz.func95, Tryz.ntmps95
      go_wp2_with fail
      go_ret2
      exact ⟨ret_pair (by first | exact E.out | (rw [Int.tdiv_eq_ediv_of_nonneg h]; exact E.out)), rfl⟩
  · obtain ⟨hb1, hb2⟩ := hbd.2 (by omega)
    by_cases hr : 0 < a.tmod b
    · have E := Lib.hid (hex.1 hr)
      have h2 : decide (0 < a.tmod b) = true := by simpa using hr
      clear hex hbd
      go_enter Tryz.func95, Tryz.ntmps95
      go_wp2_with fail
      go_ret2
      exact ⟨ret_pair E.out, rfl⟩
    · have E := Lib.hid (hex.2 (by omega))
      have h2 : decide (0 < a.tmod b) = false := by simpa using hr
      clear hex hbd
      go_enter Tryz.func95, Tryz.ntmps95
      go_wp2_with fail
      go_ret2
      exact ⟨ret_pair E.out, rfl⟩
set_option maxHeartbeats 800000 in
theorem mod_any (a b : Int) (w : World) (hb : 1 ≤ b) (hb1 : b ≤ 1000000000000) : Calls Tryz.prog 62 #[.int .i64 a, .int .i64 b] w fun e w' => e = .returned (.int .i64 (a % b)) ∧ w = w' := by
  have hex := tm_ex a b hb
  by_cases h : 0 ≤ a
  · have h1 : 0 ≤ a % b := Int.emod_nonneg a (by omega)
    have h2 : decide (a % b < 0) = false := by simpa using h1
    clear hex
    go_enter Tryz.func62, Tryz.ntmps62
    go_wp2_with fail
    go_ret
    exact ⟨rfl, rfl⟩
  · obtain ⟨_, _, hb2, hb3⟩ := hex
    by_cases hr : a.tmod b < 0
    · have E := Lib.hid ((tm_ex a b hb).2.1 hr).1
      have h2 : decide (a.tmod b < 0) = true := by simpa using hr
      go_enter Tryz.func62, Tryz.ntmps62
      go_wp2_with fail
      go_ret
      exact ⟨ret_int (by first | exact E.out | rfl), rfl⟩
    · have E := Lib.hid ((tm_ex a b hb).1 (by omega)).1
      have h2 : decide (a.tmod b < 0) = false := by simpa using hr
      go_enter Tryz.func62, Tryz.ntmps62
      go_wp2_with fail
      go_ret
      exact ⟨ret_int (by first | exact E.out | rfl), rfl⟩
/-- the root, bit by bit: k bits are left -/
def sqR (n : Int) : Nat → Int → Int
  | 0, r => r
  | k + 1, r => sqR n k (if r + 2 ^ k ≤ n / (r + 2 ^ k) then r + 2 ^ k else r)
def bitV (k : Nat) : Int := match k with | 0 => 0 | k + 1 => 2 ^ k
def SqL (n : Int) (w : World) (k : Nat) (v3 v4 : Value) (wr : World) : Prop :=
  ∃ r : Int, k ≤ 32 ∧ v3 = .int .i64 r ∧ v4 = .int .i64 (bitV k) ∧ 0 ≤ r ∧ r + 2 ^ k ≤ 4294967296 ∧ sqR n k r = sqR n 32 0 ∧ wr = w
set_option maxRecDepth 100000 in
set_option maxHeartbeats 3200000 in
theorem sqrt_any (n : Int) (w : World) (h0 : 0 ≤ n) (h1 : n ≤ 9223372036854775807) :
    Calls Tryz.prog 204 #[.int .i64 n] w fun e w' => e = .returned (.int .i64 (sqR n 32 0)) ∧ w' = w := by
  generalize hz : sqR n 32 0 = z
  have HZ := Lib.hid hz
  clear hz
  go_enter Tryz.func204, Tryz.ntmps204
  go_wp2_with fail
  go_loopg [3, 4, 5] 32 (fun k v3 v4 _ wr => SqL n w k v3 v4 wr)
  case atStart => exact ⟨0, by omega, rfl, rfl, by omega, by decide, rfl, rfl⟩
  case round =>
    obtain ⟨r, hk, rfl, rfl, hr0, hr1, he, rfl⟩ := hrel
    have HE := Lib.hid he
    clear he
    cases gk with
    | zero =>
      have hb : bitV 0 = 0 := rfl
      rw [hb]
      have hz : z = r := by rw [← HZ.out, ← HE.out]; rfl
      go_wp2_with fail
      go_ret
      exact ⟨by rw [hz]; rfl, rfl⟩
    | succ k =>
      have hb : bitV (k + 1) = 2 ^ k := rfl
      rw [hb]
      have hp : (0 : Int) < 2 ^ k := Int.pow_pos (by omega)
      have hp2 : (2 : Int) ^ (k + 1) = 2 * 2 ^ k := by rw [Int.pow_succ]; omega
      have HPP := Lib.hid (show bitV k = 2 ^ k / 2 by cases k with | zero => rfl | succ k => rw [Int.pow_succ]; show (2:Int)^k = _; omega)
      rw [hp2] at hr1
      have HS := Lib.hid (show sqR n (k + 1) r = sqR n k (if r + 2 ^ k ≤ n / (r + 2 ^ k) then r + 2 ^ k else r) from rfl)
      clear hb hp2
      generalize hpp : (2 : Int) ^ k = p at *
      have HPw := Lib.hid hpp
      clear hpp
      have hn1 : n.tdiv (r + p) = n / (r + p) := Int.tdiv_eq_ediv_of_nonneg h0
      have hn2 : 0 ≤ n / (r + p) := Int.ediv_nonneg h0 (by omega)
      have hn3 : n / (r + p) ≤ n := Int.ediv_le_self _ h0
      have ew1 : wrap64 (r + p) = r + p := IntWalk.wrap64_in _ (by omega)
      have ew2 : wrap64 (n.tdiv (r + p)) = n / (r + p) := by rw [hn1]; exact IntWalk.wrap64_in _ (by omega)
      have hnz : ¬ (r + p = 0) := by omega
      by_cases hle : r + p ≤ n / (r + p)
      · have HE2 := Lib.hid (show sqR n k (r + p) = sqR n 32 0 by rw [← HE.out, HS.out, if_pos hle])
        rw [if_pos hle] at HS
        go_wp2_with fail
        go_roundg k
        case measure => omega
        case rel => exact ⟨r + p, by omega, by first | rfl | go_num, by rw [HPP.out], by omega, by rw [HPw.out]; omega, HE2.out, rfl⟩
      · have HE2 := Lib.hid (show sqR n k r = sqR n 32 0 by rw [← HE.out, HS.out, if_neg hle])
        have hlt : n / (r + p) < r + p := by omega
        go_wp2_with fail
        go_roundg k
        case measure => omega
        case rel => exact ⟨r, by omega, by first | rfl | go_num, by rw [HPP.out], by omega, by rw [HPw.out]; omega, HE2.out, rfl⟩
end Go.Proofs.YtinjdcefagaaeaaGreatDoor
namespace Go.Proofs.YtinjdcefagaaeaaGreatDoor
open Go.RowKit
/-! A step of a region that draws: append of a whole slice, nil or not (without its ordering's frame). -/
section
variable {P : Program} {w : World} {ops : Array Oper} {o : Oper} {a : Go.Act} {K : Go.Act → World → Prop} {Q : Exit → Go.Act → World → Prop} {E : Prop}
theorem step_append_any (hgd : o.guard = none) (s x : Operand) (t : TypeId)
    (ho : o.op = .call { callee := .builtin .append, args := #[s, x], argTypes := #[t, t] })
    (base : Nat) (e : TypeId) (i : TypeInfo) (z : Value) (size bytes : Nat) (ht : P.underlying t = some (.slice e)) (hi : P.info? e = some i) (hz : i.zero = some z)
    (hsize : i.size = size) (hby : i.bytes = bytes) (hzs : z.cells.size = size) (hsz : 0 < size)
    (v : Value) (n : Nat) (xs : List Value) (hs : a.eval s = v) (hown : w.ownsRow base e size v n xs)
    (ao : Option Addr) (m c B : Nat) (news : List Value) (hx : a.eval x = .slice ao m c) (hnone : ao = none → m = 0 ∧ c = 0) (hr : Rd w B size ao m news) (h1 : ∀ u ∈ news, u.oneCell' = true)
    (h63 : n + m ≤ maxLen) (hbytes : (n + m) * bytes ≤ 140737488355328) (hbase : base ≤ w.heap.size)
    (h : ∀ v' w', w'.ownsRow base e size v' (n + m) (xs ++ news) → w.grownBy w' v.ownBlock → (v'.ownBlock = v.ownBlock ∨ v'.ownBlock = some w.heap.size) → K (a.put o.dst v') w') :
    if Region.wanted o (yielded ops a.tmps) = true then Oper.wp P o a w K Q else E := by
  have hw : Region.wanted o (yielded ops a.tmps) = true := by simp [Region.wanted, hgd]
  rw [if_pos hw]
  cases ao with
  | none =>
    obtain ⟨rfl, rfl⟩ := hnone rfl
    have hn : news = [] := List.eq_nil_of_length_eq_zero (by simpa using hr.1)
    subst hn
    have hrun := run_append_owned_none (P := P) (w := w) base t o.type e i size ht hi v n xs hown
    unfold Oper.wp
    simp [execOp, ho, resolve, invoke, builtin, hs, hx, hrun, Result.andThen]
    exact h v w (by simpa using hown) (grownBy_refl _ _) (.inl rfl)
  | some ad =>
    have hnews : ∀ j u, news[j]? = some u → w.cell? (ad.add j) = some u := fun j u hu => by
      by_cases hm : 0 < m
      · obtain ⟨b, off, e1, _, hc⟩ := hr.2 hm
        injection e1 with e1
        subst e1
        rw [show (⟨b, off, none⟩ : Addr).add j = ⟨b, off + j, none⟩ by unfold Addr.add; split <;> simp_all]
        exact hc j u hu
      · have hl := hr.1
        have : m = 0 := by omega
        subst this
        have hn : news = [] := List.eq_nil_of_length_eq_zero (by simpa using hl)
        subst hn
        simp at hu
    obtain ⟨v', w', hrun, h2, h3, _, h5⟩ := run_append_own_at (P := P) w base t o.type e i z size bytes ht hi hz hsize hby hzs hsz v n xs hown ad m c news hr.1 hnews h1 h63 hbytes hbase
    unfold Oper.wp execOp
    simp only [ho, resolve, invoke, builtin, Sem.run_bind, Sem.run_pure, Result.andThen_ok, List.map_toArray, List.map_cons, List.map_nil, hs, hx, hrun]
    exact h v' w' h2 h3 h5
end
theorem bel_grow {w w' : World} (h : w.grownBy w' none) : Below w.heap.size w w' := (Below.refl _ _).grown h (Nat.le_refl _) (fun k hk => by cases hk)
theorem step_make_full {P : Program} {w : World} {ops : Array Oper} {o : Oper} {a : Go.Act} {K : Go.Act → World → Prop} {Q : Exit → Go.Act → World → Prop} {E : Prop} (hgd : o.guard = none) (l c : Operand) (t : TypeId) (hop : o.op = Op.makeSlice t l c)
    (base : Nat) (e : TypeId) (i : TypeInfo) (z : Value) (size : Nat) (h1 : P.underlying t = some (.slice e)) (h2 : P.info? e = some i) (h3 : i.zero = some z) (h4 : i.size = size)
    (kl kc : IntKind) (n : Nat) (hl : a.eval l = .int kl n) (hc : a.eval c = .int kc n) (b2 : i.bytes * n ≤ 281474976710656) (b3 : n ≤ maxLen) (b4 : base ≤ w.heap.size)
    (hK : ∀ w', w'.ownsRow base e size (.slice (some ⟨w.heap.size, 0, none⟩) n n) n (madeCells z.cells (n * size)).toList → w.grownBy w' none → K (a.put o.dst (.slice (some ⟨w.heap.size, 0, none⟩) n n)) w') :
    if Region.wanted o (yielded ops a.tmps) = true then Oper.wp P o a w K Q else E := by
  have hw : Region.wanted o (yielded ops a.tmps) = true := by simp [Region.wanted, hgd]
  rw [if_pos hw]
  obtain ⟨w', hrun, r1, r2⟩ := run_make_full (P := P) w base t e i z size h1 h2 h3 h4 kl kc n b2 b3 b4
  unfold Oper.wp
  simp [execOp, hop, hl, hc, hrun, Result.andThen]
  exact hK w' r1 r2
end Go.Proofs.YtinjdcefagaaeaaGreatDoor
