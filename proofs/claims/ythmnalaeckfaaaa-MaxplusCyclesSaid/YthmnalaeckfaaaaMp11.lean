import Derived.Test.YthmnalaeckfaaaaMp10
namespace Go.Proofs.Ythmnalaeckfaaaa
open Go.RowKit
attribute [local go_sem ↓] run_max_keep
def GC (G : Nat) (k : Nat) (v0 v1 : Value) (w wr : World) : Prop := ∃ (a b : Nat), v0 = .int .i64 a ∧ v1 = .int .i64 b ∧ a ≤ 4611686018427387904 ∧ b ≤ 4611686018427387904 ∧ b = k ∧ Nat.gcd a b = G ∧ Below w.heap.size w wr
theorem gcd_step (a b : Nat) : Nat.gcd b (a % b) = Nat.gcd a b := by
  rw [Nat.gcd_comm b (a % b), ← Nat.gcd_rec b a, Nat.gcd_comm]
set_option maxHeartbeats 1600000 in
theorem gcd_any (a b : Nat) (w : World) (ha : a ≤ 4611686018427387904) (hb : b ≤ 4611686018427387904) :
    Calls Try.prog 42 #[.int .i64 a, .int .i64 b] w fun e w' => e = .returned (.tuple #[.int .i64 (Nat.gcd a b), .int .i64 0]) ∧ Below w.heap.size w w' := by
  have h1 : decide ((a : Int) < 0) = false := by simp
  have h2 : decide ((b : Int) < 0) = false := by simp
  have HG : Hid (GC (Nat.gcd a b) b (.int .i64 a) (.int .i64 b) w w) := ⟨a, b, rfl, rfl, ha, hb, rfl, rfl, Below.refl _ _⟩
  generalize Nat.gcd a b = G at *
  go_enter Try.func42, Try.ntmps42
  go_wp2
  go_loopg [0, 1] b (fun k v0 v1 wr => GC G k v0 v1 w wr)
  case atStart => exact HG.out
  case round =>
    clear HG
    obtain ⟨x, y, rfl, rfl, hx, hy, rfl, hg, hbl⟩ := hrel
    have Hg := Lib.hid hg
    have HBl := Lib.hid hbl
    clear hg hbl
    by_cases hy0 : y = 0
    · subst hy0
      have HE := Lib.hid (show x = G by have := Hg.out; simpa using this)
      go_wp2_with fail
      go_ret2
      exact ⟨by rw [HE.out]; rfl, HBl.out⟩
    · have hyp : 0 < y := by omega
      have hyi : ((y : Int) != 0) = true := by simp; omega
      have hyb : (y != 0) = true := by simp; omega
      have hyd : decide ((0 : Int) < (y : Int)) = true := by simp; omega
      have hyd2 : decide (0 < y) = true := by simp; omega
      have HS := Lib.hid (show Nat.gcd y (x % y) = G by rw [gcd_step]; exact Hg.out)
      have hlt := Nat.mod_lt x hyp
      have hy0' : ¬ (y : Int) = 0 := by omega
      go_upto_region 4 with fail
      go_quiet (fail)
      go_wp2_with fail
      go_roundg (x % y)
      case measure => omega
      case rel => exact ⟨y, x % y, rfl, by first | rfl | go_num | simp, hy, by omega, rfl, HS.out, by first | exact HBl.out.drewN _ | exact below_drewN HBl.out _⟩
set_option maxHeartbeats 1600000 in
theorem rgcd_any (a b : Nat) (w : World) (ha : a ≤ 4611686018427387904) (hb : b ≤ 4611686018427387904) :
    Calls Try.prog 46 #[.int .i64 a, .int .i64 b] w fun e w' => e = .returned (.tuple #[.int .i64 (Nat.gcd a b), .int .i64 0]) ∧ Below w.heap.size w w' := by
  have h1 : decide ((a : Int) < 0) = false := by simp
  have h2 : decide ((b : Int) < 0) = false := by simp
  have HG : Hid (GC (Nat.gcd a b) b (.int .i64 a) (.int .i64 b) w w) := ⟨a, b, rfl, rfl, ha, hb, rfl, rfl, Below.refl _ _⟩
  generalize Nat.gcd a b = G at *
  go_enter Try.func46, Try.ntmps46
  go_wp2
  go_loopg [0, 1] b (fun k v0 v1 wr => GC G k v0 v1 w wr)
  case atStart => exact HG.out
  case round =>
    clear HG
    obtain ⟨x, y, rfl, rfl, hx, hy, rfl, hg, hbl⟩ := hrel
    have Hg := Lib.hid hg
    have HBl := Lib.hid hbl
    clear hg hbl
    by_cases hy0 : y = 0
    · subst hy0
      have HE := Lib.hid (show x = G by have := Hg.out; simpa using this)
      go_wp2_with fail
      go_ret2
      exact ⟨by rw [HE.out]; rfl, HBl.out⟩
    · have hyp : 0 < y := by omega
      have hyi : ((y : Int) != 0) = true := by simp; omega
      have hyb : (y != 0) = true := by simp; omega
      have hyd : decide ((0 : Int) < (y : Int)) = true := by simp; omega
      have hyd2 : decide (0 < y) = true := by simp; omega
      have HS := Lib.hid (show Nat.gcd y (x % y) = G by rw [gcd_step]; exact Hg.out)
      have hlt := Nat.mod_lt x hyp
      have hy0' : ¬ (y : Int) = 0 := by omega
      go_upto_region 4 with fail
      go_quiet (fail)
      go_wp2_with fail
      go_roundg (x % y)
      case measure => omega
      case rel => exact ⟨y, x % y, rfl, by first | rfl | go_num | simp, hy, by omega, rfl, HS.out, by first | exact HBl.out.drewN _ | exact below_drewN HBl.out _⟩
def VaL (w : World) (xs : List Int) (k : Nat) (v : Value) (wr : World) : Prop :=
  ∃ j : Nat, v = .int .i64 j ∧ j + k = xs.length ∧ (∀ e ∈ xs.take j, (e == 0) = true) ∧ w = wr
set_option maxHeartbeats 1600000 in
theorem vanished_any (A : Option Addr) (c : Nat) (xs : List Int) (w : World) (h : Rd w w.heap.size 1 A xs.length (xs.map (Value.int .i64))) (hl : xs.length ≤ 4611686018427387904) :
    Calls Try.prog 43 #[.slice A xs.length c] w fun e w' => e = .returned (.bool (xs.all (· == 0))) ∧ w = w' := by
  have H := Lib.hid h
  clear h
  go_enter Try.func43, Try.ntmps43
  go_wp2
  go_loopg [4, 7] xs.length (fun k _ v wr => VaL w xs k v wr)
  case atStart => exact ⟨0, rfl, by omega, by simp, rfl⟩
  case round =>
    obtain ⟨j, rfl, hj, ha, rfl⟩ := hrel
    have Hj := Lib.hid hj
    have Ha := Lib.hid ha
    clear hj ha
    by_cases hlt : j < xs.length
    · obtain ⟨b, off, rfl, hbb, q0⟩ := rd1 H.out j hlt
      have HT := Lib.hid (show (xs[j] == 0) = true → ∀ e ∈ xs.take (j + 1), (e == 0) = true from fun h => take_all (p := fun e => (e == 0) = true) hlt Ha.out h)
      have HNo := Lib.hid (show (xs[j] == 0) = false → xs.all (· == 0) = false from fun h => by
        cases hb : xs.all (· == 0) with
        | false => rfl
        | true => have := List.all_eq_true.1 hb xs[j] (List.getElem_mem hlt); rw [h] at this; cases this)
      generalize xs[j] = x at *
      by_cases hx : x = 0
      · subst hx
        have HN := Lib.hid (HT.out rfl)
        go_wp2_with fail
        go_roundg (xs.length - j - 1)
        case measure => have := Hj.out; omega
        case rel => exact ⟨j + 1, by first | rfl | go_num, by omega, HN.out, rfl⟩
      · have hx1 : (x == 0) = false := by simpa using hx
        have hx2 : (x != 0) = true := by simpa using hx
        have HN := Lib.hid (HNo.out hx1)
        clear hx
        go_wp2_with fail
        go_ret
        exact ⟨by rw [HN.out]; rfl, rfl⟩
    · have HY := Lib.hid (show xs.all (· == 0) = true from List.all_eq_true.2 (by have := Ha.out; rwa [List.take_of_length_le (by omega)] at this))
      go_wp2_with fail
      go_ret
      exact ⟨by rw [HY.out]; rfl, rfl⟩
/-- one period -/
def az (a : List (List Int)) (z : List Int) (p : Int) (i : Nat) : Nat → Int
  | 0 => 0
  | t + 1 => if gm a i t = -1125899906842624 then az a z p i t else max (az a z p i t) (gm a i t + z.getD t 0 - p)
def aft (n : Nat) (a : List (List Int)) (z : List Int) (p : Int) : List Int := (List.range n).map fun i => az a z p i n
def recS (n : Nat) (a : List (List Int)) (p : Int) : Nat → Nat → List Int → Int × Bool
  | 0, k, z => if z.all (· == 0) = true then ((k : Int), true) else (0, false)
  | m + 1, k, z => if z.all (· == 0) = true then ((k : Int), true) else recS n a p m (k + 1) (aft n a z p)
def recOk (a : List (List Int)) (x : List Int) (p m : Int) : Prop := chkM a = true ∧ x.length = a.length ∧ 1 ≤ p ∧ p ≤ 7200 ∧ 0 ≤ m ∧ m ≤ 3600 ∧ ∀ d ∈ x, 0 ≤ d ∧ d ≤ 68719476736
instance (a : List (List Int)) (x : List Int) (p m : Int) : Decidable (recOk a x p m) := by unfold recOk; infer_instance
def recF (a : List (List Int)) (x : List Int) (p m : Int) : Int × Bool := if recOk a x p m then recS a.length a p m.toNat 0 x else (0, false)
theorem az_bd {n : Nat} {a : List (List Int)} {z : List Int} {p B : Int} {i : Nat} (hb : Bd 68719476736 a n) (hi : i < n) (hp : 0 ≤ p) (hB : 0 ≤ B) (hz : ∀ t, t < n → 0 ≤ z.getD t 0 ∧ z.getD t 0 ≤ B) : ∀ t, t ≤ n → 0 ≤ az a z p i t ∧ az a z p i t ≤ B + 68719476736
  | 0, _ => by unfold az; omega
  | t + 1, h => by
    have ih := az_bd hb hi hp hB hz t (by omega)
    have h1 := hb i t hi (by omega)
    have h2 := hz t (by omega)
    unfold az
    split
    · exact ih
    · omega
theorem aft_len (n : Nat) (a : List (List Int)) (z : List Int) (p : Int) : (aft n a z p).length = n := by simp [aft]
theorem aft_bd {n : Nat} {a : List (List Int)} {z : List Int} {p B : Int} (hb : Bd 68719476736 a n) (hp : 0 ≤ p) (hB : 0 ≤ B) (hz : ∀ t, t < n → 0 ≤ z.getD t 0 ∧ z.getD t 0 ≤ B) (t : Nat) (ht : t < n) : 0 ≤ (aft n a z p).getD t 0 ∧ (aft n a z p).getD t 0 ≤ B + 68719476736 := by
  have : (aft n a z p).getD t 0 = az a z p t n := by simp [aft, List.getD_eq_getElem?_getD, ht]
  rw [this]
  exact az_bd hb ht hp hB hz n (Nat.le_refl _)
end Go.Proofs.Ythmnalaeckfaaaa
