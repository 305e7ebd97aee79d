import Derived.Test.YtinjdcefagaaeaaGreatDoorQBunA
import Derived.Test.YtinjdcefagaaeaaGreatDoorQSh
set_option linter.unusedVariables false
set_option linter.unusedSimpArgs false
namespace Go.Proofs.YtinjdcefagaaeaaGreatDoor
open Go.RowKit
/-! words: bytes -/
def classF (c : Int) : Int := if c = 32 ∨ c = 9 then 1 else if c = 10 then 2 else if c = 35 then 3 else if 33 ≤ c ∧ c ≤ 126 then 4 else 0
theorem class_any (c : Int) (w : World) : Calls Tryz.prog 128 #[.int .u8 c] w fun e w' => e = .returned (.int .i64 (classF c)) ∧ w = w' := by
  have HQ := Lib.hid (show classF c = classF c from rfl)
  generalize hz : classF c = z at *
  have HZ := Lib.hid hz
  clear hz HQ
  go_enter Tryz.func128, Tryz.ntmps128
  go_wp2_with fail
  all_goals
    go_ret
    refine ⟨ret_int ?_, rfl⟩
    have h := HZ.out
    unfold classF at h
    simp only [beq_iff_eq, beq_eq_false_iff_ne, ne_eq] at *
    (repeat' split at h) <;> omega
def digB (c : Int) : Bool := decide (48 ≤ c) && decide (c ≤ 57)
theorem digit_any (c : Int) (w : World) : Calls Tryz.prog 194 #[.int .u8 c] w fun e w' => e = .returned (.bool (digB c)) ∧ w = w' := by
  go_enter Tryz.func194, Tryz.ntmps194
  go_wp2_with fail
  all_goals
    go_ret
    refine ⟨ret_bool ?_, rfl⟩
    unfold digB
    rw [Bool.eq_iff_iff]
    simp
    try omega
def letB (c : Int) : Bool := decide (65 ≤ c) && decide (c ≤ 90) || decide (97 ≤ c) && decide (c ≤ 122)
theorem letter_any (c : Int) (w : World) : Calls Tryz.prog 197 #[.int .u8 c] w fun e w' => e = .returned (.bool (letB c)) ∧ w = w' := by
  go_enter Tryz.func197, Tryz.ntmps197
  go_wp2_with fail
  all_goals
    go_ret
    refine ⟨ret_bool ?_, rfl⟩
    unfold letB
    rw [Bool.eq_iff_iff]
    simp
    try omega
end Go.Proofs.YtinjdcefagaaeaaGreatDoor
namespace Go.Proofs.YtinjdcefagaaeaaGreatDoor
open Go.RowKit
/-! words.Number -/
def digF : Int → List UInt8 → Option Int
  | n, [] => some n
  | n, c :: r => if digB c.toNat then (if 10 * n + ((c.toNat : Int) - 48) > 1099511627776 then none else digF (10 * n + ((c.toNat : Int) - 48)) r) else none
/-- the value of the digits d behind the sign -/
def numD (d : List UInt8) (neg : Bool) : Int × Bool :=
  match d with
  | [] => (0, false)
  | c :: r => if c.toNat = 48 ∧ (neg = true ∨ r ≠ []) then (0, false) else match digF 0 d with | none => (0, false) | some n => (if neg then -n else n, true)
def numF (l : List UInt8) : Int × Bool := numD (Lib.trimPrefix l [45]) (Lib.hasPrefix l [45])
def NumL (L : List UInt8) (k : Nat) (v6 v : Value) (w wr : World) : Prop :=
  ∃ (j : Nat) (n : Int), v = .int .i64 j ∧ j + k = L.length ∧ v6 = .int .i64 n ∧ 0 ≤ n ∧ n ≤ 1099511627776 ∧ digF 0 L = digF n (L.drop j) ∧ wr = w
def endD (o : Option Int) (neg : Bool) : Int × Bool := match o with | none => (0, false) | some n => (if neg then -n else n, true)
theorem digF_step {L : List UInt8} {n : Int} {j : Nat} (h : j < L.length) : digF n (L.drop j) = if digB L[j].toNat then (if 10 * n + ((L[j].toNat : Int) - 48) > 1099511627776 then none else digF (10 * n + ((L[j].toNat : Int) - 48)) (L.drop (j + 1))) else none := by
  rw [List.drop_eq_getElem_cons h, digF]
set_option maxRecDepth 100000 in
set_option maxHeartbeats 3200000 in
theorem number_any (s : ByteArray) (w : World) (hs : s.size ≤ maxLen) :
    Calls Tryz.prog 130 #[.string s] w fun e w' => e = .returned (.tuple #[.int .i64 (numF s.data.toList).1, .bool (numF s.data.toList).2]) ∧ w' = w := by
  obtain ⟨z, hz⟩ : ∃ z, numF s.data.toList = z := ⟨_, rfl⟩
  rw [hz]
  have hN : z = numD (Lib.trimPrefix s.data.toList [45]) (Lib.hasPrefix s.data.toList [45]) := hz.symm
  clear hz
  have hlen : (Lib.trimPrefix s.data.toList [45]).length ≤ maxLen := by
    have h1 : s.data.toList.length ≤ maxLen := by rw [Array.length_toList]; exact hs
    unfold Lib.trimPrefix
    split
    · rw [List.length_drop]; omega
    · exact h1
  have HC := Lib.hid (Tryz.strings_CutPrefix s ⟨#[45]⟩ w)
  have e45 : (⟨#[45]⟩ : ByteArray).data.toList = [45] := rfl
  rw [e45] at HC
  clear e45
  generalize (Lib.trimPrefix s.data.toList [45]) = L at *
  generalize (Lib.hasPrefix s.data.toList [45]) = neg at *
  have HN := Lib.hid hN
  clear hN
  go_enter Tryz.func130, Tryz.ntmps130
  go_wp2_with fail
  refine HC.out.mono ?_
  rintro e w' ⟨rfl, rfl⟩
  clear HC
  cases L with
  | nil =>
    have hz : z = (0, false) := HN.out
    subst hz
    go_wp2_with fail
    go_ret2
    exact ⟨rfl, rfl⟩
  | cons c r =>
    have hx : ∀ h, (((⟨(c :: r).toArray⟩ : ByteArray)[0]'h).toNat : Int) = (c.toNat : Int) := fun _ => rfl
    by_cases hc : c.toNat = 48
    · have hci : (c.toNat : Int) = 48 := by omega
      cases neg with
      | true =>
        have hz : z = (0, false) := by rw [HN.out]; simp [numD, hc]
        subst hz
        go_wp2_with fail
        go_ret2
        exact ⟨rfl, rfl⟩
      | false =>
        cases r with
        | cons c' r' =>
          have hz : z = (0, false) := by rw [HN.out]; simp [numD, hc]
          subst hz
          have hl2 : (1 : Int) < ((c :: c' :: r').length : Int) := by simp; omega
          go_wp2_with fail
          go_ret2
          exact ⟨rfl, rfl⟩
        | nil =>
          have hz : z = endD (digF 0 [c]) false := by rw [HN.out]; simp [numD, hc, endD]
          have HZ := Lib.hid hz
          clear hz HN
          go_wp2_with fail
          clear hx
          go_loopg [6, 7, 30] ([c]).length (fun k v6 _ v wr => NumL ([c]) k v6 v w' wr)
          case atStart => exact ⟨0, 0, rfl, by omega, rfl, by omega, by omega, rfl, rfl⟩
          case round =>
            obtain ⟨j, n, rfl, hj, rfl, h0, h1, hd, hw⟩ := hrel
            obtain rfl := hw
            have HD := Lib.hid hd
            have Hj := Lib.hid hj
            clear hd hj
            by_cases hlt : j < ([c]).length
            · have hs := digF_step (n := n) hlt
              obtain ⟨x, hx⟩ : ∃ x : Int, (([c])[j].toNat : Int) = x := ⟨_, rfl⟩
              have hxb : ∀ h, (((⟨([c]).toArray⟩ : ByteArray)[j]'h).toNat : Int) = x := fun _ => hx
              have hxr : 0 ≤ x ∧ x < 256 := by have := ([c])[j].toNat_lt; omega
              rw [hx] at hs
              have HS := Lib.hid hs
              clear hs hx
              have hltb : (j : Int) < (([c]).length : Int) := by omega
              simp at hltb
              have hj64 : wrap64 ((j : Int) + 1) = (j : Int) + 1 := IntWalk.wrap64_in _ (by simp only [maxLen] at hlen; omega)
              by_cases hdg : digB x = true
              · have hxr2 : 48 ≤ x ∧ x ≤ 57 := by simpa [digB] using hdg
                have ew : IntKind.u8.wrap (x - 48) = x - 48 := by rw [IntKind.wrap_u8]; omega
                by_cases hbig : 10 * n + (x - 48) > 1099511627776
                · have hz : z = (0, false) := by rw [HZ.out, HD.out, HS.out, if_pos hdg, if_pos hbig]; rfl
                  subst hz
                  go_wp2_with fail
                  refine (digit_any x _).mono ?_
                  rintro e w2 ⟨rfl, rfl⟩
                  rw [hdg]
                  go_wp2_with fail
                  go_ret2
                  exact ⟨rfl, rfl⟩
                · have HN2 := Lib.hid (show digF n (([c]).drop j) = digF (10 * n + (x - 48)) (([c]).drop (j + 1)) by rw [HS.out, if_pos hdg, if_neg hbig])
                  go_wp2_with fail
                  refine (digit_any x _).mono ?_
                  rintro e w2 ⟨rfl, rfl⟩
                  rw [hdg]
                  go_wp2_with fail
                  go_roundg (([c]).length - j - 1)
                  case measure => have := Hj.out; simp at this hlt ⊢; omega
                  case rel => exact ⟨j + 1, 10 * n + (x - 48), by first | rfl | go_num, by have := Hj.out; simp at this hlt ⊢; omega, by first | rfl | go_num, by omega, by omega, HD.out.trans HN2.out, rfl⟩
              · have hz : z = (0, false) := by rw [HZ.out, HD.out, HS.out, if_neg hdg]; rfl
                have hdg' : digB x = false := by simpa using hdg
                subst hz
                go_wp2_with fail
                refine (digit_any x _).mono ?_
                rintro e w2 ⟨rfl, rfl⟩
                rw [hdg']
                go_wp2_with fail
                go_ret2
                exact ⟨rfl, rfl⟩
            · have hge : (([c]).length : Int) ≤ j := by omega
              simp at hge
              have hz : z = endD (some n) false := by rw [HZ.out, HD.out, List.drop_eq_nil_of_le (by omega)]; rfl
              have HZ2 := Lib.hid hz
              clear hz
              go_wp2_with fail
              all_goals
                go_ret2
                refine ⟨?_, rfl⟩
                rw [HZ2.out]
                simp_all [endD]
    · have hci : ¬ (c.toNat : Int) = 48 := by omega
      have hz : z = endD (digF 0 (c :: r)) neg := by rw [HN.out]; simp [numD, hc, endD]
      have HZ := Lib.hid hz
      clear hz HN
      go_wp2_with fail
      clear hx
      go_loopg [6, 7, 30] ((c :: r)).length (fun k v6 _ v wr => NumL ((c :: r)) k v6 v w' wr)
      case atStart => exact ⟨0, 0, rfl, by omega, rfl, by omega, by omega, rfl, rfl⟩
      case round =>
        obtain ⟨j, n, rfl, hj, rfl, h0, h1, hd, hw⟩ := hrel
        obtain rfl := hw
        have HD := Lib.hid hd
        have Hj := Lib.hid hj
        clear hd hj
        by_cases hlt : j < ((c :: r)).length
        · have hs := digF_step (n := n) hlt
          obtain ⟨x, hx⟩ : ∃ x : Int, (((c :: r))[j].toNat : Int) = x := ⟨_, rfl⟩
          have hxb : ∀ h, (((⟨((c :: r)).toArray⟩ : ByteArray)[j]'h).toNat : Int) = x := fun _ => hx
          have hxr : 0 ≤ x ∧ x < 256 := by have := ((c :: r))[j].toNat_lt; omega
          rw [hx] at hs
          have HS := Lib.hid hs
          clear hs hx
          have hltb : (j : Int) < (((c :: r)).length : Int) := by omega
          simp at hltb
          have hj64 : wrap64 ((j : Int) + 1) = (j : Int) + 1 := IntWalk.wrap64_in _ (by simp only [maxLen] at hlen; omega)
          by_cases hdg : digB x = true
          · have hxr2 : 48 ≤ x ∧ x ≤ 57 := by simpa [digB] using hdg
            have ew : IntKind.u8.wrap (x - 48) = x - 48 := by rw [IntKind.wrap_u8]; omega
            by_cases hbig : 10 * n + (x - 48) > 1099511627776
            · have hz : z = (0, false) := by rw [HZ.out, HD.out, HS.out, if_pos hdg, if_pos hbig]; rfl
              subst hz
              go_wp2_with fail
              refine (digit_any x _).mono ?_
              rintro e w2 ⟨rfl, rfl⟩
              rw [hdg]
              go_wp2_with fail
              go_ret2
              exact ⟨rfl, rfl⟩
            · have HN2 := Lib.hid (show digF n (((c :: r)).drop j) = digF (10 * n + (x - 48)) (((c :: r)).drop (j + 1)) by rw [HS.out, if_pos hdg, if_neg hbig])
              go_wp2_with fail
              refine (digit_any x _).mono ?_
              rintro e w2 ⟨rfl, rfl⟩
              rw [hdg]
              go_wp2_with fail
              go_roundg (((c :: r)).length - j - 1)
              case measure => have := Hj.out; simp at this hlt ⊢; omega
              case rel => exact ⟨j + 1, 10 * n + (x - 48), by first | rfl | go_num, by have := Hj.out; simp at this hlt ⊢; omega, by first | rfl | go_num, by omega, by omega, HD.out.trans HN2.out, rfl⟩
          · have hz : z = (0, false) := by rw [HZ.out, HD.out, HS.out, if_neg hdg]; rfl
            have hdg' : digB x = false := by simpa using hdg
            subst hz
            go_wp2_with fail
            refine (digit_any x _).mono ?_
            rintro e w2 ⟨rfl, rfl⟩
            rw [hdg']
            go_wp2_with fail
            go_ret2
            exact ⟨rfl, rfl⟩
        · have hge : (((c :: r)).length : Int) ≤ j := by omega
          simp at hge
          have hz : z = endD (some n) neg := by rw [HZ.out, HD.out, List.drop_eq_nil_of_le (by omega)]; rfl
          have HZ2 := Lib.hid hz
          clear hz
          go_wp2_with fail
          all_goals
            go_ret2
            refine ⟨?_, rfl⟩
            rw [HZ2.out]
            simp_all [endD]
end Go.Proofs.YtinjdcefagaaeaaGreatDoor
namespace Go.Proofs.YtinjdcefagaaeaaGreatDoor
open Go.RowKit
/-! words.Name at one letter -/
def Nm1 (k : Nat) (v : Value) (w wr : World) : Prop := ∃ j : Nat, v = .int .i64 j ∧ j + k = 1 ∧ wr = w
set_option maxRecDepth 100000 in
set_option maxHeartbeats 3200000 in
theorem name1_any (c : UInt8) (w : World) (hc : letB c.toNat = true) :
    Calls Tryz.prog 134 #[.string ⟨#[c]⟩] w fun e w' => e = .returned (.bool true) ∧ w' = w := by
  have HC := Lib.hid hc
  clear hc
  obtain ⟨x, hx⟩ : ∃ x : Int, (c.toNat : Int) = x := ⟨_, rfl⟩
  have HX := Lib.hid (show letB x = true by rw [← hx]; exact HC.out)
  have hxb : ∀ h, (((⟨#[c]⟩ : ByteArray)[0]'h).toNat : Int) = x := fun _ => hx
  go_enter Tryz.func134, Tryz.ntmps134
  go_wp2_with fail
  refine (letter_any x _).mono ?_
  rintro e w' ⟨rfl, rfl⟩
  rw [HX.out]
  go_wp2_with fail
  go_loopg [3, 20] 1 (fun k _ v wr => Nm1 k v w wr)
  case atStart => exact ⟨0, rfl, rfl, rfl⟩
  case round =>
    obtain ⟨j, rfl, hj, rfl⟩ := hrel
    by_cases h0 : j = 0
    · subst h0
      obtain rfl : gk = 1 := by omega
      go_wp2_with fail
      refine (letter_any x _).mono ?_
      rintro e w' ⟨rfl, rfl⟩
      rw [HX.out]
      go_wp2_with fail
      go_roundg 0
      case measure => omega
      case rel => exact ⟨1, rfl, rfl, rfl⟩
    · obtain rfl : j = 1 := by omega
      go_wp2_with fail
      go_ret
      exact ⟨rfl, rfl⟩
end Go.Proofs.YtinjdcefagaaeaaGreatDoor
namespace Go.Proofs.YtinjdcefagaaeaaGreatDoor
open Go.RowKit
/-! strings.Cut where the separator is not found -/
set_option maxHeartbeats 1600000 in
theorem cut0_miss (s : ByteArray) (c : UInt8) (w : World) (h : Lib.indexByte s.data.toList c = -1) :
    Calls Tryz.prog 192 #[.string s, .string ⟨#[c]⟩] w fun e w' => e = .returned (.tuple #[.string s, .string ⟨#[]⟩, .bool false]) ∧ w' = w := by
  have H := Lib.hid (Tryz.stringslite_Index_one s c w)
  rw [h] at H
  go_enter Tryz.func192, Tryz.ntmps192
  go_wp2_with fail
  refine H.out.mono ?_
  rintro e w' ⟨rfl, rfl⟩
  go_wp2_with fail
  go_ret3
  exact ⟨rfl, rfl⟩
set_option maxHeartbeats 1600000 in
theorem cut_miss (s : ByteArray) (c : UInt8) (w : World) (h : Lib.indexByte s.data.toList c = -1) :
    Calls Tryz.prog 127 #[.string s, .string ⟨#[c]⟩] w fun e w' => e = .returned (.tuple #[.string s, .string ⟨#[]⟩, .bool false]) ∧ w' = w := by
  have H := Lib.hid h
  clear h
  go_enter Tryz.func127, Tryz.ntmps127
  go_wp2_with fail
  refine (cut0_miss s c w H.out).mono ?_
  rintro e w' ⟨rfl, rfl⟩
  go_wp2_with fail
  go_ret3
  exact ⟨rfl, rfl⟩
end Go.Proofs.YtinjdcefagaaeaaGreatDoor
namespace Go.Proofs.YtinjdcefagaaeaaGreatDoor
open Go.RowKit
/-! words.appendWord -/
structure Wd where
  tx : ByteArray
  ln : Int
  cl : Int
def Wd.cells (x : Wd) : List Value := [.string x.tx, .int .i64 x.ln, .int .i64 x.cl]
theorem Wd.len (x : Wd) : x.cells.length = 3 := rfl
theorem Wd.one (x : Wd) : ∀ u ∈ x.cells, u.oneCell' = true := by intro u hu; simp only [Wd.cells, List.mem_cons, List.not_mem_nil, or_false] at hu; rcases hu with rfl | rfl | rfl <;> rfl
theorem infoWd : (Tryz.prog.info? 98).map (fun i => (i.zero, i.size, i.bytes)) = some (some (.agg #[.string ⟨#[]⟩, .int .i64 0, .int .i64 0]), 3, 32) := by kernel_rfl
/-- an owned row of words -/
def WO (w : World) (base : Nat) (v : Value) (ws : List Wd) : Prop := w.ownsRow base 98 3 v ws.length (ws.flatMap Wd.cells)
theorem WO.nil (w : World) (base : Nat) : WO w base (.slice none 0 0) [] := World.ownsRow_nil _ _ _ _
set_option maxRecDepth 100000 in
set_option maxHeartbeats 3200000 in
theorem appw_any (base : Nat) (v : Value) (ws : List Wd) (T : ByteArray) (a b : Nat) (num : Int) (w : World) (h : WO w base v ws) (hw : base ≤ w.heap.size) (hab : a ≤ b) (hb : b ≤ T.size) (hT : T.size ≤ 65536) (hn : ws.length ≤ 65536) :
    Calls Tryz.prog 129 #[v, .string T, .int .i64 a, .int .i64 b, .int .i64 num] w fun e w' => ∃ v', e = .returned v' ∧ WO w' base v' (ws ++ [⟨T.extract a b, num, a + 1⟩]) ∧ Below base w w' := by
  have H := Lib.hid h
  obtain ⟨A, c, rfl, _, _⟩ := own_slice h
  clear h
  obtain ⟨i0, b1, b2, b3, b4⟩ := info_parts infoWd
  have HI := Lib.hid (And.intro b1 (And.intro b2 (And.intro b3 b4)))
  clear b1 b2 b3 b4
  have ha : 0 ≤ (a : Int) := by omega
  go_enter Tryz.func129, Tryz.ntmps129
  go_wp2_with (at_builtin; refine wpList_append_own_at _ rfl _ _ 94 rfl base 98 i0 _ 3 32 Tryz.underlying94 HI.out.1 HI.out.2.1 HI.out.2.2.1 HI.out.2.2.2 rfl (by omega) _ ws.length _ rfl (World.ownsRow.alloc H.out _) ⟨w.heap.size, 0, none⟩ 1 1 (Wd.cells ⟨T.extract a b, num, a + 1⟩) rfl rfl ?c0 ?c1 ?c2 ?c3 ?c4 ?_; rotate_right; intro v' w' hown' hg' _ hat')
  case c0 => first | exact news_new _ _ (Wd.cells ⟨T.extract a b, num, a + 1⟩) | exact fun _ _ h => h
  case c1 => exact Wd.one _
  case c2 => simp only [maxLen]; omega
  case c3 => omega
  case c4 => first | omega | (simp; omega)
  have HO := Lib.hid (show WO w' base v' (ws ++ [⟨T.extract a b, num, (a : Int) + 1⟩]) by
    unfold WO
    rw [List.length_append, List.flatMap_append]
    simpa using hown')
  have HB := Lib.hid (((Below.refl base w).alloc hw (.cells #[.string (T.extract a b), .int .i64 num, .int .i64 ((a : Int) + 1)] 98)).grown hg' (Nat.le_trans hw (by simp)) (fun k hk => (own_block H.out k hk).1))
  go_ret
  exact ⟨v', rfl, HO.out, HB.out⟩
theorem appw_none (v : Value) (T : ByteArray) (e num : Int) (w : World) :
    Calls Tryz.prog 129 #[v, .string T, .int .i64 (-1), .int .i64 e, .int .i64 num] w fun e w' => e = .returned v ∧ w = w' := by
  go_enter Tryz.func129, Tryz.ntmps129
  go_wp2_with fail
  go_ret
  exact ⟨rfl, rfl⟩
end Go.Proofs.YtinjdcefagaaeaaGreatDoor
namespace Go.Proofs.YtinjdcefagaaeaaGreatDoor
open Go.RowKit
/-! words.split where every byte outside words is blank -/
def wdF (T : ByteArray) (num : Int) (st : Option Nat) (i : Nat) (ws : List Wd) : List Wd := match st with | none => ws | some a => ws ++ [⟨T.extract a i, num, (a : Int) + 1⟩]
def splF (T : ByteArray) (num : Int) : List UInt8 → Nat → Option Nat → List Wd → Option (List Wd × Option Nat)
  | [], _, st, ws => some (ws, st)
  | c :: r, i, st, ws =>
    if classF c.toNat = 4 then splF T num r (i + 1) (some (st.getD i)) ws
    else if classF c.toNat = 1 then splF T num r (i + 1) none (wdF T num st i ws)
    else none
def stV (st : Option Nat) : Int := match st with | none => -1 | some a => a
structure SpS (T : ByteArray) (num : Int) (R : List Wd × Option Nat) (w wr : World) (j : Nat) (st : Option Nat) (v : Value) (ws : List Wd) : Prop where
  e : splF T num (T.data.toList.drop j) j st ws = some R
  o : WO wr w.heap.size v ws
  b : Below w.heap.size w wr
  n : ws.length ≤ j
  s : ∀ a, st = some a → a ≤ j
def SpL (T : ByteArray) (num : Int) (R : List Wd × Option Nat) (w : World) (k : Nat) (v6 v7 v : Value) (wr : World) : Prop :=
  ∃ (j : Nat) (st : Option Nat) (ws : List Wd), v = .int .i64 j ∧ j + k = T.size ∧ v7 = .int .i64 (stV st) ∧ SpS T num R w wr j st v6 ws
theorem splF_step {T : ByteArray} {num : Int} {R : List Wd × Option Nat} {j : Nat} {st : Option Nat} {ws : List Wd} (hj : j < T.data.toList.length) (h : splF T num (T.data.toList.drop j) j st ws = some R) :
    (classF (T.data.toList[j]).toNat = 4 ∧ splF T num (T.data.toList.drop (j + 1)) (j + 1) (some (st.getD j)) ws = some R) ∨ (classF (T.data.toList[j]).toNat = 1 ∧ splF T num (T.data.toList.drop (j + 1)) (j + 1) none (wdF T num st j ws) = some R) := by
  rw [List.drop_eq_getElem_cons hj, splF] at h
  split at h
  · rename_i h4; exact .inl ⟨h4, h⟩
  · split at h
    · rename_i h1; exact .inr ⟨h1, h⟩
    · cases h
set_option maxRecDepth 100000 in
set_option maxHeartbeats 6400000 in
theorem split_ok (T : ByteArray) (num : Int) (R : List Wd × Option Nat) (w : World) (h : Lib.indexByte T.data.toList 35 = -1) (hT : T.size ≤ 65536) (hs : splF T num T.data.toList 0 none [] = some R) :
    Calls Tryz.prog 68 #[.string T, .int .i64 num] w fun e w' => ∃ v, e = .returned (.tuple #[v, .bool true]) ∧ WO w' w.heap.size v (wdF T num R.2 T.size R.1) ∧ Below w.heap.size w w' := by
  have H := Lib.hid h
  have HS := Lib.hid hs
  clear h hs
  go_enter Tryz.func68, Tryz.ntmps68
  go_wp2_with fail
  refine (cut_miss T 35 w H.out).mono ?_
  rintro e w' ⟨rfl, hw⟩
  obtain rfl := hw
  go_wp2_with fail
  go_loopg [6, 7, 8, 17] T.size (fun k v6 v7 _ v wr => SpL T num R w' k v6 v7 v wr)
  case atStart => exact ⟨0, none, [], rfl, by omega, rfl, ⟨HS.out, WO.nil _ _, Below.refl _ _, Nat.le_refl _, fun a e => by cases e⟩⟩
  case round =>
    obtain ⟨j, st, ws, rfl, hj, rfl, hsp⟩ := hrel
    have HP := Lib.hid hsp
    have Hj := Lib.hid hj
    clear hsp hj
    have hll : T.data.toList.length = T.size := by rw [Array.length_toList]; rfl
    have HL := Lib.hid hll
    clear hll
    by_cases hlt : j < T.size
    · obtain ⟨x, hx⟩ : ∃ x : Int, ((T[j]'hlt).toNat : Int) = x := ⟨_, rfl⟩
      have hstep := splF_step (by rw [HL.out]; exact hlt) HP.out.e
      have hxe : ((T.data.toList[j]'(by rw [HL.out]; exact hlt)).toNat : Int) = x := by rw [← hx]; rfl
      rw [hxe] at hstep
      rcases hstep with ⟨h4, he⟩ | ⟨h1, he⟩
      · have HE := Lib.hid he
        clear he
        cases st with
        | none =>
          have est : stV none = -1 := rfl
          rw [est]
          go_wp2_with fail
          refine (class_any x _).mono ?_
          rintro e w2 ⟨rfl, rfl⟩
          rw [h4]
          go_wp2_with fail
          go_roundg (T.size - j - 1)
          case measure => have := Hj.out; omega
          case rel => exact ⟨j + 1, some j, ws, by first | rfl | go_num, by have := Hj.out; omega, rfl, ⟨HE.out, HP.out.o, HP.out.b, by have := HP.out.n; omega, fun a e => by injection e with e; omega⟩⟩
        | some a =>
          have est : stV (some a) = (a : Int) := rfl
          rw [est]
          go_wp2_with fail
          refine (class_any x _).mono ?_
          rintro e w2 ⟨rfl, rfl⟩
          rw [h4]
          go_wp2_with fail
          go_roundg (T.size - j - 1)
          case measure => have := Hj.out; omega
          case rel => exact ⟨j + 1, some a, ws, by first | rfl | go_num, by have := Hj.out; omega, rfl, ⟨HE.out, HP.out.o, HP.out.b, by have := HP.out.n; omega, fun b e => by have := HP.out.s b e; omega⟩⟩
      · have HE := Lib.hid he
        clear he
        cases st with
        | none =>
          have est : stV none = -1 := rfl
          rw [est]
          go_wp2_with fail
          refine (class_any x _).mono ?_
          rintro e w2 ⟨rfl, rfl⟩
          rw [h1]
          go_wp2_with fail
          refine (appw_none _ T _ num _).mono ?_
          rintro e w2 ⟨rfl, rfl⟩
          go_wp2_with fail
          go_roundg (T.size - j - 1)
          case measure => have := Hj.out; omega
          case rel => exact ⟨j + 1, none, ws, by first | rfl | go_num, by have := Hj.out; omega, rfl, ⟨HE.out, HP.out.o, HP.out.b, by have := HP.out.n; omega, fun a e => by cases e⟩⟩
        | some a =>
          have est : stV (some a) = (a : Int) := rfl
          rw [est]
          go_wp2_with fail
          refine (class_any x _).mono ?_
          rintro e w2 ⟨rfl, rfl⟩
          rw [h1]
          go_wp2_with fail
          refine (appw_any w'.heap.size _ ws T a j num _ HP.out.o HP.out.b.size (HP.out.s a rfl) (by omega) hT (by have := HP.out.n; omega)).mono ?_
          rintro e w3 ⟨v3, rfl, ho3, hb3⟩
          have HO3 := Lib.hid ho3
          have HB3 := Lib.hid (HP.out.b.trans hb3)
          clear ho3 hb3
          go_wp2_with fail
          go_roundg (T.size - j - 1)
          case measure => have := Hj.out; omega
          case rel => exact ⟨j + 1, none, ws ++ [⟨T.extract a j, num, (a : Int) + 1⟩], by first | rfl | go_num, by have := Hj.out; omega, rfl, ⟨HE.out, HO3.out, HB3.out, by have := HP.out.n; rw [List.length_append]; show _ + 1 ≤ _; omega, fun a e => by cases e⟩⟩
    · obtain rfl : j = T.size := by have := Hj.out; omega
      have hR : R = (ws, st) := by
        have := HP.out.e
        rw [List.drop_eq_nil_of_le (by rw [HL.out]; exact Nat.le_refl _), splF] at this
        injection this with this
        exact this.symm
      subst hR
      cases st with
      | none =>
        have est : stV none = -1 := rfl
        rw [est]
        go_wp2_with fail
        refine (appw_none _ T _ num _).mono ?_
        rintro e w2 ⟨rfl, rfl⟩
        go_wp2_with fail
        go_ret2
        exact ⟨_, rfl, HP.out.o, HP.out.b⟩
      | some a =>
        have est : stV (some a) = (a : Int) := rfl
        rw [est]
        go_wp2_with fail
        refine (appw_any w'.heap.size _ ws T a T.size num _ HP.out.o HP.out.b.size (HP.out.s a rfl) (Nat.le_refl _) hT (by have := HP.out.n; omega)).mono ?_
        rintro e w3 ⟨v3, rfl, ho3, hb3⟩
        have HO3 := Lib.hid ho3
        have HB3 := Lib.hid (HP.out.b.trans hb3)
        clear ho3 hb3
        go_wp2_with fail
        go_ret2
        exact ⟨_, rfl, HO3.out, HB3.out⟩
end Go.Proofs.YtinjdcefagaaeaaGreatDoor
