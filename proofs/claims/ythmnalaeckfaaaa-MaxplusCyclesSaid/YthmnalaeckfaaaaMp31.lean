import Derived.Test.YthmnalaeckfaaaaMpCy2
import Derived.Test.YthmnalaeckfaaaaMp27
namespace Go.Proofs.Ythmnalaeckfaaaa
open Go.RowKit
theorem Turn.trans {b : Nat} {w w1 w2 : World} (h : Turn b w w1) (h' : Turn b w1 w2) : Turn b w w2 := ⟨h'.os.trans h.os, h'.tape.trans h.tape, h'.output.trans h.output, h'.size.trans h.size, fun k hk => (h'.block k hk).trans (h.block k hk)⟩
/-- a matrix below block B -/
structure MxB (n : Nat) (A : Option Addr) (rows : List Row) (p : List (List Int)) (B : Nat) (w : World) : Prop where
  l : rows.length = n
  m : matR rows = p
  r : Rd w B 1 A n (rows.map Row.val)
  c : ∀ x ∈ rows, Rd w B 1 x.A x.zs.length (x.zs.map (Value.int .i64))
theorem MxB.keep {n : Nat} {A : Option Addr} {rows : List Row} {p : List (List Int)} {B : Nat} {w w' : World} (h : MxB n A rows p B w) (hk : ∀ k, k < B → w'.heap[k]? = w.heap[k]?) : MxB n A rows p B w' := ⟨h.l, h.m, h.r.keep hk, fun x hx => (h.c x hx).keep hk⟩
theorem MxB.at {n : Nat} {A : Option Addr} {rows : List Row} {p : List (List Int)} {B : Nat} {w : World} (h : MxB n A rows p B w) (hs : Sq n p) {i : Nat} (hi : i < n) : ∃ b o b' o' c', A = some ⟨b, o, none⟩ ∧ b < B ∧ w.cell? ⟨b, o + i, none⟩ = some (.slice (some ⟨b', o', none⟩) n c') ∧ b' < B ∧ ∀ j, j < n → w.cell? ⟨b', o' + j, none⟩ = some (.int .i64 (gm p i j)) := by
  obtain ⟨rfl, rfl, hr, hc⟩ := h
  have hz := hs.2 rows[i].zs (List.mem_map.2 ⟨rows[i], List.getElem_mem hi, rfl⟩)
  obtain ⟨b, o, rfl, hb, p0⟩ := rd1 hr i hi
  obtain ⟨b', o', e', hb', _⟩ := rd1 (hc rows[i] (List.getElem_mem hi)) 0 (by rw [hz]; omega)
  unfold Row.val at p0
  rw [e', hz] at p0
  refine ⟨b, o, b', o', _, rfl, hb, p0, hb', fun j hj => ?_⟩
  obtain ⟨b2, o2, e2, _, h2⟩ := rd1 (hc rows[i] (List.getElem_mem hi)) j (by rw [hz]; exact hj)
  rw [e'] at e2
  injection e2 with e2
  injection e2 with e3 e4
  subst e3 e4
  rw [h2, gm_row hi (by rw [hz]; exact hj)]
theorem count_mark {S : List Bool} {j : Nat} (hj : j < S.length) (h : S.getD j false = false) : (S.set j true).count false + 1 = S.count false := by
  have h1 : S[j] = false := by simpa [List.getD_eq_getElem?_getD, hj] using h
  have h2 := List.count_set (a := true) (b := false) hj
  have h3 : 0 < S.count false := List.count_pos_iff.2 (by rw [← h1]; exact List.getElem_mem hj)
  simp [h1] at h2
  omega
theorem count_pos {S : List Bool} {j : Nat} (hj : j < S.length) (h : S.getD j false = false) : 0 < S.count false := by
  have h1 : S[j] = false := by simpa [List.getD_eq_getElem?_getD, hj] using h
  exact List.count_pos_iff.2 (by rw [← h1]; exact List.getElem_mem hj)
def WlL (w : World) (base n : Nat) (a : List (List Int)) (fr : Nat) (S : List Bool) (u : Nat) (sum : Int) (m : Nat) (nu0 de0 : Int) (g cs : Nat) (k : Nat) (v6 v7 v : Value) (wr : World) : Prop :=
  ∃ (j : Nat) (nu de : Int), v = .int .i64 j ∧ j + k = n ∧ v6 = .int .i64 nu ∧ v7 = .int .i64 de ∧ SeI n a fr S u sum m nu0 de0 j nu de ∧ wr.ownsRow base 4 1 (.slice (some ⟨g, 0, none⟩) n cs) n (S.map Value.bool) ∧ Turn g w wr
set_option maxRecDepth 100000 in
set_option maxHeartbeats 6400000 in
theorem walk_any (A : Option Addr) (n ca g cs B base fr : Nat) (ra : List Row) (a : List (List Int)) (hn : 1 ≤ n ∧ n ≤ 4) (hs : Sq n a) (hE : ∀ i j, i < n → j < n → SmE (gm a i j)) (hb : Go.Proofs.Ythmnalaeckfaaaa.Bd 29 a n) (hB : B ≤ g) (hfr : fr < n) :
    ∀ (d : Nat) (S : List Bool) (u m : Nat) (sum nu0 de0 : Int) (w : World), S.length = n → S.getD fr false = false → S.count false = d → m + d = n → u < n → Back n a fr u sum m → Gen n a nu0 de0 → MxB n A ra a B w → w.ownsRow base 4 1 (.slice (some ⟨g, 0, none⟩) n cs) n (S.map Value.bool) →
    Calls Try.prog 15 #[.slice A n ca, .int .i64 fr, .int .i64 u, .int .i64 sum, .int .i64 m, .slice (some ⟨g, 0, none⟩) n cs, .int .i64 nu0, .int .i64 de0] w fun e w' => ∃ nu de, e = .returned (.tuple #[.int .i64 nu, .int .i64 de]) ∧ SeI n a fr S u sum m nu0 de0 n nu de ∧ w'.ownsRow base 4 1 (.slice (some ⟨g, 0, none⟩) n cs) n (S.map Value.bool) ∧ Turn g w w' := by
  obtain ⟨hn1, hn2⟩ := hn
  have HSq := Lib.hid hs
  have HEn := Lib.hid hE
  have HE2 := Lib.hid (show ∀ i j, i < n → j < n → gm a i j ≠ -1125899906842624 → -10 ≤ gm a i j ∧ gm a i j ≤ 29 from fun i j hi hj hne => (hE i j hi hj).resolve_left hne)
  have HBd := Lib.hid hb
  clear hs hE hb
  intro d
  induction d with
  | zero =>
    intro S u m sum nu0 de0 w hl hf hc
    exact absurd hc (by have := count_pos (by omega) hf; omega)
  | succ d ih =>
    intro S u m sum nu0 de0 w hl hf hc hm hu hback hg hA hO
    have IH := Lib.hid ih
    have HSl := Lib.hid hl
    have HSf := Lib.hid hf
    have HSc := Lib.hid hc
    have HBack := Lib.hid hback
    have HG := Lib.hid hg
    have HA := Lib.hid hA
    have HO := Lib.hid hO
    have hbd := hback.bd HE2.out
    obtain ⟨hs0, hs1⟩ := hbd
    clear ih hl hf hc hback hg hA hO
    go_enter Try.func15, Try.ntmps15
    go_wp2_with fail
    go_loopg [6, 7, 18, 19, 22] n (fun k v6 v7 _ _ v wr => WlL w base n a fr S u sum m nu0 de0 g cs k v6 v7 v wr)
    case atStart => exact ⟨0, nu0, de0, rfl, by omega, rfl, rfl, SeI.start HG.out, HO.out, Turn.refl _ _⟩
    case round =>
      clear HO
      obtain ⟨j, nu, de, rfl, hj, rfl, rfl, hse, ho, ht⟩ := hrel
      have Hj := Lib.hid hj
      have HSe := Lib.hid hse
      have HO := Lib.hid ho
      have HT := Lib.hid ht
      have hgd := hse.gen.d
      obtain ⟨hd0, hdn, hnu0, hnu1⟩ := hgd
      clear hj hse ho ht
      by_cases hlt : j < n
      · have HAr := Lib.hid (HA.out.keep (w' := wr) (fun k hk => HT.out.block k (by omega)))
        obtain ⟨b, o, b', o', c', rfl, hbB, p0, hbB', p1⟩ := HAr.out.at HSq.out hlt
        have p2 := p1 u hu
        have hen := HEn.out j u hlt hu
        clear p1
        have hjs : j < S.length := by rw [HSl.out]; exact hlt
        have q0 := own1 HO.out j hjs
        have q1 := HO.out.frozenAt j
        have hgl := (own_block HO.out g rfl).2
        have HSj := Lib.hid (show S[j] = S.getD j false by simp [List.getD_eq_getElem?_getD, hjs])
        rw [HSj.out] at q0
        have HW := Lib.hid (show ∃ x, x = gm a j u from ⟨_, rfl⟩)
        obtain ⟨x, hx⟩ := HW.out
        have HX := Lib.hid hx
        rw [← hx] at p2 hen
        clear HW hx
        by_cases hw : x = -1125899906842624
        · have HSk := Lib.hid (HSe.out.skip (.inl (by rw [← HX.out]; exact hw)))
          subst hw
          go_wp2_with fail
          go_roundg (n - j - 1)
          case measure => have := Hj.out; omega
          case rel => exact ⟨j + 1, _, _, by first | rfl | go_num, by omega, rfl, rfl, HSk.out, HO.out, HT.out⟩
        have hw' : (x == -1125899906842624) = false := by simpa using hw
        have hxb := hen.resolve_left hw
        obtain ⟨hx0, hx1⟩ := hxb
        clear hen
        by_cases hjf : j < fr
        · have HSk := Lib.hid (HSe.out.skip (.inr (.inl hjf)))
          have hjf' : decide ((j : Int) < (fr : Int)) = true := by simp; omega
          go_wp2_with fail
          go_roundg (n - j - 1)
          case measure => have := Hj.out; omega
          case rel => exact ⟨j + 1, _, _, by first | rfl | go_num, by omega, rfl, rfl, HSk.out, HO.out, HT.out⟩
        have hjf' : decide ((j : Int) < (fr : Int)) = false := by simp; omega
        by_cases hje : j = fr
        · subst hje
          have hsf : S.getD j false = false := HSf.out
          rw [hsf] at q0
          have hne : ((j : Int) != (j : Int)) = false := by simp
          have heq : ((j : Int) == (j : Int)) = true := by simp
          have hmd : (m : Int) + 1 ≤ 4 := by omega
          have hp1 : -160 * 4 ≤ (sum + x) * de ∧ (sum + x) * de ≤ 145 * 4 := by
            have e1 : (sum + x) * de ≤ 145 * de := Int.mul_le_mul_of_nonneg_right (by omega) hd0
            have e2 : -160 * de ≤ (sum + x) * de := Int.mul_le_mul_of_nonneg_right (by omega) hd0
            omega
          have hp2 : -40 * 4 ≤ nu * ((m : Int) + 1) ∧ nu * ((m : Int) + 1) ≤ 116 * 4 := by
            have e1 : nu * ((m : Int) + 1) ≤ 116 * ((m : Int) + 1) := Int.mul_le_mul_of_nonneg_right (by omega) (by omega)
            have e2 : -40 * ((m : Int) + 1) ≤ nu * ((m : Int) + 1) := Int.mul_le_mul_of_nonneg_right (by omega) (by omega)
            omega
          obtain ⟨hp10, hp11⟩ := hp1
          obtain ⟨hp20, hp21⟩ := hp2
          have HGn := Lib.hid (show Gen n a (sum + x) ((m : Int) + 1) by
            have h1 := HBack.out.cons hlt (by rw [← HX.out]; exact hw)
            have h2 := h1.gen HBd.out HE2.out (by omega) (by omega)
            rw [← HX.out] at h2
            exact h2)
          by_cases hup : de = 0 ∨ nu * ((m : Int) + 1) < (sum + x) * de
          · have HC := Lib.hid (show SeI n a j S u sum m nu0 de0 (j + 1) (sum + x) ((m : Int) + 1) by
              have h := HSe.out.close (by rw [← HX.out]; exact HGn.out) (by rw [← HX.out]; exact hup)
              rw [← HX.out] at h
              exact h)
            by_cases hd : de = 0
            · have hd' : (de == 0) = true := by simpa using hd
              clear hup
              go_wp2_with fail
              go_roundg (n - j - 1)
              case measure => have := Hj.out; omega
              case rel => exact ⟨j + 1, _, _, by first | rfl | go_num, by omega, rfl, rfl, HC.out, HO.out, HT.out⟩
            · have hd' : (de == 0) = false := by simpa using hd
              have hgt' : decide (nu * ((m : Int) + 1) < (sum + x) * de) = true := by simpa using hup.resolve_left hd
              clear hup
              go_wp2_with fail
              go_roundg (n - j - 1)
              case measure => have := Hj.out; omega
              case rel => exact ⟨j + 1, _, _, by first | rfl | go_num, by omega, rfl, rfl, HC.out, HO.out, HT.out⟩
          · have HC := Lib.hid (show SeI n a j S u sum m nu0 de0 (j + 1) nu de from HSe.out.leave (by rw [← HX.out]; exact hup))
            have hd' : (de == 0) = false := by simp; exact fun h => hup (.inl h)
            have hgt' : decide (nu * ((m : Int) + 1) < (sum + x) * de) = false := by simp; have : ¬ nu * ((m : Int) + 1) < (sum + x) * de := fun h => hup (.inr h); omega
            clear hup
            go_wp2_with fail
            go_roundg (n - j - 1)
            case measure => have := Hj.out; omega
            case rel => exact ⟨j + 1, _, _, by first | rfl | go_num, by omega, rfl, rfl, HC.out, HO.out, HT.out⟩
        have hne : ((j : Int) != (fr : Int)) = true := by simp; omega
        have heq : ((j : Int) == (fr : Int)) = false := by simp; omega
        have hne2 : (j != fr) = true := by simp; omega
        have heq2 : (j == fr) = false := by simp; omega
        cases hsj : S.getD j false
        · rw [hsj] at q0
          have HO6 := Lib.hid (own1_set HO.out j true)
          have HT6 := Lib.hid (HT.out.trans (Turn.set g j wr (.bool true)))
          have hcm := count_mark hjs hsj
          have hA6 := HA.out.keep (w' := wr.setCell ⟨g, j, none⟩ (.bool true)) (fun k hk => HT6.out.block k (by omega))
          have hcall := IH.out (S.set j true) j (m + 1) (sum + gm a j u) nu de (wr.setCell ⟨g, j, none⟩ (.bool true)) (by simp [HSl.out]) (by
            have h := HSf.out
            simp only [List.getD_eq_getElem?_getD] at h ⊢
            rw [List.getElem?_set_ne (by omega)]
            exact h) (by have := HSc.out; omega) (by omega) hlt (HBack.out.cons hlt (by rw [← HX.out]; exact hw)) HSe.out.gen hA6 HO6.out
          have hback : (S.set j true).set j false = S := by
            rw [List.set_set]
            have : S[j] = false := by rw [HSj.out, hsj]
            rw [← this]
            exact List.set_getElem_self _
          have HSj2 := Lib.hid hback
          rw [← HX.out, show ((m + 1 : Nat) : Int) = (m : Int) + 1 by omega] at hcall
          have HCall := Lib.hid hcall
          clear hcall hcm hback hA6
          go_wp2_with fail
          refine HCall.out.mono ?_
          rintro e w8 ⟨nu', de', rfl, hse', ho', ht'⟩
          have HC := Lib.hid (show SeI n a fr S u sum m nu0 de0 (j + 1) nu' de' from HSe.out.into (by omega) (by rw [← HX.out]; exact hse') hfr)
          have hs8 : j < (S.set j true).length := by simp; exact hjs
          have q0 := own1 ho' j hs8
          have q1 := ho'.frozenAt j
          have hgl := (own_block ho' g rfl).2
          have HO9 := Lib.hid (own1_set ho' j false)
          rw [HSj2.out] at HO9
          have HT9 := Lib.hid ((HT6.out.trans ht').trans (Turn.set g j w8 (.bool false)))
          generalize ((S.set j true)[j]'hs8) = sb at *
          clear hse' ho' ht' hs8
          go_wp2_with fail
          go_roundg (n - j - 1)
          case measure => have := Hj.out; omega
          case rel => exact ⟨j + 1, nu', de', by first | rfl | go_num, by omega, rfl, rfl, HC.out, HO9.out, HT9.out⟩
        · rw [hsj] at q0
          have HSk := Lib.hid (HSe.out.skip (.inr (.inr ⟨hsj, hje⟩)))
          go_wp2_with fail
          go_roundg (n - j - 1)
          case measure => have := Hj.out; omega
          case rel => exact ⟨j + 1, _, _, by first | rfl | go_num, by omega, rfl, rfl, HSk.out, HO.out, HT.out⟩
      · obtain rfl : n = j := by have := Hj.out; omega
        go_wp2_with fail
        go_ret2
        exact ⟨nu, de, rfl, HSe.out, HO.out, HT.out⟩
end Go.Proofs.Ythmnalaeckfaaaa
