import Derived.Test.YtffgnfefejimnaaYe2
import Derived.Test.YtffgnfefejimnaaYdLaw2
namespace Go.Proofs.Ytffgnfefejimnaa
open Go.RowKit
def UnL (w : World) (T : List Tk) (M : List Mv) (P : List Int) (us : List Nat) (bg : Nat) (k : Nat) (v10 v : Value) (wr : World) : Prop :=
  ∃ (i : Nat) (s : Yst) (K : List Int) (G : List Bool), v = .int .i64 i ∧ i + k = M.length ∧ InvY s K (fun j => G.getD j false) ∧ s.on.length = T.length ∧ K.length ≤ i ∧ G.length = 24 ∧ (∀ j, K.length ≤ j → G.getD j false = false) ∧ replY T (M.drop i) (P.drop i) s = some (us.drop i) ∧
    wr.ownsRow (w.heap.size + 1) 3 1 v10 K.length (K.map (Value.int .i64)) ∧ Blk wr bg 39 (G.map Value.bool).toArray ∧ Below w.heap.size w wr

set_option maxRecDepth 100000 in
set_option maxHeartbeats 3200000 in
theorem units_true (A0 : Option Addr) (n0 c0 : Nat) (z0 : List Int) (w : World) (h0 : Rd w w.heap.size 1 A0 n0 (z0.map (Value.int .i64))) (m0 : n0 ≤ c0 ∧ c0 ≤ maxLen ∧ c0 * 8 ≤ 140737488351232) :
    Calls Try.prog 6 #[.slice A0 n0 c0] w fun e w' => e = .returned (.bool true) ∧ Below w.heap.size w w' := by
  have H0 := Lib.hid h0
  have hm0 : n0 ≤ maxLen := by omega
  have M0 := Lib.hid hm0
  clear h0 m0 hm0
  obtain ⟨i0, b1, b2, b3, b4⟩ := info_parts infoInt
  have HI := Lib.hid (And.intro b1 (And.intro b2 (And.intro b3 b4)))
  clear b1 b2 b3 b4
  go_enter Try.func6, Try.ntmps6
  go_wp2_with fail
  refine (yard_any A0 n0 c0 z0 w H0.out M0.out).mono ?_
  rintro e w1 ⟨A, B, cA, cB, T, M, rfl, h1, h3, h7, hT, hM, hoT, hoM, hb1⟩
  have HTr := Lib.hid (Rd.of_own hoT)
  have HMr := Lib.hid (Rd.of_own hoM)
  have HT := Lib.hid hT
  have HMv := Lib.hid hM
  have HB1 := Lib.hid hb1
  clear hT hM hoT hoM hb1
  have HCk := Lib.hid (chk_of h1 (by omega) (fun t ht => by have := HT.out t ht; unfold YgT at this; omega) (by omega) HMv.out)
  go_wp2_with fail
  have hrep := plan_repl (T := T) (M := M) (b := 1048576)
  have hf1 := plan_full HCk.out (by omega) h7
  obtain ⟨⟨l1, u1, r1⟩, hp1⟩ : ∃ r, planF T M 1048576 = r := ⟨_, rfl⟩
  rw [hp1] at hf1 hrep
  simp only at hf1 hrep
  refine (plan_at hp1 (trd HTr.out (by omega)) (mrd HMr.out (by omega)) rfl rfl).mono ?_
  rintro e w2 ⟨A2, c2, rfl, hb2, ho2, _⟩
  have HB2 := Lib.hid (HB1.out.trans (hb2.mono HB1.out.size))
  have HTr2 := Lib.hid ((HTr.out.grow hb2).more hb2.size)
  have HMr2 := Lib.hid ((HMr.out.grow hb2).more hb2.size)
  have HP2 := Lib.hid (ints_of_nats ho2)
  clear hb2 hp1 ho2
  rcases hf1 with ⟨rfl, _⟩ | ⟨rfl, _⟩
  case inr =>
    clear hrep
    go_wp2_with fail
    refine (awake_any w2).mono ?_
    rintro e w3 ⟨rfl, hb3⟩
    have HB3 := Lib.hid (HB2.out.trans (hb3.mono HB2.out.size))
    clear hb3
    go_wp2_with fail
    go_ret
    exact ⟨rfl, HB3.out⟩
  obtain ⟨us, hr1, hr2, hr3, hr4⟩ := hrep rfl
  have hb : ∀ p ∈ l1.map (fun x : Nat => (x : Int)), -9223372036854775808 ≤ p ∧ p ≤ 9223372036854775807 := fun p hp => by
    have := repl_rng M _ _ _ hr3 (by simp [hr4]) p hp
    omega
  have HR1 := Lib.hid hr1
  have HR3 := Lib.hid hr3
  have HR4 := Lib.hid hr4
  have HPb := Lib.hid hb
  clear hrep hr1 hr3 hb
  go_wp2_with fail
  refine (replay_at (P := l1.map (fun x : Nat => (x : Int))) HR1.out (trd HTr2.out (by omega)) (mrd HMr2.out (by omega)) (by have h := HP2.out; simpa using h) (by simp; omega) HPb.out rfl rfl (by simp; exact HR4.out)).mono ?_
  rintro e w3 ⟨A3, c3, rfl, hb3, ho3⟩
  have HB3 := Lib.hid (HB2.out.trans (hb3.mono HB2.out.size))
  have HMr3 := Lib.hid ((HMr2.out.grow hb3).more hb3.size)
  have HU3 := Lib.hid ho3
  have Hul := Lib.hid hr2
  clear hb3 ho3 hr4 hr2
  rw [Hul.out]
  go_upto_region 10 with fail
  have HB4 := Lib.hid (show Below w3.heap.size w3 (w3.alloc (.cells #[.bool false, .bool false, .bool false, .bool false, .bool false, .bool false, .bool false, .bool false, .bool false, .bool false, .bool false, .bool false, .bool false, .bool false, .bool false, .bool false, .bool false, .bool false, .bool false, .bool false, .bool false, .bool false, .bool false, .bool false] 39)) from Below.alloc (Below.refl _ _) (Nat.le_refl _) _)
  have HG4 := Lib.hid (show Blk (w3.alloc (.cells #[.bool false, .bool false, .bool false, .bool false, .bool false, .bool false, .bool false, .bool false, .bool false, .bool false, .bool false, .bool false, .bool false, .bool false, .bool false, .bool false, .bool false, .bool false, .bool false, .bool false, .bool false, .bool false, .bool false, .bool false] 39)) w3.heap.size 39 ((List.replicate 24 false).map Value.bool).toArray from Blk.new w3 _ _)
  have HMr4 := Lib.hid HMr3.out
  have HU4 := Lib.hid (ints_of_nats HU3.out)
  have hs34 : w.heap.size ≤ w3.heap.size := HB3.out.size
  generalize w3.alloc (.cells #[.bool false, .bool false, .bool false, .bool false, .bool false, .bool false, .bool false, .bool false, .bool false, .bool false, .bool false, .bool false, .bool false, .bool false, .bool false, .bool false, .bool false, .bool false, .bool false, .bool false, .bool false, .bool false, .bool false, .bool false] 39) = w4 at *
  clear HMr3 HU3
  go_wp2_with fail
  go_loopg [10, 51] M.length (fun k v10 v wr => UnL w3 T M (l1.map (fun x : Nat => (x : Int))) us w3.heap.size k v10 v wr)
  case atStart => exact ⟨0, begY T, [], List.replicate 24 false, rfl, by omega, inv_beg T _, by simp [begY], by simp, by simp, fun j _ => rep24 j, by simpa using HR3.out, World.ownsRow_nil _ _ _ _, HG4.out, HB4.out⟩
  case round =>
    clear HB4 HG4
    obtain ⟨i, s, K, G, rfl, hi, hinv, hsl, hKi, hGl, hGz, hrp, hk, hg, hb⟩ := hrel
    have Hi := Lib.hid hi
    have HInv := Lib.hid hinv
    have HSl := Lib.hid hsl
    have HGl := Lib.hid hGl
    have HGz := Lib.hid hGz
    have HRp := Lib.hid hrp
    have HG := Lib.hid hg
    have HB := Lib.hid hb
    have HKo := Lib.hid hk
    obtain ⟨AK, cK, rfl, _, _⟩ := own_slice hk
    have hgl := hg.lt
    clear hi hinv hsl hGl hGz hrp hg hb hk
    have HMr5 := Lib.hid (HMr4.out.grow HB.out)
    have HU5 := Lib.hid (HU4.out.grow HB.out)
    have hsr := HB.out.size
    by_cases hlt : i < M.length
    case neg =>
      go_wp2_with fail
      refine (awake_any _).mono ?_
      rintro e w5 ⟨rfl, hb5⟩
      have HB5 := Lib.hid (HB3.out.trans ((HB.out.trans (hb5.mono hsr)).mono hs34))
      clear hb5
      go_wp2_with fail
      go_ret
      exact ⟨rfl, HB5.out⟩
    obtain ⟨k, hk⟩ : ∃ k, k = M.length - i - 1 := ⟨_, rfl⟩
    have Hk := Lib.hid hk
    clear hk
    obtain ⟨mb, mo, rfl, hmb, m0, m1, m2⟩ := rdMv HMr5.out rfl i hlt
    have hui : i < us.length := by rw [Hul.out]; exact hlt
    have hu5 := HU5.out
    rw [Hul.out] at hu5
    obtain ⟨ub, uo, rfl, hub, q0⟩ := rd1 hu5 i (by simp [Hul.out]; exact hlt)
    have hli : i < l1.length := by rw [HR4.out]; exact hlt
    have hrp := HRp.out
    rw [List.drop_eq_getElem_cons hlt, List.drop_eq_getElem_cons (l := l1.map (fun x : Nat => (x : Int))) (by simpa using hli), List.drop_eq_getElem_cons hui] at hrp
    obtain ⟨u, s', ha, htl, hun, hrest⟩ := repl_step hrp
    simp only [List.getElem_map] at q0
    rw [hun] at q0
    have HRest := Lib.hid hrest
    have HA := Lib.hid ha
    have HTl := Lib.hid htl
    have HMi := Lib.hid (HMv.out M[i] (List.getElem_mem hlt))
    have hmbl := Nat.lt_of_lt_of_le hmb hsr
    have hubl := Nat.lt_of_lt_of_le hub hsr
    clear hrp ha htl hun hrest hu5
    have HKl := Lib.hid (show K.length ≤ 7 by omega)
    generalize hkn : K.length = nk at *
    have Hkn := Lib.hid hkn
    clear hkn
    cases hin : M[i].inn with
    | true =>
      obtain ⟨hun, hinv⟩ := inv_in hin (by rw [HSl.out]; exact HTl.out) HInv.out (HGz.out _ (by rw [Hkn.out]; exact Nat.le_refl _)) HA.out
      rw [hun, Hkn.out] at q0
      rw [hin] at m0
      have HInv2 := Lib.hid hinv
      clear hun hinv hin
      go_upto_region 16 with fail
      have hbb : Below wr.heap.size wr ((wr.alloc (.cells #[.bool true, .int .i64 M[i].kind, .int .i64 M[i].ln] 41)).alloc (.cells #[.int .i64 M[i].kind] 3)) := Below.alloc (Below.alloc (Below.refl _ _) (Nat.le_refl _) _) (by simp) _
      have HKb := Lib.hid (own_grow HKo.out hbb)
      have HGb := Lib.hid (HG.out.bel hbb)
      have hrow : ∀ k, (Value.slice AK nk cK).ownBlock = some k → w3.heap.size + 1 ≤ k := fun k e => (own_block HKo.out k e).1
      go_wp2_with (at_builtin; refine wpList_append_any rfl _ _ 22 rfl (w3.heap.size + 1) 3 i0 _ 1 8 Try.underlying22 HI.out.1 HI.out.2.1 HI.out.2.2.1 HI.out.2.2.2 rfl (by omega) _ nk _ rfl HKb.out (some ⟨wr.heap.size + 1, 0, none⟩) 1 1 ((wr.alloc (.cells #[.bool true, .int .i64 M[i].kind, .int .i64 M[i].ln] 41)).alloc (.cells #[.int .i64 M[i].kind] 3)).heap.size [.int .i64 M[i].kind] rfl (fun e => by cases e) (by simpa using Rd.blk1 (cs := [.int .i64 M[i].kind]) (n := 1) (sz := 1) (Blk.new (wr.alloc (.cells #[.bool true, .int .i64 M[i].kind, .int .i64 M[i].ln] 41)) 3 _) rfl) (by intro u hu; simp at hu; subst hu; rfl) (by have := HKl.out; simp only [maxLen]; omega) (by have := HKl.out; omega) (by simp; omega) ?_; intro va wa hoa hga _)
      have HGa := Lib.hid (HGb.out.same (hga.block _ HGb.out.lt (fun e => by have := hrow _ e.symm; omega)))
      have HBa := Lib.hid ((HB.out.trans (hbb.mono hsr)).grown hga (by simp; omega) (fun k e => by have := hrow k e; omega))
      have HOa := Lib.hid (show wa.ownsRow (w3.heap.size + 1) 3 1 va (K ++ [M[i].kind]).length ((K ++ [M[i].kind]).map (Value.int .i64)) by rw [List.map_append, List.length_append, Hkn.out]; exact hoa)
      clear hoa hga hrow hbb HKb HGb m0 m1 m2 q0
      go_roundg k
      case measure => have := Hk.out; have := Hi.out; omega
      case rel => exact ⟨i + 1, s', K ++ [M[i].kind], G, by first | rfl | go_num, by have := Hk.out; omega, HInv2.out, by rw [act_len HA.out]; exact HSl.out, by have := Hkn.out; simp only [List.length_append, List.length_cons, List.length_nil]; omega, HGl.out, fun j hj => HGz.out j (by have := Hkn.out; simp at hj; omega), HRest.out, HOa.out, HGa.out, HBa.out⟩
    | false =>
      have hio := inv_out (G' := fun j => (G.set u.num true).getD j false) hin (by rw [HSl.out]; exact HTl.out) HInv.out HA.out (fun j hj => by simp only [List.getD_eq_getElem?_getD]; rw [List.getElem?_set_ne (fun e => hj e.symm)])
      obtain ⟨hk1, hg1, hinv⟩ := hio
      obtain ⟨hnl, hk2⟩ := List.getElem?_eq_some_iff.1 hk1
      have hn24 : u.num < 24 := by rw [Hkn.out] at hnl; have := HKl.out; omega
      have hnk : u.num < nk := by rw [← Hkn.out]; exact hnl
      have HInv2 := Lib.hid hinv
      rw [hin] at m0
      obtain ⟨gk2, rfl, hgk2, hgk3⟩ : ∃ g, AK = some ⟨g, 0, none⟩ ∧ w3.heap.size + 1 ≤ g ∧ g < wr.heap.size := by
        obtain ⟨g, cap, e, h1, h2⟩ := HKo.out.form (by omega)
        injection e with e
        exact ⟨g, e, h1, h2⟩
      have q1 := own1 HKo.out u.num hnl
      rw [hk2] at q1
      have q2 := HG.out.cell u.num
      have hG24 : u.num < G.length := by rw [HGl.out]; exact hn24
      rw [List.getElem?_toArray, List.getElem?_map, List.getElem?_eq_getElem hG24] at q2
      have hgv : G[u.num] = false := by simpa [List.getD_eq_getElem?_getD, hG24] using hg1
      simp only [hgv, Option.map_some] at q2
      have f2 := HG.out.frozen u.num
      have HGs := Lib.hid (HG.out.set_ u.num (.bool true))
      generalize u.num = un at *
      clear hk1 hg1 hk2 hinv hin hgv
      have i0' : (0 : Int) ≤ (un : Int) := by omega
      have i1 : (un : Int) < (nk : Int) := by omega
      have i2 : (un : Int) < 24 := by omega
      go_upto_region 17 with fail
      go_quiet (fail)
      go_upto_region 19 with fail
      have hbb : Below wr.heap.size wr ((wr.alloc (.cells #[.bool false, .int .i64 M[i].kind, .int .i64 M[i].ln] 41)).drewN nq) := (by repeat (first | exact Below.refl _ _ | (with_reducible refine Below.drew ?_) | (with_reducible refine below_drewN ?_ _) | (with_reducible refine Below.alloc ?_ (by first | omega | (simp; done) | (simp; omega)) _) | (with_reducible refine Below.setCell ?_ (by first | omega | (simp; done) | (simp; omega)) _) | (refine Below.trans ?_ (Below.mono (by with_reducible assumption) (by first | omega | (simp; done) | (simp; omega))))))
      have HKb := Lib.hid (own_far (p := ⟨w3.heap.size, un, none⟩) (u := .bool true) (own_grow HKo.out hbb) (by simp [Value.ownBlock]; omega))
      have HGb := Lib.hid ((HG.out.bel hbb).set_ un (.bool true))
      have HBb := Lib.hid ((HB.out.trans (hbb.mono hsr)).setCell (show w3.heap.size ≤ (⟨w3.heap.size, un, none⟩ : Addr).block from Nat.le_refl _) (.bool true))
      have HGc := Lib.hid (show Blk (((wr.alloc (.cells #[.bool false, .int .i64 M[i].kind, .int .i64 M[i].ln] 41)).drewN nq).setCell ⟨w3.heap.size, un, none⟩ (.bool true)) w3.heap.size 39 ((G.set un true).map Value.bool).toArray by
        have h := HGb.out
        rw [List.map_set]
        simpa using h)
      go_wp2_with fail
      go_roundg k
      case measure => have := Hk.out; have := Hi.out; omega
      case rel => exact ⟨i + 1, s', K, G.set un true, by first | rfl | go_num, by have := Hk.out; omega, HInv2.out, by rw [act_len HA.out]; exact HSl.out, by have := Hkn.out; omega, by simp [HGl.out], fun j hj => by
        have := Hkn.out
        have h := HGz.out j (by omega)
        rw [List.getD_eq_getElem?_getD] at h ⊢
        rw [List.getElem?_set_ne (by omega)]
        exact h, HRest.out, by rw [Hkn.out]; exact HKb.out, HGc.out, HBb.out⟩
end Go.Proofs.Ytffgnfefejimnaa
