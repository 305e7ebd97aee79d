import Derived.Test.YthmnalaeckfaaaaMx2
import Derived.Test.YthmnalaeckfaaaaMp31
namespace Go.Proofs.Ythmnalaeckfaaaa
open Go.RowKit
theorem MxB.mrd {n : Nat} {A : Option Addr} {rows : List Row} {p : List (List Int)} {B : Nat} {w : World} (h : MxB n A rows p B w) (hs : Sq n p) (hn : n ≤ 12) (hB : B ≤ w.heap.size) : MRd w A rows := by
  obtain ⟨rfl, rfl, hr, hc⟩ := h
  refine ⟨hr.more hB, fun x hx => ⟨(hc x hx).more hB, ?_⟩, by omega⟩
  have := hs.2 x.zs (List.mem_map.2 ⟨x, hx, rfl⟩)
  omega
theorem low_terms {x y : Int} (h : Nat.gcd x.natAbs y.natAbs = 1) {k : Nat} (hk : 2 ≤ k) : ¬ (y.tmod k = 0 ∧ x.tmod k = 0) := by
  rintro ⟨h1, h2⟩
  have d1 : (k : Int) ∣ y := Int.dvd_of_tmod_eq_zero h1
  have d2 : (k : Int) ∣ x := Int.dvd_of_tmod_eq_zero h2
  have d3 := Nat.dvd_gcd (Int.ofNat_dvd_left.1 d2) (Int.ofNat_dvd_left.1 d1)
  rw [h] at d3
  have := Nat.le_of_dvd (by omega) d3
  omega
def CyL (w : World) (n B : Nat) (A : Option Addr) (ra : List Row) (P : List (List Int)) (k : Nat) (v6 v7 v : Value) (wr : World) : Prop :=
  ∃ (i : Nat) (nu de : Int), v = .int .i64 i ∧ i + k = n ∧ v6 = .int .i64 nu ∧ v7 = .int .i64 de ∧ Gen n P nu de ∧ (∀ fr, fr < i → ∀ js u, Ext n P fr (List.replicate n false) fr js u → Lef u ((js.length : Int) + 1) nu de) ∧ MxB n A ra P B wr ∧ B ≤ wr.heap.size ∧ Below w.heap.size w wr
def KdL (w5 : World) (Y : Nat) (k : Nat) (v : Value) (wr : World) : Prop := ∃ i : Nat, v = .int .i64 i ∧ 2 ≤ i ∧ i + k = Y + 2 ∧ wr = w5
set_option maxRecDepth 100000 in
set_option maxHeartbeats 6400000 in
theorem cycles_true (a0 : Int) (A1 : Option Addr) (n1 c1 : Nat) (z1 : List Int) (w : World) (_w0 : (Lit.int .i64 a0).wf = true) (h1 : Rd w w.heap.size 1 A1 n1 (z1.map (Value.int .i64))) (m1 : n1 ≤ c1 ∧ c1 ≤ maxLen ∧ c1 * 8 ≤ 140737488351232) :
    Calls Try.prog 3 #[.int .i64 a0, .slice A1 n1 c1] w fun e w' => e = .returned (.bool true) ∧ Below w.heap.size w w' := by
  have I1 := Lib.hid h1
  have Hm1 := Lib.hid (show n1 ≤ maxLen by omega)
  clear h1 m1
  obtain ⟨b0, a1, a2, a3, a4⟩ := info_parts infoBool
  have HIb := Lib.hid (And.intro a1 (And.intro a2 (And.intro a3 a4)))
  clear a1 a2 a3 a4
  go_enter Try.func3, Try.ntmps3
  go_wp2_with fail
  refine (pick_any a0 4 w (by omega) (by omega)).mono ?_
  rintro e w1 ⟨rfl, rfl⟩
  have hp := pick_bd a0 4 (by omega) (by omega)
  obtain ⟨n, hn⟩ := Int.eq_ofNat_of_zero_le (show 0 ≤ 1 + pick a0 4 by omega)
  have hnb : 1 ≤ n ∧ n ≤ 4 := by omega
  obtain ⟨hn1, hn2⟩ := hnb
  generalize pick a0 4 = p0 at *
  obtain rfl : p0 = (n : Int) - 1 := by omega
  have hn3 : (1 + ((n : Int) - 1)) = n := by omega
  clear hp hn
  go_wp2_with fail
  try rw [hn3]
  clear hn3
  refine (matrix_any n A1 n1 c1 z1 w ⟨hn1, by omega⟩ I1.out Hm1.out).mono ?_
  rintro e w2 ⟨A, ca, ra, rfl, hl, hsm, ho, hb2⟩
  have HSq := Lib.hid (sm_sq hsm hl)
  have HBd := Lib.hid (sm_bd hsm hl)
  have HEn := Lib.hid (fun i j (hi : i < n) (hj : j < n) => sm_ent hsm hl hi hj)
  have HCk := Lib.hid (sm_chk hsm hl ⟨hn1, by omega⟩)
  have HOk := Lib.hid (grAll_ok (n := n) ((sm_bd hsm hl).mono (by omega)) n (by omega))
  have HMf := Lib.hid (show meanF (matR ra) = meanG (grAll n (matR ra) n) by unfold meanF; rw [if_pos HCk.out, matR_len, hl])
  have hrd := ho.rdn
  have HMB := Lib.hid (show MxB n A ra (matR ra) w2.heap.size w2 from ⟨hl, rfl, by have := hrd.r; rwa [hl] at this, fun x hx => (hrd.c x hx).r⟩)
  have HB := Lib.hid hb2
  have HL := Lib.hid hl
  obtain ⟨B, hBe⟩ : ∃ B, B = w2.heap.size := ⟨_, rfl⟩
  rw [← hBe] at HMB
  have hB2 : B ≤ w2.heap.size := by omega
  clear hl hsm ho hb2 hrd hBe
  go_wp2_with fail
  go_loopg [6, 7, 8, 20] n (fun k v6 v7 _ v wr => CyL w n B A ra (matR ra) k v6 v7 v wr)
  case atStart => exact ⟨0, 0, 0, rfl, by omega, rfl, rfl, .inl ⟨rfl, rfl⟩, fun fr h => absurd h (by omega), HMB.out, hB2, HB.out⟩
  case round =>
    clear HMB HB hB2
    obtain ⟨i, nu, de, rfl, hi, rfl, rfl, hg, hall, hmb, hB, hbl⟩ := hrel
    have Hi := Lib.hid hi
    have HG := Lib.hid hg
    have HAll := Lib.hid hall
    have HMB := Lib.hid hmb
    have HB := Lib.hid hbl
    have hws := hbl.size
    clear hi hg hall hmb hbl
    by_cases hil : i < n
    · go_wp2_with (at_make; refine wpList_make_full _ rfl _ _ 28 rfl w.heap.size 4 b0 _ 1 Try.underlying28 HIb.out.1 HIb.out.2.1 HIb.out.2.2.1 .i64 .i64 _ _ n rfl rfl rfl rfl ?m1 ?m2 ?m3 ?_; rotate_right; intro w7 hown7 hg7)
      case m1 => rw [HIb.out.2.2.2]; omega
      case m2 => simp only [maxLen]; omega
      case m3 => first | omega | simp
      have hb7 : Below wr.heap.size wr w7 := (Below.refl _ _).grown hg7 (Nat.le_refl _) (by simp)
      have HN7 := Lib.hid (show w7.ownsRow w.heap.size 4 1 (.slice (some ⟨wr.heap.size, 0, none⟩) n n) n ((List.replicate n false).map Value.bool) by
        have h := madeCells_one Value.bool false n
        rw [← h]
        simpa [Value.cells] using hown7)
      have HM7 := Lib.hid (HMB.out.keep (w' := w7) (fun k hk => hb7.block k (by omega)))
      have HB7 := Lib.hid (HB.out.trans (hb7.mono hws))
      have hz7 := hb7.size
      have hg7l : wr.heap.size < w7.heap.size := (own_block HN7.out wr.heap.size rfl).2
      have hcall := walk_any A n ca wr.heap.size n B w.heap.size i ra (matR ra) ⟨hn1, hn2⟩ HSq.out HEn.out HBd.out hB hil n (List.replicate n false) i 0 0 nu de w7 (by simp) (rep_false n i) (by simp) (by omega) hil (Back.nil hil) HG.out HM7.out HN7.out
      have HCall := Lib.hid hcall
      clear hown7 hg7 hb7 hcall
      go_wp2_with fail
      refine HCall.out.mono ?_
      rintro e w8 ⟨nu', de', rfl, hse, _, ht⟩
      have HG8 := Lib.hid hse.gen
      have HAll8 := Lib.hid (show ∀ fr, fr < i + 1 → ∀ js u, Ext n (matR ra) fr (List.replicate n false) fr js u → Lef u ((js.length : Int) + 1) nu' de' from fun fr hfr js u hx => by
        by_cases e : fr = i
        · subst e
          have h := hse.ext js u hx (hx.head hil)
          have e1 : (0 : Int) + u = u := by omega
          have e2 : ((0 : Nat) : Int) + (js.length : Int) + 1 = (js.length : Int) + 1 := by simp
          rw [e1, e2] at h
          exact h
        · exact (HAll.out fr (by omega) js u hx).trans hse.le (by omega) HG.out.d.1 hse.gen.d.1)
      have HM8 := Lib.hid (HM7.out.keep (w' := w8) (fun k hk => ht.block k (by omega)))
      have HB8 := Lib.hid (ht.below HB7.out hws)
      have hB8 : B ≤ w8.heap.size := by have := ht.size; omega
      clear hse ht HCall
      go_wp2_with fail
      go_roundg (n - i - 1)
      case measure => have := Hi.out; omega
      case rel => exact ⟨i + 1, nu', de', by first | rfl | go_num, by omega, rfl, rfl, HG8.out, HAll8.out, HM8.out, hB8, HB8.out⟩
    · obtain rfl : n = i := by have := Hi.out; omega
      have hbest := best_mean (by omega) HG.out HAll.out
      have hgd := HG.out.d
      obtain ⟨hd0, hdn, hnu0, hnu1⟩ := hgd
      have hmc := mean_any A ca ra wr (HMB.out.mrd HSq.out (by omega) hB)
      rw [HL.out] at hmc
      go_wp2_with fail
      refine hmc.mono ?_
      rintro e w5 ⟨rfl, hb5⟩
      have HB5 := Lib.hid (HB.out.trans (hb5.mono HB.out.size))
      clear hb5 hmc HB HMB HAll HG
      rcases hbest with ⟨rfl, h0⟩ | ⟨hde, h0, heq⟩
      · rw [show meanF (matR ra) = (0, 0, false) by rw [HMf.out]; unfold meanG; rw [if_pos h0]]
        clear h0
        go_wp2_with fail
        refine (awake_any w5).mono ?_
        rintro e w6 ⟨rfl, hb6⟩
        have HB6 := Lib.hid (HB5.out.trans (hb6.mono HB5.out.size))
        clear hb6
        go_wp2_with fail
        go_ret
        exact ⟨rfl, HB6.out⟩
      · have hmb := meanG_bd HOk.out h0
        obtain ⟨_, _, _, _, _, _, hgcd⟩ := meanG_low (grAll_inv n (matR ra) n).d h0
        rw [← HMf.out] at hmb heq hgcd
        clear h0 HMf HOk
        generalize meanF (matR ra) = mf at *
        obtain ⟨x, y, okb⟩ := mf
        simp only at hmb heq hgcd
        obtain ⟨⟨hx0, hx1⟩, hy0, hy1, rfl⟩ := hmb
        obtain ⟨hp1, hp2⟩ := mulb x de ⟨hx0, hx1⟩ ⟨hd0, by omega⟩
        have HLow := Lib.hid (fun (k : Nat) (hk : 2 ≤ k) => low_terms hgcd hk)
        obtain ⟨Y, rfl⟩ := Int.eq_ofNat_of_zero_le (show 0 ≤ y by omega)
        have hy1' : decide ((Y : Int) < 1) = false := by simp; omega
        have hde' : (de == 0) = false := by simpa using hde
        have heq' : (x * de != nu * (Y : Int)) = false := by simp [heq]
        rw [heq] at hp1 hp2
        have HEq := Lib.hid heq
        clear hgcd
        simp only
        go_wp2_with fail
        go_loopg [12] (Y : Nat) (fun k v wx => KdL w5 Y k v wx)
        case atStart => exact ⟨2, rfl, by omega, by omega, rfl⟩
        case round =>
          obtain ⟨k, rfl, hk2, hk, rfl⟩ := hrel
          have Hk := Lib.hid hk
          clear hk
          by_cases hky : k ≤ Y
          · have hlt := HLow.out k hk2
            have hk0 : ((k : Int) == 0) = false := by simp; omega
            by_cases hm1 : (Y : Int).tmod k = 0
            · have hm2 : ¬ x.tmod k = 0 := fun h => hlt ⟨hm1, h⟩
              go_wp2_with fail
              go_roundg (Y - k + 1)
              case measure => have := Hk.out; omega
              case rel => exact ⟨k + 1, by first | rfl | go_num, by omega, by omega, rfl⟩
            · go_wp2_with fail
              go_roundg (Y - k + 1)
              case measure => have := Hk.out; omega
              case rel => exact ⟨k + 1, by first | rfl | go_num, by omega, by omega, rfl⟩
          · go_wp2_with fail
            refine (awake_any _).mono ?_
            rintro e w6 ⟨rfl, hb6⟩
            have HB6 := Lib.hid (HB5.out.trans (hb6.mono HB5.out.size))
            clear hb6
            go_wp2_with fail
            go_ret
            exact ⟨rfl, HB6.out⟩
end Go.Proofs.Ythmnalaeckfaaaa
