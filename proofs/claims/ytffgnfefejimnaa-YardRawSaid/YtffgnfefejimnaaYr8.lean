import Derived.Test.YtffgnfefejimnaaYr7
namespace Go.Proofs.Ytffgnfefejimnaa
open Go.RowKit
/-- the loop of the reference's Replay: i moves have been made -/
def RrL (T : List Tk) (M : List Mv) (P : List Int) (AT : Option Addr) (cT : Nat) (w : World) (Y : Nat) (k : Nat) (v9 v : Value) (wr : World) : Prop :=
  ∃ (i : Nat) (s : Yst) (us : List Mv) (done : List Nat) (AO AU : Option Addr) (cO cU : Nat) (vs : List Value), v = .int .i64 i ∧ i + k = M.length ∧ done.length = i ∧ YOk T i s ∧ RefOk us s ∧ Blk wr Y 67 #[.slice AT T.length cT, .slice AO T.length cO, .slice AU us.length cU] ∧ RfN (DS Y v9) AO AU cU T us s vs wr ∧
    wr.ownsRow w.heap.size 3 1 v9 done.length (done.map natV) ∧ Below w.heap.size w wr ∧ replY T M P (begY T) = (replY T (M.drop i) (P.drop i) s).map fun l => done ++ l
set_option maxRecDepth 100000 in
set_option maxHeartbeats 6400000 in
theorem rreplay_any (AT AM AP : Option Addr) (cT cM cP : Nat) (T : List Tk) (M : List Mv) (P : List Int) (w : World) (hT : TRd w AT T) (hM : MRd w AM M) (hP : Rd w w.heap.size 1 AP P.length (P.map (Value.int .i64))) (hPn : P.length ≤ 4611686018427387904) :
    Calls Try.prog 20 #[.slice AT T.length cT, .slice AM M.length cM, .slice AP P.length cP] w (RpOut T M P w) := by
  have HT := Lib.hid hT
  have HM := Lib.hid hM
  have HPr := Lib.hid hP
  clear hT hM hP
  obtain ⟨i0, a1, a2, a3, a4⟩ := info_parts infoInt
  have HI := Lib.hid (And.intro a1 (And.intro a2 (And.intro a3 a4)))
  clear a1 a2 a3 a4
  go_enter Try.func20, Try.ntmps20
  go_wp2_with fail
  refine (rcheck_any AT AM cT cM T M w HT.out HM.out).mono ?_
  rintro e w1 ⟨rfl, hb1⟩
  have HB1 := Lib.hid hb1
  have hs1 := hb1.size
  clear hb1
  have hno : ∀ h : ¬ (chkY T M = true ∧ P.length = M.length), replF T M P = ([], false) := fun h => by unfold replF; rw [if_neg h]
  have HNo := Lib.hid hno
  clear hno
  by_cases hck : chkY T M = true
  case neg =>
    have hck' : chkY T M = false := by simpa using hck
    rw [hck']
    go_wp2_with fail
    go_ret2
    unfold RpOut
    rw [HNo.out (fun h => hck h.1)]
    exact ⟨none, 0, rfl, HB1.out, World.ownsRow_nil _ _ _ _⟩
  have hMn := HM.out.n
  by_cases hlen : P.length = M.length
  case neg =>
    have hl' : ((P.length : Int) != (M.length : Int)) = true := by simp; omega
    rw [hck]
    go_wp2_with fail
    go_ret2
    unfold RpOut
    rw [HNo.out (fun h => hlen h.2)]
    exact ⟨none, 0, rfl, HB1.out, World.ownsRow_nil _ _ _ _⟩
  obtain ⟨⟨h1, h8, h24⟩, hTk, hMv⟩ := chkY_iff.1 hck
  have HTk := Lib.hid hTk
  have HMv := Lib.hid hMv
  have HYs := Lib.hid (show ∀ l, replY T M P (begY T) = some l → replF T M P = (l, true) from fun l hl => by unfold replF; rw [if_pos ⟨hck, hlen⟩, hl])
  have HYn := Lib.hid (show replY T M P (begY T) = none → replF T M P = ([], false) from fun hl => by unfold replF; rw [if_pos ⟨hck, hlen⟩, hl])
  rw [hck]
  have hl' : ((P.length : Int) != (M.length : Int)) = false := by simp; omega
  have HLen := Lib.hid hlen
  clear hTk hMv hck HNo hlen
  go_wp2_with fail
  refine (empty_any2 AT cT T w1 (fun _ => False) h1 h8 (fun k hk => hk.elim)).mono ?_
  rintro e w2 ⟨rfl, hr2, hb2⟩
  unfold rfV
  have HB2 := Lib.hid (HB1.out.trans (hb2.mono hs1))
  have hs2 := HB2.out.size
  have HR2 := Lib.hid hr2
  have hb3 : Below w2.heap.size w2 (w2.alloc (.cells #[.slice AT T.length cT, .slice (some ⟨w1.heap.size + 1, 0, none⟩) T.length T.length, .slice none 0 0] 67)) := (by repeat (first | exact Below.refl _ _ | (with_reducible refine Below.drew ?_) | (with_reducible refine below_drewN ?_ _) | (with_reducible refine Below.alloc ?_ (by first | omega | (simp; done) | (simp; omega)) _) | (with_reducible refine Below.setCell ?_ (by first | omega | (simp; done) | (simp; omega)) _) | (refine Below.trans ?_ (Below.mono (by with_reducible assumption) (by first | omega | (simp; done) | (simp; omega))))))
  go_upto_region 4 with fail
  refine world_gen (fun w3 => Below w.heap.size w w3 ∧ Blk w3 w2.heap.size 67 #[.slice AT T.length cT, .slice (some ⟨w1.heap.size + 1, 0, none⟩) T.length T.length, .slice none 0 0] ∧ RfN (DS w2.heap.size (.slice none 0 0)) (some ⟨w1.heap.size + 1, 0, none⟩) none 0 T [] (begY T) (List.replicate T.length (.slice none 0 0)) w3) ⟨HB2.out.trans (hb3.mono hs2), Blk.new w2 _ _, HR2.out.keep (fun k hk _ => hb3.block k hk) hb3.size (fun k hk hd => by rcases hd with rfl | hd; exact absurd hk (Nat.lt_irrefl _); simp [Value.ownBlock] at hd)⟩ ?_
  rintro w3 ⟨hb4, hy4, hr4⟩
  have HB4 := Lib.hid hb4
  have HY4 := Lib.hid hy4
  have HR4 := Lib.hid hr4
  have HYb := Lib.hid hs2
  generalize w2.heap.size = Y at *
  clear hb3 hb4 hy4 hr4 HB2 hs2 HR2 hr2 hb2
  go_wp2_with fail
  go_loopg [9, 30] M.length (fun k v9 v wr => RrL T M P AT cT w Y k v9 v wr)
  case atStart => exact ⟨0, begY T, [], [], _, none, _, 0, _, rfl, by omega, rfl, begY_ok T 0, ref_beg T, HY4.out, HR4.out, World.ownsRow_nil _ _ _ _, HB4.out, by simp⟩
  case round =>
    clear HY4 HR4 HB4
    obtain ⟨i, s, us, done, AO, AU, cO, cU, vs, rfl, hi, hdn, hok, href, hy, hr, ho, hb, hrp⟩ := hrel
    have Hi := Lib.hid hi
    have HDn := Lib.hid hdn
    have HOk := Lib.hid hok
    have HRef := Lib.hid href
    have HY := Lib.hid hy
    have HR := Lib.hid hr
    have HO := Lib.hid ho
    have HB := Lib.hid hb
    have HRp := Lib.hid hrp
    have hsr := hb.size
    obtain ⟨A9, c9, rfl, _, _⟩ := own_slice ho
    clear hi hdn hok href hy hr ho hb hrp
    by_cases hlt : i < M.length
    · obtain ⟨K, hK⟩ : ∃ K, K = M.length - i - 1 := ⟨_, rfl⟩
      have HK := Lib.hid hK
      clear hK
      obtain ⟨mb, mo, rfl, hmb, m0, m1, m2⟩ := rdMv (HM.out.r.grow HB.out) rfl i hlt
      have hpi : i < P.length := by rw [HLen.out]; exact hlt
      obtain ⟨pb, po, rfl, hpb, m3⟩ := rd1 (HPr.out.grow HB.out) i hpi
      have hmbl : mb < wr.heap.size := by omega
      have hpbl : pb < wr.heap.size := by omega
      have HMi := Lib.hid (HMv.out M[i] (List.getElem_mem hlt))
      have HRc := Lib.hid (show replY T (M.drop i) (P.drop i) s = if 0 ≤ P[i] ∧ P[i] < (T.length : Int) then
          match actY T M[i] (P[i]).toNat s with
          | none => none
          | some (u, s') => (replY T (M.drop (i + 1)) (P.drop (i + 1)) s').map fun l => u.num :: l
        else none by rw [List.drop_eq_getElem_cons hlt, List.drop_eq_getElem_cons hpi, replY_cons]; rfl)
      generalize P[i] = x at *
      by_cases hx : 0 ≤ x ∧ x < (T.length : Int)
      case neg =>
        have hrc := HRc.out
        rw [if_neg hx] at hrc
        have hn : replY T M P (begY T) = none := by rw [HRp.out, hrc]; rfl
        have HF := Lib.hid (HYn.out hn)
        clear hrc hn
        by_cases hx0 : x < 0
        · go_wp2_with fail
          go_ret2
          unfold RpOut
          rw [HF.out]
          exact ⟨none, 0, rfl, by have hbb := HB.out; exact (by repeat (first | exact Below.refl _ _ | (with_reducible refine Below.drew ?_) | (with_reducible refine below_drewN ?_ _) | (with_reducible refine Below.alloc ?_ (by first | omega | (simp; done) | (simp; omega)) _) | (with_reducible refine Below.setCell ?_ (by first | omega | (simp; done) | (simp; omega)) _) | (refine Below.trans ?_ (Below.mono (by with_reducible assumption) (by first | omega | (simp; done) | (simp; omega)))))), World.ownsRow_nil _ _ _ _⟩
        · have hx1 : (T.length : Int) ≤ x := by omega
          go_wp2_with fail
          go_ret2
          unfold RpOut
          rw [HF.out]
          exact ⟨none, 0, rfl, by have hbb := HB.out; exact (by repeat (first | exact Below.refl _ _ | (with_reducible refine Below.drew ?_) | (with_reducible refine below_drewN ?_ _) | (with_reducible refine Below.alloc ?_ (by first | omega | (simp; done) | (simp; omega)) _) | (with_reducible refine Below.setCell ?_ (by first | omega | (simp; done) | (simp; omega)) _) | (refine Below.trans ?_ (Below.mono (by with_reducible assumption) (by first | omega | (simp; done) | (simp; omega)))))), World.ownsRow_nil _ _ _ _⟩
      obtain ⟨hx0, hx1⟩ := hx
      obtain ⟨t, rfl⟩ : ∃ t : Nat, x = t := ⟨x.toNat, by omega⟩
      have hrc := HRc.out
      rw [if_pos ⟨hx0, hx1⟩, Int.toNat_natCast] at hrc
      have HRc2 := Lib.hid hrc
      have htl : t < T.length := by omega
      clear hrc HRc
      go_upto_region 10 with fail
      have hbm : Below wr.heap.size wr (wr.alloc (.cells #[.bool M[i].inn, .int .i64 M[i].kind, .int .i64 M[i].ln] 41)) := (by repeat (first | exact Below.refl _ _ | (with_reducible refine Below.drew ?_) | (with_reducible refine below_drewN ?_ _) | (with_reducible refine Below.alloc ?_ (by first | omega | (simp; done) | (simp; omega)) _) | (with_reducible refine Below.setCell ?_ (by first | omega | (simp; done) | (simp; omega)) _) | (refine Below.trans ?_ (Below.mono (by with_reducible assumption) (by first | omega | (simp; done) | (simp; omega))))))
      refine world_gen (fun w4 => Below w.heap.size w w4 ∧ Blk w4 Y 67 #[.slice AT T.length cT, .slice AO T.length cO, .slice AU us.length cU] ∧ RfN (DS Y (.slice A9 done.length c9)) AO AU cU T us s vs w4 ∧ w4.ownsRow w.heap.size 3 1 (.slice A9 done.length c9) done.length (done.map natV) ∧ Blk w4 wr.heap.size 41 #[.bool M[i].inn, .int .i64 M[i].kind, .int .i64 M[i].ln] ∧ w4.cell? ⟨pb, po + i, none⟩ = some (.int .i64 (t : Int)))
        ⟨HB.out.trans (hbm.mono hsr), HY.out.bel hbm, HR.out.keep (fun k hk _ => hbm.block k hk) hbm.size (fun k _ hd => hd), own_grow HO.out hbm, Blk.new wr _ _, cell_bel hbm m3⟩ ?_
      rintro w4 ⟨hb4, hy4, hr4, ho4, hm4, m3'⟩
      have HB4 := Lib.hid hb4
      have HY4 := Lib.hid hy4
      have HR4 := Lib.hid hr4
      have HO4 := Lib.hid ho4
      generalize wr.heap.size = bm at *
      have hs4 := hb4.size
      have y0 := hy4.cell 0
      have y1 := hy4.cell 1
      have y2 := hy4.cell 2
      have k0 := hm4.cell 0
      have k1 := hm4.cell 1
      have k2 := hm4.cell 2
      simp only [List.getElem?_toArray, List.getElem?_cons_succ, List.getElem?_cons_zero] at y0 y1 y2 k0 k1 k2
      have hpb4 : pb < w4.heap.size := World.block_lt_of_cell? _ _ m3'
      have HBA := Lib.hid (show Below w4.heap.size w4 w4.drew from (by repeat (first | exact Below.refl _ _ | (with_reducible refine Below.drew ?_) | (with_reducible refine below_drewN ?_ _) | (with_reducible refine Below.alloc ?_ (by first | omega | (simp; done) | (simp; omega)) _) | (with_reducible refine Below.setCell ?_ (by first | omega | (simp; done) | (simp; omega)) _) | (refine Below.trans ?_ (Below.mono (by with_reducible assumption) (by first | omega | (simp; done) | (simp; omega)))))))
      have HBB := Lib.hid (show Below w4.heap.size w4 ((w4.alloc (.cells #[.slice none 0 0, .slice none 0 0, .slice none 0 0] 67)).drew) from (by repeat (first | exact Below.refl _ _ | (with_reducible refine Below.drew ?_) | (with_reducible refine below_drewN ?_ _) | (with_reducible refine Below.alloc ?_ (by first | omega | (simp; done) | (simp; omega)) _) | (with_reducible refine Below.setCell ?_ (by first | omega | (simp; done) | (simp; omega)) _) | (refine Below.trans ?_ (Below.mono (by with_reducible assumption) (by first | omega | (simp; done) | (simp; omega)))))))
      have HRA := Lib.hid (HR4.out.keep (D' := DS Y (.slice A9 done.length c9)) (fun k hk _ => HBA.out.block k hk) HBA.out.size (fun k _ hd => hd)).r
      have HRB := Lib.hid (HR4.out.keep (D' := DS Y (.slice A9 done.length c9)) (fun k hk _ => HBB.out.block k hk) HBB.out.size (fun k _ hd => hd)).r
      have HTA := Lib.hid ((HT.out.grow HB4.out).grow HBA.out)
      have HTB := Lib.hid ((HT.out.grow HB4.out).grow HBB.out)
      clear hb4 hy4 hr4 ho4 hm4 m0 m1 m2 m3 hmbl hpbl hbm HB HY HR HO hsr
      cases hact : actY T M[i] t s with
      | none =>
        rw [hact] at HRc2
        have HF := Lib.hid (HYn.out (by rw [HRp.out, HRc2.out]; rfl))
        go_region_held3 (fun w' => w'.cell? ⟨Y, 0, none⟩ = some (.slice AT T.length cT) ∧ w'.cell? ⟨Y, 1, none⟩ = some (.slice AO T.length cO) ∧ w'.cell? ⟨Y, 2, none⟩ = some (.slice AU us.length cU) ∧ w'.cell? ⟨bm, 0, none⟩ = some (.bool M[i].inn) ∧ w'.cell? ⟨bm, 1, none⟩ = some (.int .i64 M[i].kind) ∧ w'.cell? ⟨bm, 2, none⟩ = some (.int .i64 M[i].ln) ∧ w'.cell? ⟨pb, po + i, none⟩ = some (.int .i64 (t : Int)))
          (first | exact ⟨cell_bel hb4s y0, cell_bel hb4s y1, cell_bel hb4s y2, cell_bel hb4s k0, cell_bel hb4s k1, cell_bel hb4s k2, cell_bel hb4s m3'⟩ | exact ⟨cell_bel hb4b y0, cell_bel hb4b y1, cell_bel hb4b y2, cell_bel hb4b k0, cell_bel hb4b k1, cell_bel hb4b k2, cell_bel hb4b m3'⟩ | exact ⟨cell_bel hb4a y0, cell_bel hb4a y1, cell_bel hb4a y2, cell_bel hb4a k0, cell_bel hb4a k1, cell_bel hb4a k2, cell_bel hb4a m3'⟩ | exact ⟨cell_bel hb4 y0, cell_bel hb4 y1, cell_bel hb4 y2, cell_bel hb4 k0, cell_bel hb4 k1, cell_bel hb4 k2, cell_bel hb4 m3'⟩ | exact ⟨cell_bel (w := w4) (by repeat (first | exact Below.refl _ _ | (with_reducible refine Below.drew ?_) | (with_reducible refine below_drewN ?_ _) | (with_reducible refine Below.alloc ?_ (by first | omega | (simp; done) | (simp; omega)) _) | (with_reducible refine Below.setCell ?_ (by first | omega | (simp; done) | (simp; omega)) _) | (refine Below.trans ?_ (Below.mono (by with_reducible assumption) (by first | omega | (simp; done) | (simp; omega)))))) y0, cell_bel (w := w4) (by repeat (first | exact Below.refl _ _ | (with_reducible refine Below.drew ?_) | (with_reducible refine below_drewN ?_ _) | (with_reducible refine Below.alloc ?_ (by first | omega | (simp; done) | (simp; omega)) _) | (with_reducible refine Below.setCell ?_ (by first | omega | (simp; done) | (simp; omega)) _) | (refine Below.trans ?_ (Below.mono (by with_reducible assumption) (by first | omega | (simp; done) | (simp; omega)))))) y1, cell_bel (w := w4) (by repeat (first | exact Below.refl _ _ | (with_reducible refine Below.drew ?_) | (with_reducible refine below_drewN ?_ _) | (with_reducible refine Below.alloc ?_ (by first | omega | (simp; done) | (simp; omega)) _) | (with_reducible refine Below.setCell ?_ (by first | omega | (simp; done) | (simp; omega)) _) | (refine Below.trans ?_ (Below.mono (by with_reducible assumption) (by first | omega | (simp; done) | (simp; omega)))))) y2, cell_bel (w := w4) (by repeat (first | exact Below.refl _ _ | (with_reducible refine Below.drew ?_) | (with_reducible refine below_drewN ?_ _) | (with_reducible refine Below.alloc ?_ (by first | omega | (simp; done) | (simp; omega)) _) | (with_reducible refine Below.setCell ?_ (by first | omega | (simp; done) | (simp; omega)) _) | (refine Below.trans ?_ (Below.mono (by with_reducible assumption) (by first | omega | (simp; done) | (simp; omega)))))) k0, cell_bel (w := w4) (by repeat (first | exact Below.refl _ _ | (with_reducible refine Below.drew ?_) | (with_reducible refine below_drewN ?_ _) | (with_reducible refine Below.alloc ?_ (by first | omega | (simp; done) | (simp; omega)) _) | (with_reducible refine Below.setCell ?_ (by first | omega | (simp; done) | (simp; omega)) _) | (refine Below.trans ?_ (Below.mono (by with_reducible assumption) (by first | omega | (simp; done) | (simp; omega)))))) k1, cell_bel (w := w4) (by repeat (first | exact Below.refl _ _ | (with_reducible refine Below.drew ?_) | (with_reducible refine below_drewN ?_ _) | (with_reducible refine Below.alloc ?_ (by first | omega | (simp; done) | (simp; omega)) _) | (with_reducible refine Below.setCell ?_ (by first | omega | (simp; done) | (simp; omega)) _) | (refine Below.trans ?_ (Below.mono (by with_reducible assumption) (by first | omega | (simp; done) | (simp; omega)))))) k2, cell_bel (w := w4) (by repeat (first | exact Below.refl _ _ | (with_reducible refine Below.drew ?_) | (with_reducible refine below_drewN ?_ _) | (with_reducible refine Below.alloc ?_ (by first | omega | (simp; done) | (simp; omega)) _) | (with_reducible refine Below.setCell ?_ (by first | omega | (simp; done) | (simp; omega)) _) | (refine Below.trans ?_ (Below.mono (by with_reducible assumption) (by first | omega | (simp; done) | (simp; omega)))))) m3'⟩ | go_keep)
          (first | (go_at_call 33; refine (ract_any AT AO AU cT cO cU i t T M[i] us s vs _ HRB.out HTB.out h8 HTk.out htl HMi.out HOk.out (by omega) HRef.out).mono ?_; intro e w5 ho; rw [hact] at ho; obtain ⟨rfl, hd⟩ := ho; simp only [rfV]; have hb4 : Below w4.heap.size w4 w5 := HBB.out.trans (hd.mono HBB.out.size); have hz := (((Blk.new w4 67 #[.slice none 0 0, .slice none 0 0, .slice none 0 0]).dr).bel (w' := w5) hd); have z0 := hz.cell 0; have z1 := hz.cell 1; have z2 := hz.cell 2; have f0 := hz.frozen 0; have f1 := hz.frozen 1; have f2 := hz.frozen 2; have hzl := hz.lt; simp only [List.getElem?_toArray, List.getElem?_cons_succ, List.getElem?_cons_zero] at z0 z1 z2; have hb4s : Below w4.heap.size w4 (((w5.setCell ⟨w4.heap.size, 0, none⟩ (.slice AT T.length cT)).setCell ⟨w4.heap.size, 1, none⟩ (.slice AO T.length cO)).setCell ⟨w4.heap.size, 2, none⟩ (.slice AU us.length cU)) := ((hb4.setCell (p := ⟨w4.heap.size, 0, none⟩) (Nat.le_refl _) _).setCell (p := ⟨w4.heap.size, 1, none⟩) (Nat.le_refl _) _).setCell (p := ⟨w4.heap.size, 2, none⟩) (Nat.le_refl _) _) | (go_at_call 33; refine (ract_any AT AO AU cT cO cU i t T M[i] us s vs _ HRA.out HTA.out h8 HTk.out htl HMi.out HOk.out (by omega) HRef.out).mono ?_; intro e w5 ho; rw [hact] at ho; obtain ⟨rfl, hd⟩ := ho; simp only [rfV]; have hb4 : Below w4.heap.size w4 w5 := HBA.out.trans (hd.mono HBA.out.size); have hb4a : Below w4.heap.size w4 (w5.alloc (.cells #[.slice none 0 0, .slice none 0 0, .slice none 0 0] 67)) := hb4.alloc hb4.size _; have hb4b : Below w4.heap.size w4 (w5.alloc (.cells #[.slice AT T.length cT, .slice AO T.length cO, .slice AU us.length cU] 67)) := hb4.alloc hb4.size _))
        · skip
          go_wp2_with fail
          go_ret2
          unfold RpOut
          rw [HF.out]
          exact ⟨none, 0, rfl, HB4.out.trans (hb4b.mono hs4), World.ownsRow_nil _ _ _ _⟩
        · skip
          go_wp2_with fail
          go_ret2
          unfold RpOut
          rw [HF.out]
          exact ⟨none, 0, rfl, HB4.out.trans (hb4s.mono hs4), World.ownsRow_nil _ _ _ _⟩
      | some p =>
        obtain ⟨u, s'⟩ := p
        rw [hact] at HRc2
        go_region_held3 (fun w' => w'.cell? ⟨Y, 0, none⟩ = some (.slice AT T.length cT) ∧ w'.cell? ⟨Y, 1, none⟩ = some (.slice AO T.length cO) ∧ w'.cell? ⟨Y, 2, none⟩ = some (.slice AU us.length cU) ∧ w'.cell? ⟨bm, 0, none⟩ = some (.bool M[i].inn) ∧ w'.cell? ⟨bm, 1, none⟩ = some (.int .i64 M[i].kind) ∧ w'.cell? ⟨bm, 2, none⟩ = some (.int .i64 M[i].ln) ∧ w'.cell? ⟨pb, po + i, none⟩ = some (.int .i64 (t : Int)))
          (first | exact ⟨cell_bel hb4s y0, cell_bel hb4s y1, cell_bel hb4s y2, cell_bel hb4s k0, cell_bel hb4s k1, cell_bel hb4s k2, cell_bel hb4s m3'⟩ | exact ⟨cell_bel hb4b y0, cell_bel hb4b y1, cell_bel hb4b y2, cell_bel hb4b k0, cell_bel hb4b k1, cell_bel hb4b k2, cell_bel hb4b m3'⟩ | exact ⟨cell_bel hb4a y0, cell_bel hb4a y1, cell_bel hb4a y2, cell_bel hb4a k0, cell_bel hb4a k1, cell_bel hb4a k2, cell_bel hb4a m3'⟩ | exact ⟨cell_bel hb4 y0, cell_bel hb4 y1, cell_bel hb4 y2, cell_bel hb4 k0, cell_bel hb4 k1, cell_bel hb4 k2, cell_bel hb4 m3'⟩ | exact ⟨cell_bel (w := w4) (by repeat (first | exact Below.refl _ _ | (with_reducible refine Below.drew ?_) | (with_reducible refine below_drewN ?_ _) | (with_reducible refine Below.alloc ?_ (by first | omega | (simp; done) | (simp; omega)) _) | (with_reducible refine Below.setCell ?_ (by first | omega | (simp; done) | (simp; omega)) _) | (refine Below.trans ?_ (Below.mono (by with_reducible assumption) (by first | omega | (simp; done) | (simp; omega)))))) y0, cell_bel (w := w4) (by repeat (first | exact Below.refl _ _ | (with_reducible refine Below.drew ?_) | (with_reducible refine below_drewN ?_ _) | (with_reducible refine Below.alloc ?_ (by first | omega | (simp; done) | (simp; omega)) _) | (with_reducible refine Below.setCell ?_ (by first | omega | (simp; done) | (simp; omega)) _) | (refine Below.trans ?_ (Below.mono (by with_reducible assumption) (by first | omega | (simp; done) | (simp; omega)))))) y1, cell_bel (w := w4) (by repeat (first | exact Below.refl _ _ | (with_reducible refine Below.drew ?_) | (with_reducible refine below_drewN ?_ _) | (with_reducible refine Below.alloc ?_ (by first | omega | (simp; done) | (simp; omega)) _) | (with_reducible refine Below.setCell ?_ (by first | omega | (simp; done) | (simp; omega)) _) | (refine Below.trans ?_ (Below.mono (by with_reducible assumption) (by first | omega | (simp; done) | (simp; omega)))))) y2, cell_bel (w := w4) (by repeat (first | exact Below.refl _ _ | (with_reducible refine Below.drew ?_) | (with_reducible refine below_drewN ?_ _) | (with_reducible refine Below.alloc ?_ (by first | omega | (simp; done) | (simp; omega)) _) | (with_reducible refine Below.setCell ?_ (by first | omega | (simp; done) | (simp; omega)) _) | (refine Below.trans ?_ (Below.mono (by with_reducible assumption) (by first | omega | (simp; done) | (simp; omega)))))) k0, cell_bel (w := w4) (by repeat (first | exact Below.refl _ _ | (with_reducible refine Below.drew ?_) | (with_reducible refine below_drewN ?_ _) | (with_reducible refine Below.alloc ?_ (by first | omega | (simp; done) | (simp; omega)) _) | (with_reducible refine Below.setCell ?_ (by first | omega | (simp; done) | (simp; omega)) _) | (refine Below.trans ?_ (Below.mono (by with_reducible assumption) (by first | omega | (simp; done) | (simp; omega)))))) k1, cell_bel (w := w4) (by repeat (first | exact Below.refl _ _ | (with_reducible refine Below.drew ?_) | (with_reducible refine below_drewN ?_ _) | (with_reducible refine Below.alloc ?_ (by first | omega | (simp; done) | (simp; omega)) _) | (with_reducible refine Below.setCell ?_ (by first | omega | (simp; done) | (simp; omega)) _) | (refine Below.trans ?_ (Below.mono (by with_reducible assumption) (by first | omega | (simp; done) | (simp; omega)))))) k2, cell_bel (w := w4) (by repeat (first | exact Below.refl _ _ | (with_reducible refine Below.drew ?_) | (with_reducible refine below_drewN ?_ _) | (with_reducible refine Below.alloc ?_ (by first | omega | (simp; done) | (simp; omega)) _) | (with_reducible refine Below.setCell ?_ (by first | omega | (simp; done) | (simp; omega)) _) | (refine Below.trans ?_ (Below.mono (by with_reducible assumption) (by first | omega | (simp; done) | (simp; omega)))))) m3'⟩ | go_keep)
          (first | (go_at_call 33; refine (ract_any AT AO AU cT cO cU i t T M[i] us s vs _ HRB.out HTB.out h8 HTk.out htl HMi.out HOk.out (by omega) HRef.out).mono ?_; intro e w5 ho; rw [hact] at ho; obtain ⟨AO2, AU2, cO2, cU2, us2, vs2, rfl, hus2, ho5, hd⟩ := ho; simp only [rfV]; have HUs := Lib.hid hus2; clear hus2; have HO5 := Lib.hid (ho5.base' (base' := w4.heap.size) HBB.out.size); have hb4 : Below w4.heap.size w4 w5 := HBB.out.trans (hd.mono HBB.out.size); have hz := (((Blk.new w4 67 #[.slice none 0 0, .slice none 0 0, .slice none 0 0]).dr).bel (w' := w5) hd); have z0 := hz.cell 0; have z1 := hz.cell 1; have z2 := hz.cell 2; have f0 := hz.frozen 0; have f1 := hz.frozen 1; have f2 := hz.frozen 2; have hzl := hz.lt; simp only [List.getElem?_toArray, List.getElem?_cons_succ, List.getElem?_cons_zero] at z0 z1 z2; have hb4s : Below w4.heap.size w4 (((w5.setCell ⟨w4.heap.size, 0, none⟩ (.slice AT T.length cT)).setCell ⟨w4.heap.size, 1, none⟩ (.slice AO2 T.length cO2)).setCell ⟨w4.heap.size, 2, none⟩ (.slice AU2 us2.length cU2)) := ((hb4.setCell (p := ⟨w4.heap.size, 0, none⟩) (Nat.le_refl _) _).setCell (p := ⟨w4.heap.size, 1, none⟩) (Nat.le_refl _) _).setCell (p := ⟨w4.heap.size, 2, none⟩) (Nat.le_refl _) _) | (go_at_call 33; refine (ract_any AT AO AU cT cO cU i t T M[i] us s vs _ HRA.out HTA.out h8 HTk.out htl HMi.out HOk.out (by omega) HRef.out).mono ?_; intro e w5 ho; rw [hact] at ho; obtain ⟨AO2, AU2, cO2, cU2, us2, vs2, rfl, hus2, ho5, hd⟩ := ho; simp only [rfV]; have HUs := Lib.hid hus2; clear hus2; have HO5 := Lib.hid (ho5.base' (base' := w4.heap.size) HBA.out.size); have hb4 : Below w4.heap.size w4 w5 := HBA.out.trans (hd.mono HBA.out.size); have hb4a : Below w4.heap.size w4 (w5.alloc (.cells #[.slice none 0 0, .slice none 0 0, .slice none 0 0] 67)) := hb4.alloc hb4.size _; have hb4b : Below w4.heap.size w4 (w5.alloc (.cells #[.slice AT T.length cT, .slice AO2 T.length cO2, .slice AU2 us2.length cU2] 67)) := hb4.alloc hb4.size _))
        · skip
          have HZ5 := Lib.hid (show Blk _ (w5.heap.size) 67 #[.slice AT T.length cT, .slice AO2 T.length cO2, .slice AU2 us2.length cU2] from Blk.new w5 _ _)
          have hx4 := HO5.out.grow (Below.alloc (Below.refl _ _) (Nat.le_refl _) (.cells #[.slice AT T.length cT, .slice AO2 T.length cO2, .slice AU2 us2.length cU2] 67))
          have hok' := actY_ok HOk.out htl HMi.out hact
          have hDb : ∀ k, DS Y (.slice A9 done.length c9) k → k < w4.heap.size := fun k hk => by
            rcases hk with rfl | hk
            · exact HY4.out.lt
            · exact (own_block HO4.out k hk).2
          have hx5 := hx4.rn (D := DS Y (.slice A9 done.length c9)) hok'.n h1 hDb
          have HNz := Lib.hid (show w5.heap.size ≠ Y from fun e => by have h6 := HY4.out.lt; have h7 := hb4.size; omega)
          go_upto_region 13 with fail
          refine world_gen (fun w6 => Below w.heap.size w w6 ∧ Blk w6 Y 67 #[.slice AT T.length cT, .slice AO T.length cO, .slice AU us.length cU] ∧ w6.ownsRow w.heap.size 3 1 (.slice A9 done.length c9) done.length (done.map natV) ∧ Blk w6 (w5.heap.size) 67 #[.slice AT T.length cT, .slice AO2 T.length cO2, .slice AU2 us2.length cU2] ∧ RfN (DS Y (.slice A9 done.length c9)) AO2 AU2 cU2 T us2 s' vs2 w6)
            ⟨HB4.out.trans (hb4b.mono hs4), HY4.out.bel hb4b, own_grow HO4.out hb4b, HZ5.out, hx5⟩ ?_
          generalize w5.heap.size = bz at *
          clear y0 y1 y2 k0 k1 k2 m3' HB4 HY4 HR4 HO4 HZ5 hx4 hx5 ho5 hs4 hpb4 hDb hb4 hb4a hb4b hd HO5 HBA HBB HRA HRB HTA HTB
          rintro w6 ⟨hb6, hy6, ho6, hz6, hr6⟩
          have HB6 := Lib.hid hb6
          have HO6 := Lib.hid ho6
          have HY6 := Lib.hid hy6
          have HR6 := Lib.hid hr6
          have y0 := hy6.cell 0
          have y1 := hy6.cell 1
          have y2 := hy6.cell 2
          have f0 := hy6.frozen 0
          have f1 := hy6.frozen 1
          have f2 := hy6.frozen 2
          have hyl := hy6.lt
          have z0 := hz6.cell 0
          have z1 := hz6.cell 1
          have z2 := hz6.cell 2
          simp only [List.getElem?_toArray, List.getElem?_cons_succ, List.getElem?_cons_zero] at y0 y1 y2 z0 z1 z2
          have href' : RefOk us2 s' := by
            rw [HUs.out]
            split
            · rename_i hin; exact (ref_in hin (by rw [HOk.out.n]; exact htl) HRef.out hact).2
            · rename_i hin; exact ref_out (by simpa using hin) (by rw [HOk.out.n]; exact htl) HRef.out hact
          have HRp7 := Lib.hid (show replY T M P (begY T) = (replY T (M.drop (i + 1)) (P.drop (i + 1)) s').map fun l => (done ++ [u.num]) ++ l by
            rw [HRp.out, HRc2.out]
            simp only [Option.map_map]
            congr 1
            funext l
            simp)
          have HOk7 := Lib.hid hok'
          have HRef7 := Lib.hid href'
          have HY7 := Lib.hid (show Blk _ Y 67 #[.slice AT T.length cT, .slice AO2 T.length cO2, .slice AU2 us2.length cU2] by simpa using ((hy6.set_ 0 (.slice AT T.length cT)).set_ 1 (.slice AO2 T.length cO2)).set_ 2 (.slice AU2 us2.length cU2))
          have HYb6 := HYb.out
          go_upto_region 14 with fail
          refine world_gen (fun w7 => Below w.heap.size w w7 ∧ Blk w7 Y 67 #[.slice AT T.length cT, .slice AO2 T.length cO2, .slice AU2 us2.length cU2] ∧ w7.ownsRow w.heap.size 3 1 (.slice A9 done.length c9) done.length (done.map natV) ∧ RfN (DS Y (.slice A9 done.length c9)) AO2 AU2 cU2 T us2 s' vs2 w7)
            ⟨((HB6.out.setCell (p := ⟨Y, 0, none⟩) HYb6 _).setCell (p := ⟨Y, 1, none⟩) HYb6 _).setCell (p := ⟨Y, 2, none⟩) HYb6 _, HY7.out,
             own_far (own_far (own_far HO6.out (own_nb HO6.out hy6 (by decide))) (by have := own_nb HO6.out hy6 (by decide); exact this)) (by have := own_nb HO6.out hy6 (by decide); exact this),
             HR6.out.keep (fun k _ hd => by
               have hk : Y ≠ k := fun e => hd (.inl e.symm)
               rw [Below.heap_setCell _ _ _ _ (by simpa using fun e => hk e.symm), Below.heap_setCell _ _ _ _ (by simpa using fun e => hk e.symm), Below.heap_setCell _ _ _ _ (by simpa using fun e => hk e.symm)]) (by simp) (fun k _ hd => hd)⟩ ?_
          clear y0 y1 y2 f0 f1 f2 hyl z0 z1 z2 hy6 hz6 hb6 ho6 hr6 HB6 HO6 HY6 HR6 HY7 HRp HRc2 hok' href' HYb6
          rintro w7 ⟨hb7, hy7, ho7, hr7⟩
          have hs7 := hb7.size
          have hbq : Below w7.heap.size w7 (w7.alloc (.cells #[.int .i64 u.num] 3)) := (by repeat (first | exact Below.refl _ _ | (with_reducible refine Below.drew ?_) | (with_reducible refine below_drewN ?_ _) | (with_reducible refine Below.alloc ?_ (by first | omega | (simp; done) | (simp; omega)) _) | (with_reducible refine Below.setCell ?_ (by first | omega | (simp; done) | (simp; omega)) _) | (refine Below.trans ?_ (Below.mono (by with_reducible assumption) (by first | omega | (simp; done) | (simp; omega))))))
          have HB7 := Lib.hid (hb7.trans (hbq.mono hs7))
          have HY7 := Lib.hid (hy7.bel hbq)
          have HO7 := Lib.hid (own_grow ho7 hbq)
          have HR7 := Lib.hid (hr7.keep (D' := DS Y (.slice A9 done.length c9)) (fun k hk _ => hbq.block k hk) hbq.size (fun k _ hd => hd))
          have hd24 : done.length ≤ 24 := by have := HDn.out; omega
          clear hb7 hy7 ho7 hr7 hbq
          go_wp2_with (at_builtin; refine wpList_append_any rfl _ _ 22 rfl w.heap.size 3 i0 _ 1 8 Try.underlying22 HI.out.1 HI.out.2.1 HI.out.2.2.1 HI.out.2.2.2 rfl (by omega) (.slice A9 done.length c9) done.length (done.map natV) rfl HO7.out (some ⟨w7.heap.size, 0, none⟩) 1 1 (w7.alloc (.cells #[.int .i64 u.num] 3)).heap.size [.int .i64 u.num] rfl (fun e => by cases e) (Rd.of_blk (cs := [.int .i64 u.num]) (n := 1) (sz := 1) (Blk.new w7 3 _) rfl) (by intro u hu; simp at hu; subst hu; rfl) (by simp only [maxLen]; omega) (by omega) (by simp; omega) ?_; intro vq wq hoq hgq hatq)
          have hkq : ∀ k, (Value.slice A9 done.length c9).ownBlock = some k → w.heap.size ≤ k := fun k e => (own_block HO7.out k e).1
          have HBq := Lib.hid (HB7.out.grown hgq (by simp; omega) hkq)
          have HYq := Lib.hid (HY7.out.grown hgq (own_nb HO7.out HY7.out (by decide)))
          have HRq := Lib.hid (HR7.out.keep (w' := wq) (D' := DS Y vq) (fun k hk hd => hgq.block k hk (fun e => hd (.inr e.symm))) hgq.4 (fun k hk hd => by
            rcases hd with hd | hd
            · exact .inl hd
            · rcases hatq with e | e
              · exact .inr (by rw [← e]; exact hd)
              · rw [e] at hd; injection hd with hd; omega))
          have HOq := Lib.hid (show wq.ownsRow w.heap.size 3 1 vq (done ++ [u.num]).length ((done ++ [u.num]).map natV) by rw [List.length_append, List.map_append]; exact hoq)
          clear hoq hgq hatq hkq HB7 HY7 HO7 HR7
          go_roundg K
          case measure => have := Hi.out; have := HK.out; omega
          case rel => exact ⟨i + 1, s', us2, done ++ [u.num], AO2, AU2, cO2, cU2, vs2, by first | rfl | go_num, by have := HK.out; omega, by have := HDn.out; simp; omega, HOk7.out, HRef7.out, HYq.out, HRq.out, HOq.out, HBq.out, HRp7.out⟩
        · skip
          have HZ5 := Lib.hid (show Blk _ (w4.heap.size) 67 #[.slice AT T.length cT, .slice AO2 T.length cO2, .slice AU2 us2.length cU2] from by simpa using ((hz.set_ 0 (.slice AT T.length cT)).set_ 1 (.slice AO2 T.length cO2)).set_ 2 (.slice AU2 us2.length cU2))
          have hx4 := ((HO5.out.setz (o := 0) (u := .slice AT T.length cT) hz).setz (o := 1) (u := .slice AO2 T.length cO2) (hz.set_ 0 (.slice AT T.length cT))).setz (o := 2) (u := .slice AU2 us2.length cU2) ((hz.set_ 0 (.slice AT T.length cT)).set_ 1 (.slice AO2 T.length cO2))
          have hok' := actY_ok HOk.out htl HMi.out hact
          have hDb : ∀ k, DS Y (.slice A9 done.length c9) k → k < w4.heap.size := fun k hk => by
            rcases hk with rfl | hk
            · exact HY4.out.lt
            · exact (own_block HO4.out k hk).2
          have hx5 := hx4.rn (D := DS Y (.slice A9 done.length c9)) hok'.n h1 hDb
          have HNz := Lib.hid (show w4.heap.size ≠ Y from fun e => by have h6 := HY4.out.lt; have h7 := show w4.heap.size ≤ w4.heap.size from Nat.le_refl _; omega)
          go_upto_region 13 with fail
          refine world_gen (fun w6 => Below w.heap.size w w6 ∧ Blk w6 Y 67 #[.slice AT T.length cT, .slice AO T.length cO, .slice AU us.length cU] ∧ w6.ownsRow w.heap.size 3 1 (.slice A9 done.length c9) done.length (done.map natV) ∧ Blk w6 (w4.heap.size) 67 #[.slice AT T.length cT, .slice AO2 T.length cO2, .slice AU2 us2.length cU2] ∧ RfN (DS Y (.slice A9 done.length c9)) AO2 AU2 cU2 T us2 s' vs2 w6)
            ⟨HB4.out.trans (hb4s.mono hs4), HY4.out.bel hb4s, own_grow HO4.out hb4s, HZ5.out, hx5⟩ ?_
          generalize w4.heap.size = bz at *
          clear y0 y1 y2 k0 k1 k2 m3' HB4 HY4 HR4 HO4 HZ5 hx4 hx5 ho5 hs4 hpb4 hDb hb4 hb4s hd hz z0 z1 z2 f0 f1 f2 hzl HO5 HBA HBB HRA HRB HTA HTB
          rintro w6 ⟨hb6, hy6, ho6, hz6, hr6⟩
          have HB6 := Lib.hid hb6
          have HO6 := Lib.hid ho6
          have HY6 := Lib.hid hy6
          have HR6 := Lib.hid hr6
          have y0 := hy6.cell 0
          have y1 := hy6.cell 1
          have y2 := hy6.cell 2
          have f0 := hy6.frozen 0
          have f1 := hy6.frozen 1
          have f2 := hy6.frozen 2
          have hyl := hy6.lt
          have z0 := hz6.cell 0
          have z1 := hz6.cell 1
          have z2 := hz6.cell 2
          simp only [List.getElem?_toArray, List.getElem?_cons_succ, List.getElem?_cons_zero] at y0 y1 y2 z0 z1 z2
          have href' : RefOk us2 s' := by
            rw [HUs.out]
            split
            · rename_i hin; exact (ref_in hin (by rw [HOk.out.n]; exact htl) HRef.out hact).2
            · rename_i hin; exact ref_out (by simpa using hin) (by rw [HOk.out.n]; exact htl) HRef.out hact
          have HRp7 := Lib.hid (show replY T M P (begY T) = (replY T (M.drop (i + 1)) (P.drop (i + 1)) s').map fun l => (done ++ [u.num]) ++ l by
            rw [HRp.out, HRc2.out]
            simp only [Option.map_map]
            congr 1
            funext l
            simp)
          have HOk7 := Lib.hid hok'
          have HRef7 := Lib.hid href'
          have HY7 := Lib.hid (show Blk _ Y 67 #[.slice AT T.length cT, .slice AO2 T.length cO2, .slice AU2 us2.length cU2] by simpa using ((hy6.set_ 0 (.slice AT T.length cT)).set_ 1 (.slice AO2 T.length cO2)).set_ 2 (.slice AU2 us2.length cU2))
          have HYb6 := HYb.out
          go_upto_region 14 with fail
          refine world_gen (fun w7 => Below w.heap.size w w7 ∧ Blk w7 Y 67 #[.slice AT T.length cT, .slice AO2 T.length cO2, .slice AU2 us2.length cU2] ∧ w7.ownsRow w.heap.size 3 1 (.slice A9 done.length c9) done.length (done.map natV) ∧ RfN (DS Y (.slice A9 done.length c9)) AO2 AU2 cU2 T us2 s' vs2 w7)
            ⟨((HB6.out.setCell (p := ⟨Y, 0, none⟩) HYb6 _).setCell (p := ⟨Y, 1, none⟩) HYb6 _).setCell (p := ⟨Y, 2, none⟩) HYb6 _, HY7.out,
             own_far (own_far (own_far HO6.out (own_nb HO6.out hy6 (by decide))) (by have := own_nb HO6.out hy6 (by decide); exact this)) (by have := own_nb HO6.out hy6 (by decide); exact this),
             HR6.out.keep (fun k _ hd => by
               have hk : Y ≠ k := fun e => hd (.inl e.symm)
               rw [Below.heap_setCell _ _ _ _ (by simpa using fun e => hk e.symm), Below.heap_setCell _ _ _ _ (by simpa using fun e => hk e.symm), Below.heap_setCell _ _ _ _ (by simpa using fun e => hk e.symm)]) (by simp) (fun k _ hd => hd)⟩ ?_
          clear y0 y1 y2 f0 f1 f2 hyl z0 z1 z2 hy6 hz6 hb6 ho6 hr6 HB6 HO6 HY6 HR6 HY7 HRp HRc2 hok' href' HYb6
          rintro w7 ⟨hb7, hy7, ho7, hr7⟩
          have hs7 := hb7.size
          have hbq : Below w7.heap.size w7 (w7.alloc (.cells #[.int .i64 u.num] 3)) := (by repeat (first | exact Below.refl _ _ | (with_reducible refine Below.drew ?_) | (with_reducible refine below_drewN ?_ _) | (with_reducible refine Below.alloc ?_ (by first | omega | (simp; done) | (simp; omega)) _) | (with_reducible refine Below.setCell ?_ (by first | omega | (simp; done) | (simp; omega)) _) | (refine Below.trans ?_ (Below.mono (by with_reducible assumption) (by first | omega | (simp; done) | (simp; omega))))))
          have HB7 := Lib.hid (hb7.trans (hbq.mono hs7))
          have HY7 := Lib.hid (hy7.bel hbq)
          have HO7 := Lib.hid (own_grow ho7 hbq)
          have HR7 := Lib.hid (hr7.keep (D' := DS Y (.slice A9 done.length c9)) (fun k hk _ => hbq.block k hk) hbq.size (fun k _ hd => hd))
          have hd24 : done.length ≤ 24 := by have := HDn.out; omega
          clear hb7 hy7 ho7 hr7 hbq
          go_wp2_with (at_builtin; refine wpList_append_any rfl _ _ 22 rfl w.heap.size 3 i0 _ 1 8 Try.underlying22 HI.out.1 HI.out.2.1 HI.out.2.2.1 HI.out.2.2.2 rfl (by omega) (.slice A9 done.length c9) done.length (done.map natV) rfl HO7.out (some ⟨w7.heap.size, 0, none⟩) 1 1 (w7.alloc (.cells #[.int .i64 u.num] 3)).heap.size [.int .i64 u.num] rfl (fun e => by cases e) (Rd.of_blk (cs := [.int .i64 u.num]) (n := 1) (sz := 1) (Blk.new w7 3 _) rfl) (by intro u hu; simp at hu; subst hu; rfl) (by simp only [maxLen]; omega) (by omega) (by simp; omega) ?_; intro vq wq hoq hgq hatq)
          have hkq : ∀ k, (Value.slice A9 done.length c9).ownBlock = some k → w.heap.size ≤ k := fun k e => (own_block HO7.out k e).1
          have HBq := Lib.hid (HB7.out.grown hgq (by simp; omega) hkq)
          have HYq := Lib.hid (HY7.out.grown hgq (own_nb HO7.out HY7.out (by decide)))
          have HRq := Lib.hid (HR7.out.keep (w' := wq) (D' := DS Y vq) (fun k hk hd => hgq.block k hk (fun e => hd (.inr e.symm))) hgq.4 (fun k hk hd => by
            rcases hd with hd | hd
            · exact .inl hd
            · rcases hatq with e | e
              · exact .inr (by rw [← e]; exact hd)
              · rw [e] at hd; injection hd with hd; omega))
          have HOq := Lib.hid (show wq.ownsRow w.heap.size 3 1 vq (done ++ [u.num]).length ((done ++ [u.num]).map natV) by rw [List.length_append, List.map_append]; exact hoq)
          clear hoq hgq hatq hkq HB7 HY7 HO7 HR7
          go_roundg K
          case measure => have := Hi.out; have := HK.out; omega
          case rel => exact ⟨i + 1, s', us2, done ++ [u.num], AO2, AU2, cO2, cU2, vs2, by first | rfl | go_num, by have := HK.out; omega, by have := HDn.out; simp; omega, HOk7.out, HRef7.out, HYq.out, HRq.out, HOq.out, HBq.out, HRp7.out⟩
    · obtain rfl : i = M.length := by have := Hi.out; omega
      have hrp := HRp.out
      rw [List.drop_length] at hrp
      have HRes := Lib.hid (HYs.out done (by rw [hrp]; simp [replY]))
      clear hrp
      go_wp2_with fail
      go_ret2
      unfold RpOut
      rw [HRes.out]
      exact ⟨A9, c9, rfl, HB.out, HO.out⟩
end Go.Proofs.Ytffgnfefejimnaa
