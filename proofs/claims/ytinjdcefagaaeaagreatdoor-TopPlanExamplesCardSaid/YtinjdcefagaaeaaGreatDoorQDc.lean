import Derived.Test.YtinjdcefagaaeaaGreatDoorQSp
import Derived.Test.YtinjdcefagaaeaaGreatDoorQBm
import Derived.Test.YtinjdcefagaaeaaGreatDoorQLy
import Derived.Test.YtinjdcefagaaeaaGreatDoorQCu
import Derived.Test.YtinjdcefagaaeaaGreatDoorQAr
import Derived.Test.YtinjdcefagaaeaaGreatDoorQWo
set_option linter.unusedVariables false
set_option linter.unusedSimpArgs false
namespace Go.Proofs.YtinjdcefagaaeaaGreatDoor
open Go.RowKit Go.Shelf
attribute [local go_sem] Oper.semAt_some
/-! strings.SplitSeq, words.Lines -/
def SqOut (T : ByteArray) (w : World) (e : Ending) (w' : World) : Prop :=
  e = .returned (.func (.func 189) #[] #[.pointer (some ⟨w.heap.size + 1, 0, none⟩), .pointer (some ⟨w.heap.size, 0, none⟩), .pointer (some ⟨w.heap.size + 2, 0, none⟩)]) ∧
  Blk w' w.heap.size 9 #[.string T] ∧ Blk w' (w.heap.size + 1) 9 #[.string ⟨#[10]⟩] ∧ Blk w' (w.heap.size + 2) 3 #[.int .i64 0] ∧ Below w.heap.size w w' ∧ w'.heap.size = w.heap.size + 3
set_option maxHeartbeats 1600000 in
theorem sq0_ok (T : ByteArray) (w : World) : Calls Tryz.prog 126 #[.string T, .string ⟨#[10]⟩, .int .i64 0] w (SqOut T w) := by
  go_enter Tryz.func126, Tryz.ntmps126
  go_wp2_with fail
  go_ret
  exact ⟨rfl, ((Blk.new w _ _).al _).al _, (Blk.new' _ _ _ _ (by simp)).al _, Blk.new' _ _ _ _ (by simp), (by repeat (first | exact Below.refl _ _ | (with_reducible refine Below.drew ?_) | (with_reducible refine below_drewN ?_ _) | (with_reducible refine Below.alloc ?_ (by first | omega | (simp; done) | (simp; omega)) _) | (with_reducible refine Below.setCell ?_ (by first | omega | (simp; done) | (simp; omega)) _) | (refine Below.trans ?_ (Below.mono (by with_reducible assumption) (by first | omega | (simp; done) | (simp; omega)))))), by simp⟩
set_option maxHeartbeats 1600000 in
theorem sq_ok (T : ByteArray) (w : World) : Calls Tryz.prog 67 #[.string T, .string ⟨#[10]⟩] w (SqOut T w) := by
  go_enter Tryz.func67, Tryz.ntmps67
  go_wp2_with fail
  refine (sq0_ok T _).mono ?_
  rintro e w' ⟨rfl, h⟩
  go_wp2_with fail
  go_ret
  exact ⟨rfl, h⟩
theorem run_loadVar_one {P : Program} (w : World) (a : Addr) (ty : TypeId) (v : Value) (d : TypeDesc) (hu : P.underlying ty = some d) (hd : (match d with | .struct _ | .array _ _ => true | _ => false) = false) (hc : w.cell? a = some v) :
    (loadVar ty a).run P w = .ok v w := by
  have hagg : (isAgg ty).run P w = .ok false w := by
    unfold isAgg
    rw [Sem.run_bind, run_underlying hu w]
    cases d <;> simp_all
  simp [loadVar, Sem.run_bind, hagg, go_sem, hc]
def LnI (w : World) (X M : Nat) (pre : List ByteArray) (W : World) : Prop := ∃ v az, LiS w X M W v pre.length ∧ LnM W M v (rowsF pre) az
set_option maxRecDepth 100000 in
set_option maxHeartbeats 6400000 in
theorem lines_ok (T : ByteArray) (xs : List ByteArray) (w : World) (hT : T.size ≤ 65536) (hx : Spl T xs) (ho : ∀ (k : Nat) (x : ByteArray), xs[k]? = some x → LnOk k x) (hn : xs.length ≤ 1000) :
    Calls Tryz.prog 25 #[.string T] w fun e w' => ∃ v az, e = .returned (.tuple #[v, .int .i64 0, .int .i64 0]) ∧ LnM w' w.heap.size v (rowsF xs) az ∧ Below w.heap.size w w' := by
  have HO := Lib.hid ho
  have HX := Lib.hid hx
  clear ho hx
  obtain ⟨iS, b1, b2, b3, b4⟩ := info_parts infoWs
  have HIS := Lib.hid (And.intro b1 (And.intro b2 (And.intro b3 b4)))
  clear b1 b2 b3 b4
  refine (callsIn_wide (n := 4)).1 ?_
  refine callsIn_of_wp_marks Tryz.func25 rfl trivial ?_ rfl
  simp only [Tryz.ntmps25, List.size_toArray, List.length_cons, List.length_nil, Nat.reduceAdd, Nat.reduceSub, Array.replicate_succ, Array.replicate_zero, List.push_toArray, List.append_toArray, List.nil_append, List.cons_append]
  gi_wp2_with (refine ⟨trivial, ?_⟩; gi_at_call 67; refine (callsIn_wide.2 (sq_ok T _)).mono ?_; rintro e w1 ⟨rfl, hq0, hq1, hq2, hb1, hz1⟩)
  generalize hwW : (World.alloc (World.alloc (World.alloc (World.alloc (World.alloc w (.cells #[.slice none 0 0] 91)) (.cells #[.int .i64 0] 3)) (.cells #[.int .i64 0] 39)) (.cells #[.slice none 0 0] 91)) (.cells #[.int .i64 0] 3)) = w0 at *
  have hs0 : w0.heap.size = w.heap.size + 5 := by rw [← hwW]; simp
  have hS0 : LiS w w.heap.size (w.heap.size + 5) w0 (.slice none 0 0) 0 := by
    rw [← hwW]
    exact ⟨(by repeat (first | exact Below.refl _ _ | (with_reducible refine Below.drew ?_) | (with_reducible refine below_drewN ?_ _) | (with_reducible refine Below.alloc ?_ (by first | omega | (simp; done) | (simp; omega)) _) | (with_reducible refine Below.setCell ?_ (by first | omega | (simp; done) | (simp; omega)) _) | (refine Below.trans ?_ (Below.mono (by with_reducible assumption) (by first | omega | (simp; done) | (simp; omega)))))), by simp, (by repeat (first | (refine Blk.new' _ _ _ _ ?_; first | rfl | (simp <;> omega)) | refine Blk.al ?_ _ | refine Blk.dr ?_ | refine Blk.drN ?_ _ | refine Blk.far ?_ (by first | omega | (simp; omega)))), (by repeat (first | (refine Blk.new' _ _ _ _ ?_; first | rfl | (simp <;> omega)) | refine Blk.al ?_ _ | refine Blk.dr ?_ | refine Blk.drN ?_ _ | refine Blk.far ?_ (by first | omega | (simp; omega)))), (by repeat (first | (refine Blk.new' _ _ _ _ ?_; first | rfl | (simp <;> omega)) | refine Blk.al ?_ _ | refine Blk.dr ?_ | refine Blk.drN ?_ _ | refine Blk.far ?_ (by first | omega | (simp; omega)))), (by repeat (first | (refine Blk.new' _ _ _ _ ?_; first | rfl | (simp <;> omega)) | refine Blk.al ?_ _ | refine Blk.dr ?_ | refine Blk.drN ?_ _ | refine Blk.far ?_ (by first | omega | (simp; omega)))), (by repeat (first | (refine Blk.new' _ _ _ _ ?_; first | rfl | (simp <;> omega)) | refine Blk.al ?_ _ | refine Blk.dr ?_ | refine Blk.drN ?_ _ | refine Blk.far ?_ (by first | omega | (simp; omega))))⟩
  rw [hs0] at hq0 hq1 hq2 hb1 hz1
  obtain ⟨X, hX⟩ : ∃ X, X = w.heap.size := ⟨_, rfl⟩
  rw [← hX] at hq0 hq1 hq2 hb1 hz1 hS0
  have hS1 : LiS w X (X + 8) w1 (.slice none 0 0) 0 := ⟨hS0.b.trans (hb1.mono (by omega)), by omega, hS0.c0.same (hb1.block _ (by omega)), hS0.c1.same (hb1.block _ (by omega)), hS0.c2.same (hb1.block _ (by omega)), hS0.cl.same (hb1.block _ (by omega)), hS0.cn.same (hb1.block _ (by omega))⟩
  have HS1 := Lib.hid hS1
  clear hS0 hwW hs0 hS1
  refine range_all rfl (by omega) (gf := 189) (lb := #[.pointer (some ⟨X + 5 + 1, 0, none⟩), .pointer (some ⟨X + 5, 0, none⟩), .pointer (some ⟨X + 5 + 2, 0, none⟩)]) (by rw [hX]; rfl) trivial (enters_of Tryz.func189 (by kernel_rfl) rfl)
    (split1_in (X + 5) T xs w1 HX.out hT _ (by omega) hq0 hq1 hq2) (fun k hk => by unfold SplB at hk; omega) rfl (LnI w X (X + 8)) ?hI ?h0 ?a1 ?assign ?body ?done
  case hI =>
    rintro s A B ⟨v, az, hs, hl⟩ hst
    rw [hz1] at hst
    exact ⟨v, az, hs.still (Nat.le_refl _) hX.symm hst, hl.sm fun k o hk hle hc => hst.same k o hk (by unfold SplB; omega) (.inr hc)⟩
  case h0 => exact ⟨_, [], HS1.out, LnM.nil _ _⟩
  case assign =>
    intro l x W K hK
    gi_wp2
    exact hK
  case body =>
    rintro l pre x rest W hxs ⟨v, az, hs, hl⟩ hz
    have hok := HO.out pre.length x (by rw [hxs]; simp)
    have hpl : pre.length ≤ 1000 := by rw [hxs] at hn; simp at hn; omega
    obtain ⟨R, hR⟩ := hok.sp
    have hw : lnW pre.length x = wdF x ((pre.length : Int) + 1) R.2 x.size R.1 := by unfold lnW; rw [hR]
    have HW := Lib.hid hw
    clear hw
    rw [hz1] at hz
    subst hX
    have HS := Lib.hid hs
    have HL := Lib.hid hl
    have HK := Lib.hid hok
    have HR := Lib.hid hR
    have HXS := Lib.hid hxs
    have n0 := hs.cn.cell 0
    have l0 := hs.cl.cell 0
    have fn0 := hs.cn.frozen 0
    have fl0 := hs.cl.frozen 0
    simp at n0 l0
    clear hs hl hok hR hxs hq0 hq1 hq2 hb1 hz1 HS1
    obtain ⟨Av, cv, rfl, _, _⟩ := own_slice HL.out.o
    have hrl : (rowsF pre).length ≤ 1000 := Nat.le_trans (rowsF_len pre) hpl
    have hk0 : KeepsOthers W (W.setCell ⟨w.heap.size + 1 + 1 + 1 + 1, 0, none⟩ (.int .i64 ((pre.length : Int) + 1))) := KeepsOthers.setCell _ _ _
    have HK0 := Lib.hid hk0
    clear hk0
    by_cases hws : lnW pre.length x = []
    · have HWS := Lib.hid hws
      clear hws
      gi_wp2_with (refine ⟨trivial, ?_⟩; gi_at_call 68; refine (CallsIn.inRound l (callsIn_wide.2 (split_ok x ((pre.length : Int) + 1) R _ HK.out.h35 HK.out.sz HR.out))).mono ?_; rintro e w3 ⟨v3, rfl, ho3, hb3⟩; rw [← HW.out, HWS.out] at ho3; obtain ⟨A3, c3, rfl, _, _⟩ := own_slice ho3; have HB3 := Lib.hid hb3; clear ho3 hb3 n0 l0 fn0 fl0)
      have HB0 := Lib.hid (show KeepsOthers W w3 from HK0.out.trans (keeps_below HB3.out))
      have HS3 := Lib.hid ((HS.out.num ((pre.length : Int) + 1)).go (Nat.le_refl _) rfl HB3.out)
      have HL3 := Lib.hid ((HL.out.far (w.heap.size + 1 + 1 + 1 + 1) 0 (.int .i64 ((pre.length : Int) + 1)) (by omega)).go HB3.out)
      refine ⟨HB0.out, fun k hk => ?_, .slice Av (rowsF pre).length cv, az, ?_, ?_⟩
      · have := HS.out.z
        rw [HB3.out.block k (by simp; unfold SplB at hk; omega)]
        exact Below.heap_setCell _ _ _ _ (by simp; unfold SplB at hk; omega)
      · have := HS3.out
        rw [List.length_append]
        exact this
      · rw [rowsF_snoc, if_pos HWS.out]
        exact HL3.out
    · have HWS := Lib.hid hws
      have hw1 : 0 < (lnW pre.length x).length := List.length_pos_iff.2 hws
      have hw2 := HK.out.n
      clear hws
      generalize hm : lnW pre.length x = ws at *
      have HM := Lib.hid hm
      clear hm
      gi_wp2_with (first | (refine ⟨trivial, ?_⟩; gi_at_call 68; refine (CallsIn.inRound l (callsIn_wide.2 (split_ok x ((pre.length : Int) + 1) R _ HK.out.h35 HK.out.sz HR.out))).mono ?_; rintro e w3 ⟨v3, rfl, ho3, hb3⟩; rw [← HW.out] at ho3; obtain ⟨g3, c3, rfl, _, hg3, _⟩ := own_cs (show w3.ownsRow _ _ 3 v3 ws.length _ from ho3) hw1; have HO3 := Lib.hid ho3; have HB3 := Lib.hid hb3; clear ho3 hb3 n0 l0 fn0 fl0; have l0 := (((HS.out.num ((pre.length : Int) + 1)).go (Nat.le_refl _) rfl HB3.out).cl.cell 0); have fl0 := (((HS.out.num ((pre.length : Int) + 1)).go (Nat.le_refl _) rfl HB3.out).cl.frozen 0); simp at l0) | (gi_at_builtin; refine wpListIn_append_own _ rfl _ _ 91 rfl (w.heap.size + 8) 94 iS _ 1 24 Tryz.underlying91 HIS.out.1 HIS.out.2.1 HIS.out.2.2.1 HIS.out.2.2.2 rfl (by omega) _ (rowsF pre).length _ rfl (World.ownsRow.alloc ((HL.out.far _ 0 _ (by omega)).go HB3.out).o _) ⟨w3.heap.size, 0, none⟩ 1 1 [.slice (some ⟨g3, 0, none⟩) ws.length c3] rfl rfl (news_new _ _ _) ?c1 ?c2 ?c3 ?c4 ?_; rotate_right; intro v' w' hown' hg' hat'; obtain ⟨A4, c4, rfl, _, _⟩ := own_slice hown'; have HN := Lib.hid hown'; have HG := Lib.hid hg'; clear hown' hg' hat' l0 fl0; have hsl := ((((HS.out.num ((pre.length : Int) + 1)).go (Nat.le_refl _) rfl HB3.out).cl.al (.cells #[.slice (some ⟨g3, 0, none⟩) ws.length c3] 94)).gr HG.out (fun e => by have := (own_block HL.out.o _ e).1; omega)); have l0 := hsl.cell 0; have fl0 := hsl.frozen 0; simp at l0; clear hsl))
      case c1 => intro u hu; simp at hu; subst hu; rfl
      case c2 => simp only [maxLen]; omega
      case c3 => omega
      case c4 => have := HS.out.z; have := HB3.out.size; simp at this ⊢; omega
      have HS3 := Lib.hid ((HS.out.num ((pre.length : Int) + 1)).go (Nat.le_refl _) rfl HB3.out)
      have HL3 := Lib.hid ((HL.out.far (w.heap.size + 1 + 1 + 1 + 1) 0 (.int .i64 ((pre.length : Int) + 1)) (by omega)).go HB3.out)
      have hg : (w3.alloc (.cells #[.slice (some ⟨g3, 0, none⟩) ws.length c3] 94)).grownBy w' (Value.slice Av (rowsF pre).length cv).ownBlock := HG.out
      have hnr : ∀ k, k < w.heap.size + 8 → (Value.slice Av (rowsF pre).length cv).ownBlock ≠ some k := fun k hk e => by have := (own_block HL.out.o _ e).1; omega
      have hz0 := HS.out.z
      have hz3 := HS3.out.z
      have hgs := hg.size
      simp at hgs
      have key : ∀ k, k < w.heap.size + 8 → w'.heap[k]? = w3.heap[k]? := fun k hk => by
        rw [hg.block k (by simp; omega) (fun e => hnr k hk e.symm)]
        exact Below.heap_alloc _ _ _ (by omega)
      have hS4 : LiS w w.heap.size (w.heap.size + 8) w' (.slice Av (rowsF pre).length cv) ((pre.length : Int) + 1) := HS3.out.sm (Nat.le_refl _) ⟨hg.os.trans HS3.out.b.os, hg.tape.trans HS3.out.b.tape, hg.output.trans HS3.out.b.output, by omega, fun k hk => (key k (by omega)).trans (HS3.out.b.block k hk)⟩ (by omega) (fun q _ hq => key q (by omega))
      have hl5 := HL3.out.app (g3, c3) ws (own_base HO3.out (by simp; omega)) hg HN.out
      refine ⟨((HK0.out.trans (keeps_below HB3.out)).trans (KeepsOthers.alloc _ _)).trans ((KeepsOthers.of_grownBy hg (own_isc (World.ownsRow.alloc HL3.out.o _))).trans (KeepsOthers.setCell _ _ _)), fun k hk => ?_, .slice A4 ((rowsF pre).length + 1) c4, az ++ [(g3, c3)], ?_, ?_⟩
      · unfold SplB at hk
        rw [Below.heap_setCell _ _ _ _ (by simp; omega), key k (by omega), HB3.out.block k (by simp; omega)]
        exact Below.heap_setCell _ _ _ _ (by simp; omega)
      · have := hS4.lin (.slice A4 ((rowsF pre).length + 1) c4)
        rw [List.length_append]
        exact this
      · rw [rowsF_snoc, HM.out, if_neg HWS.out]
        exact hl5.far _ 0 _ (by omega)
  case done =>
    rintro D W hD ⟨v, az, hs, hl⟩ hK
    subst hX
    have HS := Lib.hid hs
    have HL := Lib.hid hl
    have HD := Lib.hid hK
    have l0 := hs.cl.cell 0
    have r0 := hs.c0.cell 0
    have r1 := hs.c1.cell 0
    have r2 := hs.c2.cell 0
    have f0 := hs.c0.frozen 0
    have f1 := hs.c1.frozen 0
    have f2 := hs.c2.frozen 0
    simp at l0 r0 r1 r2
    clear hs hl hK hq0 hq1 hq2 hb1 HS1
    obtain ⟨Av, cv, rfl, _, _⟩ := own_slice HL.out.o
    gi_wp2
    have hz := HS.out.z
    have hK3 : (((W.setCell ⟨w.heap.size, 0, none⟩ (.slice Av (rowsF xs).length cv)).setCell ⟨w.heap.size + 1, 0, none⟩ (.int .i64 0)).setCell ⟨w.heap.size + 1 + 1, 0, none⟩ (.int .i64 0)).heap[D]? = some (.deferred (some [])) := by
      rw [Below.heap_setCell _ _ _ _ (by simp; omega), Below.heap_setCell _ _ _ _ (by simp; omega), Below.heap_setCell _ _ _ _ (by simp; omega)]
      exact HD.out
    have k0 : Blk (((W.setCell ⟨w.heap.size, 0, none⟩ (.slice Av (rowsF xs).length cv)).setCell ⟨w.heap.size + 1, 0, none⟩ (.int .i64 0)).setCell ⟨w.heap.size + 1 + 1, 0, none⟩ (.int .i64 0)) w.heap.size 91 #[.slice Av (rowsF xs).length cv] := ((HS.out.c0.set_ 0 _).far (by omega)).far (by omega)
    have k1 : Blk (((W.setCell ⟨w.heap.size, 0, none⟩ (.slice Av (rowsF xs).length cv)).setCell ⟨w.heap.size + 1, 0, none⟩ (.int .i64 0)).setCell ⟨w.heap.size + 1 + 1, 0, none⟩ (.int .i64 0)) (w.heap.size + 1) 3 #[.int .i64 0] := ((HS.out.c1.far (by omega)).set_ 0 _).far (by omega)
    have k2 : Blk (((W.setCell ⟨w.heap.size, 0, none⟩ (.slice Av (rowsF xs).length cv)).setCell ⟨w.heap.size + 1, 0, none⟩ (.int .i64 0)).setCell ⟨w.heap.size + 1 + 1, 0, none⟩ (.int .i64 0)) (w.heap.size + 1 + 1) 39 #[.int .i64 0] := ((HS.out.c2.far (by omega)).far (by omega)).set_ 0 _
    have hl3 := ((HL.out.far w.heap.size 0 (.slice Av (rowsF xs).length cv) (by omega)).far (w.heap.size + 1) 0 (.int .i64 0) (by omega)).far (w.heap.size + 1 + 1) 0 (.int .i64 0) (by omega)
    have hb3 : Below w.heap.size w (((W.setCell ⟨w.heap.size, 0, none⟩ (.slice Av (rowsF xs).length cv)).setCell ⟨w.heap.size + 1, 0, none⟩ (.int .i64 0)).setCell ⟨w.heap.size + 1 + 1, 0, none⟩ (.int .i64 0)) := ((HS.out.b.setCell (by simp) _).setCell (by simp) _).setCell (by simp; omega) _
    generalize ((W.setCell ⟨w.heap.size, 0, none⟩ (.slice Av (rowsF xs).length cv)).setCell ⟨w.heap.size + 1, 0, none⟩ (.int .i64 0)).setCell ⟨w.heap.size + 1 + 1, 0, none⟩ (.int .i64 0) = V at *
    have hD8 : w.heap.size + 8 ≤ D := by omega
    have hp : ∀ k, k < w.heap.size + 8 → (V.putObj D (.deferred none)).heap[k]? = V.heap[k]? := fun k hk => World.putObj_heap_other (by omega)
    have m0 := (k0.same (hp _ (by omega))).cell 0
    have m1 := (k1.same (hp _ (by omega))).cell 0
    have m2 := (k2.same (hp _ (by omega))).cell 0
    simp at m0 m1 m2
    refine ⟨by simp, .inl ⟨_, _, rfl, run_takeDeferred hK3, ?_⟩⟩
    refine ⟨_, results_cells3 rfl _ _ ⟨w.heap.size, 0, none⟩ ⟨w.heap.size + 1, 0, none⟩ ⟨w.heap.size + 1 + 1, 0, none⟩ _ _ _ rfl rfl rfl (run_loadVar_one _ _ _ _ _ Tryz.underlying91 rfl m0) (run_loadVar_one _ _ _ _ _ Tryz.underlying3 rfl m1) (run_loadVar_one _ _ _ _ _ Tryz.underlying39 rfl m2), _, az, rfl, ?_, ?_⟩
    · exact ⟨hl3.l, own_base (own_sm hl3.o fun k o hk _ hc => (World.putObj_heap_other (by rintro rfl; rw [hK3] at hk; cases hk; cases hc)).trans hk) (by omega), fun i a r ha hr => own_base (own_sm (hl3.c i a r ha hr) fun k o hk _ hc => (World.putObj_heap_other (by rintro rfl; rw [hK3] at hk; cases hk; cases hc)).trans hk) (by omega)⟩
    · exact ⟨hb3.os, hb3.tape, hb3.output, Nat.le_trans hb3.size (by simp), fun k hk => (hp k (by omega)).trans (hb3.block k hk)⟩
end Go.Proofs.YtinjdcefagaaeaaGreatDoor
namespace Go.Proofs.YtinjdcefagaaeaaGreatDoor
open Go.RowKit
/-! layout.declare: slices.Index, sectionNamed -/
set_option maxRecDepth 100000 in
set_option maxHeartbeats 1600000 in
theorem ixs0_ok (g n c : Nat) (a : UInt8) (w : World) (h0 : w.cell? ⟨g, 0, none⟩ = some (.string ⟨#[a]⟩)) (hn : 1 ≤ n) : Calls Tryz.prog 131 #[.slice (some ⟨g, 0, none⟩) n c, .string ⟨#[a]⟩] w fun e w' => e = .returned (.int .i64 0) ∧ w' = w := by
  have hl := World.block_lt_of_cell? _ _ h0
  have hn1 : (0 : Int) < (n : Int) := by omega
  go_enter Tryz.func131, Tryz.ntmps131
  go_wp2_with fail
  go_loopg [8] 0 (fun k v wr => v = .int .i64 0 ∧ wr = w)
  case atStart => exact ⟨rfl, rfl⟩
  case round =>
    obtain ⟨rfl, hw⟩ := hrel
    obtain rfl := hw
    go_wp2_with fail
    go_ret
    exact ⟨rfl, rfl⟩
set_option maxRecDepth 100000 in
set_option maxHeartbeats 1600000 in
theorem ixs1_ok (g n c : Nat) (w : World) (h0 : w.cell? ⟨g, 0, none⟩ = some (.string ⟨#[88]⟩)) (h1 : w.cell? ⟨g, 1, none⟩ = some (.string ⟨#[89]⟩)) (hn : 2 ≤ n) : Calls Tryz.prog 131 #[.slice (some ⟨g, 0, none⟩) n c, .string ⟨#[89]⟩] w fun e w' => e = .returned (.int .i64 1) ∧ w' = w := by
  have hl := World.block_lt_of_cell? _ _ h0
  have hn1 : (0 : Int) < (n : Int) := by omega
  have hn2 : (1 : Int) < (n : Int) := by omega
  go_enter Tryz.func131, Tryz.ntmps131
  go_wp2_with fail
  go_loopg [8] 1 (fun k v wr => wr = w ∧ ((k = 1 ∧ v = .int .i64 0) ∨ (k = 0 ∧ v = .int .i64 1)))
  case atStart => exact ⟨rfl, .inl ⟨rfl, rfl⟩⟩
  case round =>
    obtain ⟨hw, ⟨rfl, rfl⟩ | ⟨rfl, rfl⟩⟩ := hrel
    · obtain rfl := hw
      go_wp2_with fail
      go_roundg 0
      case measure => omega
      case rel => exact ⟨rfl, .inr ⟨rfl, rfl⟩⟩
    · obtain rfl := hw
      go_wp2_with fail
      go_ret
      exact ⟨rfl, rfl⟩
theorem sec_at {w : World} {g : Nat} (h : Cs w g seL) (i : Nat) (hi : i < 3) : w.cell? ⟨g, i * 5, none⟩ = some (.string ⟨#[nmF i]⟩) ∧ w.cell? ⟨g, i * 5 + 1, none⟩ = some (.int .i64 10) ∧ w.cell? ⟨g, i * 5 + 2, none⟩ = some (.int .i64 20000) ∧ w.cell? ⟨g, i * 5 + 3, none⟩ = some (.int .i64 0) ∧ w.cell? ⟨g, i * 5 + 4, none⟩ = some (.int .i64 (stF i)) := by
  match i, hi with
  | 0, _ => exact ⟨h.c 0 _ rfl, h.c 1 _ rfl, h.c 2 _ rfl, h.c 3 _ rfl, h.c 4 _ rfl⟩
  | 1, _ => exact ⟨h.c 5 _ rfl, h.c 6 _ rfl, h.c 7 _ rfl, h.c 8 _ rfl, h.c 9 _ rfl⟩
  | 2, _ => exact ⟨h.c 10 _ rfl, h.c 11 _ rfl, h.c 12 _ rfl, h.c 13 _ rfl, h.c 14 _ rfl⟩
theorem nmF_ne (i j : Nat) (hi : i < 3) (hj : j < 3) (hne : j ≠ i) : (nmF j == nmF i) = false := by
  match i, j, hi, hj with
  | 0, 1, _, _ => rfl
  | 0, 2, _, _ => rfl
  | 1, 0, _, _ => rfl
  | 1, 2, _, _ => rfl
  | 2, 0, _, _ => rfl
  | 2, 1, _, _ => rfl
  | 0, 0, _, _ => exact absurd rfl hne
  | 1, 1, _, _ => exact absurd rfl hne
  | 2, 2, _, _ => exact absurd rfl hne
set_option maxRecDepth 100000 in
set_option maxHeartbeats 1600000 in
theorem sn1_ok (i q : Nat) (b : UInt8) (w : World) (h : w.cell? ⟨q, 0, none⟩ = some (.string ⟨#[b]⟩)) : Calls Tryz.prog 196 #[.agg #[.string ⟨#[nmF i]⟩, .int .i64 10, .int .i64 20000, .int .i64 0, .int .i64 (stF i)], .pointer (some ⟨q, 0, none⟩)] w fun e w' => e = .returned (.bool (nmF i == b)) ∧ Below w.heap.size w w' := by
  have xl := World.block_lt_of_cell? _ _ h
  go_enter Tryz.func196, Tryz.ntmps196
  go_wp2_with fail
  go_ret
  exact ⟨rfl, (by repeat (first | exact Below.refl _ _ | (with_reducible refine Below.drew ?_) | (with_reducible refine below_drewN ?_ _) | (with_reducible refine Below.alloc ?_ (by first | omega | (simp; done) | (simp; omega)) _) | (with_reducible refine Below.setCell ?_ (by first | omega | (simp; done) | (simp; omega)) _) | (refine Below.trans ?_ (Below.mono (by with_reducible assumption) (by first | omega | (simp; done) | (simp; omega))))))⟩
def SmL' (w : World) (i : Nat) (k : Nat) (v : Value) (wr : World) : Prop := ∃ j : Nat, v = .int .i64 j ∧ j + k = i ∧ Below w.heap.size w wr
set_option maxRecDepth 100000 in
set_option maxHeartbeats 3200000 in
theorem ifs_ok (g c q i : Nat) (w : World) (hs : Cs w g seL) (h : w.cell? ⟨q, 0, none⟩ = some (.string ⟨#[nmF i]⟩)) (hi : i < 3) :
    Calls Tryz.prog 195 #[.slice (some ⟨g, 0, none⟩) 3 c, .func (.func 196) #[] #[.pointer (some ⟨q, 0, none⟩)]] w fun e w' => e = .returned (.int .i64 i) ∧ Below w.heap.size w w' := by
  have HS := Lib.hid hs
  have HQ := Lib.hid h
  clear hs h
  go_enter Tryz.func195, Tryz.ntmps195
  go_wp2_with fail
  go_loopg [8] i (fun k v wr => SmL' w i k v wr)
  case atStart => exact ⟨0, rfl, by omega, Below.refl _ _⟩
  case round =>
    obtain ⟨j, rfl, hj, hb⟩ := hrel
    have HB := Lib.hid hb
    have Hj := Lib.hid hj
    have hj3 : j < 3 := by omega
    have hj3i : (j : Int) < 3 := by omega
    clear hb hj
    obtain ⟨d0, d1, d2, d3, d4⟩ := sec_at (HS.out.go HB.out) j hj3
    have dl := (HS.out.go HB.out).lt
    have hq := cell_bel HB.out HQ.out
    have HCQ := Lib.hid hq
    clear hq
    by_cases hji : j = i
    · subst hji
      have heq : (nmF j == nmF j) = true := by simp
      go_wp2_with fail
      refine (sn1_ok j q (nmF j) _ HCQ.out).mono ?_
      rintro e w2 ⟨rfl, hb2⟩
      rw [heq]
      have HB2 := Lib.hid (HB.out.trans (hb2.mono HB.out.size))
      clear hb2 heq
      go_wp2_with fail
      go_ret
      exact ⟨rfl, HB2.out⟩
    · have heq := nmF_ne i j hi hj3 hji
      go_wp2_with fail
      refine (sn1_ok j q (nmF i) _ HCQ.out).mono ?_
      rintro e w2 ⟨rfl, hb2⟩
      rw [heq]
      have HB2 := Lib.hid (HB.out.trans (hb2.mono HB.out.size))
      clear hb2 heq
      go_wp2_with fail
      go_roundg (i - j - 1)
      case measure => have := Hj.out; omega
      case rel => exact ⟨j + 1, by first | rfl | go_num, by have := Hj.out; omega, HB2.out⟩
def snmI (b : UInt8) : Int := if b = 120 then 0 else if b = 97 then 1 else if b = 121 then 2 else -1
set_option maxRecDepth 100000 in
set_option maxHeartbeats 3200000 in
theorem secnm_i (g c Lb i : Nat) (w : World) (hs : Cs w g seL) (h : w.cell? ⟨Lb, 2, none⟩ = some (.slice (some ⟨g, 0, none⟩) 3 c)) (hi : i < 3) :
    Calls Tryz.prog 133 #[.pointer (some ⟨Lb, 0, none⟩), .string ⟨#[nmF i]⟩] w fun e w' => e = .returned (.int .i64 i) ∧ Below w.heap.size w w' := by
  have HS := Lib.hid hs
  have HQ := Lib.hid h
  clear hs h
  go_enter Tryz.func133, Tryz.ntmps133
  go_upto_region 1 with fail
  refine world_gen (fun w0 => Below w.heap.size w w0 ∧ w0.cell? ⟨w.heap.size, 0, none⟩ = some (.string ⟨#[nmF i]⟩)) ⟨(by repeat (first | exact Below.refl _ _ | (with_reducible refine Below.drew ?_) | (with_reducible refine below_drewN ?_ _) | (with_reducible refine Below.alloc ?_ (by first | omega | (simp; done) | (simp; omega)) _) | (with_reducible refine Below.setCell ?_ (by first | omega | (simp; done) | (simp; omega)) _) | (refine Below.trans ?_ (Below.mono (by with_reducible assumption) (by first | omega | (simp; done) | (simp; omega)))))), (Blk.new w 9 #[.string ⟨#[nmF i]⟩]).cell 0⟩ ?_
  rintro w0 ⟨hb0, hq0⟩
  have HB0 := Lib.hid hb0
  have HQ0 := Lib.hid hq0
  have l2 := cell_bel hb0 HQ.out
  have ll := World.block_lt_of_cell? _ _ l2
  simp at ll
  clear hb0 hq0
  go_wp2_with fail
  refine (ifs_ok g c w.heap.size i _ (HS.out.go HB0.out) HQ0.out hi).mono ?_
  rintro e w2 ⟨rfl, hb2⟩
  have HB2 := Lib.hid (HB0.out.trans (hb2.mono HB0.out.size))
  clear hb2
  go_wp2_with fail
  go_ret
  exact ⟨rfl, HB2.out⟩
theorem secnm_ok (g c Lb : Nat) (b : UInt8) (w : World) (hs : Cs w g seL) (h : w.cell? ⟨Lb, 2, none⟩ = some (.slice (some ⟨g, 0, none⟩) 3 c)) (hb : b = 120 ∨ b = 97 ∨ b = 121) :
    Calls Tryz.prog 133 #[.pointer (some ⟨Lb, 0, none⟩), .string ⟨#[b]⟩] w fun e w' => e = .returned (.int .i64 (snmI b)) ∧ Below w.heap.size w w' := by
  rcases hb with rfl | rfl | rfl
  · exact secnm_i g c Lb 0 w hs h (by omega)
  · exact secnm_i g c Lb 1 w hs h (by omega)
  · exact secnm_i g c Lb 2 w hs h (by omega)
end Go.Proofs.YtinjdcefagaaeaaGreatDoor
namespace Go.Proofs.YtinjdcefagaaeaaGreatDoor
open Go.RowKit
/-! layout.declareSection, declareLink -/
theorem infoStr : (Tryz.prog.info? 9).map (fun i => (i.zero, i.size, i.bytes)) = some (some (.string ⟨#[]⟩), 1, 16) := by kernel_rfl
theorem infoSec : (Tryz.prog.info? 169).map (fun i => (i.zero, i.size, i.bytes)) = some (some (.agg #[.string ⟨#[]⟩, .int .i64 0, .int .i64 0, .int .i64 0, .int .i64 0]), 5, 48) := by kernel_rfl
theorem infoLnk : (Tryz.prog.info? 249).map (fun i => (i.zero, i.size, i.bytes)) = some (some (.agg #[.int .i64 0, .int .i64 0, .int .i64 0, .int .i64 0, .int .i64 0, .int .i64 0]), 6, 48) := by kernel_rfl
theorem cell_gr {w w' : World} {a : Addr} {v : Value} {row : Option Nat} (h : w.cell? a = some v) (hg : w.grownBy w' row) (hne : row ≠ some a.block) : w'.cell? a = some v :=
  (World.cell?_of_block (hg.block _ (World.block_lt_of_cell? _ _ h) (fun e => hne e.symm))).trans h
/-- a layout that is being read -/
structure LyO (w : World) (Lb : Nat) (v1 v3 v4 : Value) (n1 n3 n4 : Nat) (c1 c3 c4 : List Value) : Prop where
  x : Blk w Lb 26 #[v1, .slice none 0 0, v3, v4]
  o1 : w.ownsRow (Lb + 1) 9 1 v1 n1 c1
  o3 : w.ownsRow (Lb + 1) 169 5 v3 n3 c3
  o4 : w.ownsRow (Lb + 1) 249 6 v4 n4 c4
section
variable {w w' : World} {Lb : Nat} {v1 v3 v4 v' : Value} {n1 n3 n4 n' : Nat} {c1 c3 c4 c' : List Value} {o : Obj}
theorem LyO.go (h : LyO w Lb v1 v3 v4 n1 n3 n4 c1 c3 c4) (hb : Below w.heap.size w w') : LyO w' Lb v1 v3 v4 n1 n3 n4 c1 c3 c4 := ⟨h.x.same (hb.block _ h.x.lt), own_grow h.o1 hb, own_grow h.o3 hb, own_grow h.o4 hb⟩
theorem LyO.key {v : Value} (hx : Lb < w.heap.size) (hv : ∀ g, v.ownBlock = some g → Lb + 1 ≤ g ∧ g < w.heap.size) (hg : (w.drew.alloc o).grownBy w' v.ownBlock) : (∀ k, k < w.heap.size → v.ownBlock ≠ some k → w'.heap[k]? = w.heap[k]?) ∧ Below Lb w w' ∧ w.heap.size ≤ w'.heap.size := by
  have hs := hg.size
  simp at hs
  have key : ∀ k, k < w.heap.size → v.ownBlock ≠ some k → w'.heap[k]? = w.heap[k]? := fun k hk hne => by
    rw [hg.block k (by simp; omega) (fun e => hne e.symm)]
    exact Below.heap_alloc _ _ _ hk
  exact ⟨key, ⟨hg.os, hg.tape, hg.output, by omega, fun k hk => key k (by omega) (fun e => by have := (hv _ e).1; omega)⟩, by omega⟩
theorem LyO.app1 (h : LyO w Lb v1 v3 v4 n1 n3 n4 c1 c3 c4) (hg : (w.drew.alloc o).grownBy w' v1.ownBlock) (ho : w'.ownsRow (Lb + 1) 9 1 v' n' c') : LyO (w'.setCell ⟨Lb, 0, none⟩ v') Lb v' v3 v4 n' n3 n4 c' c3 c4 ∧ Below Lb w (w'.setCell ⟨Lb, 0, none⟩ v') := by
  obtain ⟨key, hb, hz⟩ := LyO.key h.x.lt (own_block h.o1) hg
  have hx := h.x.same (key Lb h.x.lt (fun e => by have := (own_block h.o1 _ e).1; omega))
  have h3 : w'.ownsRow (Lb + 1) 169 5 v3 n3 c3 := own_app (show (w.drew.alloc o).ownsRow _ _ _ _ _ _ from World.ownsRow.alloc h.o3 o) (show (w.drew.alloc o).ownsRow _ _ _ _ _ _ from World.ownsRow.alloc h.o1 o) (by decide) hg
  have h4 : w'.ownsRow (Lb + 1) 249 6 v4 n4 c4 := own_app (show (w.drew.alloc o).ownsRow _ _ _ _ _ _ from World.ownsRow.alloc h.o4 o) (show (w.drew.alloc o).ownsRow _ _ _ _ _ _ from World.ownsRow.alloc h.o1 o) (by decide) hg
  exact ⟨⟨hx.set_ 0 v', own_far ho (fun e => by have h1 : Lb + 1 ≤ Lb := (own_block ho _ e).1; omega), own_far h3 (fun e => by have h1 : Lb + 1 ≤ Lb := (own_block h3 _ e).1; omega), own_far h4 (fun e => by have h1 : Lb + 1 ≤ Lb := (own_block h4 _ e).1; omega)⟩, hb.setCell (Nat.le_refl _) _⟩
theorem LyO.app3 (h : LyO w Lb v1 v3 v4 n1 n3 n4 c1 c3 c4) (hg : (w.drew.alloc o).grownBy w' v3.ownBlock) (ho : w'.ownsRow (Lb + 1) 169 5 v' n' c') : LyO (w'.setCell ⟨Lb, 2, none⟩ v') Lb v1 v' v4 n1 n' n4 c1 c' c4 ∧ Below Lb w (w'.setCell ⟨Lb, 2, none⟩ v') := by
  obtain ⟨key, hb, hz⟩ := LyO.key h.x.lt (own_block h.o3) hg
  have hx := h.x.same (key Lb h.x.lt (fun e => by have := (own_block h.o3 _ e).1; omega))
  have h3 : w'.ownsRow (Lb + 1) 9 1 v1 n1 c1 := own_app (show (w.drew.alloc o).ownsRow _ _ _ _ _ _ from World.ownsRow.alloc h.o1 o) (show (w.drew.alloc o).ownsRow _ _ _ _ _ _ from World.ownsRow.alloc h.o3 o) (by decide) hg
  have h4 : w'.ownsRow (Lb + 1) 249 6 v4 n4 c4 := own_app (show (w.drew.alloc o).ownsRow _ _ _ _ _ _ from World.ownsRow.alloc h.o4 o) (show (w.drew.alloc o).ownsRow _ _ _ _ _ _ from World.ownsRow.alloc h.o3 o) (by decide) hg
  exact ⟨⟨hx.set_ 2 v', own_far h3 (fun e => by have h1 : Lb + 1 ≤ Lb := (own_block h3 _ e).1; omega), own_far ho (fun e => by have h1 : Lb + 1 ≤ Lb := (own_block ho _ e).1; omega), own_far h4 (fun e => by have h1 : Lb + 1 ≤ Lb := (own_block h4 _ e).1; omega)⟩, hb.setCell (Nat.le_refl _) _⟩
theorem LyO.app4 (h : LyO w Lb v1 v3 v4 n1 n3 n4 c1 c3 c4) (hg : (w.drew.alloc o).grownBy w' v4.ownBlock) (ho : w'.ownsRow (Lb + 1) 249 6 v' n' c') : LyO (w'.setCell ⟨Lb, 3, none⟩ v') Lb v1 v3 v' n1 n3 n' c1 c3 c' ∧ Below Lb w (w'.setCell ⟨Lb, 3, none⟩ v') := by
  obtain ⟨key, hb, hz⟩ := LyO.key h.x.lt (own_block h.o4) hg
  have hx := h.x.same (key Lb h.x.lt (fun e => by have := (own_block h.o4 _ e).1; omega))
  have h3 : w'.ownsRow (Lb + 1) 9 1 v1 n1 c1 := own_app (show (w.drew.alloc o).ownsRow _ _ _ _ _ _ from World.ownsRow.alloc h.o1 o) (show (w.drew.alloc o).ownsRow _ _ _ _ _ _ from World.ownsRow.alloc h.o4 o) (by decide) hg
  have h4 : w'.ownsRow (Lb + 1) 169 5 v3 n3 c3 := own_app (show (w.drew.alloc o).ownsRow _ _ _ _ _ _ from World.ownsRow.alloc h.o3 o) (show (w.drew.alloc o).ownsRow _ _ _ _ _ _ from World.ownsRow.alloc h.o4 o) (by decide) hg
  exact ⟨⟨hx.set_ 3 v', own_far h3 (fun e => by have h1 : Lb + 1 ≤ Lb := (own_block h3 _ e).1; omega), own_far h4 (fun e => by have h1 : Lb + 1 ≤ Lb := (own_block h4 _ e).1; omega), own_far ho (fun e => by have h1 : Lb + 1 ≤ Lb := (own_block ho _ e).1; omega)⟩, hb.setCell (Nat.le_refl _) _⟩
end
abbrev tN10 : ByteArray := ⟨#[49, 48]⟩
abbrev tN20 : ByteArray := ⟨#[50, 48, 48, 48, 48]⟩
abbrev tN0 : ByteArray := ⟨#[48]⟩
theorem num_lit (s : ByteArray) (i : Int) (w : World) (hs : s.size ≤ 64) (h : numF s.data.toList = (i, true)) : Calls Tryz.prog 130 #[.string s] w fun e w' => e = .returned (.tuple #[.int .i64 i, .bool true]) ∧ w' = w := by
  have := number_any s w (by simp only [maxLen]; omega)
  rw [h] at this
  exact this
end Go.Proofs.YtinjdcefagaaeaaGreatDoor
namespace Go.Proofs.YtinjdcefagaaeaaGreatDoor
open Go.RowKit
/-! layout.declareSection -/
structure DsS (w wr : World) (Lb g S : Nat) (v1 v3 v4 : Value) (n1 n3 n4 : Nat) (c1 c3 c4 tx : List Value) (cs : Array Value) : Prop where
  b : Below w.heap.size w wr
  l : LyO wr Lb v1 v3 v4 n1 n3 n4 c1 c3 c4
  t : Cs wr g tx
  s : Blk wr S 169 cs
  g1 : w.heap.size ≤ S
  g2 : Lb < w.heap.size
  g3 : Lb < g
  g4 : g < w.heap.size
section
variable {w wr w' : World} {Lb g S : Nat} {v1 v3 v4 : Value} {n1 n3 n4 : Nat} {c1 c3 c4 tx : List Value} {cs : Array Value}
theorem DsS.go (h : DsS w wr Lb g S v1 v3 v4 n1 n3 n4 c1 c3 c4 tx cs) (hb : Below wr.heap.size wr w') : DsS w w' Lb g S v1 v3 v4 n1 n3 n4 c1 c3 c4 tx cs := ⟨h.b.trans (hb.mono h.b.size), h.l.go hb, h.t.go hb, h.s.same (hb.block _ h.s.lt), h.g1, h.g2, h.g3, h.g4⟩
theorem DsS.set (h : DsS w wr Lb g S v1 v3 v4 n1 n3 n4 c1 c3 c4 tx cs) (hl : ∀ k, (v1.ownBlock = some k ∨ v3.ownBlock = some k ∨ v4.ownBlock = some k) → k ≠ S) (i : Nat) (u : Value) : DsS w (wr.setCell ⟨S, i, none⟩ u) Lb g S v1 v3 v4 n1 n3 n4 c1 c3 c4 tx (cs.setIfInBounds i u) :=
  ⟨h.b.setCell h.g1 _, ⟨h.l.x.far (by have := h.g1; have := h.g2; omega), own_far h.l.o1 (fun e => hl _ (.inl e) rfl), own_far h.l.o3 (fun e => hl _ (.inr (.inl e)) rfl), own_far h.l.o4 (fun e => hl _ (.inr (.inr e)) rfl)⟩, h.t.tw (Tw.set _ _ _ _) (by have := h.g1; have := h.g4; omega), h.s.set_ i u, h.g1, h.g2, h.g3, h.g4⟩
end
abbrev lySec (nm : UInt8) (st : Int) : List Value := [.string ⟨#[nm]⟩, .int .i64 10, .int .i64 20000, .int .i64 0, .int .i64 st]
set_option maxRecDepth 100000 in
set_option maxHeartbeats 12800000 in
theorem dsec5_ok (Lb g c : Nat) (nm : UInt8) (kw : ByteArray) (v1 v3 v4 : Value) (n1 n3 n4 : Nat) (c1 c3 c4 : List Value) (w : World) (h : LyO w Lb v1 v3 v4 n1 n3 n4 c1 c3 c4) (hg : Cs w g [.string kw, .string ⟨#[nm]⟩, .string tN10, .string tN20, .string tN0]) (hLg : Lb < g) (hgv : v3.ownBlock ≠ some g) (hn : n3 ≤ 10) :
    Calls Tryz.prog 69 #[.pointer (some ⟨Lb, 0, none⟩), .slice (some ⟨g, 0, none⟩) 5 c] w fun e w' => e = .returned (.int .i64 0) ∧ Below Lb w w' ∧ ∃ v', LyO w' Lb v1 v' v4 n1 (n3 + 1) n4 c1 (c3 ++ lySec nm (-1)) c4 := by
  have H := Lib.hid h
  have hl1 := own_block h.o1
  have hl3 := own_block h.o3
  have hl4 := own_block h.o4
  have HL := Lib.hid (show ∀ k, (v1.ownBlock = some k ∨ v3.ownBlock = some k ∨ v4.ownBlock = some k) → k ≠ w.heap.size from fun k hk => by rcases hk with e | e | e <;> first | (have := (hl1 _ e).2; omega) | (have := (hl3 _ e).2; omega) | (have := (hl4 _ e).2; omega))
  have hxl := h.x.lt
  have hgl := hg.lt
  have HG := Lib.hid hg
  clear h hg hl1 hl3 hl4
  obtain ⟨iE, b1, b2, b3, b4⟩ := info_parts infoSec
  have HIE := Lib.hid (And.intro b1 (And.intro b2 (And.intro b3 b4)))
  clear b1 b2 b3 b4
  have q1 : w.cell? ⟨g, 1, none⟩ = some (.string ⟨#[nm]⟩) := HG.out.c 1 _ rfl
  go_enter Tryz.func69, Tryz.ntmps69
  go_upto_region 2 with fail
  refine world_gen (fun w0 => DsS w w0 Lb g w.heap.size v1 v3 v4 n1 n3 n4 c1 c3 c4 ([.string kw, .string ⟨#[nm]⟩, .string tN10, .string tN20, .string tN0]) #[.string ⟨#[nm]⟩, .int .i64 0, .int .i64 0, .int .i64 0, .int .i64 (-1)]) ⟨(by repeat (first | exact Below.refl _ _ | (with_reducible refine Below.drew ?_) | (with_reducible refine below_drewN ?_ _) | (with_reducible refine Below.alloc ?_ (by first | omega | (simp; done) | (simp; omega)) _) | (with_reducible refine Below.setCell ?_ (by first | omega | (simp; done) | (simp; omega)) _) | (refine Below.trans ?_ (Below.mono (by with_reducible assumption) (by first | omega | (simp; done) | (simp; omega)))))), H.out.go (by repeat (first | exact Below.refl _ _ | (with_reducible refine Below.drew ?_) | (with_reducible refine below_drewN ?_ _) | (with_reducible refine Below.alloc ?_ (by first | omega | (simp; done) | (simp; omega)) _) | (with_reducible refine Below.setCell ?_ (by first | omega | (simp; done) | (simp; omega)) _) | (refine Below.trans ?_ (Below.mono (by with_reducible assumption) (by first | omega | (simp; done) | (simp; omega)))))), HG.out.go (by repeat (first | exact Below.refl _ _ | (with_reducible refine Below.drew ?_) | (with_reducible refine below_drewN ?_ _) | (with_reducible refine Below.alloc ?_ (by first | omega | (simp; done) | (simp; omega)) _) | (with_reducible refine Below.setCell ?_ (by first | omega | (simp; done) | (simp; omega)) _) | (refine Below.trans ?_ (Below.mono (by with_reducible assumption) (by first | omega | (simp; done) | (simp; omega)))))), (by repeat (first | (refine Blk.new' _ _ _ _ ?_; first | rfl | (simp <;> omega)) | refine Blk.al ?_ _ | refine Blk.dr ?_ | refine Blk.drN ?_ _ | refine Blk.far ?_ (by first | omega | (simp; omega)))), Nat.le_refl _, hxl, hLg, hgl⟩ ?_
  intro w0 hs0
  have HS0 := Lib.hid hs0
  clear hs0 q1
  generalize w.heap.size = S at HS0 HL ⊢
  have s0 := HS0.out.s.cell 0
  have s1 := HS0.out.s.cell 1
  have s2 := HS0.out.s.cell 2
  have s3 := HS0.out.s.cell 3
  have s4 := HS0.out.s.cell 4
  have f1 := HS0.out.s.frozen 1
  have f2 := HS0.out.s.frozen 2
  have f3 := HS0.out.s.frozen 3
  have f4 := HS0.out.s.frozen 4
  have sl := HS0.out.s.lt
  have tl := HS0.out.t.lt
  simp at s0 s1 s2 s3 s4
  have q2 : w0.cell? ⟨g, 2, none⟩ = some (.string tN10) := HS0.out.t.c 2 _ rfl
  go_upto_region 4 with (go_at_call 130; refine (num_lit tN10 10 _ (by decide) (by decide)).mono ?_; rintro e w1 ⟨rfl, hw⟩; subst hw)
  refine world_gen (fun w1 => DsS w w1 Lb g S v1 v3 v4 n1 n3 n4 c1 c3 c4 ([.string kw, .string ⟨#[nm]⟩, .string tN10, .string tN20, .string tN0]) #[.string ⟨#[nm]⟩, .int .i64 10, .int .i64 0, .int .i64 0, .int .i64 (-1)]) (HS0.out.set HL.out 1 _) ?_
  intro w1 hs1
  have HS1 := Lib.hid hs1
  clear hs1 q2 HS0
  clear s0 s1 s2 s3 s4 f1 f2 f3 f4 sl tl
  have s0 := HS1.out.s.cell 0
  have s1 := HS1.out.s.cell 1
  have s2 := HS1.out.s.cell 2
  have s3 := HS1.out.s.cell 3
  have s4 := HS1.out.s.cell 4
  have f1 := HS1.out.s.frozen 1
  have f2 := HS1.out.s.frozen 2
  have f3 := HS1.out.s.frozen 3
  have f4 := HS1.out.s.frozen 4
  have sl := HS1.out.s.lt
  have tl := HS1.out.t.lt
  simp at s0 s1 s2 s3 s4
  have q3 : w1.cell? ⟨g, 3, none⟩ = some (.string tN20) := HS1.out.t.c 3 _ rfl
  go_upto_region 5 with (go_at_call 130; refine (num_lit tN20 20000 _ (by decide) (by decide)).mono ?_; rintro e w2 ⟨rfl, hw⟩; subst hw)
  refine world_gen (fun w2 => DsS w w2 Lb g S v1 v3 v4 n1 n3 n4 c1 c3 c4 ([.string kw, .string ⟨#[nm]⟩, .string tN10, .string tN20, .string tN0]) #[.string ⟨#[nm]⟩, .int .i64 10, .int .i64 20000, .int .i64 0, .int .i64 (-1)]) (HS1.out.set HL.out 2 _) ?_
  intro w2 hs2
  have HS2 := Lib.hid hs2
  clear hs2 q3 HS1
  clear s0 s1 s2 s3 s4 f1 f2 f3 f4 sl tl
  have s0 := HS2.out.s.cell 0
  have s1 := HS2.out.s.cell 1
  have s2 := HS2.out.s.cell 2
  have s3 := HS2.out.s.cell 3
  have s4 := HS2.out.s.cell 4
  have f1 := HS2.out.s.frozen 1
  have f2 := HS2.out.s.frozen 2
  have f3 := HS2.out.s.frozen 3
  have f4 := HS2.out.s.frozen 4
  have sl := HS2.out.s.lt
  have tl := HS2.out.t.lt
  simp at s0 s1 s2 s3 s4
  have q4 : w2.cell? ⟨g, 4, none⟩ = some (.string tN0) := HS2.out.t.c 4 _ rfl
  go_upto_region 6 with (go_at_call 130; refine (num_lit tN0 0 _ (by decide) (by decide)).mono ?_; rintro e w3 ⟨rfl, hw⟩; subst hw)
  refine world_gen (fun w3 => DsS w w3 Lb g S v1 v3 v4 n1 n3 n4 c1 c3 c4 ([.string kw, .string ⟨#[nm]⟩, .string tN10, .string tN20, .string tN0]) #[.string ⟨#[nm]⟩, .int .i64 10, .int .i64 20000, .int .i64 0, .int .i64 (-1)]) (HS2.out.set HL.out 3 _) ?_
  intro w3 hs3
  have HS3 := Lib.hid hs3
  clear hs3 q4 HS2
  clear s0 s1 s2 s3 s4 f1 f2 f3 f4 sl tl
  go_upto_region 12 with fail
  have s0 := HS3.out.s.cell 0
  have s1 := HS3.out.s.cell 1
  have s2 := HS3.out.s.cell 2
  have s3 := HS3.out.s.cell 3
  have s4 := HS3.out.s.cell 4
  have f1 := HS3.out.s.frozen 1
  have f2 := HS3.out.s.frozen 2
  have f3 := HS3.out.s.frozen 3
  have f4 := HS3.out.s.frozen 4
  have sl := HS3.out.s.lt
  have tl := HS3.out.t.lt
  simp at s0 s1 s2 s3 s4
  obtain ⟨A3, cc3, rfl, _, _⟩ := own_slice HS3.out.l.o3
  have x2 := HS3.out.l.x.cell 2
  have xl := HS3.out.l.x.lt
  simp at x2
  have hbz := HS3.out.b.size
  have hg1 := HS3.out.g1
  have hg2 := HS3.out.g2
  have hbd : Below w3.heap.size w3 (w3.drew.alloc (.cells (lySec nm (-1)).toArray 169)) := (Below.refl _ w3).drew.alloc (Nat.le_refl _) _
  have ho3b := own_block HS3.out.l.o3
  have hnL : (Value.slice A3 n3 cc3).ownBlock ≠ some Lb := fun e => by have h1 := (ho3b _ e).1; omega
  have hnS : (Value.slice A3 n3 cc3).ownBlock ≠ some S := fun e => HL.out _ (.inr (.inl e)) rfl
  refine wp_region_cut 8 (by kernel_rfl) (by kernel_rfl) ?_
  simp only [dulled, dull, List.take_succ_cons, List.take_zero, List.drop_succ_cons, List.drop_zero, List.map_cons, List.map_nil, List.cons_append, List.nil_append]
  refine wpAny_of_held (S := fun W => W.cell? ⟨Lb, 2, none⟩ = some (.slice A3 n3 cc3) ∧ W.cell? ⟨S, 0, none⟩ = some (.string ⟨#[nm]⟩) ∧ W.cell? ⟨S, 1, none⟩ = some (.int .i64 10) ∧ W.cell? ⟨S, 2, none⟩ = some (.int .i64 20000) ∧ W.cell? ⟨S, 3, none⟩ = some (.int .i64 0) ∧ W.cell? ⟨S, 4, none⟩ = some (.int .i64 (-1))) _ _ _ _ ?_
  change wpAnyH _ _ _ _ _ 11 _ _ (World.drew w3)
  have hHeld : (fun W => W.cell? ⟨Lb, 2, none⟩ = some (.slice A3 n3 cc3) ∧ W.cell? ⟨S, 0, none⟩ = some (.string ⟨#[nm]⟩) ∧ W.cell? ⟨S, 1, none⟩ = some (.int .i64 10) ∧ W.cell? ⟨S, 2, none⟩ = some (.int .i64 20000) ∧ W.cell? ⟨S, 3, none⟩ = some (.int .i64 0) ∧ W.cell? ⟨S, 4, none⟩ = some (.int .i64 (-1))) (World.drew w3) := ⟨x2, s0, s1, s2, s3, s4⟩
  refine wpAnyH_take (i := 0) (oi := ⟨some _, _, _, _, _, _⟩) (v := ?_) rfl (by kernel_rfl) (by kernel_rfl) (by kernel_rfl) (fun _ _ _ h => h) (Or.inl ⟨by rfl, ?_⟩) (by assumption) ?_
  rotate_left
  · (intro w hSw; (try dsimp only at hSw); go_simp; try with_reducible rfl)
  simp only [Act.put, List.setIfInBounds_toArray, List.set_cons_zero, List.set_cons_succ]
  refine wpAnyH_take (i := 1) (oi := ⟨some _, _, _, _, _, _⟩) (v := ?_) rfl (by kernel_rfl) (by kernel_rfl) (by kernel_rfl) (fun _ _ _ h => h) (Or.inl ⟨by rfl, ?_⟩) (by assumption) ?_
  rotate_left
  · (intro w hSw; (try dsimp only at hSw); go_simp; try with_reducible rfl)
  simp only [Act.put, List.setIfInBounds_toArray, List.set_cons_zero, List.set_cons_succ]
  refine wpAnyH_take (i := 2) (oi := ⟨some _, _, _, _, _, _⟩) (v := ?_) rfl (by kernel_rfl) (by kernel_rfl) (by kernel_rfl) (fun _ _ _ h => h) (Or.inl ⟨by rfl, ?_⟩) (by assumption) ?_
  rotate_left
  · (intro w hSw; (try dsimp only at hSw); go_simp; try with_reducible rfl)
  simp only [Act.put, List.setIfInBounds_toArray, List.set_cons_zero, List.set_cons_succ]
  refine wpAnyH_take (i := 3) (oi := ⟨some _, _, _, _, _, _⟩) (v := ?_) rfl (by kernel_rfl) (by kernel_rfl) (by kernel_rfl) (fun _ _ _ h => h) (Or.inl ⟨by rfl, ?_⟩) (by assumption) ?_
  rotate_left
  · (intro w hSw; (try dsimp only at hSw); go_simp; try with_reducible rfl)
  simp only [Act.put, List.setIfInBounds_toArray, List.set_cons_zero, List.set_cons_succ]
  refine wpAnyH_take (i := 4) (oi := ⟨some _, _, _, _, _, _⟩) (v := ?_) rfl (by kernel_rfl) (by kernel_rfl) (by kernel_rfl) (fun _ _ _ h => h) (Or.inl ⟨by rfl, ?_⟩) (by assumption) ?_
  rotate_left
  · (intro w hSw; (try dsimp only at hSw); go_simp; try with_reducible rfl)
  simp only [Act.put, List.setIfInBounds_toArray, List.set_cons_zero, List.set_cons_succ]
  refine wpAnyH_take (i := 5) (oi := ⟨some _, _, _, _, _, _⟩) (v := ?_) rfl (by kernel_rfl) (by kernel_rfl) (by kernel_rfl) (fun _ _ _ h => h) (Or.inl ⟨by rfl, ?_⟩) (by assumption) ?_
  rotate_left
  · (intro w hSw; (try dsimp only at hSw); go_simp; try with_reducible rfl)
  simp only [Act.put, List.setIfInBounds_toArray, List.set_cons_zero, List.set_cons_succ]
  refine wpAnyH_ready (rs := [6]) (by kernel_rfl) (by simp) ?_
  refine AllReadyH.cons rfl (fun K hK => ?_) AllReadyH.nil
  go_simp
  refine hK.out _ _ ⟨cell_bel hbd x2, cell_bel hbd s0, cell_bel hbd s1, cell_bel hbd s2, cell_bel hbd s3, cell_bel hbd s4⟩ (fun hHeld => ?_)
  clear hK K
  try simp only [Act.put, List.setIfInBounds_toArray, List.set_cons_zero, List.set_cons_succ]
  refine wpAnyH_ready (rs := [7]) (by kernel_rfl) (by simp) ?_
  refine AllReadyH.cons (o := ⟨some _, _, _, _, _, _⟩) rfl (fun K hK => ?_) AllReadyH.nil
  refine step_append_any (by rfl) _ _ _ (by rfl) (Lb + 1) 169 _ _ 5 48 Tryz.underlying23 HIE.out.1 HIE.out.2.1 HIE.out.2.2.1 HIE.out.2.2.2 rfl (by omega) (.slice A3 n3 cc3) n3 (c3) rfl (HS3.out.l.o3.alloc _) (some ⟨w3.drew.heap.size, 0, none⟩) 1 1 (w3.drew.heap.size + 1) (lySec nm (-1)) rfl (fun e => by cases e) (Rd.more (Rd.of_blk (cs := (lySec nm (-1))) (n := 1) (sz := 5) (by repeat (first | (refine Blk.new' _ _ _ _ ?_; first | rfl | (simp <;> omega)) | refine Blk.al ?_ _ | refine Blk.dr ?_ | refine Blk.drN ?_ _ | refine Blk.far ?_ (by first | omega | (simp; omega)))) rfl) (by simp)) ((List.all_eq_true (p := fun (u : Value) => u.oneCell')).1 (by rfl)) (by simp only [maxLen]; omega) (by omega) (by simp; try omega) ?_; intro va wa hoa hga hta; obtain ⟨Aa, ca, rfl, _, _⟩ := own_slice hoa
  have hgg : (w3.drew.alloc (.cells (lySec nm (-1)).toArray 169)).grownBy wa (Value.slice A3 n3 cc3).ownBlock := hga
  refine hK.out _ _ ⟨cell_gr (cell_bel hbd x2) hgg hnL, cell_gr (cell_bel hbd s0) hgg hnS, cell_gr (cell_bel hbd s1) hgg hnS, cell_gr (cell_bel hbd s2) hgg hnS, cell_gr (cell_bel hbd s3) hgg hnS, cell_gr (cell_bel hbd s4) hgg hnS⟩ (fun hHeld => ?_)
  clear hK K
  try simp only [Act.put, List.setIfInBounds_toArray, List.set_cons_zero, List.set_cons_succ]
  refine wpAnyH_ready (rs := [8]) (by kernel_rfl) (by simp) ?_
  refine AllReadyH.cons rfl (fun K hK => ?_) AllReadyH.nil
  go_simp
  refine hK.out _ _ hHeld (fun hHeld => ?_)
  clear hK K
  refine wpAnyH_ready (rs := [9]) (by kernel_rfl) (by simp) ?_
  refine AllReadyH.cons rfl (fun K hK => ?_) AllReadyH.nil
  go_simp
  refine hK.out _ _ hHeld (fun hHeld => ?_)
  clear hK K
  refine wpAnyH_ready (rs := [10]) (by kernel_rfl) (by simp) ?_
  refine AllReadyH.cons rfl (fun K hK => ?_) AllReadyH.nil
  go_simp
  refine hK.out _ _ hHeld (fun hHeld => ?_)
  clear hK K
  refine wpAnyH_done (by kernel_rfl) ?_ _
  simp only [cutQ, List.drop_succ_cons, List.drop_zero]
  obtain ⟨hly, hbl⟩ := HS3.out.l.app3 hgg hoa
  have HLY := Lib.hid hly
  have HBL := Lib.hid hbl
  have y2 : wa.cell? ⟨Lb, 2, none⟩ = some (.slice A3 n3 cc3) := hHeld.1
  have fy2 := (HS3.out.l.x.same ((LyO.key HS3.out.l.x.lt ho3b hgg).1 Lb HS3.out.l.x.lt hnL)).frozen 2
  have yl : Lb < wa.heap.size := Nat.lt_of_lt_of_le xl (LyO.key HS3.out.l.x.lt ho3b hgg).2.2
  clear hHeld hoa hga hta hbd hgg hly hbl x2 xl ho3b hnL hnS
  clear s0 s1 s2 s3 s4 f1 f2 f3 f4 sl tl
  go_wp2_with fail
  go_ret
  exact ⟨rfl, (HS3.out.b.mono (Nat.le_of_lt hg2)).trans HBL.out, _, HLY.out⟩
set_option maxRecDepth 100000 in
set_option maxHeartbeats 12800000 in
theorem dsec7_ok (Lb g c : Nat) (nm : UInt8) (kw sb : ByteArray) (st : Int) (v1 v3 v4 : Value) (n1 n3 n4 : Nat) (c1 c3 c4 : List Value) (w : World) (h : LyO w Lb v1 v3 v4 n1 n3 n4 c1 c3 c4) (hg : Cs w g [.string kw, .string ⟨#[nm]⟩, .string tN10, .string tN20, .string tN0, .string ⟨#[97, 116]⟩, .string sb]) (hLg : Lb < g) (hgv : v3.ownBlock ≠ some g) (hn : n3 ≤ 10)
    (hst : 0 ≤ st) (hst2 : st < 10) (hix : ∀ W, LyO W Lb v1 v3 v4 n1 n3 n4 c1 c3 c4 → Calls Tryz.prog 131 #[v1, .string sb] W fun e w' => e = .returned (.int .i64 st) ∧ W = w') :
    Calls Tryz.prog 69 #[.pointer (some ⟨Lb, 0, none⟩), .slice (some ⟨g, 0, none⟩) 7 c] w fun e w' => e = .returned (.int .i64 0) ∧ Below Lb w w' ∧ ∃ v', LyO w' Lb v1 v' v4 n1 (n3 + 1) n4 c1 (c3 ++ lySec nm st) c4 := by
  have HIX := Lib.hid hix
  clear hix
  have H := Lib.hid h
  have hl1 := own_block h.o1
  have hl3 := own_block h.o3
  have hl4 := own_block h.o4
  have HL := Lib.hid (show ∀ k, (v1.ownBlock = some k ∨ v3.ownBlock = some k ∨ v4.ownBlock = some k) → k ≠ w.heap.size from fun k hk => by rcases hk with e | e | e <;> first | (have := (hl1 _ e).2; omega) | (have := (hl3 _ e).2; omega) | (have := (hl4 _ e).2; omega))
  have hxl := h.x.lt
  have hgl := hg.lt
  have HG := Lib.hid hg
  clear h hg hl1 hl3 hl4
  obtain ⟨iE, b1, b2, b3, b4⟩ := info_parts infoSec
  have HIE := Lib.hid (And.intro b1 (And.intro b2 (And.intro b3 b4)))
  clear b1 b2 b3 b4
  have q1 : w.cell? ⟨g, 1, none⟩ = some (.string ⟨#[nm]⟩) := HG.out.c 1 _ rfl
  go_enter Tryz.func69, Tryz.ntmps69
  go_upto_region 2 with fail
  refine world_gen (fun w0 => DsS w w0 Lb g w.heap.size v1 v3 v4 n1 n3 n4 c1 c3 c4 ([.string kw, .string ⟨#[nm]⟩, .string tN10, .string tN20, .string tN0, .string ⟨#[97, 116]⟩, .string sb]) #[.string ⟨#[nm]⟩, .int .i64 0, .int .i64 0, .int .i64 0, .int .i64 (-1)]) ⟨(by repeat (first | exact Below.refl _ _ | (with_reducible refine Below.drew ?_) | (with_reducible refine below_drewN ?_ _) | (with_reducible refine Below.alloc ?_ (by first | omega | (simp; done) | (simp; omega)) _) | (with_reducible refine Below.setCell ?_ (by first | omega | (simp; done) | (simp; omega)) _) | (refine Below.trans ?_ (Below.mono (by with_reducible assumption) (by first | omega | (simp; done) | (simp; omega)))))), H.out.go (by repeat (first | exact Below.refl _ _ | (with_reducible refine Below.drew ?_) | (with_reducible refine below_drewN ?_ _) | (with_reducible refine Below.alloc ?_ (by first | omega | (simp; done) | (simp; omega)) _) | (with_reducible refine Below.setCell ?_ (by first | omega | (simp; done) | (simp; omega)) _) | (refine Below.trans ?_ (Below.mono (by with_reducible assumption) (by first | omega | (simp; done) | (simp; omega)))))), HG.out.go (by repeat (first | exact Below.refl _ _ | (with_reducible refine Below.drew ?_) | (with_reducible refine below_drewN ?_ _) | (with_reducible refine Below.alloc ?_ (by first | omega | (simp; done) | (simp; omega)) _) | (with_reducible refine Below.setCell ?_ (by first | omega | (simp; done) | (simp; omega)) _) | (refine Below.trans ?_ (Below.mono (by with_reducible assumption) (by first | omega | (simp; done) | (simp; omega)))))), (by repeat (first | (refine Blk.new' _ _ _ _ ?_; first | rfl | (simp <;> omega)) | refine Blk.al ?_ _ | refine Blk.dr ?_ | refine Blk.drN ?_ _ | refine Blk.far ?_ (by first | omega | (simp; omega)))), Nat.le_refl _, hxl, hLg, hgl⟩ ?_
  intro w0 hs0
  have HS0 := Lib.hid hs0
  clear hs0 q1
  generalize w.heap.size = S at HS0 HL ⊢
  have s0 := HS0.out.s.cell 0
  have s1 := HS0.out.s.cell 1
  have s2 := HS0.out.s.cell 2
  have s3 := HS0.out.s.cell 3
  have s4 := HS0.out.s.cell 4
  have f1 := HS0.out.s.frozen 1
  have f2 := HS0.out.s.frozen 2
  have f3 := HS0.out.s.frozen 3
  have f4 := HS0.out.s.frozen 4
  have sl := HS0.out.s.lt
  have tl := HS0.out.t.lt
  simp at s0 s1 s2 s3 s4
  have q2 : w0.cell? ⟨g, 2, none⟩ = some (.string tN10) := HS0.out.t.c 2 _ rfl
  go_upto_region 4 with (go_at_call 130; refine (num_lit tN10 10 _ (by decide) (by decide)).mono ?_; rintro e w1 ⟨rfl, hw⟩; subst hw)
  refine world_gen (fun w1 => DsS w w1 Lb g S v1 v3 v4 n1 n3 n4 c1 c3 c4 ([.string kw, .string ⟨#[nm]⟩, .string tN10, .string tN20, .string tN0, .string ⟨#[97, 116]⟩, .string sb]) #[.string ⟨#[nm]⟩, .int .i64 10, .int .i64 0, .int .i64 0, .int .i64 (-1)]) (HS0.out.set HL.out 1 _) ?_
  intro w1 hs1
  have HS1 := Lib.hid hs1
  clear hs1 q2 HS0
  clear s0 s1 s2 s3 s4 f1 f2 f3 f4 sl tl
  have s0 := HS1.out.s.cell 0
  have s1 := HS1.out.s.cell 1
  have s2 := HS1.out.s.cell 2
  have s3 := HS1.out.s.cell 3
  have s4 := HS1.out.s.cell 4
  have f1 := HS1.out.s.frozen 1
  have f2 := HS1.out.s.frozen 2
  have f3 := HS1.out.s.frozen 3
  have f4 := HS1.out.s.frozen 4
  have sl := HS1.out.s.lt
  have tl := HS1.out.t.lt
  simp at s0 s1 s2 s3 s4
  have q3 : w1.cell? ⟨g, 3, none⟩ = some (.string tN20) := HS1.out.t.c 3 _ rfl
  go_upto_region 5 with (go_at_call 130; refine (num_lit tN20 20000 _ (by decide) (by decide)).mono ?_; rintro e w2 ⟨rfl, hw⟩; subst hw)
  refine world_gen (fun w2 => DsS w w2 Lb g S v1 v3 v4 n1 n3 n4 c1 c3 c4 ([.string kw, .string ⟨#[nm]⟩, .string tN10, .string tN20, .string tN0, .string ⟨#[97, 116]⟩, .string sb]) #[.string ⟨#[nm]⟩, .int .i64 10, .int .i64 20000, .int .i64 0, .int .i64 (-1)]) (HS1.out.set HL.out 2 _) ?_
  intro w2 hs2
  have HS2 := Lib.hid hs2
  clear hs2 q3 HS1
  clear s0 s1 s2 s3 s4 f1 f2 f3 f4 sl tl
  have s0 := HS2.out.s.cell 0
  have s1 := HS2.out.s.cell 1
  have s2 := HS2.out.s.cell 2
  have s3 := HS2.out.s.cell 3
  have s4 := HS2.out.s.cell 4
  have f1 := HS2.out.s.frozen 1
  have f2 := HS2.out.s.frozen 2
  have f3 := HS2.out.s.frozen 3
  have f4 := HS2.out.s.frozen 4
  have sl := HS2.out.s.lt
  have tl := HS2.out.t.lt
  simp at s0 s1 s2 s3 s4
  have q4 : w2.cell? ⟨g, 4, none⟩ = some (.string tN0) := HS2.out.t.c 4 _ rfl
  go_upto_region 6 with (go_at_call 130; refine (num_lit tN0 0 _ (by decide) (by decide)).mono ?_; rintro e w3 ⟨rfl, hw⟩; subst hw)
  refine world_gen (fun w3 => DsS w w3 Lb g S v1 v3 v4 n1 n3 n4 c1 c3 c4 ([.string kw, .string ⟨#[nm]⟩, .string tN10, .string tN20, .string tN0, .string ⟨#[97, 116]⟩, .string sb]) #[.string ⟨#[nm]⟩, .int .i64 10, .int .i64 20000, .int .i64 0, .int .i64 (-1)]) (HS2.out.set HL.out 3 _) ?_
  intro w3 hs3
  have HS3 := Lib.hid hs3
  clear hs3 q4 HS2
  clear s0 s1 s2 s3 s4 f1 f2 f3 f4 sl tl
  go_upto_region 9 with fail
  obtain ⟨A1, cc1, rfl, _, _⟩ := own_slice HS3.out.l.o1
  have x0 := HS3.out.l.x.cell 0
  have xl := HS3.out.l.x.lt
  simp at x0
  have q6 : w3.cell? ⟨g, 6, none⟩ = some (.string sb) := HS3.out.t.c 6 _ rfl
  have s0 := HS3.out.s.cell 0
  have s1 := HS3.out.s.cell 1
  have s2 := HS3.out.s.cell 2
  have s3 := HS3.out.s.cell 3
  have s4 := HS3.out.s.cell 4
  have f1 := HS3.out.s.frozen 1
  have f2 := HS3.out.s.frozen 2
  have f3 := HS3.out.s.frozen 3
  have f4 := HS3.out.s.frozen 4
  have sl := HS3.out.s.lt
  have tl := HS3.out.t.lt
  simp at s0 s1 s2 s3 s4
  refine wp_region_overT 8 (by kernel_rfl) (by kernel_rfl) ?_
  simp only [List.take_succ_cons, List.take_zero, List.drop_succ_cons, List.drop_zero]
  repeat (go_big_quiet_step ((go_at_call 131; exact callsOverSame (HIX.out _ (HS3.out.l.go (over_below _ _))))))
  refine wpQuiet_nil ?_
  intro w4 hb4
  have HS4 := Lib.hid (HS3.out.go hb4)
  clear hb4 x0 xl q6 HS3
  clear s0 s1 s2 s3 s4 f1 f2 f3 f4 sl tl
  have s0 := HS4.out.s.cell 0
  have s1 := HS4.out.s.cell 1
  have s2 := HS4.out.s.cell 2
  have s3 := HS4.out.s.cell 3
  have s4 := HS4.out.s.cell 4
  have f1 := HS4.out.s.frozen 1
  have f2 := HS4.out.s.frozen 2
  have f3 := HS4.out.s.frozen 3
  have f4 := HS4.out.s.frozen 4
  have sl := HS4.out.s.lt
  have tl := HS4.out.t.lt
  simp at s0 s1 s2 s3 s4
  go_upto_region 10 with fail
  refine world_gen (fun w5 => DsS w w5 Lb g S (.slice A1 n1 cc1) v3 v4 n1 n3 n4 c1 c3 c4 [.string kw, .string ⟨#[nm]⟩, .string tN10, .string tN20, .string tN0, .string ⟨#[97, 116]⟩, .string sb] #[.string ⟨#[nm]⟩, .int .i64 10, .int .i64 20000, .int .i64 0, .int .i64 st]) (HS4.out.set HL.out 4 _) ?_
  intro w5 hs5
  have HS5 := Lib.hid hs5
  clear hs5 HS4
  clear s0 s1 s2 s3 s4 f1 f2 f3 f4 sl tl
  have s0 := HS5.out.s.cell 0
  have s1 := HS5.out.s.cell 1
  have s2 := HS5.out.s.cell 2
  have s3 := HS5.out.s.cell 3
  have s4 := HS5.out.s.cell 4
  have f1 := HS5.out.s.frozen 1
  have f2 := HS5.out.s.frozen 2
  have f3 := HS5.out.s.frozen 3
  have f4 := HS5.out.s.frozen 4
  have sl := HS5.out.s.lt
  have tl := HS5.out.t.lt
  simp at s0 s1 s2 s3 s4
  go_upto_region 12 with fail
  obtain ⟨A3, cc3, rfl, _, _⟩ := own_slice HS5.out.l.o3
  have x2 := HS5.out.l.x.cell 2
  have xl := HS5.out.l.x.lt
  simp at x2
  have hbz := HS5.out.b.size
  have hg1 := HS5.out.g1
  have hg2 := HS5.out.g2
  have hbd : Below w5.heap.size w5 (w5.drew.alloc (.cells (lySec nm (st)).toArray 169)) := (Below.refl _ w5).drew.alloc (Nat.le_refl _) _
  have ho3b := own_block HS5.out.l.o3
  have hnL : (Value.slice A3 n3 cc3).ownBlock ≠ some Lb := fun e => by have h1 := (ho3b _ e).1; omega
  have hnS : (Value.slice A3 n3 cc3).ownBlock ≠ some S := fun e => HL.out _ (.inr (.inl e)) rfl
  refine wp_region_cut 8 (by kernel_rfl) (by kernel_rfl) ?_
  simp only [dulled, dull, List.take_succ_cons, List.take_zero, List.drop_succ_cons, List.drop_zero, List.map_cons, List.map_nil, List.cons_append, List.nil_append]
  refine wpAny_of_held (S := fun W => W.cell? ⟨Lb, 2, none⟩ = some (.slice A3 n3 cc3) ∧ W.cell? ⟨S, 0, none⟩ = some (.string ⟨#[nm]⟩) ∧ W.cell? ⟨S, 1, none⟩ = some (.int .i64 10) ∧ W.cell? ⟨S, 2, none⟩ = some (.int .i64 20000) ∧ W.cell? ⟨S, 3, none⟩ = some (.int .i64 0) ∧ W.cell? ⟨S, 4, none⟩ = some (.int .i64 (st))) _ _ _ _ ?_
  change wpAnyH _ _ _ _ _ 11 _ _ (World.drew w5)
  have hHeld : (fun W => W.cell? ⟨Lb, 2, none⟩ = some (.slice A3 n3 cc3) ∧ W.cell? ⟨S, 0, none⟩ = some (.string ⟨#[nm]⟩) ∧ W.cell? ⟨S, 1, none⟩ = some (.int .i64 10) ∧ W.cell? ⟨S, 2, none⟩ = some (.int .i64 20000) ∧ W.cell? ⟨S, 3, none⟩ = some (.int .i64 0) ∧ W.cell? ⟨S, 4, none⟩ = some (.int .i64 (st))) (World.drew w5) := ⟨x2, s0, s1, s2, s3, s4⟩
  refine wpAnyH_take (i := 0) (oi := ⟨some _, _, _, _, _, _⟩) (v := ?_) rfl (by kernel_rfl) (by kernel_rfl) (by kernel_rfl) (fun _ _ _ h => h) (Or.inl ⟨by rfl, ?_⟩) (by assumption) ?_
  rotate_left
  · (intro w hSw; (try dsimp only at hSw); go_simp; try with_reducible rfl)
  simp only [Act.put, List.setIfInBounds_toArray, List.set_cons_zero, List.set_cons_succ]
  refine wpAnyH_take (i := 1) (oi := ⟨some _, _, _, _, _, _⟩) (v := ?_) rfl (by kernel_rfl) (by kernel_rfl) (by kernel_rfl) (fun _ _ _ h => h) (Or.inl ⟨by rfl, ?_⟩) (by assumption) ?_
  rotate_left
  · (intro w hSw; (try dsimp only at hSw); go_simp; try with_reducible rfl)
  simp only [Act.put, List.setIfInBounds_toArray, List.set_cons_zero, List.set_cons_succ]
  refine wpAnyH_take (i := 2) (oi := ⟨some _, _, _, _, _, _⟩) (v := ?_) rfl (by kernel_rfl) (by kernel_rfl) (by kernel_rfl) (fun _ _ _ h => h) (Or.inl ⟨by rfl, ?_⟩) (by assumption) ?_
  rotate_left
  · (intro w hSw; (try dsimp only at hSw); go_simp; try with_reducible rfl)
  simp only [Act.put, List.setIfInBounds_toArray, List.set_cons_zero, List.set_cons_succ]
  refine wpAnyH_take (i := 3) (oi := ⟨some _, _, _, _, _, _⟩) (v := ?_) rfl (by kernel_rfl) (by kernel_rfl) (by kernel_rfl) (fun _ _ _ h => h) (Or.inl ⟨by rfl, ?_⟩) (by assumption) ?_
  rotate_left
  · (intro w hSw; (try dsimp only at hSw); go_simp; try with_reducible rfl)
  simp only [Act.put, List.setIfInBounds_toArray, List.set_cons_zero, List.set_cons_succ]
  refine wpAnyH_take (i := 4) (oi := ⟨some _, _, _, _, _, _⟩) (v := ?_) rfl (by kernel_rfl) (by kernel_rfl) (by kernel_rfl) (fun _ _ _ h => h) (Or.inl ⟨by rfl, ?_⟩) (by assumption) ?_
  rotate_left
  · (intro w hSw; (try dsimp only at hSw); go_simp; try with_reducible rfl)
  simp only [Act.put, List.setIfInBounds_toArray, List.set_cons_zero, List.set_cons_succ]
  refine wpAnyH_take (i := 5) (oi := ⟨some _, _, _, _, _, _⟩) (v := ?_) rfl (by kernel_rfl) (by kernel_rfl) (by kernel_rfl) (fun _ _ _ h => h) (Or.inl ⟨by rfl, ?_⟩) (by assumption) ?_
  rotate_left
  · (intro w hSw; (try dsimp only at hSw); go_simp; try with_reducible rfl)
  simp only [Act.put, List.setIfInBounds_toArray, List.set_cons_zero, List.set_cons_succ]
  refine wpAnyH_ready (rs := [6]) (by kernel_rfl) (by simp) ?_
  refine AllReadyH.cons rfl (fun K hK => ?_) AllReadyH.nil
  go_simp
  refine hK.out _ _ ⟨cell_bel hbd x2, cell_bel hbd s0, cell_bel hbd s1, cell_bel hbd s2, cell_bel hbd s3, cell_bel hbd s4⟩ (fun hHeld => ?_)
  clear hK K
  try simp only [Act.put, List.setIfInBounds_toArray, List.set_cons_zero, List.set_cons_succ]
  refine wpAnyH_ready (rs := [7]) (by kernel_rfl) (by simp) ?_
  refine AllReadyH.cons (o := ⟨some _, _, _, _, _, _⟩) rfl (fun K hK => ?_) AllReadyH.nil
  refine step_append_any (by rfl) _ _ _ (by rfl) (Lb + 1) 169 _ _ 5 48 Tryz.underlying23 HIE.out.1 HIE.out.2.1 HIE.out.2.2.1 HIE.out.2.2.2 rfl (by omega) (.slice A3 n3 cc3) n3 (c3) rfl (HS5.out.l.o3.alloc _) (some ⟨w5.drew.heap.size, 0, none⟩) 1 1 (w5.drew.heap.size + 1) (lySec nm (st)) rfl (fun e => by cases e) (Rd.more (Rd.of_blk (cs := (lySec nm (st))) (n := 1) (sz := 5) (by repeat (first | (refine Blk.new' _ _ _ _ ?_; first | rfl | (simp <;> omega)) | refine Blk.al ?_ _ | refine Blk.dr ?_ | refine Blk.drN ?_ _ | refine Blk.far ?_ (by first | omega | (simp; omega)))) rfl) (by simp)) ((List.all_eq_true (p := fun (u : Value) => u.oneCell')).1 (by rfl)) (by simp only [maxLen]; omega) (by omega) (by simp; try omega) ?_; intro va wa hoa hga hta; obtain ⟨Aa, ca, rfl, _, _⟩ := own_slice hoa
  have hgg : (w5.drew.alloc (.cells (lySec nm (st)).toArray 169)).grownBy wa (Value.slice A3 n3 cc3).ownBlock := hga
  refine hK.out _ _ ⟨cell_gr (cell_bel hbd x2) hgg hnL, cell_gr (cell_bel hbd s0) hgg hnS, cell_gr (cell_bel hbd s1) hgg hnS, cell_gr (cell_bel hbd s2) hgg hnS, cell_gr (cell_bel hbd s3) hgg hnS, cell_gr (cell_bel hbd s4) hgg hnS⟩ (fun hHeld => ?_)
  clear hK K
  try simp only [Act.put, List.setIfInBounds_toArray, List.set_cons_zero, List.set_cons_succ]
  refine wpAnyH_ready (rs := [8]) (by kernel_rfl) (by simp) ?_
  refine AllReadyH.cons rfl (fun K hK => ?_) AllReadyH.nil
  go_simp
  refine hK.out _ _ hHeld (fun hHeld => ?_)
  clear hK K
  refine wpAnyH_ready (rs := [9]) (by kernel_rfl) (by simp) ?_
  refine AllReadyH.cons rfl (fun K hK => ?_) AllReadyH.nil
  go_simp
  refine hK.out _ _ hHeld (fun hHeld => ?_)
  clear hK K
  refine wpAnyH_ready (rs := [10]) (by kernel_rfl) (by simp) ?_
  refine AllReadyH.cons rfl (fun K hK => ?_) AllReadyH.nil
  go_simp
  refine hK.out _ _ hHeld (fun hHeld => ?_)
  clear hK K
  refine wpAnyH_done (by kernel_rfl) ?_ _
  simp only [cutQ, List.drop_succ_cons, List.drop_zero]
  obtain ⟨hly, hbl⟩ := HS5.out.l.app3 hgg hoa
  have HLY := Lib.hid hly
  have HBL := Lib.hid hbl
  have y2 : wa.cell? ⟨Lb, 2, none⟩ = some (.slice A3 n3 cc3) := hHeld.1
  have fy2 := (HS5.out.l.x.same ((LyO.key HS5.out.l.x.lt ho3b hgg).1 Lb HS5.out.l.x.lt hnL)).frozen 2
  have yl : Lb < wa.heap.size := Nat.lt_of_lt_of_le xl (LyO.key HS5.out.l.x.lt ho3b hgg).2.2
  clear hHeld hoa hga hta hbd hgg hly hbl x2 xl ho3b hnL hnS
  clear s0 s1 s2 s3 s4 f1 f2 f3 f4 sl tl
  go_wp2_with fail
  go_ret
  exact ⟨rfl, (HS5.out.b.mono (Nat.le_of_lt hg2)).trans HBL.out, _, HLY.out⟩
end Go.Proofs.YtinjdcefagaaeaaGreatDoor
