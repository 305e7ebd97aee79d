import Derived.Test.YthfifejjfnmpoaaTp15
import Derived.Test.YthfifejjfnmpoaaTp19
import Derived.Test.YthfifejjfnmpoaaTp21
import Derived.Test.YthfifejjfnmpoaaTpMath7
namespace Go.Proofs.Ythfifejjfnmpoaa
open Go.RowKit
theorem SdS.keep {w wr w' : World} {vP vC : Value} {cs : List CE} {n m : Nat} {ys : List Value} {o : Obj} (h : SdS w wr vC cs n) (hP : wr.ownsRow w.heap.size 40 9 vP m ys) (hg : (wr.alloc o).grownBy w' vP.ownBlock) (ap : vP.ownBlock = none ∨ vP.ownBlock ≠ vC.ownBlock) : SdS w w' vC cs n := by
  have hb : Below wr.heap.size wr (wr.alloc o) := (Below.refl _ _).alloc (Nat.le_refl _) _
  have hk : Kp w.heap.size (wr.alloc o) w' := Kp.grown (World.ownsRow.alloc hP o) (by decide) (Nat.le_refl _) hg
  exact ⟨⟨(World.ownsRow.alloc h.o.o o).kept hg (ap_sym ap), fun t ht => ((h.o.m t ht).kp (Kp.bel hb)).kp hk⟩, h.n, (h.b.alloc h.b.size o).grown hg (by have := h.b.size; simp; omega) (fun k hk => (own_block hP k hk).1)⟩
theorem app_ap {w wr : World} {o : Obj} {vP vC v' : Value} {n m : Nat} {xs ys : List Value} (_hP : wr.ownsRow w.heap.size 40 9 vP n xs) (hC : wr.ownsRow w.heap.size 40 9 vC m ys) (ap : vP.ownBlock = none ∨ vP.ownBlock ≠ vC.ownBlock) (hat : v'.ownBlock = vP.ownBlock ∨ v'.ownBlock = some (wr.alloc o).heap.size) : v'.ownBlock = none ∨ v'.ownBlock ≠ vC.ownBlock := by
  rcases hat with e | e
  · rw [e]; exact ap
  · right
    rw [e]
    intro e'
    have := (own_block hC _ e'.symm).2
    simp at this
    omega
def MgL (w : World) (F S : List PE) (T1 T2 : List PE) (k : Nat) (v12 v13 v14 v15 : Value) (wr : World) : Prop :=
  ∃ (i j : Nat) (ps cs : List CE), v14 = .int .i64 i ∧ v15 = .int .i64 j ∧ i ≤ F.length ∧ j ≤ S.length ∧ (F.length - i) + (S.length - j) = k ∧ ps.map CE.pe ++ (mgM (F.drop i) (S.drop j)).1 = T1 ∧ cs.map CE.pe ++ (mgM (F.drop i) (S.drop j)).2 = T2 ∧ SdS w wr v12 ps (i + j) ∧ SdS w wr v13 cs j ∧ (v12.ownBlock = none ∨ v12.ownBlock ≠ v13.ownBlock)
theorem drop_pe (xs : List CE) (i : Nat) (h : i < xs.length) : (xs.map CE.pe).drop i = xs[i].pe :: (xs.map CE.pe).drop (i + 1) := by
  rw [List.drop_eq_getElem_cons (by simpa using h), List.getElem_map]
/-- merge: the code, the list, the conflicts -/
def mgV (L A B : List PT) : Nat × List PT × List PE :=
  if chkT L = true ∧ chkT A = true ∧ chkT B = true then
    (if (apV L (mgM (diffM L A) (diffM L B)).1).1 = 0 then (0, (apV L (mgM (diffM L A) (diffM L B)).1).2, (mgM (diffM L A) (diffM L B)).2) else ((apV L (mgM (diffM L A) (diffM L B)).1).1, [], []))
  else (1, [], [])
def MgOut (L A B : List PT) (w : World) (e : Ending) (w' : World) : Prop :=
  ∃ (A1 A2 : Option Addr) (c1 c2 : Nat) (ts : List CT) (cs : List CE), e = .returned (.tuple #[.slice A1 ts.length c1, .slice A2 cs.length c2, .int .i64 ((mgV L A B).1 : Nat)]) ∧ TLO w' A1 c1 ts ∧ EL w' A2 c2 cs ∧ ts.map CT.pt = (mgV L A B).2.1 ∧ cs.map CE.pe = (mgV L A B).2.2 ∧ Below w.heap.size w w'
theorem EL.nil (w : World) : EL w none 0 [] := ⟨Rd.empty _ _ _, fun t ht => by simp at ht, fun _ => ⟨rfl, rfl⟩, by simp, by simp, by simp [maxLen]⟩
theorem dfC_bad {a b : List PT} (h : ¬ (chkT a = true ∧ chkT b = true)) : dfC a b = 1 := by unfold dfC; rw [if_neg h]
theorem dfC_ok {a b : List PT} (h : chkT a = true ∧ chkT b = true) : dfC a b = 0 := by unfold dfC; rw [if_pos h]
theorem dfV_ok {a b : List PT} (h : chkT a = true ∧ chkT b = true) : dfV a b = diffM a b := by unfold dfV; rw [if_pos h]
theorem dfV_key {a b : List PT} {es : List CE} (h : chkT a = true ∧ chkT b = true) (he : es.map CE.pe = diffM a b) : ∀ e ∈ es, 1 ≤ (keyC e).dep.length := fun e hm => by
  obtain ⟨_, oa, aa⟩ := chkT_iff.1 h.1
  obtain ⟨_, ob, ab⟩ := chkT_iff.1 h.2
  have := okE_key (diffM_ok aa ab oa ob e.pe (by rw [← he]; exact List.mem_map.2 ⟨e, hm, rfl⟩))
  rw [← keyC_pt] at this
  exact this
set_option maxRecDepth 100000 in
set_option maxHeartbeats 12800000 in
theorem merge_any (A B C : Option Addr) (c0 ca cb : Nat) (xs as_ bs : List CT) (w : World) (h0 : TL w A c0 xs) (ha : TL w B ca as_) (hb : TL w C cb bs) (hA : A = none ∨ ∃ b, A = some ⟨b, 0, none⟩) :
    Calls Try.prog 29 #[.slice A xs.length c0, .slice B as_.length ca, .slice C bs.length cb] w (MgOut (xs.map CT.pt) (as_.map CT.pt) (bs.map CT.pt) w) := by
  have HX := Lib.hid h0
  have HA := Lib.hid ha
  have HB := Lib.hid hb
  clear h0 ha hb
  obtain ⟨iE, b1, b2, b3, b4⟩ := info_parts infoEd
  have HIE := Lib.hid (And.intro b1 (And.intro b2 (And.intro b3 b4)))
  clear b1 b2 b3 b4
  go_enter Try.func29, Try.ntmps29
  go_wp2_with fail
  refine (diff_any A B c0 ca xs as_ w HX.out HA.out).mono ?_
  rintro e w1 ⟨A1, c1, es, rfl, ho1, hv1, hl1, hb1⟩
  have HE1 := Lib.hid (ho1.el (by omega))
  have HV1 := Lib.hid hv1
  have HB1 := Lib.hid hb1
  clear ho1 hv1 hb1
  by_cases h1 : chkT (xs.map CT.pt) = true ∧ chkT (as_.map CT.pt) = true
  case neg =>
    have HM := Lib.hid (show mgV (xs.map CT.pt) (as_.map CT.pt) (bs.map CT.pt) = (1, [], []) by unfold mgV; rw [if_neg (fun h => h1 ⟨h.1, h.2.1⟩)])
    rw [dfC_bad h1]
    go_wp2_with fail
    go_ret3
    exact ⟨none, none, 0, 0, [], [], by rw [HM.out]; rfl, TLO.nil _, EL.nil _, by rw [HM.out]; rfl, by rw [HM.out]; rfl, HB1.out⟩
  rw [dfC_ok h1]
  have HF := Lib.hid (HV1.out.trans (dfV_ok h1))
  have HK1 := Lib.hid (dfV_key h1 HF.out)
  go_wp2_with fail
  refine (diff_any A C c0 cb xs bs w1 (HX.out.go HB1.out) (HB.out.go HB1.out)).mono ?_
  rintro e w3 ⟨A2, c2, fs, rfl, ho2, hv2, hl2, hb2⟩
  have HE2 := Lib.hid (ho2.el (by omega))
  have HE13 := Lib.hid (HE1.out.go hb2)
  have HB3 := Lib.hid (HB1.out.trans (hb2.mono HB1.out.size))
  have HV2 := Lib.hid hv2
  clear ho2 hv2 hb2 HE1 HB1
  by_cases h2 : chkT (xs.map CT.pt) = true ∧ chkT (bs.map CT.pt) = true
  case neg =>
    have HM := Lib.hid (show mgV (xs.map CT.pt) (as_.map CT.pt) (bs.map CT.pt) = (1, [], []) by unfold mgV; rw [if_neg (fun h => h2 ⟨h.1, h.2.2⟩)])
    rw [dfC_bad h2]
    go_wp2_with fail
    go_ret3
    exact ⟨none, none, 0, 0, [], [], by rw [HM.out]; rfl, TLO.nil _, EL.nil _, by rw [HM.out]; rfl, by rw [HM.out]; rfl, HB3.out⟩
  rw [dfC_ok h2]
  have HG := Lib.hid (HV2.out.trans (dfV_ok h2))
  have HK2 := Lib.hid (dfV_key h2 HG.out)
  have HM := Lib.hid (show mgV (xs.map CT.pt) (as_.map CT.pt) (bs.map CT.pt) = if (apV (xs.map CT.pt) (mgM (es.map CE.pe) (fs.map CE.pe)).1).1 = 0 then (0, (apV (xs.map CT.pt) (mgM (es.map CE.pe) (fs.map CE.pe)).1).2, (mgM (es.map CE.pe) (fs.map CE.pe)).2) else ((apV (xs.map CT.pt) (mgM (es.map CE.pe) (fs.map CE.pe)).1).1, [], []) by
    unfold mgV; rw [if_pos ⟨h1.1, h1.2, h2.2⟩, HF.out, HG.out])
  clear h1 h2 HV1 HV2 HF HG
  generalize hT1 : (mgM (es.map CE.pe) (fs.map CE.pe)).1 = T1 at *
  generalize hT2 : (mgM (es.map CE.pe) (fs.map CE.pe)).2 = T2 at *
  have HT1 := Lib.hid hT1
  have HT2 := Lib.hid hT2
  clear hT1 hT2
  go_wp2_with fail
  go_loopg [12, 13, 14, 15, 16, 57, 62] (es.length + fs.length) (fun k v12 v13 v14 v15 _ _ v wr => MgL w3 (es.map CE.pe) (fs.map CE.pe) T1 T2 k v12 v13 v14 v15 wr)
  case atStart => exact ⟨0, 0, [], [], rfl, rfl, by omega, by omega, by simp, by simpa using HT1.out, by simpa using HT2.out, ⟨EO.nil _ _, by simp, Below.refl _ _⟩, ⟨EO.nil _ _, by simp, Below.refl _ _⟩, .inl rfl⟩
  case round =>
    clear HT1 HT2
    obtain ⟨i, j, ps, cs, rfl, rfl, hil, hjl, hk, hp, hc, hsp, hsc, hap⟩ := hrel
    simp only [List.length_map] at hil hjl hk
    have Hk := Lib.hid hk
    have HPZ := Lib.hid hp
    have HCZ := Lib.hid hc
    have HP := Lib.hid hsp
    have HC := Lib.hid hsc
    have HAP := Lib.hid hap
    clear hk hp hc hsp hsc hap
    obtain ⟨Ap, cp, rfl⟩ := HP.out.o.sl
    obtain ⟨Ac, cc, rfl⟩ := HC.out.o.sl
    have hpn := HP.out.n
    have hcn := HC.out.n
    have hpl := HP.out.b.size
    by_cases hi : i < es.length
    · have hie : ((i : Int) == (es.length : Int)) = false := by simp; omega
      by_cases hj : j < fs.length
      · have hje : ((j : Int) == (fs.length : Int)) = false := by simp; omega
        obtain ⟨b1, o1, hA1, hb1, q0, q1, q2, q3, q4, q5, q6, q7, q8⟩ := rdE (HE13.out.r.grow HP.out.b) rfl i hi
        cases hA1
        obtain ⟨b2, o2, hA2, hb2, r0, r1, r2, r3, r4, r5, r6, r7, r8⟩ := rdE (HE2.out.r.grow HP.out.b) rfl j hj
        cases hA2
        have hbw1 : b1 < wr.heap.size := World.block_lt_of_cell? _ _ q0
        have hbw2 : b2 < wr.heap.size := World.block_lt_of_cell? _ _ r0
        have HTM := Lib.hid ((HE13.out.m _ (List.getElem_mem hi)).kp (Kp.bel HP.out.b))
        have HUM := Lib.hid ((HE2.out.m _ (List.getElem_mem hj)).kp (Kp.bel HP.out.b))
        have ht1 := HK1.out _ (List.getElem_mem hi)
        have hu1 := HK2.out _ (List.getElem_mem hj)
        have HD1 := Lib.hid (drop_pe es i hi)
        have HD2 := Lib.hid (drop_pe fs j hj)
        generalize hte : es[i] = t at *
        generalize hue : fs[j] = u at *
        have HTE := Lib.hid hte
        have HUE := Lib.hid hue
        clear hte hue
        have HCM : Hid (∀ W, Below wr.heap.size wr W → Calls Try.prog 34 #[.agg #[.int .i64 (keyC t).ln, .int .i64 (keyC t).dy, .slice (keyC t).Ad (keyC t).dep.length (keyC t).cd, .slice (keyC t).Aa (keyC t).arr.length (keyC t).ca], .agg #[.int .i64 (keyC u).ln, .int .i64 (keyC u).dy, .slice (keyC u).Ad (keyC u).dep.length (keyC u).cd, .slice (keyC u).Aa (keyC u).arr.length (keyC u).ca]] W fun e w' => e = .returned (.int .i64 (cmpV (keyE t.pe) (keyE u.pe))) ∧ Below W.heap.size W w') := fun W hW => by
          rw [← keyC_pt, ← keyC_pt]
          exact cmp_any (keyC t) (keyC u) W (keyC_tm (HTM.out.go hW)) (keyC_tm (HUM.out.go hW)) ht1 hu1
        have HLT := Lib.hid (cmpV_lt (a := keyE t.pe) (b := keyE u.pe))
        have HGT := Lib.hid (cmpV_gt (a := keyE t.pe) (b := keyE u.pe))
        have HEQ := Lib.hid (cmpV_eq (a := keyE t.pe) (b := keyE u.pe))
        generalize cmpV (keyE t.pe) (keyE u.pe) = cv at *
        have HKA := Lib.hid (fun W => key_any t W)
        have HKB := Lib.hid (fun W => key_any u W)
        generalize hkt : keyC t = kt at *
        generalize hku : keyC u = ku at *
        clear hkt hku
        go_upto_region 11 with fail
        refine wp_region_overL (by kernel_rfl) (by kernel_rfl) ?_
        repeat (go_big_quiet_step (first | (go_at_call 42; with_reducible exact callsOver (HKA.out _)) | (go_at_call 42; with_reducible exact callsOver (HKB.out _)) | (go_at_call 34; exact callsOver (HCM.out _ (over_below _ _)))))
        refine wpQuiet_nil ?_
        intro w6 hb6
        have HP6 := Lib.hid (HP.out.bel hb6)
        have HC6 := Lib.hid (HC.out.bel hb6)
        have HTM6 := Lib.hid (HTM.out.kp (Kp.bel hb6))
        have HUM6 := Lib.hid (HUM.out.kp (Kp.bel hb6))
        have hpl6 := HP6.out.b.size
        clear hb6 HP HC q0 q1 q2 q3 q4 q5 q6 q7 q8 r0 r1 r2 r3 r4 r5 r6 r7 r8 hbw1 hbw2 HCM HKA HKB HTM HUM
        have HP := HP6
        have HC := HC6
        clear HP6 HC6
        rcases Int.lt_trichotomy cv 0 with hc | hc | hc
        · have hlt := HLT.out.1 hc
          have hc1 : decide (cv > 0) = false := by simp; omega
          have hc2 : (cv == 0) = false := by simp; omega
          have HP2 := Lib.hid (show ps.map CE.pe ++ (t.pe :: (mgM ((es.map CE.pe).drop (i + 1)) ((fs.map CE.pe).drop j)).1) = T1 by
            have h := HPZ.out
            rw [HD1.out, HD2.out, mg_lt hlt, ← HD2.out] at h; exact h)
          have HC2 := Lib.hid (show cs.map CE.pe ++ (mgM ((es.map CE.pe).drop (i + 1)) ((fs.map CE.pe).drop j)).2 = T2 by
            have h := HCZ.out
            rw [HD1.out, HD2.out, mg_lt hlt, ← HD2.out] at h; exact h)
          clear HPZ HCZ HLT HGT HEQ HD1 HD2 hlt
          obtain ⟨b7, o7, hA7, hb7, d0, d1, d2, d3, d4, d5, d6, d7, d8⟩ := rdE (HE13.out.r.grow HP.out.b) rfl i hi
          cases hA7
          first | rw [HTE.out] at d0 d1 d2 d3 d4 d5 d6 d7 d8 | skip
          go_upto_region 20 with (at_builtin; refine wpList_append_own_at _ rfl _ _ 33 rfl (w3.heap.size) 40 iE _ 9 136 Try.underlying33 HIE.out.1 HIE.out.2.1 HIE.out.2.2.1 HIE.out.2.2.2 rfl (by omega) _ (ps.length) _ rfl (World.ownsRow.alloc HP.out.o.o _) ⟨(w6).heap.size, 0, none⟩ 1 1 (CE.cells t) rfl rfl ?c0 ?c1 ?c2 ?c3 ?c4 ?_; rotate_right; intro v' w' hown' hg' _ hat')
          case c0 => first | exact news_new _ _ (CE.cells t) | exact fun _ _ h => h
          case c1 => exact CE.one _
          case c2 => simp only [maxLen]; omega
          case c3 => omega
          case c4 => first | omega | (simp; omega)
          have HP9 := Lib.hid (HP.out.app (x := t) HTM6.out hown' hg')
          have HC9 := Lib.hid (HC.out.keep HP.out.o.o hg' HAP.out)
          have HAP9 := Lib.hid (app_ap HP.out.o.o HC.out.o.o HAP.out hat')
          clear hown' hg' hat' HP HC HAP
          have HPZ9 := Lib.hid (show (ps ++ [t]).map CE.pe ++ (mgM ((es.map CE.pe).drop (i + 1)) ((fs.map CE.pe).drop j)).1 = T1 by
            rw [List.map_append, List.append_assoc]
            exact HP2.out)
          clear d0 d1 d2 d3 d4 d5 d6 d7 d8
          go_wp2_with fail
          go_roundg (es.length - i + (fs.length - j) - 1)
          case measure => have := Hk.out; omega
          case rel => exact ⟨i + 1, j, ps ++ [t], cs, by first | rfl | go_num, by first | rfl | go_num, by simp <;> omega, by simp <;> omega, by simp <;> omega, HPZ9.out, HC2.out, by have := HP9.out; rwa [show i + 1 + j = i + j + 1 by omega], HC9.out, HAP9.out⟩
        · have heq := HEQ.out.1 hc
          subst hc
          have HQM : Hid (∀ W, Below w6.heap.size w6 W → Calls Try.prog 49 #[.agg #[.int .i64 (t).k, .int .i64 (t).o.ln, .int .i64 (t).o.dy, .slice (t).o.Ad (t).o.dep.length (t).o.cd, .slice (t).o.Aa (t).o.arr.length (t).o.ca, .int .i64 (t).n.ln, .int .i64 (t).n.dy, .slice (t).n.Ad (t).n.dep.length (t).n.cd, .slice (t).n.Aa (t).n.arr.length (t).n.ca], .agg #[.int .i64 (u).k, .int .i64 (u).o.ln, .int .i64 (u).o.dy, .slice (u).o.Ad (u).o.dep.length (u).o.cd, .slice (u).o.Aa (u).o.arr.length (u).o.ca, .int .i64 (u).n.ln, .int .i64 (u).n.dy, .slice (u).n.Ad (u).n.dep.length (u).n.cd, .slice (u).n.Aa (u).n.arr.length (u).n.ca]] W fun e w' => e = .returned (.bool (eqE t.pe u.pe)) ∧ Below W.heap.size W w') := fun W hW => sm_any t u W (HTM6.out.go hW) (HUM6.out.go hW)
          have HP2 := Lib.hid (show ps.map CE.pe ++ (t.pe :: (mgM ((es.map CE.pe).drop (i + 1)) ((fs.map CE.pe).drop (j + 1))).1) = T1 by
            have h := HPZ.out
            rw [HD1.out, HD2.out] at h
            by_cases he : eqE t.pe u.pe = true
            · rw [mg_eq heq he] at h; exact h
            · rw [mg_ne heq he] at h; exact h)
          have HC2 := Lib.hid (show cs.map CE.pe ++ (if eqE t.pe u.pe = true then (mgM ((es.map CE.pe).drop (i + 1)) ((fs.map CE.pe).drop (j + 1))).2 else u.pe :: (mgM ((es.map CE.pe).drop (i + 1)) ((fs.map CE.pe).drop (j + 1))).2) = T2 by
            have h := HCZ.out
            rw [HD1.out, HD2.out] at h
            by_cases he : eqE t.pe u.pe = true
            · rw [mg_eq heq he] at h; rw [if_pos he]; exact h
            · rw [mg_ne heq he] at h; rw [if_neg he]; exact h)
          clear HPZ HCZ HLT HGT HEQ HD1 HD2 heq
          obtain ⟨b7, o7, hA7, hb7, d0, d1, d2, d3, d4, d5, d6, d7, d8⟩ := rdE (HE13.out.r.grow HP.out.b) rfl i hi
          cases hA7
          rw [HTE.out] at d0 d1 d2 d3 d4 d5 d6 d7 d8
          go_upto_region 20 with (at_builtin; refine wpList_append_own_at _ rfl _ _ 33 rfl (w3.heap.size) 40 iE _ 9 136 Try.underlying33 HIE.out.1 HIE.out.2.1 HIE.out.2.2.1 HIE.out.2.2.2 rfl (by omega) _ (ps.length) _ rfl (World.ownsRow.alloc HP.out.o.o _) ⟨(w6).heap.size, 0, none⟩ 1 1 (CE.cells t) rfl rfl ?c0 ?c1 ?c2 ?c3 ?c4 ?_; rotate_right; intro v' w' hown' hg' _ hat')
          case c0 => first | exact news_new _ _ (CE.cells t) | exact fun _ _ h => h
          case c1 => exact CE.one _
          case c2 => simp only [maxLen]; omega
          case c3 => omega
          case c4 => first | omega | (simp; omega)
          have HP9 := Lib.hid (HP.out.app (x := t) HTM6.out hown' hg')
          have HC9 := Lib.hid (HC.out.keep HP.out.o.o hg' HAP.out)
          have HAP9 := Lib.hid (app_ap HP.out.o.o HC.out.o.o HAP.out hat')
          clear hown' hg' hat' HP HC HAP
          have HPZ9 := Lib.hid (show (ps ++ [t]).map CE.pe ++ (mgM ((es.map CE.pe).drop (i + 1)) ((fs.map CE.pe).drop (j + 1))).1 = T1 by
            rw [List.map_append, List.append_assoc]
            exact HP2.out)
          clear d0 d1 d2 d3 d4 d5 d6 d7 d8 HP2
          obtain ⟨Ap9, cp9, hv9⟩ := HP9.out.o.sl
          rw [show (ps ++ [t]).length = ps.length + 1 by simp] at hv9
          have hbel9 : Below w6.heap.size w6 w6 := Below.refl _ _
          obtain ⟨b1, o1, hA1, hb1, q0, q1, q2, q3, q4, q5, q6, q7, q8⟩ := rdE (HE13.out.r.grow HP9.out.b) rfl i hi
          cases hA1
          obtain ⟨b2, o2, hA2, hb2, r0, r1, r2, r3, r4, r5, r6, r7, r8⟩ := rdE (HE2.out.r.grow HP9.out.b) rfl j hj
          cases hA2
          rw [HTE.out] at q0 q1 q2 q3 q4 q5 q6 q7 q8
          rw [HUE.out] at r0 r1 r2 r3 r4 r5 r6 r7 r8
          have hbw1 : b1 < w'.heap.size := World.block_lt_of_cell? _ _ q0
          have hbw2 : b2 < w'.heap.size := World.block_lt_of_cell? _ _ r0
          have HTM9 := Lib.hid ((HE13.out.m _ (List.getElem_mem hi)).kp (Kp.bel HP9.out.b))
          have HUM9 := Lib.hid ((HE2.out.m _ (List.getElem_mem hj)).kp (Kp.bel HP9.out.b))
          rw [HTE.out] at HTM9
          rw [HUE.out] at HUM9
          have HQ9 : Hid (∀ W, Below w'.heap.size w' W → Calls Try.prog 49 #[.agg #[.int .i64 (t).k, .int .i64 (t).o.ln, .int .i64 (t).o.dy, .slice (t).o.Ad (t).o.dep.length (t).o.cd, .slice (t).o.Aa (t).o.arr.length (t).o.ca, .int .i64 (t).n.ln, .int .i64 (t).n.dy, .slice (t).n.Ad (t).n.dep.length (t).n.cd, .slice (t).n.Aa (t).n.arr.length (t).n.ca], .agg #[.int .i64 (u).k, .int .i64 (u).o.ln, .int .i64 (u).o.dy, .slice (u).o.Ad (u).o.dep.length (u).o.cd, .slice (u).o.Aa (u).o.arr.length (u).o.ca, .int .i64 (u).n.ln, .int .i64 (u).n.dy, .slice (u).n.Ad (u).n.dep.length (u).n.cd, .slice (u).n.Aa (u).n.arr.length (u).n.ca]] W fun e w' => e = .returned (.bool (eqE t.pe u.pe)) ∧ Below W.heap.size W w') := fun W hW => sm_any t u W (HTM9.out.go hW) (HUM9.out.go hW)
          subst hv9
          clear HQM HTM6 HUM6 hbel9
          go_upto_region 21 with fail
          by_cases he : eqE t.pe u.pe = true
          · rw [he] at HQ9
            have HC3 := Lib.hid (show cs.map CE.pe ++ (mgM ((es.map CE.pe).drop (i + 1)) ((fs.map CE.pe).drop (j + 1))).2 = T2 by
              have h := HC2.out; rw [if_pos he] at h; exact h)
            clear he HC2
            refine wp_region_overL (by kernel_rfl) (by kernel_rfl) ?_
            repeat (go_big_quiet_step ((go_at_call 49; exact callsOver (HQ9.out _ (over_below _ _)))))
            refine wpQuiet_nil ?_
            intro wz hbz
            have HPz := Lib.hid (HP9.out.bel hbz)
            have HCz := Lib.hid (HC9.out.bel hbz)
            clear hbz HP9 HC9 q0 q1 q2 q3 q4 q5 q6 q7 q8 r0 r1 r2 r3 r4 r5 r6 r7 r8
            go_wp2_with fail
            go_roundg (es.length - i + (fs.length - j) - 2)
            case measure => have := Hk.out; omega
            case rel => exact ⟨i + 1, j + 1, ps ++ [t], cs, by first | rfl | go_num, by first | rfl | go_num, by simp <;> omega, by simp <;> omega, by simp <;> omega, HPZ9.out, HC3.out, HPz.out.more (by omega), HCz.out.more (by omega), HAP9.out⟩
          · have he' : eqE t.pe u.pe = false := by simpa using he
            rw [he'] at HQ9
            have HC3 := Lib.hid (show cs.map CE.pe ++ (u.pe :: (mgM ((es.map CE.pe).drop (i + 1)) ((fs.map CE.pe).drop (j + 1))).2) = T2 by
              have h := HC2.out; rw [if_neg he] at h; exact h)
            clear he he' HC2
            refine wp_region_overL (by kernel_rfl) (by kernel_rfl) ?_
            repeat (go_big_quiet_step ((go_at_call 49; exact callsOver (HQ9.out _ (over_below _ _)))))
            refine wpQuiet_nil ?_
            intro wz hbz
            have HPz := Lib.hid (HP9.out.bel hbz)
            have HCz := Lib.hid (HC9.out.bel hbz)
            have HUz := Lib.hid (HUM9.out.kp (Kp.bel hbz))
            replace r0 := cell_bel hbz r0
            replace r1 := cell_bel hbz r1
            replace r2 := cell_bel hbz r2
            replace r3 := cell_bel hbz r3
            replace r4 := cell_bel hbz r4
            replace r5 := cell_bel hbz r5
            replace r6 := cell_bel hbz r6
            replace r7 := cell_bel hbz r7
            replace r8 := cell_bel hbz r8
            have hcz := HCz.out.n
            have hlz := HCz.out.b.size
            clear hbz HP9 HC9 q0 q1 q2 q3 q4 q5 q6 q7 q8
            go_upto_region 23 with (at_builtin; refine wpList_append_own_at _ rfl _ _ 33 rfl (w3.heap.size) 40 iE _ 9 136 Try.underlying33 HIE.out.1 HIE.out.2.1 HIE.out.2.2.1 HIE.out.2.2.2 rfl (by omega) _ (cs.length) _ rfl (World.ownsRow.alloc HCz.out.o.o _) ⟨wz.heap.size, 0, none⟩ 1 1 (CE.cells u) rfl rfl ?e0 ?e1 ?e2 ?e3 ?e4 ?_; rotate_right; intro v'' w'' hown' hg' _ hat')
            case e0 => first | exact news_new _ _ (CE.cells u) | exact fun _ _ h => h
            case e1 => exact CE.one _
            case e2 => simp only [maxLen]; omega
            case e3 => omega
            case e4 => first | omega | (simp; omega)
            have HCy := Lib.hid (HCz.out.app (x := u) HUz.out hown' hg')
            have HPy := Lib.hid (HPz.out.keep HCz.out.o.o hg' (ap_sym HAP9.out))
            have HAy := Lib.hid (ap_sym (app_ap HCz.out.o.o HPz.out.o.o (ap_sym HAP9.out) hat'))
            have HCZ9 := Lib.hid (show (cs ++ [u]).map CE.pe ++ (mgM ((es.map CE.pe).drop (i + 1)) ((fs.map CE.pe).drop (j + 1))).2 = T2 by
              rw [List.map_append, List.append_assoc]
              exact HC3.out)
            clear hown' hg' hat' HCz HPz HAP9 r0 r1 r2 r3 r4 r5 r6 r7 r8
            go_wp2_with fail
            go_roundg (es.length - i + (fs.length - j) - 2)
            case measure => have := Hk.out; omega
            case rel => exact ⟨i + 1, j + 1, ps ++ [t], cs ++ [u], by first | rfl | go_num, by first | rfl | go_num, by simp <;> omega, by simp <;> omega, by simp <;> omega, HPZ9.out, HCZ9.out, HPy.out.more (by omega), HCy.out, HAy.out⟩
        · have hgt := HGT.out.1 hc
          have hc1 : decide (cv > 0) = true := by simp; omega
          have HP2 := Lib.hid (show ps.map CE.pe ++ (u.pe :: (mgM ((es.map CE.pe).drop i) ((fs.map CE.pe).drop (j + 1))).1) = T1 by
            have h := HPZ.out
            rw [HD1.out, HD2.out, mg_gt hgt, ← HD1.out] at h; exact h)
          have HC2 := Lib.hid (show cs.map CE.pe ++ (mgM ((es.map CE.pe).drop i) ((fs.map CE.pe).drop (j + 1))).2 = T2 by
            have h := HCZ.out
            rw [HD1.out, HD2.out, mg_gt hgt, ← HD1.out] at h; exact h)
          clear HPZ HCZ HLT HGT HEQ HD1 HD2 hgt
          obtain ⟨b7, o7, hA7, hb7, d0, d1, d2, d3, d4, d5, d6, d7, d8⟩ := rdE (HE2.out.r.grow HP.out.b) rfl j hj
          cases hA7
          first | rw [HUE.out] at d0 d1 d2 d3 d4 d5 d6 d7 d8 | skip
          go_upto_region 18 with (at_builtin; refine wpList_append_own_at _ rfl _ _ 33 rfl (w3.heap.size) 40 iE _ 9 136 Try.underlying33 HIE.out.1 HIE.out.2.1 HIE.out.2.2.1 HIE.out.2.2.2 rfl (by omega) _ (ps.length) _ rfl (World.ownsRow.alloc HP.out.o.o _) ⟨(w6).heap.size, 0, none⟩ 1 1 (CE.cells u) rfl rfl ?c0 ?c1 ?c2 ?c3 ?c4 ?_; rotate_right; intro v' w' hown' hg' _ hat')
          case c0 => first | exact news_new _ _ (CE.cells u) | exact fun _ _ h => h
          case c1 => exact CE.one _
          case c2 => simp only [maxLen]; omega
          case c3 => omega
          case c4 => first | omega | (simp; omega)
          have HP9 := Lib.hid (HP.out.app (x := u) HUM6.out hown' hg')
          have HC9 := Lib.hid (HC.out.keep HP.out.o.o hg' HAP.out)
          have HAP9 := Lib.hid (app_ap HP.out.o.o HC.out.o.o HAP.out hat')
          clear hown' hg' hat' HP HC HAP
          have HPZ9 := Lib.hid (show (ps ++ [u]).map CE.pe ++ (mgM ((es.map CE.pe).drop i) ((fs.map CE.pe).drop (j + 1))).1 = T1 by
            rw [List.map_append, List.append_assoc]
            exact HP2.out)
          clear d0 d1 d2 d3 d4 d5 d6 d7 d8
          go_wp2_with fail
          go_roundg (es.length - i + (fs.length - j) - 1)
          case measure => have := Hk.out; omega
          case rel => exact ⟨i, j + 1, ps ++ [u], cs, by first | rfl | go_num, by first | rfl | go_num, by simp <;> omega, by simp <;> omega, by simp <;> omega, HPZ9.out, HC2.out, by have := HP9.out; rwa [show i + (j + 1) = i + j + 1 by omega], HC9.out.more (by omega), HAP9.out⟩
      · have hjm : j = fs.length := by omega
        subst hjm
        have HD1 := Lib.hid (drop_pe es i hi)
        have hd0 : (fs.map CE.pe).drop fs.length = [] := List.drop_of_length_le (by simp)
        have HTM6 := Lib.hid ((HE13.out.m _ (List.getElem_mem hi)).kp (Kp.bel HP.out.b))
        generalize hte : es[i] = t at *
        have HTE := Lib.hid hte
        have HP2 := Lib.hid (show ps.map CE.pe ++ (t.pe :: (mgM ((es.map CE.pe).drop (i + 1)) ((fs.map CE.pe).drop fs.length)).1) = T1 by
          have h := HPZ.out
          rw [HD1.out, hd0, mg_a, ← hd0] at h; exact h)
        have HC2 := Lib.hid (show cs.map CE.pe ++ (mgM ((es.map CE.pe).drop (i + 1)) ((fs.map CE.pe).drop fs.length)).2 = T2 by
          have h := HCZ.out
          rw [HD1.out, hd0, mg_a, ← hd0] at h; exact h)
        clear HPZ HCZ HD1 hd0 hte
        obtain ⟨b7, o7, hA7, hb7, d0, d1, d2, d3, d4, d5, d6, d7, d8⟩ := rdE (HE13.out.r.grow HP.out.b) rfl i hi
        cases hA7
        first | rw [HTE.out] at d0 d1 d2 d3 d4 d5 d6 d7 d8 | skip
        go_upto_region 20 with (at_builtin; refine wpList_append_own_at _ rfl _ _ 33 rfl (w3.heap.size) 40 iE _ 9 136 Try.underlying33 HIE.out.1 HIE.out.2.1 HIE.out.2.2.1 HIE.out.2.2.2 rfl (by omega) _ (ps.length) _ rfl (World.ownsRow.alloc HP.out.o.o _) ⟨(wr).heap.size, 0, none⟩ 1 1 (CE.cells t) rfl rfl ?c0 ?c1 ?c2 ?c3 ?c4 ?_; rotate_right; intro v' w' hown' hg' _ hat')
        case c0 => first | exact news_new _ _ (CE.cells t) | exact fun _ _ h => h
        case c1 => exact CE.one _
        case c2 => simp only [maxLen]; omega
        case c3 => omega
        case c4 => first | omega | (simp; omega)
        have HP9 := Lib.hid (HP.out.app (x := t) HTM6.out hown' hg')
        have HC9 := Lib.hid (HC.out.keep HP.out.o.o hg' HAP.out)
        have HAP9 := Lib.hid (app_ap HP.out.o.o HC.out.o.o HAP.out hat')
        clear hown' hg' hat' HP HC HAP
        have HPZ9 := Lib.hid (show (ps ++ [t]).map CE.pe ++ (mgM ((es.map CE.pe).drop (i + 1)) ((fs.map CE.pe).drop fs.length)).1 = T1 by
          rw [List.map_append, List.append_assoc]
          exact HP2.out)
        clear d0 d1 d2 d3 d4 d5 d6 d7 d8
        go_wp2_with fail
        go_roundg (es.length - i + (fs.length - fs.length) - 1)
        case measure => have := Hk.out; omega
        case rel => exact ⟨i + 1, fs.length, ps ++ [t], cs, by first | rfl | go_num, by first | rfl | go_num, by simp <;> omega, by simp <;> omega, by simp <;> omega, HPZ9.out, HC2.out, by have := HP9.out; rwa [show i + 1 + fs.length = i + fs.length + 1 by omega], HC9.out, HAP9.out⟩
    · have him : i = es.length := by omega
      subst him
      have hd0 : (es.map CE.pe).drop es.length = [] := List.drop_of_length_le (by simp)
      by_cases hj : j < fs.length
      · have HD2 := Lib.hid (drop_pe fs j hj)
        have HUM6 := Lib.hid ((HE2.out.m _ (List.getElem_mem hj)).kp (Kp.bel HP.out.b))
        generalize hue : fs[j] = u at *
        have HUE := Lib.hid hue
        have HP2 := Lib.hid (show ps.map CE.pe ++ (u.pe :: (mgM ((es.map CE.pe).drop es.length) ((fs.map CE.pe).drop (j + 1))).1) = T1 by
          have h := HPZ.out
          rw [HD2.out, hd0, mg_nil] at h; rw [hd0, mg_nil]; exact h)
        have HC2 := Lib.hid (show cs.map CE.pe ++ (mgM ((es.map CE.pe).drop es.length) ((fs.map CE.pe).drop (j + 1))).2 = T2 by
          have h := HCZ.out
          rw [HD2.out, hd0, mg_nil] at h; rw [hd0, mg_nil]; exact h)
        clear HPZ HCZ HD2 hd0 hue
        obtain ⟨b7, o7, hA7, hb7, d0, d1, d2, d3, d4, d5, d6, d7, d8⟩ := rdE (HE2.out.r.grow HP.out.b) rfl j hj
        cases hA7
        first | rw [HUE.out] at d0 d1 d2 d3 d4 d5 d6 d7 d8 | skip
        go_upto_region 18 with (at_builtin; refine wpList_append_own_at _ rfl _ _ 33 rfl (w3.heap.size) 40 iE _ 9 136 Try.underlying33 HIE.out.1 HIE.out.2.1 HIE.out.2.2.1 HIE.out.2.2.2 rfl (by omega) _ (ps.length) _ rfl (World.ownsRow.alloc HP.out.o.o _) ⟨(wr).heap.size, 0, none⟩ 1 1 (CE.cells u) rfl rfl ?c0 ?c1 ?c2 ?c3 ?c4 ?_; rotate_right; intro v' w' hown' hg' _ hat')
        case c0 => first | exact news_new _ _ (CE.cells u) | exact fun _ _ h => h
        case c1 => exact CE.one _
        case c2 => simp only [maxLen]; omega
        case c3 => omega
        case c4 => first | omega | (simp; omega)
        have HP9 := Lib.hid (HP.out.app (x := u) HUM6.out hown' hg')
        have HC9 := Lib.hid (HC.out.keep HP.out.o.o hg' HAP.out)
        have HAP9 := Lib.hid (app_ap HP.out.o.o HC.out.o.o HAP.out hat')
        clear hown' hg' hat' HP HC HAP
        have HPZ9 := Lib.hid (show (ps ++ [u]).map CE.pe ++ (mgM ((es.map CE.pe).drop es.length) ((fs.map CE.pe).drop (j + 1))).1 = T1 by
          rw [List.map_append, List.append_assoc]
          exact HP2.out)
        clear d0 d1 d2 d3 d4 d5 d6 d7 d8
        go_wp2_with fail
        go_roundg (es.length - es.length + (fs.length - j) - 1)
        case measure => have := Hk.out; omega
        case rel => exact ⟨es.length, j + 1, ps ++ [u], cs, by first | rfl | go_num, by first | rfl | go_num, by simp <;> omega, by simp <;> omega, by simp <;> omega, HPZ9.out, HC2.out, by have := HP9.out; rwa [show es.length + (j + 1) = es.length + j + 1 by omega], HC9.out.more (by omega), HAP9.out⟩
      · have hjm : j = fs.length := by omega
        subst hjm
        have HPF := Lib.hid (show ps.map CE.pe = T1 by
          have h := HPZ.out
          rw [hd0, List.drop_of_length_le (show (fs.map CE.pe).length ≤ fs.length by simp), mg_nil] at h
          simpa using h)
        have HCF := Lib.hid (show cs.map CE.pe = T2 by
          have h := HCZ.out
          rw [hd0, List.drop_of_length_le (show (fs.map CE.pe).length ≤ fs.length by simp), mg_nil] at h
          simpa using h)
        clear HPZ HCZ hd0
        have hBW := HB3.out.size
        have HEP := Lib.hid (HP.out.o.el (by omega))
        have HEC := Lib.hid (HC.out.o.el (by omega))
        have HBR := Lib.hid (HB3.out.trans (HP.out.b.mono hBW))
        clear HP HC HAP
        go_wp2_with fail
        refine (app_any A Ap c0 cp xs ps wr (HX.out.go HBR.out) HEP.out hA).mono ?_
        rintro e w7 ⟨A7, c7, ts, rfl, ht7, hm7, hb7⟩
        rw [HPF.out] at hm7 ⊢
        have HT7 := Lib.hid ht7
        have HM7 := Lib.hid hm7
        have HEC7 := Lib.hid (HEC.out.go hb7)
        have HB7 := Lib.hid (HBR.out.trans (hb7.mono HBR.out.size))
        clear ht7 hm7 hb7 HEP HEC HBR
        generalize hr : apV (xs.map CT.pt) T1 = r at *
        clear hr
        by_cases hz : r.1 = 0
        · have HMM := Lib.hid (HM.out.trans (if_pos hz))
          rw [hz]
          clear hz
          go_wp2_with fail
          go_ret3
          exact ⟨A7, Ac, c7, cc, ts, cs, by rw [HMM.out]; rfl, HT7.out, HEC7.out, by rw [HMM.out]; exact HM7.out, by rw [HMM.out]; exact HCF.out, HB7.out⟩
        · have HMM := Lib.hid (HM.out.trans (if_neg hz))
          have hz' : ((r.1 : Int) != 0) = true := by simpa using hz
          clear hz
          go_wp2_with fail
          go_ret3
          exact ⟨none, none, 0, 0, [], [], by rw [HMM.out]; rfl, TLO.nil _, EL.nil _, by rw [HMM.out]; rfl, by rw [HMM.out]; rfl, HB7.out⟩
end Go.Proofs.Ythfifejjfnmpoaa
