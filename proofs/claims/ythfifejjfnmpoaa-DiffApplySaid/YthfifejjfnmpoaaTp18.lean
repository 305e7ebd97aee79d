import Derived.Test.YthfifejjfnmpoaaTp17
import Derived.Test.YthfifejjfnmpoaaTpMath4
namespace Go.Proofs.Ythfifejjfnmpoaa
open Go.RowKit
theorem appR_cons (l : List PT) (e : PE) (es : List PE) : appR l (e :: es) = if (perR l e).1 = 0 then appR (perR l e).2 es else ((perR l e).1, []) := rfl
def apV (L : List PT) (E : List PE) : Nat × List PT :=
  if chkT L = true then (if chkG okE keyE E = true then (if (appS L E).1 = 0 then (if 1024 < (appS L E).2.length then (7, []) else (0, (appS L E).2)) else ((appS L E).1, [])) else (2, [])) else (1, [])
def ApOut (xs : List CT) (es : List CE) (w : World) (e : Ending) (w' : World) : Prop :=
  ∃ (A : Option Addr) (c : Nat) (ts : List CT), e = .returned (.tuple #[.slice A ts.length c, .int .i64 ((apV (xs.map CT.pt) (es.map CE.pe)).1 : Nat)]) ∧ TLO w' A c ts ∧ ts.map CT.pt = (apV (xs.map CT.pt) (es.map CE.pe)).2 ∧ Below w.heap.size w w'
theorem TLO.nil (w : World) : TLO w none 0 [] := ⟨⟨Rd.empty _ _ _, fun t ht => by simp at ht, fun _ => ⟨rfl, rfl⟩, by simp, by simp, by simp [maxLen]⟩, .inl rfl⟩
def ApL (w : World) (xs : List CT) (es : List CE) (k : Nat) (v6 v : Value) (wr : World) : Prop :=
  ∃ (j : Nat) (A : Option Addr) (c : Nat) (os : List CT), v = .int .i64 j ∧ j + k = es.length ∧ v6 = .slice A os.length c ∧ TLO wr A c os ∧ appR (os.map CT.pt) ((es.map CE.pe).drop j) = appR (xs.map CT.pt) (es.map CE.pe) ∧ Asc (os.map CT.pt) ∧ (∀ x ∈ os.map CT.pt, okT x = true) ∧ os.length ≤ xs.length + j ∧ Below w.heap.size w wr
set_option maxRecDepth 100000 in
set_option maxHeartbeats 6400000 in
theorem rapp_any (A B : Option Addr) (c c' : Nat) (xs : List CT) (es : List CE) (w : World) (ha : TL w A c xs) (hb : EL w B c' es) :
    Calls Try.prog 22 #[.slice A xs.length c, .slice B es.length c'] w (ApOut xs es w) := by
  have HA := Lib.hid ha
  have HE := Lib.hid hb
  have hsz := hb.sz
  clear ha hb
  obtain ⟨iT, b1, b2, b3, b4⟩ := info_parts infoTr
  have HIT := Lib.hid (And.intro b1 (And.intro b2 (And.intro b3 b4)))
  clear b1 b2 b3 b4
  go_enter Try.func22, Try.ntmps22
  go_wp2_with fail
  refine (rcheck_any A c xs _ HA.out).mono ?_
  rintro e w1 ⟨rfl, hb1⟩
  have HB1 := Lib.hid hb1
  clear hb1
  by_cases h1 : chkT (xs.map CT.pt) = true
  case neg =>
    have h1' : chkT (xs.map CT.pt) = false := by simpa using h1
    have HV := Lib.hid (show apV (xs.map CT.pt) (es.map CE.pe) = (1, []) by unfold apV; rw [if_neg h1])
    rw [h1']
    clear h1 h1'
    go_wp2_with fail
    go_ret2
    exact ⟨none, 0, [], by rw [HV.out]; rfl, TLO.nil _, by rw [HV.out]; rfl, HB1.out⟩
  rw [h1]
  go_wp2_with fail
  refine (ckE_any B c' es _ (HE.out.go HB1.out)).mono ?_
  rintro e w2 ⟨rfl, hb2⟩
  have HB2 := Lib.hid (HB1.out.trans (hb2.mono HB1.out.size))
  clear hb2 HB1
  by_cases h2 : chkG okE keyE (es.map CE.pe) = true
  case neg =>
    have h2' : chkG okE keyE (es.map CE.pe) = false := by simpa using h2
    have HV := Lib.hid (show apV (xs.map CT.pt) (es.map CE.pe) = (2, []) by unfold apV; rw [if_pos h1, if_neg h2])
    rw [h2']
    clear h1 h2 h2'
    go_wp2_with fail
    go_ret2
    exact ⟨none, 0, [], by rw [HV.out]; rfl, TLO.nil _, by rw [HV.out]; rfl, HB2.out⟩
  rw [h2]
  obtain ⟨hn, hk, hasc⟩ := chkT_len h1
  obtain ⟨_, hok, _⟩ := chkT_iff.1 h1
  obtain ⟨heo, hea⟩ := chkG_iff.1 h2
  have HASC := Lib.hid hasc
  have HOK := Lib.hid hok
  have HEO := Lib.hid heo
  have HAP := Lib.hid (appR_S hasc (List.pairwise_map.1 hea) heo)
  have HV := Lib.hid (show apV (xs.map CT.pt) (es.map CE.pe) = if (appS (xs.map CT.pt) (es.map CE.pe)).1 = 0 then (if 1024 < (appS (xs.map CT.pt) (es.map CE.pe)).2.length then (7, []) else (0, (appS (xs.map CT.pt) (es.map CE.pe)).2)) else ((appS (xs.map CT.pt) (es.map CE.pe)).1, []) by unfold apV; rw [if_pos h1, if_pos h2])
  clear hasc hok heo hea hk h1 h2
  generalize appS (xs.map CT.pt) (es.map CE.pe) = r at *
  go_upto_region 6 with (at_builtin; refine wpList_append_any rfl _ _ 22 rfl w2.heap.size 28 iT _ 4 64 Try.underlying22 HIT.out.1 HIT.out.2.1 HIT.out.2.2.1 HIT.out.2.2.2 rfl (by omega) (.slice none 0 0) 0 [] rfl (World.ownsRow_nil _ _ _ _) A xs.length _ w2.heap.size (xs.flatMap CT.cells) rfl HA.out.nl (HA.out.go HB2.out).r (ts_one _) ?r1 ?r2 (Nat.le_refl _) ?_; rotate_right; intro v1 w3 ho1 hg1 hat1)
  case r1 => simp only [maxLen]; omega
  case r2 => omega
  rw [Nat.zero_add, List.nil_append] at ho1
  have hb3 : Below w2.heap.size w2 w3 := Below.grown (Below.refl _ _) hg1 (Nat.le_refl _) (fun k hk => by simp [Value.ownBlock] at hk)
  have HB3 := Lib.hid (HB2.out.trans (hb3.mono HB2.out.size))
  obtain ⟨A1, c1, rfl, _, _⟩ := own_slice ho1
  have HT3 := Lib.hid (show TLO w3 A1 c1 xs from ⟨⟨Rd.of_own ho1, (HA.out.go HB3.out).m, fun e => by subst e; exact own_nil ho1, (own_cap ho1).1, HA.out.sz, (own_cap ho1).2⟩, own_at0 ho1⟩)
  clear ho1 hg1 hat1 hb3
  go_wp2_with fail
  go_loopg [6, 8, 9, 10, 21, 25] es.length (fun k v6 _ _ _ v _ wr => ApL w xs es k v6 v wr)
  case atStart => exact ⟨0, A1, c1, xs, rfl, by omega, rfl, HT3.out, by simp, HASC.out, HOK.out, by omega, HB3.out⟩
  case round =>
    clear HT3 HB3 HB2
    obtain ⟨j, Ao, co, os, rfl, hj, rfl, hto, hap, has, hok, hlen, hb⟩ := hrel
    have Hj := Lib.hid hj
    have HTO := Lib.hid hto
    have HAPJ := Lib.hid hap
    have HAS := Lib.hid has
    have HOKJ := Lib.hid hok
    have HB := Lib.hid hb
    clear hj hto hap has hok hb
    by_cases hlt : j < es.length
    · have hd := List.drop_eq_getElem_cons (l := es.map CE.pe) (i := j) (by simpa using hlt)
      rw [List.getElem_map] at hd
      have HD := Lib.hid hd
      have heo := HEO.out _ (List.mem_map.2 ⟨es[j], List.getElem_mem hlt, rfl⟩)
      obtain ⟨bb, off, rfl, hbb, d0, d1, d2, d3, d4, d5, d6, d7, d8⟩ := rdE (HE.out.r.grow HB.out) rfl j hlt
      have HEM := Lib.hid ((HE.out.m _ (List.getElem_mem hlt)).go HB.out)
      clear hd
      generalize es[j] = t at *
      have Heo := Lib.hid heo
      clear heo
      go_upto_region 9 with fail
      refine world_gen (fun w5 => Blk w5 wr.heap.size 40 #[.int .i64 (t).k, .int .i64 (t).o.ln, .int .i64 (t).o.dy, .slice (t).o.Ad (t).o.dep.length (t).o.cd, .slice (t).o.Aa (t).o.arr.length (t).o.ca, .int .i64 (t).n.ln, .int .i64 (t).n.dy, .slice (t).n.Ad (t).n.dep.length (t).n.cd, .slice (t).n.Aa (t).n.arr.length (t).n.ca] ∧ Below wr.heap.size wr w5) ⟨Blk.new wr _ _, (by repeat (first | exact Below.refl _ _ | (with_reducible refine Below.drew ?_) | (with_reducible refine below_drewN ?_ _) | (with_reducible refine Below.alloc ?_ (by first | omega | (simp; done) | (simp; omega)) _) | (with_reducible refine Below.setCell ?_ (by first | omega | (simp; done) | (simp; omega)) _) | (refine Below.trans ?_ (Below.mono (by with_reducible assumption) (by first | omega | (simp; done) | (simp; omega))))))⟩ ?_
      rintro w5 ⟨hx5, hb5⟩
      have HB5 := Lib.hid hb5
      have x0 := hx5.cell 0
      have x1 := hx5.cell 1
      have x2 := hx5.cell 2
      have x3 := hx5.cell 3
      have x4 := hx5.cell 4
      have x5 := hx5.cell 5
      have x6 := hx5.cell 6
      have x7 := hx5.cell 7
      have x8 := hx5.cell 8
      simp at x0 x1 x2 x3 x4 x5 x6 x7 x8
      have hxl := hx5.lt
      clear d0 d1 d2 d3 d4 d5 d6 d7 d8 hx5 hb5
      go_wp2_with fail
      refine (perf_any Ao co os t _ (HTO.out.go HB5.out).l (HEM.out.go HB5.out) HAS.out (fun x hx => (okT_iff.1 (HOKJ.out _ (List.mem_map.2 ⟨x, hx, rfl⟩))).2.2.2.1) Heo.out (by omega)).mono ?_
      rintro e w6 ⟨A6, c6, ts6, rfl, ht6, hp6, _, hl6, hb6⟩
      have HB6 := Lib.hid (HB.out.trans ((HB5.out.trans (hb6.mono HB5.out.size)).mono HB.out.size))
      have HT6 := Lib.hid ht6
      have HP6 := Lib.hid hp6
      have HA6 := Lib.hid (perR_asc HAS.out Heo.out)
      have HO6 := Lib.hid (perR_ok HOKJ.out Heo.out)
      have hq := HAPJ.out
      rw [HD.out, appR_cons] at hq
      have HQ := Lib.hid hq
      rw [← HP6.out] at HA6 HO6
      clear hb6 ht6 hp6 hq HAPJ HD x0 x1 x2 x3 x4 x5 x6 x7 x8 hxl
      generalize hpc : (perR (os.map CT.pt) t.pe).1 = pc at *
      by_cases hc : pc = 0
      · subst hc
        have HN := Lib.hid (show appR (ts6.map CT.pt) ((es.map CE.pe).drop (j + 1)) = appR (xs.map CT.pt) (es.map CE.pe) by
          have h := HQ.out
          simp only [if_true] at h
          rw [← h, HP6.out])
        clear HQ hpc
        go_wp2_with fail
        go_roundg (es.length - j - 1)
        case measure => have := Hj.out; omega
        case rel => exact ⟨j + 1, A6, c6, ts6, by first | rfl | go_num, by omega, rfl, HT6.out, HN.out, HA6.out, HO6.out, by omega, HB6.out⟩
      · have hc' : ((pc : Int) != 0) = true := by simpa using hc
        have HF := Lib.hid (show apV (xs.map CT.pt) (es.map CE.pe) = (pc, []) by
          have h := HQ.out
          rw [if_neg hc, HAP.out] at h
          rw [HV.out]
          by_cases hr : r.1 = 0
          · rw [if_pos hr] at h; injection h with h1 h2; exact absurd h1 hc
          · rw [if_neg hr] at h ⊢; exact h.symm)
        clear HQ hpc hc
        go_wp2_with fail
        go_ret2
        exact ⟨none, 0, [], by rw [HF.out]; rfl, TLO.nil _, by rw [HF.out]; rfl, HB6.out⟩
    · have HF := Lib.hid (show (0, os.map CT.pt) = if r.1 = 0 then (0, r.2) else (r.1, []) by
        have h := HAPJ.out
        rw [List.drop_of_length_le (by simp; omega), HAP.out] at h
        exact h)
      have hr : r.1 = 0 := by
        have h := HF.out
        by_cases hr : r.1 = 0
        · exact hr
        · rw [if_neg hr] at h; injection h with h1; exact absurd h1.symm hr
      have hf := HF.out
      rw [if_pos hr] at hf
      injection hf with _ hf
      have hv := HV.out
      rw [if_pos hr, ← hf, List.length_map] at hv
      have HV2 := Lib.hid hv
      clear hv hf HF HV HAP hr HAPJ
      have hos := HTO.out.l.sz
      by_cases hbig : 1024 < os.length
      · have hv := HV2.out
        rw [if_pos hbig] at hv
        have HV := Lib.hid hv
        clear hv HV2
        go_wp2_with fail
        go_ret2
        exact ⟨none, 0, [], by rw [HV.out]; rfl, TLO.nil _, by rw [HV.out]; rfl, HB.out⟩
      · have hv := HV2.out
        rw [if_neg hbig] at hv
        have HV := Lib.hid hv
        clear hv HV2
        go_wp2_with fail
        go_ret2
        exact ⟨Ao, co, os, by rw [HV.out]; rfl, HTO.out, by rw [HV.out], HB.out⟩
end Go.Proofs.Ythfifejjfnmpoaa
