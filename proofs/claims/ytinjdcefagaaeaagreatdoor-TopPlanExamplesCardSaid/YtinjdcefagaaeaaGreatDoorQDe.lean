import Derived.Test.YtinjdcefagaaeaaGreatDoorQDd
set_option linter.unusedVariables false
set_option linter.unusedSimpArgs false
namespace Go.Proofs.YtinjdcefagaaeaaGreatDoor
open Go.RowKit
/-! layout.declare: sections, links -/
set_option maxRecDepth 100000 in
set_option maxHeartbeats 12800000 in
theorem dcs5_ok (Lb g c : Nat) (ws : List Wd) (nm : UInt8) (v1 v3 v4 : Value) (n1 n3 n4 : Nat) (c1 c3 c4 : List Value) (w : World) (h : LyO w Lb v1 v3 v4 n1 n3 n4 c1 c3 c4) (hg : Cs w g (ws.flatMap Wd.cells)) (ht : ws.map (fun x => Value.string x.tx) = [.string ⟨#[115, 101, 99, 116, 105, 111, 110]⟩, .string ⟨#[nm]⟩, .string tN10, .string tN20, .string tN0]) (hl : ws.length = 5) (hn : n3 ≤ 10) :
    Calls Tryz.prog 26 #[.pointer (some ⟨Lb, 0, none⟩), .slice (some ⟨g, 0, none⟩) 5 c] w fun e w' => e = .returned (.int .i64 0) ∧ Below Lb w w' ∧ ∃ v', LyO w' Lb v1 v' v4 n1 (n3 + 1) n4 c1 (c3 ++ lySec nm (-1)) c4 := by
  have H := Lib.hid h
  have HG := Lib.hid hg
  have HTX := Lib.hid ht
  have hxl := h.x.lt
  clear h hg ht
  obtain ⟨iT, b1, b2, b3, b4⟩ := info_parts infoStr
  have HIT := Lib.hid (And.intro b1 (And.intro b2 (And.intro b3 b4)))
  clear b1 b2 b3 b4
  go_enter Tryz.func26, Tryz.ntmps26
  go_wp2_with fail
  go_loopg [5, 10] 5 (fun k v5 v wr => DcL w ws k v5 v wr)
  case atStart => exact ⟨0, rfl, by omega, Below.refl _ _, World.ownsRow_nil _ _ _ _⟩
  case round =>
    obtain ⟨j, rfl, hj, hb, ho⟩ := hrel
    have HB := Lib.hid hb
    have HO := Lib.hid ho
    have Hj := Lib.hid hj
    clear hb ho hj
    obtain ⟨A5, c5, rfl, _, _⟩ := own_slice HO.out
    by_cases hlt : j < ws.length
    · have hji : (j : Int) < 5 := by omega
      obtain ⟨d0, d1, d2⟩ := wd_at (HG.out.go HB.out) j hlt
      have dl := (HG.out.go HB.out).lt
      have HR := Lib.hid (ws_take ws j hlt)
      generalize hx : ws[j] = x at d0 d1 d2 HR
      clear hx
      go_upto_region 5 with fail
      refine world_gen (fun w2 => Below w.heap.size w w2 ∧ w2.ownsRow w.heap.size 9 1 (.slice A5 j c5) j ((ws.take j).map (fun x => .string x.tx)) ∧ Blk w2 wr.heap.size 98 #[.string x.tx, .int .i64 x.ln, .int .i64 x.cl]) ⟨HB.out.trans (Below.mono ((Below.refl _ _).alloc (Nat.le_refl _) _) HB.out.size), HO.out.alloc _, (by repeat (first | (refine Blk.new' _ _ _ _ ?_; first | rfl | (simp <;> omega)) | refine Blk.al ?_ _ | refine Blk.dr ?_ | refine Blk.drN ?_ _ | refine Blk.far ?_ (by first | omega | (simp; omega))))⟩ ?_
      rintro w2 ⟨hb2, ho2, hz2⟩
      have HB2 := Lib.hid hb2
      have HO2 := Lib.hid ho2
      have z0 := hz2.cell 0
      have zl := hz2.lt
      have hbz := hb2.size
      simp at z0
      clear hb2 ho2 hz2 HB HO d0 d1 d2 dl
      generalize wr.heap.size = Z at *
      go_upto_region 6 with ((at_builtin; refine wpList_append_own_at _ rfl _ _ 22 rfl w.heap.size 9 iT _ 1 16 Tryz.underlying22 HIT.out.1 HIT.out.2.1 HIT.out.2.2.1 HIT.out.2.2.2 rfl (by omega) _ j ((ws.take j).map (fun x => .string x.tx)) rfl (World.ownsRow.alloc HO2.out _) ⟨w2.heap.size, 0, none⟩ 1 1 [.string x.tx] rfl rfl ?c0 ?c1 ?c2 ?c3 ?c4 ?_; rotate_right; intro va wa hoa hga hna hta); have HN := Lib.hid (show wa.ownsRow w.heap.size 9 1 va (j + 1) ((ws.take (j + 1)).map (fun x => .string x.tx)) by rw [HR.out]; exact hoa); have HNB := Lib.hid (show Below w.heap.size w wa from (HB2.out.alloc hbz (.cells #[.string x.tx] 9)).grown hga (by simp; omega) (fun k hk => (own_block HO2.out k hk).1)); clear hoa hga hna hta)
      case c0 => exact news_new _ _ _
      case c1 => exact (List.all_eq_true (p := fun (u : Value) => u.oneCell')).1 (by rfl)
      case c2 => simp only [maxLen]; omega
      case c3 => omega
      case c4 => first | omega | (simp; done) | (simp; omega)
      go_wp2_with fail
      go_roundg (5 - j - 1)
      case measure => have := Hj.out; omega
      case rel => exact ⟨j + 1, by first | rfl | go_num, by have := Hj.out; omega, HNB.out, HN.out⟩
    · obtain rfl : j = 5 := by have := Hj.out; omega
      obtain ⟨g5, c5', hv5, hc5, hg5, _⟩ := own_cs HO.out (by omega)
      obtain ⟨rfl, rfl⟩ : A5 = some ⟨g5, 0, none⟩ ∧ c5 = c5' := by simp at hv5; exact hv5
      rw [List.take_of_length_le (by omega), HTX.out] at hc5
      have HC5 := Lib.hid hc5
      clear hv5 hc5 HO HG HTX
      have q0 : wr.cell? ⟨g5, 0, none⟩ = some (.string ⟨#[115, 101, 99, 116, 105, 111, 110]⟩) := HC5.out.c 0 _ rfl
      have ql := HC5.out.lt
      have HL := Lib.hid (H.out.go HB.out)
      have ho3w := own_block H.out.o3
      have hLg : Lb < g5 := by omega
      have hnG : v3.ownBlock ≠ some g5 := fun e => by have h1 := (ho3w _ e).2; omega
      clear ho3w
      go_wp2_with fail
      refine (dsec5_ok Lb g5 c5 nm ⟨#[115, 101, 99, 116, 105, 111, 110]⟩ v1 v3 v4 n1 n3 n4 c1 c3 c4 _ HL.out HC5.out hLg hnG hn).mono ?_
      rintro e w3 ⟨rfl, hb3, v', hly⟩
      have HF := Lib.hid (And.intro ((HB.out.mono (Nat.le_of_lt hxl)).trans hb3) hly)
      clear hb3 hly
      go_wp2_with fail
      go_ret
      exact ⟨rfl, HF.out.1, _, HF.out.2⟩
set_option maxRecDepth 100000 in
set_option maxHeartbeats 12800000 in
theorem dcs7_ok (Lb g c : Nat) (ws : List Wd) (nm : UInt8) (sb : ByteArray) (st : Int) (v1 v3 v4 : Value) (n1 n3 n4 : Nat) (c1 c3 c4 : List Value) (w : World) (h : LyO w Lb v1 v3 v4 n1 n3 n4 c1 c3 c4) (hg : Cs w g (ws.flatMap Wd.cells)) (ht : ws.map (fun x => Value.string x.tx) = [.string ⟨#[115, 101, 99, 116, 105, 111, 110]⟩, .string ⟨#[nm]⟩, .string tN10, .string tN20, .string tN0, .string ⟨#[97, 116]⟩, .string sb]) (hl : ws.length = 7) (hn : n3 ≤ 10)
    (hst : 0 ≤ st) (hst2 : st < 10) (hix : ∀ W, LyO W Lb v1 v3 v4 n1 n3 n4 c1 c3 c4 → Calls Tryz.prog 131 #[v1, .string sb] W fun e w' => e = .returned (.int .i64 st) ∧ W = w') :
    Calls Tryz.prog 26 #[.pointer (some ⟨Lb, 0, none⟩), .slice (some ⟨g, 0, none⟩) 7 c] w fun e w' => e = .returned (.int .i64 0) ∧ Below Lb w w' ∧ ∃ v', LyO w' Lb v1 v' v4 n1 (n3 + 1) n4 c1 (c3 ++ lySec nm st) c4 := by
  have HIX := Lib.hid hix
  clear hix
  have H := Lib.hid h
  have HG := Lib.hid hg
  have HTX := Lib.hid ht
  have hxl := h.x.lt
  clear h hg ht
  obtain ⟨iT, b1, b2, b3, b4⟩ := info_parts infoStr
  have HIT := Lib.hid (And.intro b1 (And.intro b2 (And.intro b3 b4)))
  clear b1 b2 b3 b4
  go_enter Tryz.func26, Tryz.ntmps26
  go_wp2_with fail
  go_loopg [5, 10] 7 (fun k v5 v wr => DcL w ws k v5 v wr)
  case atStart => exact ⟨0, rfl, by omega, Below.refl _ _, World.ownsRow_nil _ _ _ _⟩
  case round =>
    obtain ⟨j, rfl, hj, hb, ho⟩ := hrel
    have HB := Lib.hid hb
    have HO := Lib.hid ho
    have Hj := Lib.hid hj
    clear hb ho hj
    obtain ⟨A5, c5, rfl, _, _⟩ := own_slice HO.out
    by_cases hlt : j < ws.length
    · have hji : (j : Int) < 7 := by omega
      obtain ⟨d0, d1, d2⟩ := wd_at (HG.out.go HB.out) j hlt
      have dl := (HG.out.go HB.out).lt
      have HR := Lib.hid (ws_take ws j hlt)
      generalize hx : ws[j] = x at d0 d1 d2 HR
      clear hx
      go_upto_region 5 with fail
      refine world_gen (fun w2 => Below w.heap.size w w2 ∧ w2.ownsRow w.heap.size 9 1 (.slice A5 j c5) j ((ws.take j).map (fun x => .string x.tx)) ∧ Blk w2 wr.heap.size 98 #[.string x.tx, .int .i64 x.ln, .int .i64 x.cl]) ⟨HB.out.trans (Below.mono ((Below.refl _ _).alloc (Nat.le_refl _) _) HB.out.size), HO.out.alloc _, (by repeat (first | (refine Blk.new' _ _ _ _ ?_; first | rfl | (simp <;> omega)) | refine Blk.al ?_ _ | refine Blk.dr ?_ | refine Blk.drN ?_ _ | refine Blk.far ?_ (by first | omega | (simp; omega))))⟩ ?_
      rintro w2 ⟨hb2, ho2, hz2⟩
      have HB2 := Lib.hid hb2
      have HO2 := Lib.hid ho2
      have z0 := hz2.cell 0
      have zl := hz2.lt
      have hbz := hb2.size
      simp at z0
      clear hb2 ho2 hz2 HB HO d0 d1 d2 dl
      generalize wr.heap.size = Z at *
      go_upto_region 6 with ((at_builtin; refine wpList_append_own_at _ rfl _ _ 22 rfl w.heap.size 9 iT _ 1 16 Tryz.underlying22 HIT.out.1 HIT.out.2.1 HIT.out.2.2.1 HIT.out.2.2.2 rfl (by omega) _ j ((ws.take j).map (fun x => .string x.tx)) rfl (World.ownsRow.alloc HO2.out _) ⟨w2.heap.size, 0, none⟩ 1 1 [.string x.tx] rfl rfl ?c0 ?c1 ?c2 ?c3 ?c4 ?_; rotate_right; intro va wa hoa hga hna hta); have HN := Lib.hid (show wa.ownsRow w.heap.size 9 1 va (j + 1) ((ws.take (j + 1)).map (fun x => .string x.tx)) by rw [HR.out]; exact hoa); have HNB := Lib.hid (show Below w.heap.size w wa from (HB2.out.alloc hbz (.cells #[.string x.tx] 9)).grown hga (by simp; omega) (fun k hk => (own_block HO2.out k hk).1)); clear hoa hga hna hta)
      case c0 => exact news_new _ _ _
      case c1 => exact (List.all_eq_true (p := fun (u : Value) => u.oneCell')).1 (by rfl)
      case c2 => simp only [maxLen]; omega
      case c3 => omega
      case c4 => first | omega | (simp; done) | (simp; omega)
      go_wp2_with fail
      go_roundg (7 - j - 1)
      case measure => have := Hj.out; omega
      case rel => exact ⟨j + 1, by first | rfl | go_num, by have := Hj.out; omega, HNB.out, HN.out⟩
    · obtain rfl : j = 7 := by have := Hj.out; omega
      obtain ⟨g5, c5', hv5, hc5, hg5, _⟩ := own_cs HO.out (by omega)
      obtain ⟨rfl, rfl⟩ : A5 = some ⟨g5, 0, none⟩ ∧ c5 = c5' := by simp at hv5; exact hv5
      rw [List.take_of_length_le (by omega), HTX.out] at hc5
      have HC5 := Lib.hid hc5
      clear hv5 hc5 HO HG HTX
      have q0 : wr.cell? ⟨g5, 0, none⟩ = some (.string ⟨#[115, 101, 99, 116, 105, 111, 110]⟩) := HC5.out.c 0 _ rfl
      have q5 : wr.cell? ⟨g5, 5, none⟩ = some (.string ⟨#[97, 116]⟩) := HC5.out.c 5 _ rfl
      have ql := HC5.out.lt
      have HL := Lib.hid (H.out.go HB.out)
      have ho3w := own_block H.out.o3
      have hLg : Lb < g5 := by omega
      have hnG : v3.ownBlock ≠ some g5 := fun e => by have h1 := (ho3w _ e).2; omega
      clear ho3w
      go_wp2_with fail
      refine (dsec7_ok Lb g5 c5 nm ⟨#[115, 101, 99, 116, 105, 111, 110]⟩ sb st v1 v3 v4 n1 n3 n4 c1 c3 c4 _ HL.out HC5.out hLg hnG hn hst hst2 HIX.out).mono ?_
      rintro e w3 ⟨rfl, hb3, v', hly⟩
      have HF := Lib.hid (And.intro ((HB.out.mono (Nat.le_of_lt hxl)).trans hb3) hly)
      clear hb3 hly
      go_wp2_with fail
      go_ret
      exact ⟨rfl, HF.out.1, _, HF.out.2⟩
set_option maxRecDepth 100000 in
set_option maxHeartbeats 12800000 in
theorem dclk_ok (Lb g c g3 cc3 i : Nat) (ws : List Wd) (v1 v4 : Value) (n1 n4 : Nat) (c1 c4 : List Value) (w : World) (h : LyO w Lb v1 (.slice (some ⟨g3, 0, none⟩) 3 cc3) v4 n1 3 n4 c1 seL c4) (hg : Cs w g (ws.flatMap Wd.cells)) (ht : ws.map (fun x => Value.string x.tx) = [.string ⟨#[108, 105, 110, 107]⟩, .string ⟨#[nmF i]⟩, .string ⟨#[66]⟩, .string ⟨#[nmF (i + 1)]⟩, .string ⟨#[65]⟩]) (hl : ws.length = 5) (hi : i < 2) (hn : n4 ≤ 10) (hsw : SideW w) :
    Calls Tryz.prog 26 #[.pointer (some ⟨Lb, 0, none⟩), .slice (some ⟨g, 0, none⟩) 5 c] w fun e w' => e = .returned (.int .i64 0) ∧ Below Lb w w' ∧ ∃ v', LyO w' Lb v1 (.slice (some ⟨g3, 0, none⟩) 3 cc3) v' n1 3 (n4 + 1) c1 seL (c4 ++ lkC i) := by
  have HSW := Lib.hid hsw
  clear hsw
  have H := Lib.hid h
  have HG := Lib.hid hg
  have HTX := Lib.hid ht
  have hxl := h.x.lt
  clear h hg ht
  obtain ⟨iT, b1, b2, b3, b4⟩ := info_parts infoStr
  have HIT := Lib.hid (And.intro b1 (And.intro b2 (And.intro b3 b4)))
  clear b1 b2 b3 b4
  go_enter Tryz.func26, Tryz.ntmps26
  go_wp2_with fail
  go_loopg [5, 10] 5 (fun k v5 v wr => DcL w ws k v5 v wr)
  case atStart => exact ⟨0, rfl, by omega, Below.refl _ _, World.ownsRow_nil _ _ _ _⟩
  case round =>
    obtain ⟨j, rfl, hj, hb, ho⟩ := hrel
    have HB := Lib.hid hb
    have HO := Lib.hid ho
    have Hj := Lib.hid hj
    clear hb ho hj
    obtain ⟨A5, c5, rfl, _, _⟩ := own_slice HO.out
    by_cases hlt : j < ws.length
    · have hji : (j : Int) < 5 := by omega
      obtain ⟨d0, d1, d2⟩ := wd_at (HG.out.go HB.out) j hlt
      have dl := (HG.out.go HB.out).lt
      have HR := Lib.hid (ws_take ws j hlt)
      generalize hx : ws[j] = x at d0 d1 d2 HR
      clear hx
      go_upto_region 5 with fail
      refine world_gen (fun w2 => Below w.heap.size w w2 ∧ w2.ownsRow w.heap.size 9 1 (.slice A5 j c5) j ((ws.take j).map (fun x => .string x.tx)) ∧ Blk w2 wr.heap.size 98 #[.string x.tx, .int .i64 x.ln, .int .i64 x.cl]) ⟨HB.out.trans (Below.mono ((Below.refl _ _).alloc (Nat.le_refl _) _) HB.out.size), HO.out.alloc _, (by repeat (first | (refine Blk.new' _ _ _ _ ?_; first | rfl | (simp <;> omega)) | refine Blk.al ?_ _ | refine Blk.dr ?_ | refine Blk.drN ?_ _ | refine Blk.far ?_ (by first | omega | (simp; omega))))⟩ ?_
      rintro w2 ⟨hb2, ho2, hz2⟩
      have HB2 := Lib.hid hb2
      have HO2 := Lib.hid ho2
      have z0 := hz2.cell 0
      have zl := hz2.lt
      have hbz := hb2.size
      simp at z0
      clear hb2 ho2 hz2 HB HO d0 d1 d2 dl
      generalize wr.heap.size = Z at *
      go_upto_region 6 with ((at_builtin; refine wpList_append_own_at _ rfl _ _ 22 rfl w.heap.size 9 iT _ 1 16 Tryz.underlying22 HIT.out.1 HIT.out.2.1 HIT.out.2.2.1 HIT.out.2.2.2 rfl (by omega) _ j ((ws.take j).map (fun x => .string x.tx)) rfl (World.ownsRow.alloc HO2.out _) ⟨w2.heap.size, 0, none⟩ 1 1 [.string x.tx] rfl rfl ?c0 ?c1 ?c2 ?c3 ?c4 ?_; rotate_right; intro va wa hoa hga hna hta); have HN := Lib.hid (show wa.ownsRow w.heap.size 9 1 va (j + 1) ((ws.take (j + 1)).map (fun x => .string x.tx)) by rw [HR.out]; exact hoa); have HNB := Lib.hid (show Below w.heap.size w wa from (HB2.out.alloc hbz (.cells #[.string x.tx] 9)).grown hga (by simp; omega) (fun k hk => (own_block HO2.out k hk).1)); clear hoa hga hna hta)
      case c0 => exact news_new _ _ _
      case c1 => exact (List.all_eq_true (p := fun (u : Value) => u.oneCell')).1 (by rfl)
      case c2 => simp only [maxLen]; omega
      case c3 => omega
      case c4 => first | omega | (simp; done) | (simp; omega)
      go_wp2_with fail
      go_roundg (5 - j - 1)
      case measure => have := Hj.out; omega
      case rel => exact ⟨j + 1, by first | rfl | go_num, by have := Hj.out; omega, HNB.out, HN.out⟩
    · obtain rfl : j = 5 := by have := Hj.out; omega
      obtain ⟨g5, c5', hv5, hc5, hg5, _⟩ := own_cs HO.out (by omega)
      obtain ⟨rfl, rfl⟩ : A5 = some ⟨g5, 0, none⟩ ∧ c5 = c5' := by simp at hv5; exact hv5
      rw [List.take_of_length_le (by omega), HTX.out] at hc5
      have HC5 := Lib.hid hc5
      clear hv5 hc5 HO HG HTX
      have q0 : wr.cell? ⟨g5, 0, none⟩ = some (.string ⟨#[108, 105, 110, 107]⟩) := HC5.out.c 0 _ rfl
      have ql := HC5.out.lt
      have HL := Lib.hid (H.out.go HB.out)
      have HS2 := Lib.hid (HSW.out.go HB.out)
      go_wp2_with fail
      refine (dlink_ok Lb g5 c5 g3 cc3 i ⟨#[108, 105, 110, 107]⟩ v1 v4 n1 n4 c1 c4 _ HL.out HC5.out hi hn HS2.out).mono ?_
      rintro e w3 ⟨rfl, hb3, v', hly⟩
      have HF := Lib.hid (And.intro ((HB.out.mono (Nat.le_of_lt hxl)).trans hb3) hly)
      clear hb3 hly
      go_wp2_with fail
      go_ret
      exact ⟨rfl, HF.out.1, _, HF.out.2⟩
end Go.Proofs.YtinjdcefagaaeaaGreatDoor
