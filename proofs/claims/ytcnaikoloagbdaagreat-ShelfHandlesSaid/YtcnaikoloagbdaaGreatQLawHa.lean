/-
  The law's walk: h is 0, of is 0.
  The law's walk: h is 0, of is 1.
  The law's walk: h is 0, of is no open handle.
-/
import Derived.Test.YtcnaikoloagbdaaGreatQLawB
namespace Go.Proofs.YtcnaikoloagbdaaGreat
set_option linter.unusedVariables false
set_option linter.unusedSimpArgs false
open Go.RowKit Go.Shelf
attribute [local go_sem ↓] Go.wp_at_zero Go.wp_at_succ

set_option maxRecDepth 100000 in
set_option maxHeartbeats 16000000 in
theorem law_aa (k m : Int) (A4 : Option Addr) (c4 : Nat) (a4 : List Int) (W : World) (hp : Rd .u8 W A4 a4) (hl4 : a4.length ≤ 281474976710656) :
    Calls Tryz.prog 3 #[.int .i64 0, .int .i64 0, .int .u64 k, .int .u64 m, .slice A4 a4.length c4] W fun e W' => e = .returned (.bool true) ∧ Hid (Below W.heap.size W W') := by
  have HP := Lib.hid hp
  have HL4 := Lib.hid hl4
  clear hp hl4
  go_enter Tryz.func3, Tryz.ntmps3
  go_wp2_with fail
  refine (awakeW W).mono ?_
  rintro e w1 ⟨rfl, HB1⟩
  obtain ⟨w2, hw2⟩ : ∃ w2, w2 = w1.alloc (.cells #[.int .u64 1, .int .u64 2] 22) := ⟨_, rfl⟩
  obtain ⟨w3, hw3⟩ : ∃ w3, w3 = w2.alloc (.cells #[.int .u64 7] 22) := ⟨_, rfl⟩
  obtain ⟨w4, hw4⟩ : ∃ w4, w4 = w3.alloc (.cells #[.slice (some ⟨w1.heap.size, 0, none⟩) 2 2, .slice (some ⟨w1.heap.size + 1, 0, none⟩) 1 1] 29) := ⟨_, rfl⟩
  have hB2 : Below w1.heap.size w1 w2 := by rw [hw2]; exact (Below.refl _ _).alloc (Nat.le_refl _) _
  have hB3 : Below w2.heap.size w2 w3 := by rw [hw3]; exact (Below.refl _ _).alloc (Nat.le_refl _) _
  have hB4 : Below w3.heap.size w3 w4 := by rw [hw4]; exact (Below.refl _ _).alloc (Nat.le_refl _) _
  have hz2 : w2.heap.size = w1.heap.size + 1 := by rw [hw2]; simp
  have hz3 : w3.heap.size = w2.heap.size + 1 := by rw [hw3]; simp
  have hz4 : w4.heap.size = w3.heap.size + 1 := by rw [hw4]; simp
  have HLY := Lib.hid (layW (w1.heap.size + 1 + 1) w1.heap.size (w1.heap.size + 1) w4
    (by rw [hB4.block _ (by omega), hB3.block _ (by omega), hw2]; exact blk_new _ _ _)
    (by rw [hB4.block _ (by omega), hw3, ← hz2]; exact blk_new _ _ _)
    (by rw [hw4, ← hz2, ← hz3]; exact blk_new _ _ _))
  have HB4 := Lib.hid (below_then (below_then (below_then HB1.out hB2) hB3) hB4)
  have HW4 := Lib.hid hw4
  have HW3 := Lib.hid hw3
  have HW2 := Lib.hid hw2
  clear hB2 hB3 hB4 hz2 hz3 hz4 hw4 hw3 hw2 HB1
  go_wp2_with fail
  rw [← HW2.out, ← HW3.out, ← HW4.out]
  refine HLY.out.mono ?_
  rintro e w5 ⟨s, vl, l, rfl, HS5, HL5, HB5⟩
  obtain ⟨⟨xa, hxa, hla⟩, ⟨xb, hxb, hlb⟩, hno⟩ := HL5.out
  have HXA := Lib.hid hxa
  have HXB := Lib.hid hxb
  have HLA := Lib.hid hla
  have HLBB := Lib.hid hlb
  have HNO := Lib.hid hno
  have HLB := Lib.hid (LB.of hxa hla hxb hlb hno)
  have HLS := Lib.hid (show LS W w5 s l from ⟨HS5.out.mono HB4.out.size, (Chg.of_below HB4.out).then (Chg.of_below HB5.out)⟩)
  clear HL5 HS5 HB5 HLY HW2 HW3 HW4 HB4 hxa hla hxb hlb hno
  have HX := Lib.hid (lk0 HXA.out)
  have HY := Lib.hid (lk0 HXA.out)
  have HX0 := Lib.hid (lk0 HXA.out)
  have HQ := Lib.hid (qGet HLS.out.1 HLB.out 0 k)
  go_wp2_with fail
  refine HQ.out.mono ?_
  rintro e w6 ⟨v6, e6, rfl, h6, HK⟩
  replace HLS := Lib.hid (HLS.out.k HK.out)
  clear HK
  have E6 := Lib.hid (show e6 ≠ 6 from fun e => by have h := h6.1 e; rw [HX.out] at h; cases h)
  clear HQ h6
  have HQ := Lib.hid (qHas HLS.out.1 HLB.out 0 k)
  go_wp2_with fail
  refine HQ.out.mono ?_
  rintro e w7 ⟨v7, e7, rfl, h7, HK⟩
  replace HLS := Lib.hid (HLS.out.k HK.out)
  clear HK
  have E7 := Lib.hid (show e7 ≠ 6 from fun e => by have h := h7.1 e; rw [HX.out] at h; cases h)
  clear HQ h7
  have HQ := Lib.hid (qNext HLS.out.1 HLB.out 0 k)
  go_wp2_with fail
  refine HQ.out.mono ?_
  rintro e w8 ⟨v8, e8, rfl, h8, HK⟩
  replace HLS := Lib.hid (HLS.out.k HK.out)
  clear HK
  have E8 := Lib.hid (show e8 ≠ 6 from fun e => by have h := h8.1 e; rw [HX.out] at h; cases h)
  clear HQ h8
  have HQ := Lib.hid (qPrev HLS.out.1 HLB.out 0 k)
  go_wp2_with fail
  refine HQ.out.mono ?_
  rintro e w9 ⟨v9, e9, rfl, h9, HK⟩
  replace HLS := Lib.hid (HLS.out.k HK.out)
  clear HK
  have E9 := Lib.hid (show e9 ≠ 6 from fun e => by have h := h9.1 e; rw [HX.out] at h; cases h)
  clear HQ h9
  have HQ := Lib.hid (qRank HLS.out.1 HLB.out 0 k)
  go_wp2_with fail
  refine HQ.out.mono ?_
  rintro e w10 ⟨v10, e10, rfl, h10, HK⟩
  replace HLS := Lib.hid (HLS.out.k HK.out)
  clear HK
  have E10 := Lib.hid (show e10 ≠ 6 from fun e => by have h := h10.1 e; rw [HX.out] at h; cases h)
  clear HQ h10
  have HQ := Lib.hid (qSelect HLS.out.1 HLB.out 0 0)
  go_wp2_with fail
  refine HQ.out.mono ?_
  rintro e w11 ⟨v11, e11, rfl, h11, HK⟩
  replace HLS := Lib.hid (HLS.out.k HK.out)
  clear HK
  have E11 := Lib.hid (show e11 ≠ 6 from fun e => by have h := h11.1 e; rw [HX.out] at h; cases h)
  clear HQ h11
  have HQ := Lib.hid (qCount HLS.out.1 HLB.out 0 k m)
  go_wp2_with fail
  refine HQ.out.mono ?_
  rintro e w12 ⟨v12, e12, rfl, h12, HK⟩
  replace HLS := Lib.hid (HLS.out.k HK.out)
  clear HK
  have E12 := Lib.hid (show e12 ≠ 6 from fun e => by have h := h12.1 e; rw [HX.out] at h; cases h)
  clear HQ h12
  have HQ := Lib.hid (qEncode HLS.out.1 HLB.out 0)
  go_wp2_with fail
  refine HQ.out.mono ?_
  rintro e w13 ⟨v13, e13, rfl, h13, HK⟩
  replace HLS := Lib.hid (HLS.out.k HK.out)
  clear HK
  have E13 := Lib.hid (show e13 ≠ 6 from fun e => by have h := h13.1 e; rw [HX.out] at h; cases h)
  clear HQ h13
  have HQ := Lib.hid (shStep HLS.out.1 0 true)
  go_wp2_with fail
  refine HQ.out.mono ?_
  rintro e w14 ⟨e14, rfl, h14, hw⟩
  rw [hw]
  clear hw w14
  have E14 := Lib.hid (show e14 ≠ 6 from fun e => by have h := h14.1 e; rw [HX.out] at h; cases h)
  clear HQ h14
  have HQ := Lib.hid (qVersion HLS.out.1 HLB.out 0)
  go_wp2_with fail
  refine HQ.out.mono ?_
  rintro e w15 ⟨v15, e15, rfl, h15, HK⟩
  replace HLS := Lib.hid (HLS.out.k HK.out)
  clear HK
  have E15 := Lib.hid (show e15 ≠ 6 from fun e => by have h := h15.1 e; rw [HX.out] at h; cases h)
  clear HQ h15
  have HQ := Lib.hid (qUsed HLS.out.1 HLB.out 0)
  go_wp2_with fail
  refine HQ.out.mono ?_
  rintro e w16 ⟨v16, e16, rfl, h16, HK⟩
  replace HLS := Lib.hid (HLS.out.k HK.out)
  clear HK
  have E16 := Lib.hid (show e16 ≠ 6 from fun e => by have h := h16.1 e; rw [HX.out] at h; cases h)
  clear HQ h16
  have HQ := Lib.hid (shSeek HLS.out.1 0 k)
  go_wp2_with fail
  refine HQ.out.mono ?_
  rintro e w17 ⟨e17, rfl, h17, hw⟩
  rw [hw]
  clear hw w17
  have E17 := Lib.hid (show e17 ≠ 6 from fun e => by have h := h17.1 e; rw [HX.out] at h; cases h)
  clear HQ h17
  have HQ := Lib.hid (qEqual HLS.out.1 HLB.out 0 0)
  go_wp2_with fail
  refine HQ.out.mono ?_
  rintro e w18 ⟨v18, e18, rfl, h18, HK⟩
  replace HLS := Lib.hid (HLS.out.k HK.out)
  clear HK
  have E18 := Lib.hid (show e18 ≠ 6 from fun e => by rcases h18.1 e with h | h <;> first | (rw [HX0.out] at h; cases h) | (rw [HY.out] at h; cases h))
  clear HQ h18
  have HQ := Lib.hid (qWithin HLS.out.1 HLB.out 0 0)
  go_wp2_with fail
  refine HQ.out.mono ?_
  rintro e w19 ⟨v19, e19, rfl, h19, HK⟩
  replace HLS := Lib.hid (HLS.out.k HK.out)
  clear HK
  have E19 := Lib.hid (show e19 ≠ 6 from fun e => by rcases h19.1 e with h | h <;> first | (rw [HX0.out] at h; cases h) | (rw [HY.out] at h; cases h))
  clear HQ h19
  obtain ⟨es, hes⟩ : ∃ es, es = [e6, e7, e8, e9, e10, e11, e12, e13, e14, e15, e16, e17] := ⟨_, rfl⟩
  have HEN := Lib.hid (show ∀ j, j < 12 → es.getD j 0 ≠ 6 from fun j hj => by
    rw [hes]
    match j, hj with
    | 0, _ => exact E6.out
    | 1, _ => exact E7.out
    | 2, _ => exact E8.out
    | 3, _ => exact E9.out
    | 4, _ => exact E10.out
    | 5, _ => exact E11.out
    | 6, _ => exact E12.out
    | 7, _ => exact E13.out
    | 8, _ => exact E14.out
    | 9, _ => exact E15.out
    | 10, _ => exact E16.out
    | 11, _ => exact E17.out)
  obtain ⟨wa, hwa⟩ : ∃ wa, wa = w19.alloc (.cells #[.int .i64 e6, .int .i64 e7, .int .i64 e8, .int .i64 e9, .int .i64 e10, .int .i64 e11, .int .i64 e12, .int .i64 e13, .int .i64 e14, .int .i64 e15, .int .i64 e16, .int .i64 e17] 30) := ⟨_, rfl⟩
  have HRD := Lib.hid (show Rd .i64 wa (some ⟨w19.heap.size, 0, none⟩) es from rd_block (e := 30) es (by rw [hwa, hes]; exact blk_new _ _ _))
  have hlen : es.length = 12 := by rw [hes]; rfl
  have HLEN := Lib.hid hlen
  have HWA := Lib.hid hwa
  replace HLS := Lib.hid (show LS W wa s l from by rw [hwa]; exact HLS.out.alloc _)
  clear hes hwa hlen E6 E7 E8 E9 E10 E11 E12 E13 E14 E15 E16 E17
  go_wp2
  rw [← HWA.out]
  go_loopw [47, 223] (fun _ v223 wr => ∃ (j : Nat), v223 = .int .i64 j ∧ j ≤ 12 ∧ wr = wa) (fun _ v223 _ => 12 - (intOf v223).toNat)
  case atStart => exact ⟨0, rfl, by omega, rfl⟩
  case round =>
    obtain ⟨j, rfl, hj, hw⟩ := hrel
    rw [hw]
    clear hw wr
    by_cases hlt : j < 12
    · obtain ⟨a1, hA1, _, hc1⟩ := HRD.out j (by rw [HLEN.out]; exact hlt)
      have hz := HEN.out j hlt
      cases hA1
      rw [add_mk] at hc1
      generalize es.getD j 0 = z at hz hc1
      have hz6 : (z == 6) = false := by simpa using hz
      clear hz
      go_wp2
      first
      | (refine ⟨⟨j + 1, by go_num, by omega, by first | trivial | rfl⟩, ?_⟩
         simp [intOf]; omega)
      | (go_roundw
         case rel => exact ⟨j + 1, by go_num, by omega, by first | trivial | rfl⟩
         case measure => simp [intOf]; omega)
    · obtain rfl : j = 12 := by omega
      clear HRD HEN HLEN hj hlt
      have HT := Lib.hid (shTaken HLS.out.1 0)
      rw [HX.out] at HT
      simp only [Option.isSome_some, Option.isSome_none] at HT
      have et : (e18 == 6) = false := by have := E18.out; simpa using this
      have eu : (e19 == 6) = false := by have := E19.out; simpa using this
      obtain ⟨wf, hwf⟩ : ∃ wf, wf = wa.alloc (.cells #[.int .i64 0] 3) := ⟨_, rfl⟩
      have HWF := Lib.hid hwf
      have HLSF := Lib.hid (show LS W wf s l from by rw [hwf]; exact HLS.out.alloc _)
      have HN := Lib.hid (show wf.heap[wa.heap.size]? = some (.cells #[.int .i64 0] 3 (0, 0)) from by rw [hwf]; exact blk_new _ _ _)
      clear hwf
      go_wp2_with fail
      refine HT.out.mono ?_
      rintro e wx ⟨rfl, hw⟩
      rw [hw]
      clear hw wx HT
      have HJ := Lib.hid (shJoin true HLSF.out.1 1 (lk1 HXB.out) 0 (y := xa) HY.out 1 (.inl rfl) (some ⟨wa.heap.size, 0, none⟩) 1 (Rd.one HN.out)
        ⟨HLBB.out.tg, by rw [HLBB.out.lm]; decide, (HLA.out.small (by omega)).2⟩ (by rw [HLBB.out.lm]; decide) (fun h => absurd h (by decide)) (HLA.out.small (by omega)).1.2 (HLBB.out.small (by omega)).1.2
        (fun s' h => by obtain ⟨d, rfl, hd⟩ := h; show d.ks.length ≤ 100000; omega))
      go_wp2_with fail
      rw [← HWF.out]
      refine HJ.out.mono ?_
      rintro e wj ⟨er, rfl, HQ, HR0, HR1, HCJ⟩
      have ej : (er == 6) = false := by have := HQ.out; simpa [FQ] using this
      have hl' : ∃ l', LS W wj s l' ∧ l' 0 = some xa ∧ ∃ y, l' 1 = some y := by
        by_cases h0 : er = 0
        · obtain ⟨x', h1, _⟩ := HR1.out h0
          exact ⟨_, ⟨h1, HLSF.out.2.then HCJ.out⟩, by rw [upd_other _ _ (by omega)]; exact HXA.out, x', upd_same _ _ _⟩
        · exact ⟨l, ⟨HR0.out h0, HLSF.out.2.then HCJ.out⟩, HXA.out, xb, HXB.out⟩
      obtain ⟨l2, hls2, hl20, yb, hl21⟩ := hl'
      have HL2 := Lib.hid hls2
      have HL20 := Lib.hid hl20
      have HL21 := Lib.hid hl21
      clear hls2 hl20 hl21 HJ HLS HLSF HN HWF HX HY HX0 HXA HXB HLA HLBB HNO HLB
      have HQ1 := Lib.hid (noTaken none 0 wj (shAtNil 0 wj))
      go_wp2_with fail
      refine HQ1.out.mono ?_
      rintro e wx ⟨rfl, hw⟩
      rw [hw]
      clear hw wx HQ1
      have HQ1 := Lib.hid (noInsert none 0 k wj (shAtNil 0 wj))
      go_wp2_with fail
      refine HQ1.out.mono ?_
      rintro e wx ⟨rfl, hw⟩
      rw [hw]
      clear hw wx HQ1
      go_wp2_with fail
      refine (nilOpen 0 1 0 9 wj).mono ?_
      rintro e wk ⟨rfl, HBK⟩
      replace HL2 := Lib.hid (HL2.out.below HBK.out)
      clear HBK
      have HC := Lib.hid (isClose HL2.out.1 0 (lk0 HL20.out))
      go_wp2_with fail
      refine HC.out.mono ?_
      rintro e wm ⟨rfl, HS, HCM⟩
      have HL3 := Lib.hid (show LS W wm s (upd l2 0 none) from ⟨HS.out, HL2.out.2.then HCM.out⟩)
      have HN0 := Lib.hid (show lk (upd l2 0 none) 0 = none by unfold lk; rw [if_pos (by omega)]; exact upd_same _ _ _)
      have HN1 := Lib.hid (show lk (upd l2 0 none) 1 = some yb from lk1 (by rw [upd_other _ _ (by omega)]; exact HL21.out))
      clear HC HS HCM HL2 HL20 HL21
      have HT := Lib.hid (shTaken HL3.out.1 0)
      rw [HN0.out] at HT
      simp only [Option.isSome_none] at HT
      go_wp2_with fail
      refine HT.out.mono ?_
      rintro e wx ⟨rfl, hw⟩
      rw [hw]
      clear hw wx HT
      have HT := Lib.hid (shTaken HL3.out.1 1)
      rw [HN1.out] at HT
      simp only [Option.isSome_some] at HT
      go_wp2_with fail
      refine HT.out.mono ?_
      rintro e wx ⟨rfl, hw⟩
      rw [hw]
      clear hw wx HT
      have HT := Lib.hid (hasNo HL3.out.1 0 HN0.out)
      go_wp2_with fail
      refine HT.out.mono ?_
      rintro e wx ⟨rfl, hw⟩
      rw [hw]
      clear hw wx HT
      have HO := Lib.hid (shOpen HL3.out.1 0 (by omega) (upd_same _ _ _) 2 0 9 (.inl rfl) (by omega) (by omega) (by omega))
      go_wp2_with fail
      refine HO.out.mono ?_
      rintro e wo ⟨x2, rfl, HS, HX2, HCO, _, _⟩
      obtain ⟨d2, hd2, hls2⟩ := fresh2 HX2.out.2.2.2
      have HL4 := Lib.hid (show LS W wo s _ from ⟨HS.out, HL3.out.2.then HCO.out⟩)
      have HZ := Lib.hid (hasZero HL4.out.1 0 (x := x2) (lk0 (upd_same _ _ _)) d2 hd2 hls2)
      clear HO HS HX2 HCO HL3 HN0 HN1 hd2 hls2
      go_wp2_with fail
      refine HZ.out.mono ?_
      rintro e wx ⟨rfl, hw⟩
      rw [hw]
      clear hw wx HZ
      go_wp2
      go_ret
      exact ⟨rfl, HL4.out.bel⟩
end Go.Proofs.YtcnaikoloagbdaaGreat
namespace Go.Proofs.YtcnaikoloagbdaaGreat
set_option linter.unusedVariables false
set_option linter.unusedSimpArgs false
open Go.RowKit Go.Shelf
attribute [local go_sem ↓] Go.wp_at_zero Go.wp_at_succ

set_option maxRecDepth 100000 in
set_option maxHeartbeats 16000000 in
theorem law_ab (k m : Int) (A4 : Option Addr) (c4 : Nat) (a4 : List Int) (W : World) (hp : Rd .u8 W A4 a4) (hl4 : a4.length ≤ 281474976710656) :
    Calls Tryz.prog 3 #[.int .i64 0, .int .i64 1, .int .u64 k, .int .u64 m, .slice A4 a4.length c4] W fun e W' => e = .returned (.bool true) ∧ Hid (Below W.heap.size W W') := by
  have HP := Lib.hid hp
  have HL4 := Lib.hid hl4
  clear hp hl4
  go_enter Tryz.func3, Tryz.ntmps3
  go_wp2_with fail
  refine (awakeW W).mono ?_
  rintro e w1 ⟨rfl, HB1⟩
  obtain ⟨w2, hw2⟩ : ∃ w2, w2 = w1.alloc (.cells #[.int .u64 1, .int .u64 2] 22) := ⟨_, rfl⟩
  obtain ⟨w3, hw3⟩ : ∃ w3, w3 = w2.alloc (.cells #[.int .u64 7] 22) := ⟨_, rfl⟩
  obtain ⟨w4, hw4⟩ : ∃ w4, w4 = w3.alloc (.cells #[.slice (some ⟨w1.heap.size, 0, none⟩) 2 2, .slice (some ⟨w1.heap.size + 1, 0, none⟩) 1 1] 29) := ⟨_, rfl⟩
  have hB2 : Below w1.heap.size w1 w2 := by rw [hw2]; exact (Below.refl _ _).alloc (Nat.le_refl _) _
  have hB3 : Below w2.heap.size w2 w3 := by rw [hw3]; exact (Below.refl _ _).alloc (Nat.le_refl _) _
  have hB4 : Below w3.heap.size w3 w4 := by rw [hw4]; exact (Below.refl _ _).alloc (Nat.le_refl _) _
  have hz2 : w2.heap.size = w1.heap.size + 1 := by rw [hw2]; simp
  have hz3 : w3.heap.size = w2.heap.size + 1 := by rw [hw3]; simp
  have hz4 : w4.heap.size = w3.heap.size + 1 := by rw [hw4]; simp
  have HLY := Lib.hid (layW (w1.heap.size + 1 + 1) w1.heap.size (w1.heap.size + 1) w4
    (by rw [hB4.block _ (by omega), hB3.block _ (by omega), hw2]; exact blk_new _ _ _)
    (by rw [hB4.block _ (by omega), hw3, ← hz2]; exact blk_new _ _ _)
    (by rw [hw4, ← hz2, ← hz3]; exact blk_new _ _ _))
  have HB4 := Lib.hid (below_then (below_then (below_then HB1.out hB2) hB3) hB4)
  have HW4 := Lib.hid hw4
  have HW3 := Lib.hid hw3
  have HW2 := Lib.hid hw2
  clear hB2 hB3 hB4 hz2 hz3 hz4 hw4 hw3 hw2 HB1
  go_wp2_with fail
  rw [← HW2.out, ← HW3.out, ← HW4.out]
  refine HLY.out.mono ?_
  rintro e w5 ⟨s, vl, l, rfl, HS5, HL5, HB5⟩
  obtain ⟨⟨xa, hxa, hla⟩, ⟨xb, hxb, hlb⟩, hno⟩ := HL5.out
  have HXA := Lib.hid hxa
  have HXB := Lib.hid hxb
  have HLA := Lib.hid hla
  have HLBB := Lib.hid hlb
  have HNO := Lib.hid hno
  have HLB := Lib.hid (LB.of hxa hla hxb hlb hno)
  have HLS := Lib.hid (show LS W w5 s l from ⟨HS5.out.mono HB4.out.size, (Chg.of_below HB4.out).then (Chg.of_below HB5.out)⟩)
  clear HL5 HS5 HB5 HLY HW2 HW3 HW4 HB4 hxa hla hxb hlb hno
  have HX := Lib.hid (lk0 HXA.out)
  have HY := Lib.hid (lk1 HXB.out)
  have HX0 := Lib.hid (lk0 HXA.out)
  have HQ := Lib.hid (qGet HLS.out.1 HLB.out 0 k)
  go_wp2_with fail
  refine HQ.out.mono ?_
  rintro e w6 ⟨v6, e6, rfl, h6, HK⟩
  replace HLS := Lib.hid (HLS.out.k HK.out)
  clear HK
  have E6 := Lib.hid (show e6 ≠ 6 from fun e => by have h := h6.1 e; rw [HX.out] at h; cases h)
  clear HQ h6
  have HQ := Lib.hid (qHas HLS.out.1 HLB.out 0 k)
  go_wp2_with fail
  refine HQ.out.mono ?_
  rintro e w7 ⟨v7, e7, rfl, h7, HK⟩
  replace HLS := Lib.hid (HLS.out.k HK.out)
  clear HK
  have E7 := Lib.hid (show e7 ≠ 6 from fun e => by have h := h7.1 e; rw [HX.out] at h; cases h)
  clear HQ h7
  have HQ := Lib.hid (qNext HLS.out.1 HLB.out 0 k)
  go_wp2_with fail
  refine HQ.out.mono ?_
  rintro e w8 ⟨v8, e8, rfl, h8, HK⟩
  replace HLS := Lib.hid (HLS.out.k HK.out)
  clear HK
  have E8 := Lib.hid (show e8 ≠ 6 from fun e => by have h := h8.1 e; rw [HX.out] at h; cases h)
  clear HQ h8
  have HQ := Lib.hid (qPrev HLS.out.1 HLB.out 0 k)
  go_wp2_with fail
  refine HQ.out.mono ?_
  rintro e w9 ⟨v9, e9, rfl, h9, HK⟩
  replace HLS := Lib.hid (HLS.out.k HK.out)
  clear HK
  have E9 := Lib.hid (show e9 ≠ 6 from fun e => by have h := h9.1 e; rw [HX.out] at h; cases h)
  clear HQ h9
  have HQ := Lib.hid (qRank HLS.out.1 HLB.out 0 k)
  go_wp2_with fail
  refine HQ.out.mono ?_
  rintro e w10 ⟨v10, e10, rfl, h10, HK⟩
  replace HLS := Lib.hid (HLS.out.k HK.out)
  clear HK
  have E10 := Lib.hid (show e10 ≠ 6 from fun e => by have h := h10.1 e; rw [HX.out] at h; cases h)
  clear HQ h10
  have HQ := Lib.hid (qSelect HLS.out.1 HLB.out 0 0)
  go_wp2_with fail
  refine HQ.out.mono ?_
  rintro e w11 ⟨v11, e11, rfl, h11, HK⟩
  replace HLS := Lib.hid (HLS.out.k HK.out)
  clear HK
  have E11 := Lib.hid (show e11 ≠ 6 from fun e => by have h := h11.1 e; rw [HX.out] at h; cases h)
  clear HQ h11
  have HQ := Lib.hid (qCount HLS.out.1 HLB.out 0 k m)
  go_wp2_with fail
  refine HQ.out.mono ?_
  rintro e w12 ⟨v12, e12, rfl, h12, HK⟩
  replace HLS := Lib.hid (HLS.out.k HK.out)
  clear HK
  have E12 := Lib.hid (show e12 ≠ 6 from fun e => by have h := h12.1 e; rw [HX.out] at h; cases h)
  clear HQ h12
  have HQ := Lib.hid (qEncode HLS.out.1 HLB.out 0)
  go_wp2_with fail
  refine HQ.out.mono ?_
  rintro e w13 ⟨v13, e13, rfl, h13, HK⟩
  replace HLS := Lib.hid (HLS.out.k HK.out)
  clear HK
  have E13 := Lib.hid (show e13 ≠ 6 from fun e => by have h := h13.1 e; rw [HX.out] at h; cases h)
  clear HQ h13
  have HQ := Lib.hid (shStep HLS.out.1 0 true)
  go_wp2_with fail
  refine HQ.out.mono ?_
  rintro e w14 ⟨e14, rfl, h14, hw⟩
  rw [hw]
  clear hw w14
  have E14 := Lib.hid (show e14 ≠ 6 from fun e => by have h := h14.1 e; rw [HX.out] at h; cases h)
  clear HQ h14
  have HQ := Lib.hid (qVersion HLS.out.1 HLB.out 0)
  go_wp2_with fail
  refine HQ.out.mono ?_
  rintro e w15 ⟨v15, e15, rfl, h15, HK⟩
  replace HLS := Lib.hid (HLS.out.k HK.out)
  clear HK
  have E15 := Lib.hid (show e15 ≠ 6 from fun e => by have h := h15.1 e; rw [HX.out] at h; cases h)
  clear HQ h15
  have HQ := Lib.hid (qUsed HLS.out.1 HLB.out 0)
  go_wp2_with fail
  refine HQ.out.mono ?_
  rintro e w16 ⟨v16, e16, rfl, h16, HK⟩
  replace HLS := Lib.hid (HLS.out.k HK.out)
  clear HK
  have E16 := Lib.hid (show e16 ≠ 6 from fun e => by have h := h16.1 e; rw [HX.out] at h; cases h)
  clear HQ h16
  have HQ := Lib.hid (shSeek HLS.out.1 0 k)
  go_wp2_with fail
  refine HQ.out.mono ?_
  rintro e w17 ⟨e17, rfl, h17, hw⟩
  rw [hw]
  clear hw w17
  have E17 := Lib.hid (show e17 ≠ 6 from fun e => by have h := h17.1 e; rw [HX.out] at h; cases h)
  clear HQ h17
  have HQ := Lib.hid (qEqual HLS.out.1 HLB.out 0 1)
  go_wp2_with fail
  refine HQ.out.mono ?_
  rintro e w18 ⟨v18, e18, rfl, h18, HK⟩
  replace HLS := Lib.hid (HLS.out.k HK.out)
  clear HK
  have E18 := Lib.hid (show e18 ≠ 6 from fun e => by rcases h18.1 e with h | h <;> first | (rw [HX0.out] at h; cases h) | (rw [HY.out] at h; cases h))
  clear HQ h18
  have HQ := Lib.hid (qWithin HLS.out.1 HLB.out 1 0)
  go_wp2_with fail
  refine HQ.out.mono ?_
  rintro e w19 ⟨v19, e19, rfl, h19, HK⟩
  replace HLS := Lib.hid (HLS.out.k HK.out)
  clear HK
  have E19 := Lib.hid (show e19 ≠ 6 from fun e => by rcases h19.1 e with h | h <;> first | (rw [HX0.out] at h; cases h) | (rw [HY.out] at h; cases h))
  clear HQ h19
  obtain ⟨es, hes⟩ : ∃ es, es = [e6, e7, e8, e9, e10, e11, e12, e13, e14, e15, e16, e17] := ⟨_, rfl⟩
  have HEN := Lib.hid (show ∀ j, j < 12 → es.getD j 0 ≠ 6 from fun j hj => by
    rw [hes]
    match j, hj with
    | 0, _ => exact E6.out
    | 1, _ => exact E7.out
    | 2, _ => exact E8.out
    | 3, _ => exact E9.out
    | 4, _ => exact E10.out
    | 5, _ => exact E11.out
    | 6, _ => exact E12.out
    | 7, _ => exact E13.out
    | 8, _ => exact E14.out
    | 9, _ => exact E15.out
    | 10, _ => exact E16.out
    | 11, _ => exact E17.out)
  obtain ⟨wa, hwa⟩ : ∃ wa, wa = w19.alloc (.cells #[.int .i64 e6, .int .i64 e7, .int .i64 e8, .int .i64 e9, .int .i64 e10, .int .i64 e11, .int .i64 e12, .int .i64 e13, .int .i64 e14, .int .i64 e15, .int .i64 e16, .int .i64 e17] 30) := ⟨_, rfl⟩
  have HRD := Lib.hid (show Rd .i64 wa (some ⟨w19.heap.size, 0, none⟩) es from rd_block (e := 30) es (by rw [hwa, hes]; exact blk_new _ _ _))
  have hlen : es.length = 12 := by rw [hes]; rfl
  have HLEN := Lib.hid hlen
  have HWA := Lib.hid hwa
  replace HLS := Lib.hid (show LS W wa s l from by rw [hwa]; exact HLS.out.alloc _)
  clear hes hwa hlen E6 E7 E8 E9 E10 E11 E12 E13 E14 E15 E16 E17
  go_wp2
  rw [← HWA.out]
  go_loopw [47, 223] (fun _ v223 wr => ∃ (j : Nat), v223 = .int .i64 j ∧ j ≤ 12 ∧ wr = wa) (fun _ v223 _ => 12 - (intOf v223).toNat)
  case atStart => exact ⟨0, rfl, by omega, rfl⟩
  case round =>
    obtain ⟨j, rfl, hj, hw⟩ := hrel
    rw [hw]
    clear hw wr
    by_cases hlt : j < 12
    · obtain ⟨a1, hA1, _, hc1⟩ := HRD.out j (by rw [HLEN.out]; exact hlt)
      have hz := HEN.out j hlt
      cases hA1
      rw [add_mk] at hc1
      generalize es.getD j 0 = z at hz hc1
      have hz6 : (z == 6) = false := by simpa using hz
      clear hz
      go_wp2
      first
      | (refine ⟨⟨j + 1, by go_num, by omega, by first | trivial | rfl⟩, ?_⟩
         simp [intOf]; omega)
      | (go_roundw
         case rel => exact ⟨j + 1, by go_num, by omega, by first | trivial | rfl⟩
         case measure => simp [intOf]; omega)
    · obtain rfl : j = 12 := by omega
      clear HRD HEN HLEN hj hlt
      have HT := Lib.hid (shTaken HLS.out.1 0)
      rw [HX.out] at HT
      simp only [Option.isSome_some, Option.isSome_none] at HT
      have et : (e18 == 6) = false := by have := E18.out; simpa using this
      have eu : (e19 == 6) = false := by have := E19.out; simpa using this
      obtain ⟨wf, hwf⟩ : ∃ wf, wf = wa.alloc (.cells #[.int .i64 1] 3) := ⟨_, rfl⟩
      have HWF := Lib.hid hwf
      have HLSF := Lib.hid (show LS W wf s l from by rw [hwf]; exact HLS.out.alloc _)
      have HN := Lib.hid (show wf.heap[wa.heap.size]? = some (.cells #[.int .i64 1] 3 (0, 0)) from by rw [hwf]; exact blk_new _ _ _)
      clear hwf
      go_wp2_with fail
      refine HT.out.mono ?_
      rintro e wx ⟨rfl, hw⟩
      rw [hw]
      clear hw wx HT
      have HJ := Lib.hid (shJoin true HLSF.out.1 1 (lk1 HXB.out) 1 (y := xb) HY.out 1 (.inl rfl) (some ⟨wa.heap.size, 0, none⟩) 1 (Rd.one HN.out)
        ⟨HLBB.out.tg, by rw [HLBB.out.lm]; decide, (HLBB.out.small (by omega)).2⟩ (by rw [HLBB.out.lm]; decide) (fun h => absurd h (by decide)) (HLBB.out.small (by omega)).1.2 (HLBB.out.small (by omega)).1.2
        (fun s' h => by obtain ⟨d, rfl, hd⟩ := h; show d.ks.length ≤ 100000; omega))
      go_wp2_with fail
      rw [← HWF.out]
      refine HJ.out.mono ?_
      rintro e wj ⟨er, rfl, HQ, HR0, HR1, HCJ⟩
      have ej : (er == 6) = false := by have := HQ.out; simpa [FQ] using this
      have hl' : ∃ l', LS W wj s l' ∧ l' 0 = some xa ∧ ∃ y, l' 1 = some y := by
        by_cases h0 : er = 0
        · obtain ⟨x', h1, _⟩ := HR1.out h0
          exact ⟨_, ⟨h1, HLSF.out.2.then HCJ.out⟩, by rw [upd_other _ _ (by omega)]; exact HXA.out, x', upd_same _ _ _⟩
        · exact ⟨l, ⟨HR0.out h0, HLSF.out.2.then HCJ.out⟩, HXA.out, xb, HXB.out⟩
      obtain ⟨l2, hls2, hl20, yb, hl21⟩ := hl'
      have HL2 := Lib.hid hls2
      have HL20 := Lib.hid hl20
      have HL21 := Lib.hid hl21
      clear hls2 hl20 hl21 HJ HLS HLSF HN HWF HX HY HX0 HXA HXB HLA HLBB HNO HLB
      have HQ1 := Lib.hid (noTaken none 0 wj (shAtNil 0 wj))
      go_wp2_with fail
      refine HQ1.out.mono ?_
      rintro e wx ⟨rfl, hw⟩
      rw [hw]
      clear hw wx HQ1
      have HQ1 := Lib.hid (noInsert none 0 k wj (shAtNil 0 wj))
      go_wp2_with fail
      refine HQ1.out.mono ?_
      rintro e wx ⟨rfl, hw⟩
      rw [hw]
      clear hw wx HQ1
      go_wp2_with fail
      refine (nilOpen 0 1 0 9 wj).mono ?_
      rintro e wk ⟨rfl, HBK⟩
      replace HL2 := Lib.hid (HL2.out.below HBK.out)
      clear HBK
      have HC := Lib.hid (isClose HL2.out.1 0 (lk0 HL20.out))
      go_wp2_with fail
      refine HC.out.mono ?_
      rintro e wm ⟨rfl, HS, HCM⟩
      have HL3 := Lib.hid (show LS W wm s (upd l2 0 none) from ⟨HS.out, HL2.out.2.then HCM.out⟩)
      have HN0 := Lib.hid (show lk (upd l2 0 none) 0 = none by unfold lk; rw [if_pos (by omega)]; exact upd_same _ _ _)
      have HN1 := Lib.hid (show lk (upd l2 0 none) 1 = some yb from lk1 (by rw [upd_other _ _ (by omega)]; exact HL21.out))
      clear HC HS HCM HL2 HL20 HL21
      have HT := Lib.hid (shTaken HL3.out.1 0)
      rw [HN0.out] at HT
      simp only [Option.isSome_none] at HT
      go_wp2_with fail
      refine HT.out.mono ?_
      rintro e wx ⟨rfl, hw⟩
      rw [hw]
      clear hw wx HT
      have HT := Lib.hid (shTaken HL3.out.1 1)
      rw [HN1.out] at HT
      simp only [Option.isSome_some] at HT
      go_wp2_with fail
      refine HT.out.mono ?_
      rintro e wx ⟨rfl, hw⟩
      rw [hw]
      clear hw wx HT
      have HT := Lib.hid (hasNo HL3.out.1 0 HN0.out)
      go_wp2_with fail
      refine HT.out.mono ?_
      rintro e wx ⟨rfl, hw⟩
      rw [hw]
      clear hw wx HT
      have HO := Lib.hid (shOpen HL3.out.1 0 (by omega) (upd_same _ _ _) 2 0 9 (.inl rfl) (by omega) (by omega) (by omega))
      go_wp2_with fail
      refine HO.out.mono ?_
      rintro e wo ⟨x2, rfl, HS, HX2, HCO, _, _⟩
      obtain ⟨d2, hd2, hls2⟩ := fresh2 HX2.out.2.2.2
      have HL4 := Lib.hid (show LS W wo s _ from ⟨HS.out, HL3.out.2.then HCO.out⟩)
      have HZ := Lib.hid (hasZero HL4.out.1 0 (x := x2) (lk0 (upd_same _ _ _)) d2 hd2 hls2)
      clear HO HS HX2 HCO HL3 HN0 HN1 hd2 hls2
      go_wp2_with fail
      refine HZ.out.mono ?_
      rintro e wx ⟨rfl, hw⟩
      rw [hw]
      clear hw wx HZ
      go_wp2
      go_ret
      exact ⟨rfl, HL4.out.bel⟩
end Go.Proofs.YtcnaikoloagbdaaGreat
namespace Go.Proofs.YtcnaikoloagbdaaGreat
set_option linter.unusedVariables false
set_option linter.unusedSimpArgs false
open Go.RowKit Go.Shelf
attribute [local go_sem ↓] Go.wp_at_zero Go.wp_at_succ

set_option maxRecDepth 100000 in
set_option maxHeartbeats 16000000 in
theorem law_an (o : Int) (ho0 : o ≠ 0) (ho1 : o ≠ 1) (k m : Int) (A4 : Option Addr) (c4 : Nat) (a4 : List Int) (W : World) (hp : Rd .u8 W A4 a4) (hl4 : a4.length ≤ 281474976710656) :
    Calls Tryz.prog 3 #[.int .i64 0, .int .i64 o, .int .u64 k, .int .u64 m, .slice A4 a4.length c4] W fun e W' => e = .returned (.bool true) ∧ Hid (Below W.heap.size W W') := by
  have HP := Lib.hid hp
  have HL4 := Lib.hid hl4
  clear hp hl4
  have HO0 := Lib.hid ho0
  have HO1 := Lib.hid ho1
  have eo0 : (o == 0) = false := by simpa using ho0
  have eo1 : (o == 1) = false := by simpa using ho1
  clear ho0 ho1
  go_enter Tryz.func3, Tryz.ntmps3
  go_wp2_with fail
  refine (awakeW W).mono ?_
  rintro e w1 ⟨rfl, HB1⟩
  obtain ⟨w2, hw2⟩ : ∃ w2, w2 = w1.alloc (.cells #[.int .u64 1, .int .u64 2] 22) := ⟨_, rfl⟩
  obtain ⟨w3, hw3⟩ : ∃ w3, w3 = w2.alloc (.cells #[.int .u64 7] 22) := ⟨_, rfl⟩
  obtain ⟨w4, hw4⟩ : ∃ w4, w4 = w3.alloc (.cells #[.slice (some ⟨w1.heap.size, 0, none⟩) 2 2, .slice (some ⟨w1.heap.size + 1, 0, none⟩) 1 1] 29) := ⟨_, rfl⟩
  have hB2 : Below w1.heap.size w1 w2 := by rw [hw2]; exact (Below.refl _ _).alloc (Nat.le_refl _) _
  have hB3 : Below w2.heap.size w2 w3 := by rw [hw3]; exact (Below.refl _ _).alloc (Nat.le_refl _) _
  have hB4 : Below w3.heap.size w3 w4 := by rw [hw4]; exact (Below.refl _ _).alloc (Nat.le_refl _) _
  have hz2 : w2.heap.size = w1.heap.size + 1 := by rw [hw2]; simp
  have hz3 : w3.heap.size = w2.heap.size + 1 := by rw [hw3]; simp
  have hz4 : w4.heap.size = w3.heap.size + 1 := by rw [hw4]; simp
  have HLY := Lib.hid (layW (w1.heap.size + 1 + 1) w1.heap.size (w1.heap.size + 1) w4
    (by rw [hB4.block _ (by omega), hB3.block _ (by omega), hw2]; exact blk_new _ _ _)
    (by rw [hB4.block _ (by omega), hw3, ← hz2]; exact blk_new _ _ _)
    (by rw [hw4, ← hz2, ← hz3]; exact blk_new _ _ _))
  have HB4 := Lib.hid (below_then (below_then (below_then HB1.out hB2) hB3) hB4)
  have HW4 := Lib.hid hw4
  have HW3 := Lib.hid hw3
  have HW2 := Lib.hid hw2
  clear hB2 hB3 hB4 hz2 hz3 hz4 hw4 hw3 hw2 HB1
  go_wp2_with fail
  rw [← HW2.out, ← HW3.out, ← HW4.out]
  refine HLY.out.mono ?_
  rintro e w5 ⟨s, vl, l, rfl, HS5, HL5, HB5⟩
  obtain ⟨⟨xa, hxa, hla⟩, ⟨xb, hxb, hlb⟩, hno⟩ := HL5.out
  have HXA := Lib.hid hxa
  have HXB := Lib.hid hxb
  have HLA := Lib.hid hla
  have HLBB := Lib.hid hlb
  have HNO := Lib.hid hno
  have HLB := Lib.hid (LB.of hxa hla hxb hlb hno)
  have HLS := Lib.hid (show LS W w5 s l from ⟨HS5.out.mono HB4.out.size, (Chg.of_below HB4.out).then (Chg.of_below HB5.out)⟩)
  clear HL5 HS5 HB5 HLY HW2 HW3 HW4 HB4 hxa hla hxb hlb hno
  have HX := Lib.hid (lk0 HXA.out)
  have HY := Lib.hid (lkN HNO.out HO0.out HO1.out)
  have HX0 := Lib.hid (lk0 HXA.out)
  have HQ := Lib.hid (qGet HLS.out.1 HLB.out 0 k)
  go_wp2_with fail
  refine HQ.out.mono ?_
  rintro e w6 ⟨v6, e6, rfl, h6, HK⟩
  replace HLS := Lib.hid (HLS.out.k HK.out)
  clear HK
  have E6 := Lib.hid (show e6 ≠ 6 from fun e => by have h := h6.1 e; rw [HX.out] at h; cases h)
  clear HQ h6
  have HQ := Lib.hid (qHas HLS.out.1 HLB.out 0 k)
  go_wp2_with fail
  refine HQ.out.mono ?_
  rintro e w7 ⟨v7, e7, rfl, h7, HK⟩
  replace HLS := Lib.hid (HLS.out.k HK.out)
  clear HK
  have E7 := Lib.hid (show e7 ≠ 6 from fun e => by have h := h7.1 e; rw [HX.out] at h; cases h)
  clear HQ h7
  have HQ := Lib.hid (qNext HLS.out.1 HLB.out 0 k)
  go_wp2_with fail
  refine HQ.out.mono ?_
  rintro e w8 ⟨v8, e8, rfl, h8, HK⟩
  replace HLS := Lib.hid (HLS.out.k HK.out)
  clear HK
  have E8 := Lib.hid (show e8 ≠ 6 from fun e => by have h := h8.1 e; rw [HX.out] at h; cases h)
  clear HQ h8
  have HQ := Lib.hid (qPrev HLS.out.1 HLB.out 0 k)
  go_wp2_with fail
  refine HQ.out.mono ?_
  rintro e w9 ⟨v9, e9, rfl, h9, HK⟩
  replace HLS := Lib.hid (HLS.out.k HK.out)
  clear HK
  have E9 := Lib.hid (show e9 ≠ 6 from fun e => by have h := h9.1 e; rw [HX.out] at h; cases h)
  clear HQ h9
  have HQ := Lib.hid (qRank HLS.out.1 HLB.out 0 k)
  go_wp2_with fail
  refine HQ.out.mono ?_
  rintro e w10 ⟨v10, e10, rfl, h10, HK⟩
  replace HLS := Lib.hid (HLS.out.k HK.out)
  clear HK
  have E10 := Lib.hid (show e10 ≠ 6 from fun e => by have h := h10.1 e; rw [HX.out] at h; cases h)
  clear HQ h10
  have HQ := Lib.hid (qSelect HLS.out.1 HLB.out 0 0)
  go_wp2_with fail
  refine HQ.out.mono ?_
  rintro e w11 ⟨v11, e11, rfl, h11, HK⟩
  replace HLS := Lib.hid (HLS.out.k HK.out)
  clear HK
  have E11 := Lib.hid (show e11 ≠ 6 from fun e => by have h := h11.1 e; rw [HX.out] at h; cases h)
  clear HQ h11
  have HQ := Lib.hid (qCount HLS.out.1 HLB.out 0 k m)
  go_wp2_with fail
  refine HQ.out.mono ?_
  rintro e w12 ⟨v12, e12, rfl, h12, HK⟩
  replace HLS := Lib.hid (HLS.out.k HK.out)
  clear HK
  have E12 := Lib.hid (show e12 ≠ 6 from fun e => by have h := h12.1 e; rw [HX.out] at h; cases h)
  clear HQ h12
  have HQ := Lib.hid (qEncode HLS.out.1 HLB.out 0)
  go_wp2_with fail
  refine HQ.out.mono ?_
  rintro e w13 ⟨v13, e13, rfl, h13, HK⟩
  replace HLS := Lib.hid (HLS.out.k HK.out)
  clear HK
  have E13 := Lib.hid (show e13 ≠ 6 from fun e => by have h := h13.1 e; rw [HX.out] at h; cases h)
  clear HQ h13
  have HQ := Lib.hid (shStep HLS.out.1 0 true)
  go_wp2_with fail
  refine HQ.out.mono ?_
  rintro e w14 ⟨e14, rfl, h14, hw⟩
  rw [hw]
  clear hw w14
  have E14 := Lib.hid (show e14 ≠ 6 from fun e => by have h := h14.1 e; rw [HX.out] at h; cases h)
  clear HQ h14
  have HQ := Lib.hid (qVersion HLS.out.1 HLB.out 0)
  go_wp2_with fail
  refine HQ.out.mono ?_
  rintro e w15 ⟨v15, e15, rfl, h15, HK⟩
  replace HLS := Lib.hid (HLS.out.k HK.out)
  clear HK
  have E15 := Lib.hid (show e15 ≠ 6 from fun e => by have h := h15.1 e; rw [HX.out] at h; cases h)
  clear HQ h15
  have HQ := Lib.hid (qUsed HLS.out.1 HLB.out 0)
  go_wp2_with fail
  refine HQ.out.mono ?_
  rintro e w16 ⟨v16, e16, rfl, h16, HK⟩
  replace HLS := Lib.hid (HLS.out.k HK.out)
  clear HK
  have E16 := Lib.hid (show e16 ≠ 6 from fun e => by have h := h16.1 e; rw [HX.out] at h; cases h)
  clear HQ h16
  have HQ := Lib.hid (shSeek HLS.out.1 0 k)
  go_wp2_with fail
  refine HQ.out.mono ?_
  rintro e w17 ⟨e17, rfl, h17, hw⟩
  rw [hw]
  clear hw w17
  have E17 := Lib.hid (show e17 ≠ 6 from fun e => by have h := h17.1 e; rw [HX.out] at h; cases h)
  clear HQ h17
  have HQ := Lib.hid (qEqual HLS.out.1 HLB.out 0 o)
  go_wp2_with fail
  refine HQ.out.mono ?_
  rintro e w18 ⟨v18, e18, rfl, h18, HK⟩
  replace HLS := Lib.hid (HLS.out.k HK.out)
  clear HK
  obtain rfl : e18 = 6 := h18.2 (by first | exact .inr HY.out | exact .inl HY.out)
  clear HQ h18
  have HQ := Lib.hid (qWithin HLS.out.1 HLB.out o 0)
  go_wp2_with fail
  refine HQ.out.mono ?_
  rintro e w19 ⟨v19, e19, rfl, h19, HK⟩
  replace HLS := Lib.hid (HLS.out.k HK.out)
  clear HK
  obtain rfl : e19 = 6 := h19.2 (by first | exact .inr HY.out | exact .inl HY.out)
  clear HQ h19
  obtain ⟨es, hes⟩ : ∃ es, es = [e6, e7, e8, e9, e10, e11, e12, e13, e14, e15, e16, e17] := ⟨_, rfl⟩
  have HEN := Lib.hid (show ∀ j, j < 12 → es.getD j 0 ≠ 6 from fun j hj => by
    rw [hes]
    match j, hj with
    | 0, _ => exact E6.out
    | 1, _ => exact E7.out
    | 2, _ => exact E8.out
    | 3, _ => exact E9.out
    | 4, _ => exact E10.out
    | 5, _ => exact E11.out
    | 6, _ => exact E12.out
    | 7, _ => exact E13.out
    | 8, _ => exact E14.out
    | 9, _ => exact E15.out
    | 10, _ => exact E16.out
    | 11, _ => exact E17.out)
  obtain ⟨wa, hwa⟩ : ∃ wa, wa = w19.alloc (.cells #[.int .i64 e6, .int .i64 e7, .int .i64 e8, .int .i64 e9, .int .i64 e10, .int .i64 e11, .int .i64 e12, .int .i64 e13, .int .i64 e14, .int .i64 e15, .int .i64 e16, .int .i64 e17] 30) := ⟨_, rfl⟩
  have HRD := Lib.hid (show Rd .i64 wa (some ⟨w19.heap.size, 0, none⟩) es from rd_block (e := 30) es (by rw [hwa, hes]; exact blk_new _ _ _))
  have hlen : es.length = 12 := by rw [hes]; rfl
  have HLEN := Lib.hid hlen
  have HWA := Lib.hid hwa
  replace HLS := Lib.hid (show LS W wa s l from by rw [hwa]; exact HLS.out.alloc _)
  clear hes hwa hlen E6 E7 E8 E9 E10 E11 E12 E13 E14 E15 E16 E17
  go_wp2
  rw [← HWA.out]
  go_loopw [47, 223] (fun _ v223 wr => ∃ (j : Nat), v223 = .int .i64 j ∧ j ≤ 12 ∧ wr = wa) (fun _ v223 _ => 12 - (intOf v223).toNat)
  case atStart => exact ⟨0, rfl, by omega, rfl⟩
  case round =>
    obtain ⟨j, rfl, hj, hw⟩ := hrel
    rw [hw]
    clear hw wr
    by_cases hlt : j < 12
    · obtain ⟨a1, hA1, _, hc1⟩ := HRD.out j (by rw [HLEN.out]; exact hlt)
      have hz := HEN.out j hlt
      cases hA1
      rw [add_mk] at hc1
      generalize es.getD j 0 = z at hz hc1
      have hz6 : (z == 6) = false := by simpa using hz
      clear hz
      go_wp2
      first
      | (refine ⟨⟨j + 1, by go_num, by omega, by first | trivial | rfl⟩, ?_⟩
         simp [intOf]; omega)
      | (go_roundw
         case rel => exact ⟨j + 1, by go_num, by omega, by first | trivial | rfl⟩
         case measure => simp [intOf]; omega)
    · obtain rfl : j = 12 := by omega
      clear HRD HEN HLEN hj hlt
      have HT := Lib.hid (shTaken HLS.out.1 0)
      rw [HX.out] at HT
      simp only [Option.isSome_some, Option.isSome_none] at HT
      obtain ⟨wf, hwf⟩ : ∃ wf, wf = wa.alloc (.cells #[.int .i64 o] 3) := ⟨_, rfl⟩
      have HWF := Lib.hid hwf
      have HLSF := Lib.hid (show LS W wf s l from by rw [hwf]; exact HLS.out.alloc _)
      have HN := Lib.hid (show wf.heap[wa.heap.size]? = some (.cells #[.int .i64 o] 3 (0, 0)) from by rw [hwf]; exact blk_new _ _ _)
      clear hwf
      go_wp2_with fail
      refine HT.out.mono ?_
      rintro e wx ⟨rfl, hw⟩
      rw [hw]
      clear hw wx HT
      have HJ := Lib.hid (noJoinOf HLSF.out.1 1 (lk1 HXB.out) o HY.out wa.heap.size HN.out)
      go_wp2_with fail
      rw [← HWF.out]
      refine HJ.out.mono ?_
      rintro e wj ⟨rfl, HK⟩
      have hl' : ∃ l', LS W wj s l' ∧ l' 0 = some xa ∧ ∃ y, l' 1 = some y := ⟨l, HLSF.out.k HK.out, HXA.out, xb, HXB.out⟩
      obtain ⟨l2, hls2, hl20, yb, hl21⟩ := hl'
      have HL2 := Lib.hid hls2
      have HL20 := Lib.hid hl20
      have HL21 := Lib.hid hl21
      clear hls2 hl20 hl21 HJ HLS HLSF HN HWF HX HY HX0 HXA HXB HLA HLBB HNO HLB
      have HQ1 := Lib.hid (noTaken none 0 wj (shAtNil 0 wj))
      go_wp2_with fail
      refine HQ1.out.mono ?_
      rintro e wx ⟨rfl, hw⟩
      rw [hw]
      clear hw wx HQ1
      have HQ1 := Lib.hid (noInsert none 0 k wj (shAtNil 0 wj))
      go_wp2_with fail
      refine HQ1.out.mono ?_
      rintro e wx ⟨rfl, hw⟩
      rw [hw]
      clear hw wx HQ1
      go_wp2_with fail
      refine (nilOpen 0 1 0 9 wj).mono ?_
      rintro e wk ⟨rfl, HBK⟩
      replace HL2 := Lib.hid (HL2.out.below HBK.out)
      clear HBK
      have HC := Lib.hid (isClose HL2.out.1 0 (lk0 HL20.out))
      go_wp2_with fail
      refine HC.out.mono ?_
      rintro e wm ⟨rfl, HS, HCM⟩
      have HL3 := Lib.hid (show LS W wm s (upd l2 0 none) from ⟨HS.out, HL2.out.2.then HCM.out⟩)
      have HN0 := Lib.hid (show lk (upd l2 0 none) 0 = none by unfold lk; rw [if_pos (by omega)]; exact upd_same _ _ _)
      have HN1 := Lib.hid (show lk (upd l2 0 none) 1 = some yb from lk1 (by rw [upd_other _ _ (by omega)]; exact HL21.out))
      clear HC HS HCM HL2 HL20 HL21
      have HT := Lib.hid (shTaken HL3.out.1 0)
      rw [HN0.out] at HT
      simp only [Option.isSome_none] at HT
      go_wp2_with fail
      refine HT.out.mono ?_
      rintro e wx ⟨rfl, hw⟩
      rw [hw]
      clear hw wx HT
      have HT := Lib.hid (shTaken HL3.out.1 1)
      rw [HN1.out] at HT
      simp only [Option.isSome_some] at HT
      go_wp2_with fail
      refine HT.out.mono ?_
      rintro e wx ⟨rfl, hw⟩
      rw [hw]
      clear hw wx HT
      have HT := Lib.hid (hasNo HL3.out.1 0 HN0.out)
      go_wp2_with fail
      refine HT.out.mono ?_
      rintro e wx ⟨rfl, hw⟩
      rw [hw]
      clear hw wx HT
      have HO := Lib.hid (shOpen HL3.out.1 0 (by omega) (upd_same _ _ _) 2 0 9 (.inl rfl) (by omega) (by omega) (by omega))
      go_wp2_with fail
      refine HO.out.mono ?_
      rintro e wo ⟨x2, rfl, HS, HX2, HCO, _, _⟩
      obtain ⟨d2, hd2, hls2⟩ := fresh2 HX2.out.2.2.2
      have HL4 := Lib.hid (show LS W wo s _ from ⟨HS.out, HL3.out.2.then HCO.out⟩)
      have HZ := Lib.hid (hasZero HL4.out.1 0 (x := x2) (lk0 (upd_same _ _ _)) d2 hd2 hls2)
      clear HO HS HX2 HCO HL3 HN0 HN1 hd2 hls2
      go_wp2_with fail
      refine HZ.out.mono ?_
      rintro e wx ⟨rfl, hw⟩
      rw [hw]
      clear hw wx HZ
      go_wp2
      go_ret
      exact ⟨rfl, HL4.out.bel⟩
end Go.Proofs.YtcnaikoloagbdaaGreat
