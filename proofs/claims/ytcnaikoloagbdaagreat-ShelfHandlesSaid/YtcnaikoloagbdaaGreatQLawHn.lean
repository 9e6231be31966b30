/-
  The law's walk: h is no open handle, of is 0.
  The law's walk: h is no open handle, of is 1.
  The law's walk: h is no open handle, of is no open handle.
-/
import Derived.Test.YtcnaikoloagbdaaGreatQLawB
namespace Go.Proofs.YtcnaikoloagbdaaGreat
set_option linter.unusedVariables false
set_option linter.unusedSimpArgs false
open Go.RowKit Go.Shelf
attribute [local go_sem ↓] Go.wp_at_zero Go.wp_at_succ

set_option maxRecDepth 100000 in
set_option maxHeartbeats 16000000 in
theorem law_na (h : Int) (hh0 : h ≠ 0) (hh1 : h ≠ 1) (k m : Int) (A4 : Option Addr) (c4 : Nat) (a4 : List Int) (W : World) (hp : Rd .u8 W A4 a4) (hl4 : a4.length ≤ 281474976710656) :
    Calls Tryz.prog 3 #[.int .i64 h, .int .i64 0, .int .u64 k, .int .u64 m, .slice A4 a4.length c4] W fun e W' => e = .returned (.bool true) ∧ Hid (Below W.heap.size W W') := by
  have HP := Lib.hid hp
  have HL4 := Lib.hid hl4
  clear hp hl4
  have HH0 := Lib.hid hh0
  have HH1 := Lib.hid hh1
  have eh0 : (h == 0) = false := by simpa using hh0
  have eh1 : (h == 1) = false := by simpa using hh1
  clear hh0 hh1
  go_enter Tryz.func3, Tryz.ntmps3
  go_wp2_with fail
  refine (awakeW W).mono ?_
  rintro e w1 ⟨rfl, HB1⟩
  obtain ⟨w2, hw2⟩ : ∃ w2, w2 = w1.alloc (.cells #[.int .u64 1, .int .u64 2] 22) := ⟨_, rfl⟩
  obtain ⟨w3, hw3⟩ : ∃ w3, w3 = w2.alloc (.cells #[.int .u64 7] 22) := ⟨_, rfl⟩
  obtain ⟨w4, hw4⟩ : ∃ w4, w4 = w3.alloc (.cells #[.slice (some ⟨w1.heap.size, 0, none⟩) 2 2, .slice (some ⟨w1.heap.size + 1, 0, none⟩) 1 1] 29) := ⟨_, rfl⟩
  have hB2 : Below w1.heap.size w1 w2 := by rw [hw2]; exact (Below.refl _ _).alloc (Nat.le_refl _) _
  have hB3 : Below w2.heap.size w2 w3 := by rw [hw3]; exact (Below.refl _ _).alloc (Nat.le_refl _) _
  have hB4 : Below w3.heap.size w3 w4 := by rw [hw4]; exact (Below.refl _ _).alloc (Nat.le_refl _) _
  have hz2 : w2.heap.size = w1.heap.size + 1 := by rw [hw2]; simp
  have hz3 : w3.heap.size = w2.heap.size + 1 := by rw [hw3]; simp
  have hz4 : w4.heap.size = w3.heap.size + 1 := by rw [hw4]; simp
  have HLY := Lib.hid (layW (w1.heap.size + 1 + 1) w1.heap.size (w1.heap.size + 1) w4
    (by rw [hB4.block _ (by omega), hB3.block _ (by omega), hw2]; exact blk_new _ _ _)
    (by rw [hB4.block _ (by omega), hw3, ← hz2]; exact blk_new _ _ _)
    (by rw [hw4, ← hz2, ← hz3]; exact blk_new _ _ _))
  have HB4 := Lib.hid (below_then (below_then (below_then HB1.out hB2) hB3) hB4)
  have HW4 := Lib.hid hw4
  have HW3 := Lib.hid hw3
  have HW2 := Lib.hid hw2
  clear hB2 hB3 hB4 hz2 hz3 hz4 hw4 hw3 hw2 HB1
  go_wp2_with fail
  rw [← HW2.out, ← HW3.out, ← HW4.out]
  refine HLY.out.mono ?_
  rintro e w5 ⟨s, vl, l, rfl, HS5, HL5, HB5⟩
  obtain ⟨⟨xa, hxa, hla⟩, ⟨xb, hxb, hlb⟩, hno⟩ := HL5.out
  have HXA := Lib.hid hxa
  have HXB := Lib.hid hxb
  have HLA := Lib.hid hla
  have HLBB := Lib.hid hlb
  have HNO := Lib.hid hno
  have HLB := Lib.hid (LB.of hxa hla hxb hlb hno)
  have HLS := Lib.hid (show LS W w5 s l from ⟨HS5.out.mono HB4.out.size, (Chg.of_below HB4.out).then (Chg.of_below HB5.out)⟩)
  clear HL5 HS5 HB5 HLY HW2 HW3 HW4 HB4 hxa hla hxb hlb hno
  have HX := Lib.hid (lkN HNO.out HH0.out HH1.out)
  have HY := Lib.hid (lk0 HXA.out)
  have HX0 := Lib.hid (lk0 HXA.out)
  have HQ := Lib.hid (qGet HLS.out.1 HLB.out h k)
  go_wp2_with fail
  refine HQ.out.mono ?_
  rintro e w6 ⟨v6, e6, rfl, h6, HK⟩
  replace HLS := Lib.hid (HLS.out.k HK.out)
  clear HK
  obtain rfl : e6 = 6 := h6.2 HX.out
  clear HQ h6
  have HQ := Lib.hid (qHas HLS.out.1 HLB.out h k)
  go_wp2_with fail
  refine HQ.out.mono ?_
  rintro e w7 ⟨v7, e7, rfl, h7, HK⟩
  replace HLS := Lib.hid (HLS.out.k HK.out)
  clear HK
  obtain rfl : e7 = 6 := h7.2 HX.out
  clear HQ h7
  have HQ := Lib.hid (qNext HLS.out.1 HLB.out h k)
  go_wp2_with fail
  refine HQ.out.mono ?_
  rintro e w8 ⟨v8, e8, rfl, h8, HK⟩
  replace HLS := Lib.hid (HLS.out.k HK.out)
  clear HK
  obtain rfl : e8 = 6 := h8.2 HX.out
  clear HQ h8
  have HQ := Lib.hid (qPrev HLS.out.1 HLB.out h k)
  go_wp2_with fail
  refine HQ.out.mono ?_
  rintro e w9 ⟨v9, e9, rfl, h9, HK⟩
  replace HLS := Lib.hid (HLS.out.k HK.out)
  clear HK
  obtain rfl : e9 = 6 := h9.2 HX.out
  clear HQ h9
  have HQ := Lib.hid (qRank HLS.out.1 HLB.out h k)
  go_wp2_with fail
  refine HQ.out.mono ?_
  rintro e w10 ⟨v10, e10, rfl, h10, HK⟩
  replace HLS := Lib.hid (HLS.out.k HK.out)
  clear HK
  obtain rfl : e10 = 6 := h10.2 HX.out
  clear HQ h10
  have HQ := Lib.hid (qSelect HLS.out.1 HLB.out h 0)
  go_wp2_with fail
  refine HQ.out.mono ?_
  rintro e w11 ⟨v11, e11, rfl, h11, HK⟩
  replace HLS := Lib.hid (HLS.out.k HK.out)
  clear HK
  obtain rfl : e11 = 6 := h11.2 HX.out
  clear HQ h11
  have HQ := Lib.hid (qCount HLS.out.1 HLB.out h k m)
  go_wp2_with fail
  refine HQ.out.mono ?_
  rintro e w12 ⟨v12, e12, rfl, h12, HK⟩
  replace HLS := Lib.hid (HLS.out.k HK.out)
  clear HK
  obtain rfl : e12 = 6 := h12.2 HX.out
  clear HQ h12
  have HQ := Lib.hid (qEncode HLS.out.1 HLB.out h)
  go_wp2_with fail
  refine HQ.out.mono ?_
  rintro e w13 ⟨v13, e13, rfl, h13, HK⟩
  replace HLS := Lib.hid (HLS.out.k HK.out)
  clear HK
  obtain rfl : e13 = 6 := h13.2 HX.out
  clear HQ h13
  have HQ := Lib.hid (shStep HLS.out.1 h true)
  go_wp2_with fail
  refine HQ.out.mono ?_
  rintro e w14 ⟨e14, rfl, h14, hw⟩
  rw [hw]
  clear hw w14
  obtain rfl : e14 = 6 := h14.2 HX.out
  clear HQ h14
  have HQ := Lib.hid (qVersion HLS.out.1 HLB.out h)
  go_wp2_with fail
  refine HQ.out.mono ?_
  rintro e w15 ⟨v15, e15, rfl, h15, HK⟩
  replace HLS := Lib.hid (HLS.out.k HK.out)
  clear HK
  obtain rfl : e15 = 6 := h15.2 HX.out
  clear HQ h15
  have HQ := Lib.hid (qUsed HLS.out.1 HLB.out h)
  go_wp2_with fail
  refine HQ.out.mono ?_
  rintro e w16 ⟨v16, e16, rfl, h16, HK⟩
  replace HLS := Lib.hid (HLS.out.k HK.out)
  clear HK
  obtain rfl : e16 = 6 := h16.2 HX.out
  clear HQ h16
  have HQ := Lib.hid (shSeek HLS.out.1 h k)
  go_wp2_with fail
  refine HQ.out.mono ?_
  rintro e w17 ⟨e17, rfl, h17, hw⟩
  rw [hw]
  clear hw w17
  obtain rfl : e17 = 6 := h17.2 HX.out
  clear HQ h17
  have HQ := Lib.hid (qEqual HLS.out.1 HLB.out 0 0)
  go_wp2_with fail
  refine HQ.out.mono ?_
  rintro e w18 ⟨v18, e18, rfl, h18, HK⟩
  replace HLS := Lib.hid (HLS.out.k HK.out)
  clear HK
  have E18 := Lib.hid (show e18 ≠ 6 from fun e => by rcases h18.1 e with h | h <;> first | (rw [HX0.out] at h; cases h) | (rw [HY.out] at h; cases h))
  clear HQ h18
  have HQ := Lib.hid (qWithin HLS.out.1 HLB.out 0 0)
  go_wp2_with fail
  refine HQ.out.mono ?_
  rintro e w19 ⟨v19, e19, rfl, h19, HK⟩
  replace HLS := Lib.hid (HLS.out.k HK.out)
  clear HK
  have E19 := Lib.hid (show e19 ≠ 6 from fun e => by rcases h19.1 e with h | h <;> first | (rw [HX0.out] at h; cases h) | (rw [HY.out] at h; cases h))
  clear HQ h19
  obtain ⟨g0, hg0⟩ : ∃ g0, g0 = w19.heap.size := ⟨_, rfl⟩
  obtain ⟨wa, hwa⟩ : ∃ wa, wa = w19.alloc (.cells #[.int .i64 6, .int .i64 6, .int .i64 6, .int .i64 6, .int .i64 6, .int .i64 6, .int .i64 6, .int .i64 6, .int .i64 6, .int .i64 6, .int .i64 6, .int .i64 6] 30) := ⟨_, rfl⟩
  have HWA := Lib.hid hwa
  have HG0 := Lib.hid hg0
  have HDG := Lib.hid (show s ≠ g0 ∧ (∀ h x, l h = some x → ¬ x.own g0) ∧ W.heap.size ≤ g0 from by
    have h1 := blk_lt HLS.out.1.head
    have h2 := HLS.out.2.size
    exact ⟨by omega, fun h x e hx => by have := (HLS.out.1.ok h x e).lt _ hx; omega, by omega⟩)
  have HOWN := Lib.hid (show Own .i64 30 wa W.heap.size (.slice (some ⟨g0, 0, none⟩) 12 12) (List.replicate 12 6) from by
    rw [hwa, hg0]; exact Own.made HLS.out.2.size (List.replicate 12 6) (by simp [maxLen]))
  replace HLS := Lib.hid (show LS W wa s l from by rw [hwa]; exact HLS.out.alloc _)
  have HAT := Lib.hid (shAtNo HLS.out.1 h HX.out)
  have HQ := Lib.hid (noWipe _ h k m wa HAT.out)
  clear hwa hg0
  go_wp2_with fail
  rw [← HWA.out, ← HG0.out]
  refine HQ.out.mono ?_
  rintro e wx ⟨rfl, hw⟩
  rw [hw]
  clear hw wx HQ
  have HQ := Lib.hid (noInsert _ h k wa HAT.out)
  go_wp2_with fail
  refine HQ.out.mono ?_
  rintro e wx ⟨rfl, hw⟩
  rw [hw]
  clear hw wx HQ
  have HQ := Lib.hid (noPut _ h k m wa HAT.out)
  go_wp2_with fail
  refine HQ.out.mono ?_
  rintro e wx ⟨rfl, hw⟩
  rw [hw]
  clear hw wx HQ
  have HQ := Lib.hid (noDelete _ h k wa HAT.out)
  go_wp2_with fail
  refine HQ.out.mono ?_
  rintro e wx ⟨rfl, hw⟩
  rw [hw]
  clear hw wx HQ
  have HQ := Lib.hid (noClear _ h wa HAT.out)
  go_wp2_with fail
  refine HQ.out.mono ?_
  rintro e wx ⟨rfl, hw⟩
  rw [hw]
  clear hw wx HQ
  have HQ := Lib.hid (noJoin _ h wa HAT.out)
  go_wp2_with fail
  refine HQ.out.mono ?_
  rintro e wx ⟨rfl, hw⟩
  rw [hw]
  clear hw wx HQ
  have HQ := Lib.hid (lBytes A4 c4 20 a4 wa (HP.out.below HLS.out.bel) HL4.out (by omega))
  go_wp2_with fail
  refine HQ.out.mono ?_
  rintro e wb ⟨r, l', rfl, HOW, _, _, HBb⟩
  obtain ⟨Ab, cb, rfl, _, _, _⟩ := HOW.out.form
  replace HLS := Lib.hid (HLS.out.below HBb.out)
  replace HOWN := Lib.hid (HOWN.out.below HBb.out)
  replace HAT := Lib.hid (shAtNo HLS.out.1 h HX.out)
  clear HQ HOW HBb
  have HQ := Lib.hid (noDecode _ h Ab l'.length cb wb HAT.out)
  go_wp2_with fail
  refine HQ.out.mono ?_
  rintro e wx ⟨rfl, hw⟩
  rw [hw]
  clear hw wx HQ
  have HQ := Lib.hid (noCursor _ h k m wb HAT.out)
  go_wp2_with fail
  refine HQ.out.mono ?_
  rintro e wx ⟨rfl, hw⟩
  rw [hw]
  clear hw wx HQ
  have HQ := Lib.hid (noClose HLS.out.1 h HX.out)
  go_wp2_with fail
  refine HQ.out.mono ?_
  rintro e wx ⟨rfl, hw⟩
  rw [hw]
  clear hw wx HQ HAT
  obtain ⟨i0, hinf, hz0, hz1, hz2⟩ := info_parts errno_info
  obtain ⟨wc, hwc⟩ : ∃ wc, wc = wb.alloc (.cells #[.int .i64 6, .int .i64 6, .int .i64 6, .int .i64 6, .int .i64 6, .int .i64 6, .int .i64 6, .int .i64 6, .int .i64 6] 30) := ⟨_, rfl⟩
  have HWC := Lib.hid hwc
  have hBc : Below wb.heap.size wb wc := by rw [hwc]; exact (Below.refl _ _).alloc (Nat.le_refl _) _
  have HR9 := Lib.hid (show Rd .i64 wc (some ⟨wb.heap.size, 0, none⟩) (List.replicate 9 6) from rd_block (e := 30) (List.replicate 9 6) (by rw [hwc]; exact blk_new _ _ _))
  replace HLS := Lib.hid (HLS.out.below hBc)
  replace HOWN := Lib.hid (HOWN.out.below hBc)
  clear hwc hBc
  go_wp2_with (at_builtin; rw [← HWC.out]; refine wpList_pushAll W.heap.size _ (List.replicate 12 6) (List.replicate 9 6) _ _ _ _ rfl rfl Tryz.underlying45 hinf hz0 hz1 hz2 rfl rfl rfl HR9.out HOWN.out HLS.out.2.size (by simp) (by simp [maxLen]) ?_; intro v1 wd ho hg hv; obtain ⟨A9, c9, hv9, _, _, hr9⟩ := ho.form; rw [show (List.replicate 12 6 ++ List.replicate 9 6 : List Int).length = 21 from rfl] at hv9; subst hv9; have HRD := Lib.hid hr9; have HG9 := Lib.hid hg; clear ho hg hv hr9)
  replace HLS := Lib.hid (HLS.out.grown (show wc.grownBy wd (some g0) from HG9.out) HDG.out.1 HDG.out.2.1 HDG.out.2.2)
  obtain ⟨es, hes⟩ : ∃ es : List Int, es = List.replicate 12 6 ++ List.replicate 9 6 := ⟨_, rfl⟩
  rw [← hes] at HRD
  have HLEN := Lib.hid (show es.length = 21 by rw [hes]; rfl)
  have HEN := Lib.hid (show ∀ j, j < 21 → es.getD j 0 = 6 from fun j hj => by
    rw [hes, List.replicate_append_replicate, List.getD_eq_getElem?_getD, List.getElem?_replicate, if_pos hj]; rfl)
  clear hes HG9 HDG HOWN HR9 HWC HWA HG0 hinf hz0 hz1 hz2
  go_loopw [47, 223] (fun _ v223 wr => ∃ (j : Nat), v223 = .int .i64 j ∧ j ≤ 21 ∧ wr = wd) (fun _ v223 _ => 21 - (intOf v223).toNat)
  case atStart => exact ⟨0, rfl, by omega, rfl⟩
  case round =>
    obtain ⟨j, rfl, hj, hw⟩ := hrel
    rw [hw]
    clear hw wr
    by_cases hlt : j < 21
    · obtain ⟨a1, hA1, _, hc1⟩ := HRD.out j (by rw [HLEN.out]; exact hlt)
      have hz := HEN.out j hlt
      subst hA1
      rw [hz] at hc1
      clear hz
      go_wp2
      first
      | (refine ⟨⟨j + 1, by go_num, by omega, by first | trivial | rfl⟩, ?_⟩
         simp [intOf]; omega)
      | (go_roundw
         case rel => exact ⟨j + 1, by go_num, by omega, by first | trivial | rfl⟩
         case measure => simp [intOf]; omega)
    · obtain rfl : j = 21 := by omega
      clear HRD HEN HLEN hj hlt
      have HT := Lib.hid (shTaken HLS.out.1 h)
      rw [HX.out] at HT
      simp only [Option.isSome_some, Option.isSome_none] at HT
      have et : (e18 == 6) = false := by have := E18.out; simpa using this
      have eu : (e19 == 6) = false := by have := E19.out; simpa using this
      obtain ⟨wf, hwf⟩ : ∃ wf, wf = wd.alloc (.cells #[.int .i64 0] 3) := ⟨_, rfl⟩
      have HWF := Lib.hid hwf
      have HLSF := Lib.hid (show LS W wf s l from by rw [hwf]; exact HLS.out.alloc _)
      have HN := Lib.hid (show wf.heap[wd.heap.size]? = some (.cells #[.int .i64 0] 3 (0, 0)) from by rw [hwf]; exact blk_new _ _ _)
      clear hwf
      go_wp2_with fail
      refine HT.out.mono ?_
      rintro e wx ⟨rfl, hw⟩
      rw [hw]
      clear hw wx HT
      have HJ := Lib.hid (shJoin true HLSF.out.1 1 (lk1 HXB.out) 0 (y := xa) HY.out 1 (.inl rfl) (some ⟨wd.heap.size, 0, none⟩) 1 (Rd.one HN.out)
        ⟨HLBB.out.tg, by rw [HLBB.out.lm]; decide, (HLA.out.small (by omega)).2⟩ (by rw [HLBB.out.lm]; decide) (fun h => absurd h (by decide)) (HLA.out.small (by omega)).1.2 (HLBB.out.small (by omega)).1.2
        (fun s' h => by obtain ⟨d, rfl, hd⟩ := h; show d.ks.length ≤ 100000; omega))
      go_wp2_with fail
      rw [← HWF.out]
      refine HJ.out.mono ?_
      rintro e wj ⟨er, rfl, HQ, HR0, HR1, HCJ⟩
      have ej : (er == 6) = false := by have := HQ.out; simpa [FQ] using this
      have hl' : ∃ l', LS W wj s l' ∧ l' 0 = some xa ∧ ∃ y, l' 1 = some y := by
        by_cases h0 : er = 0
        · obtain ⟨x', h1, _⟩ := HR1.out h0
          exact ⟨_, ⟨h1, HLSF.out.2.then HCJ.out⟩, by rw [upd_other _ _ (by omega)]; exact HXA.out, x', upd_same _ _ _⟩
        · exact ⟨l, ⟨HR0.out h0, HLSF.out.2.then HCJ.out⟩, HXA.out, xb, HXB.out⟩
      obtain ⟨l2, hls2, hl20, yb, hl21⟩ := hl'
      have HL2 := Lib.hid hls2
      have HL20 := Lib.hid hl20
      have HL21 := Lib.hid hl21
      clear hls2 hl20 hl21 HJ HLS HLSF HN HWF HX HY HX0 HXA HXB HLA HLBB HNO HLB
      have HQ1 := Lib.hid (noTaken none h wj (shAtNil h wj))
      go_wp2_with fail
      refine HQ1.out.mono ?_
      rintro e wx ⟨rfl, hw⟩
      rw [hw]
      clear hw wx HQ1
      have HQ1 := Lib.hid (noInsert none h k wj (shAtNil h wj))
      go_wp2_with fail
      refine HQ1.out.mono ?_
      rintro e wx ⟨rfl, hw⟩
      rw [hw]
      clear hw wx HQ1
      go_wp2_with fail
      refine (nilOpen h 1 0 9 wj).mono ?_
      rintro e wk ⟨rfl, HBK⟩
      replace HL2 := Lib.hid (HL2.out.below HBK.out)
      clear HBK
      have HC := Lib.hid (isClose HL2.out.1 0 (lk0 HL20.out))
      go_wp2_with fail
      refine HC.out.mono ?_
      rintro e wm ⟨rfl, HS, HCM⟩
      have HL3 := Lib.hid (show LS W wm s (upd l2 0 none) from ⟨HS.out, HL2.out.2.then HCM.out⟩)
      have HN0 := Lib.hid (show lk (upd l2 0 none) 0 = none by unfold lk; rw [if_pos (by omega)]; exact upd_same _ _ _)
      have HN1 := Lib.hid (show lk (upd l2 0 none) 1 = some yb from lk1 (by rw [upd_other _ _ (by omega)]; exact HL21.out))
      clear HC HS HCM HL2 HL20 HL21
      have HT := Lib.hid (shTaken HL3.out.1 0)
      rw [HN0.out] at HT
      simp only [Option.isSome_none] at HT
      go_wp2_with fail
      refine HT.out.mono ?_
      rintro e wx ⟨rfl, hw⟩
      rw [hw]
      clear hw wx HT
      have HT := Lib.hid (shTaken HL3.out.1 1)
      rw [HN1.out] at HT
      simp only [Option.isSome_some] at HT
      go_wp2_with fail
      refine HT.out.mono ?_
      rintro e wx ⟨rfl, hw⟩
      rw [hw]
      clear hw wx HT
      have HT := Lib.hid (hasNo HL3.out.1 0 HN0.out)
      go_wp2_with fail
      refine HT.out.mono ?_
      rintro e wx ⟨rfl, hw⟩
      rw [hw]
      clear hw wx HT
      have HO := Lib.hid (shOpen HL3.out.1 0 (by omega) (upd_same _ _ _) 2 0 9 (.inl rfl) (by omega) (by omega) (by omega))
      go_wp2_with fail
      refine HO.out.mono ?_
      rintro e wo ⟨x2, rfl, HS, HX2, HCO, _, _⟩
      obtain ⟨d2, hd2, hls2⟩ := fresh2 HX2.out.2.2.2
      have HL4 := Lib.hid (show LS W wo s _ from ⟨HS.out, HL3.out.2.then HCO.out⟩)
      have HZ := Lib.hid (hasZero HL4.out.1 0 (x := x2) (lk0 (upd_same _ _ _)) d2 hd2 hls2)
      clear HO HS HX2 HCO HL3 HN0 HN1 hd2 hls2
      go_wp2_with fail
      refine HZ.out.mono ?_
      rintro e wx ⟨rfl, hw⟩
      rw [hw]
      clear hw wx HZ
      go_wp2
      go_ret
      exact ⟨rfl, HL4.out.bel⟩
end Go.Proofs.YtcnaikoloagbdaaGreat
namespace Go.Proofs.YtcnaikoloagbdaaGreat
set_option linter.unusedVariables false
set_option linter.unusedSimpArgs false
open Go.RowKit Go.Shelf
attribute [local go_sem ↓] Go.wp_at_zero Go.wp_at_succ

set_option maxRecDepth 100000 in
set_option maxHeartbeats 16000000 in
theorem law_nb (h : Int) (hh0 : h ≠ 0) (hh1 : h ≠ 1) (k m : Int) (A4 : Option Addr) (c4 : Nat) (a4 : List Int) (W : World) (hp : Rd .u8 W A4 a4) (hl4 : a4.length ≤ 281474976710656) :
    Calls Tryz.prog 3 #[.int .i64 h, .int .i64 1, .int .u64 k, .int .u64 m, .slice A4 a4.length c4] W fun e W' => e = .returned (.bool true) ∧ Hid (Below W.heap.size W W') := by
  have HP := Lib.hid hp
  have HL4 := Lib.hid hl4
  clear hp hl4
  have HH0 := Lib.hid hh0
  have HH1 := Lib.hid hh1
  have eh0 : (h == 0) = false := by simpa using hh0
  have eh1 : (h == 1) = false := by simpa using hh1
  clear hh0 hh1
  go_enter Tryz.func3, Tryz.ntmps3
  go_wp2_with fail
  refine (awakeW W).mono ?_
  rintro e w1 ⟨rfl, HB1⟩
  obtain ⟨w2, hw2⟩ : ∃ w2, w2 = w1.alloc (.cells #[.int .u64 1, .int .u64 2] 22) := ⟨_, rfl⟩
  obtain ⟨w3, hw3⟩ : ∃ w3, w3 = w2.alloc (.cells #[.int .u64 7] 22) := ⟨_, rfl⟩
  obtain ⟨w4, hw4⟩ : ∃ w4, w4 = w3.alloc (.cells #[.slice (some ⟨w1.heap.size, 0, none⟩) 2 2, .slice (some ⟨w1.heap.size + 1, 0, none⟩) 1 1] 29) := ⟨_, rfl⟩
  have hB2 : Below w1.heap.size w1 w2 := by rw [hw2]; exact (Below.refl _ _).alloc (Nat.le_refl _) _
  have hB3 : Below w2.heap.size w2 w3 := by rw [hw3]; exact (Below.refl _ _).alloc (Nat.le_refl _) _
  have hB4 : Below w3.heap.size w3 w4 := by rw [hw4]; exact (Below.refl _ _).alloc (Nat.le_refl _) _
  have hz2 : w2.heap.size = w1.heap.size + 1 := by rw [hw2]; simp
  have hz3 : w3.heap.size = w2.heap.size + 1 := by rw [hw3]; simp
  have hz4 : w4.heap.size = w3.heap.size + 1 := by rw [hw4]; simp
  have HLY := Lib.hid (layW (w1.heap.size + 1 + 1) w1.heap.size (w1.heap.size + 1) w4
    (by rw [hB4.block _ (by omega), hB3.block _ (by omega), hw2]; exact blk_new _ _ _)
    (by rw [hB4.block _ (by omega), hw3, ← hz2]; exact blk_new _ _ _)
    (by rw [hw4, ← hz2, ← hz3]; exact blk_new _ _ _))
  have HB4 := Lib.hid (below_then (below_then (below_then HB1.out hB2) hB3) hB4)
  have HW4 := Lib.hid hw4
  have HW3 := Lib.hid hw3
  have HW2 := Lib.hid hw2
  clear hB2 hB3 hB4 hz2 hz3 hz4 hw4 hw3 hw2 HB1
  go_wp2_with fail
  rw [← HW2.out, ← HW3.out, ← HW4.out]
  refine HLY.out.mono ?_
  rintro e w5 ⟨s, vl, l, rfl, HS5, HL5, HB5⟩
  obtain ⟨⟨xa, hxa, hla⟩, ⟨xb, hxb, hlb⟩, hno⟩ := HL5.out
  have HXA := Lib.hid hxa
  have HXB := Lib.hid hxb
  have HLA := Lib.hid hla
  have HLBB := Lib.hid hlb
  have HNO := Lib.hid hno
  have HLB := Lib.hid (LB.of hxa hla hxb hlb hno)
  have HLS := Lib.hid (show LS W w5 s l from ⟨HS5.out.mono HB4.out.size, (Chg.of_below HB4.out).then (Chg.of_below HB5.out)⟩)
  clear HL5 HS5 HB5 HLY HW2 HW3 HW4 HB4 hxa hla hxb hlb hno
  have HX := Lib.hid (lkN HNO.out HH0.out HH1.out)
  have HY := Lib.hid (lk1 HXB.out)
  have HX0 := Lib.hid (lk0 HXA.out)
  have HQ := Lib.hid (qGet HLS.out.1 HLB.out h k)
  go_wp2_with fail
  refine HQ.out.mono ?_
  rintro e w6 ⟨v6, e6, rfl, h6, HK⟩
  replace HLS := Lib.hid (HLS.out.k HK.out)
  clear HK
  obtain rfl : e6 = 6 := h6.2 HX.out
  clear HQ h6
  have HQ := Lib.hid (qHas HLS.out.1 HLB.out h k)
  go_wp2_with fail
  refine HQ.out.mono ?_
  rintro e w7 ⟨v7, e7, rfl, h7, HK⟩
  replace HLS := Lib.hid (HLS.out.k HK.out)
  clear HK
  obtain rfl : e7 = 6 := h7.2 HX.out
  clear HQ h7
  have HQ := Lib.hid (qNext HLS.out.1 HLB.out h k)
  go_wp2_with fail
  refine HQ.out.mono ?_
  rintro e w8 ⟨v8, e8, rfl, h8, HK⟩
  replace HLS := Lib.hid (HLS.out.k HK.out)
  clear HK
  obtain rfl : e8 = 6 := h8.2 HX.out
  clear HQ h8
  have HQ := Lib.hid (qPrev HLS.out.1 HLB.out h k)
  go_wp2_with fail
  refine HQ.out.mono ?_
  rintro e w9 ⟨v9, e9, rfl, h9, HK⟩
  replace HLS := Lib.hid (HLS.out.k HK.out)
  clear HK
  obtain rfl : e9 = 6 := h9.2 HX.out
  clear HQ h9
  have HQ := Lib.hid (qRank HLS.out.1 HLB.out h k)
  go_wp2_with fail
  refine HQ.out.mono ?_
  rintro e w10 ⟨v10, e10, rfl, h10, HK⟩
  replace HLS := Lib.hid (HLS.out.k HK.out)
  clear HK
  obtain rfl : e10 = 6 := h10.2 HX.out
  clear HQ h10
  have HQ := Lib.hid (qSelect HLS.out.1 HLB.out h 0)
  go_wp2_with fail
  refine HQ.out.mono ?_
  rintro e w11 ⟨v11, e11, rfl, h11, HK⟩
  replace HLS := Lib.hid (HLS.out.k HK.out)
  clear HK
  obtain rfl : e11 = 6 := h11.2 HX.out
  clear HQ h11
  have HQ := Lib.hid (qCount HLS.out.1 HLB.out h k m)
  go_wp2_with fail
  refine HQ.out.mono ?_
  rintro e w12 ⟨v12, e12, rfl, h12, HK⟩
  replace HLS := Lib.hid (HLS.out.k HK.out)
  clear HK
  obtain rfl : e12 = 6 := h12.2 HX.out
  clear HQ h12
  have HQ := Lib.hid (qEncode HLS.out.1 HLB.out h)
  go_wp2_with fail
  refine HQ.out.mono ?_
  rintro e w13 ⟨v13, e13, rfl, h13, HK⟩
  replace HLS := Lib.hid (HLS.out.k HK.out)
  clear HK
  obtain rfl : e13 = 6 := h13.2 HX.out
  clear HQ h13
  have HQ := Lib.hid (shStep HLS.out.1 h true)
  go_wp2_with fail
  refine HQ.out.mono ?_
  rintro e w14 ⟨e14, rfl, h14, hw⟩
  rw [hw]
  clear hw w14
  obtain rfl : e14 = 6 := h14.2 HX.out
  clear HQ h14
  have HQ := Lib.hid (qVersion HLS.out.1 HLB.out h)
  go_wp2_with fail
  refine HQ.out.mono ?_
  rintro e w15 ⟨v15, e15, rfl, h15, HK⟩
  replace HLS := Lib.hid (HLS.out.k HK.out)
  clear HK
  obtain rfl : e15 = 6 := h15.2 HX.out
  clear HQ h15
  have HQ := Lib.hid (qUsed HLS.out.1 HLB.out h)
  go_wp2_with fail
  refine HQ.out.mono ?_
  rintro e w16 ⟨v16, e16, rfl, h16, HK⟩
  replace HLS := Lib.hid (HLS.out.k HK.out)
  clear HK
  obtain rfl : e16 = 6 := h16.2 HX.out
  clear HQ h16
  have HQ := Lib.hid (shSeek HLS.out.1 h k)
  go_wp2_with fail
  refine HQ.out.mono ?_
  rintro e w17 ⟨e17, rfl, h17, hw⟩
  rw [hw]
  clear hw w17
  obtain rfl : e17 = 6 := h17.2 HX.out
  clear HQ h17
  have HQ := Lib.hid (qEqual HLS.out.1 HLB.out 0 1)
  go_wp2_with fail
  refine HQ.out.mono ?_
  rintro e w18 ⟨v18, e18, rfl, h18, HK⟩
  replace HLS := Lib.hid (HLS.out.k HK.out)
  clear HK
  have E18 := Lib.hid (show e18 ≠ 6 from fun e => by rcases h18.1 e with h | h <;> first | (rw [HX0.out] at h; cases h) | (rw [HY.out] at h; cases h))
  clear HQ h18
  have HQ := Lib.hid (qWithin HLS.out.1 HLB.out 1 0)
  go_wp2_with fail
  refine HQ.out.mono ?_
  rintro e w19 ⟨v19, e19, rfl, h19, HK⟩
  replace HLS := Lib.hid (HLS.out.k HK.out)
  clear HK
  have E19 := Lib.hid (show e19 ≠ 6 from fun e => by rcases h19.1 e with h | h <;> first | (rw [HX0.out] at h; cases h) | (rw [HY.out] at h; cases h))
  clear HQ h19
  obtain ⟨g0, hg0⟩ : ∃ g0, g0 = w19.heap.size := ⟨_, rfl⟩
  obtain ⟨wa, hwa⟩ : ∃ wa, wa = w19.alloc (.cells #[.int .i64 6, .int .i64 6, .int .i64 6, .int .i64 6, .int .i64 6, .int .i64 6, .int .i64 6, .int .i64 6, .int .i64 6, .int .i64 6, .int .i64 6, .int .i64 6] 30) := ⟨_, rfl⟩
  have HWA := Lib.hid hwa
  have HG0 := Lib.hid hg0
  have HDG := Lib.hid (show s ≠ g0 ∧ (∀ h x, l h = some x → ¬ x.own g0) ∧ W.heap.size ≤ g0 from by
    have h1 := blk_lt HLS.out.1.head
    have h2 := HLS.out.2.size
    exact ⟨by omega, fun h x e hx => by have := (HLS.out.1.ok h x e).lt _ hx; omega, by omega⟩)
  have HOWN := Lib.hid (show Own .i64 30 wa W.heap.size (.slice (some ⟨g0, 0, none⟩) 12 12) (List.replicate 12 6) from by
    rw [hwa, hg0]; exact Own.made HLS.out.2.size (List.replicate 12 6) (by simp [maxLen]))
  replace HLS := Lib.hid (show LS W wa s l from by rw [hwa]; exact HLS.out.alloc _)
  have HAT := Lib.hid (shAtNo HLS.out.1 h HX.out)
  have HQ := Lib.hid (noWipe _ h k m wa HAT.out)
  clear hwa hg0
  go_wp2_with fail
  rw [← HWA.out, ← HG0.out]
  refine HQ.out.mono ?_
  rintro e wx ⟨rfl, hw⟩
  rw [hw]
  clear hw wx HQ
  have HQ := Lib.hid (noInsert _ h k wa HAT.out)
  go_wp2_with fail
  refine HQ.out.mono ?_
  rintro e wx ⟨rfl, hw⟩
  rw [hw]
  clear hw wx HQ
  have HQ := Lib.hid (noPut _ h k m wa HAT.out)
  go_wp2_with fail
  refine HQ.out.mono ?_
  rintro e wx ⟨rfl, hw⟩
  rw [hw]
  clear hw wx HQ
  have HQ := Lib.hid (noDelete _ h k wa HAT.out)
  go_wp2_with fail
  refine HQ.out.mono ?_
  rintro e wx ⟨rfl, hw⟩
  rw [hw]
  clear hw wx HQ
  have HQ := Lib.hid (noClear _ h wa HAT.out)
  go_wp2_with fail
  refine HQ.out.mono ?_
  rintro e wx ⟨rfl, hw⟩
  rw [hw]
  clear hw wx HQ
  have HQ := Lib.hid (noJoin _ h wa HAT.out)
  go_wp2_with fail
  refine HQ.out.mono ?_
  rintro e wx ⟨rfl, hw⟩
  rw [hw]
  clear hw wx HQ
  have HQ := Lib.hid (lBytes A4 c4 20 a4 wa (HP.out.below HLS.out.bel) HL4.out (by omega))
  go_wp2_with fail
  refine HQ.out.mono ?_
  rintro e wb ⟨r, l', rfl, HOW, _, _, HBb⟩
  obtain ⟨Ab, cb, rfl, _, _, _⟩ := HOW.out.form
  replace HLS := Lib.hid (HLS.out.below HBb.out)
  replace HOWN := Lib.hid (HOWN.out.below HBb.out)
  replace HAT := Lib.hid (shAtNo HLS.out.1 h HX.out)
  clear HQ HOW HBb
  have HQ := Lib.hid (noDecode _ h Ab l'.length cb wb HAT.out)
  go_wp2_with fail
  refine HQ.out.mono ?_
  rintro e wx ⟨rfl, hw⟩
  rw [hw]
  clear hw wx HQ
  have HQ := Lib.hid (noCursor _ h k m wb HAT.out)
  go_wp2_with fail
  refine HQ.out.mono ?_
  rintro e wx ⟨rfl, hw⟩
  rw [hw]
  clear hw wx HQ
  have HQ := Lib.hid (noClose HLS.out.1 h HX.out)
  go_wp2_with fail
  refine HQ.out.mono ?_
  rintro e wx ⟨rfl, hw⟩
  rw [hw]
  clear hw wx HQ HAT
  obtain ⟨i0, hinf, hz0, hz1, hz2⟩ := info_parts errno_info
  obtain ⟨wc, hwc⟩ : ∃ wc, wc = wb.alloc (.cells #[.int .i64 6, .int .i64 6, .int .i64 6, .int .i64 6, .int .i64 6, .int .i64 6, .int .i64 6, .int .i64 6, .int .i64 6] 30) := ⟨_, rfl⟩
  have HWC := Lib.hid hwc
  have hBc : Below wb.heap.size wb wc := by rw [hwc]; exact (Below.refl _ _).alloc (Nat.le_refl _) _
  have HR9 := Lib.hid (show Rd .i64 wc (some ⟨wb.heap.size, 0, none⟩) (List.replicate 9 6) from rd_block (e := 30) (List.replicate 9 6) (by rw [hwc]; exact blk_new _ _ _))
  replace HLS := Lib.hid (HLS.out.below hBc)
  replace HOWN := Lib.hid (HOWN.out.below hBc)
  clear hwc hBc
  go_wp2_with (at_builtin; rw [← HWC.out]; refine wpList_pushAll W.heap.size _ (List.replicate 12 6) (List.replicate 9 6) _ _ _ _ rfl rfl Tryz.underlying45 hinf hz0 hz1 hz2 rfl rfl rfl HR9.out HOWN.out HLS.out.2.size (by simp) (by simp [maxLen]) ?_; intro v1 wd ho hg hv; obtain ⟨A9, c9, hv9, _, _, hr9⟩ := ho.form; rw [show (List.replicate 12 6 ++ List.replicate 9 6 : List Int).length = 21 from rfl] at hv9; subst hv9; have HRD := Lib.hid hr9; have HG9 := Lib.hid hg; clear ho hg hv hr9)
  replace HLS := Lib.hid (HLS.out.grown (show wc.grownBy wd (some g0) from HG9.out) HDG.out.1 HDG.out.2.1 HDG.out.2.2)
  obtain ⟨es, hes⟩ : ∃ es : List Int, es = List.replicate 12 6 ++ List.replicate 9 6 := ⟨_, rfl⟩
  rw [← hes] at HRD
  have HLEN := Lib.hid (show es.length = 21 by rw [hes]; rfl)
  have HEN := Lib.hid (show ∀ j, j < 21 → es.getD j 0 = 6 from fun j hj => by
    rw [hes, List.replicate_append_replicate, List.getD_eq_getElem?_getD, List.getElem?_replicate, if_pos hj]; rfl)
  clear hes HG9 HDG HOWN HR9 HWC HWA HG0 hinf hz0 hz1 hz2
  go_loopw [47, 223] (fun _ v223 wr => ∃ (j : Nat), v223 = .int .i64 j ∧ j ≤ 21 ∧ wr = wd) (fun _ v223 _ => 21 - (intOf v223).toNat)
  case atStart => exact ⟨0, rfl, by omega, rfl⟩
  case round =>
    obtain ⟨j, rfl, hj, hw⟩ := hrel
    rw [hw]
    clear hw wr
    by_cases hlt : j < 21
    · obtain ⟨a1, hA1, _, hc1⟩ := HRD.out j (by rw [HLEN.out]; exact hlt)
      have hz := HEN.out j hlt
      subst hA1
      rw [hz] at hc1
      clear hz
      go_wp2
      first
      | (refine ⟨⟨j + 1, by go_num, by omega, by first | trivial | rfl⟩, ?_⟩
         simp [intOf]; omega)
      | (go_roundw
         case rel => exact ⟨j + 1, by go_num, by omega, by first | trivial | rfl⟩
         case measure => simp [intOf]; omega)
    · obtain rfl : j = 21 := by omega
      clear HRD HEN HLEN hj hlt
      have HT := Lib.hid (shTaken HLS.out.1 h)
      rw [HX.out] at HT
      simp only [Option.isSome_some, Option.isSome_none] at HT
      have et : (e18 == 6) = false := by have := E18.out; simpa using this
      have eu : (e19 == 6) = false := by have := E19.out; simpa using this
      obtain ⟨wf, hwf⟩ : ∃ wf, wf = wd.alloc (.cells #[.int .i64 1] 3) := ⟨_, rfl⟩
      have HWF := Lib.hid hwf
      have HLSF := Lib.hid (show LS W wf s l from by rw [hwf]; exact HLS.out.alloc _)
      have HN := Lib.hid (show wf.heap[wd.heap.size]? = some (.cells #[.int .i64 1] 3 (0, 0)) from by rw [hwf]; exact blk_new _ _ _)
      clear hwf
      go_wp2_with fail
      refine HT.out.mono ?_
      rintro e wx ⟨rfl, hw⟩
      rw [hw]
      clear hw wx HT
      have HJ := Lib.hid (shJoin true HLSF.out.1 1 (lk1 HXB.out) 1 (y := xb) HY.out 1 (.inl rfl) (some ⟨wd.heap.size, 0, none⟩) 1 (Rd.one HN.out)
        ⟨HLBB.out.tg, by rw [HLBB.out.lm]; decide, (HLBB.out.small (by omega)).2⟩ (by rw [HLBB.out.lm]; decide) (fun h => absurd h (by decide)) (HLBB.out.small (by omega)).1.2 (HLBB.out.small (by omega)).1.2
        (fun s' h => by obtain ⟨d, rfl, hd⟩ := h; show d.ks.length ≤ 100000; omega))
      go_wp2_with fail
      rw [← HWF.out]
      refine HJ.out.mono ?_
      rintro e wj ⟨er, rfl, HQ, HR0, HR1, HCJ⟩
      have ej : (er == 6) = false := by have := HQ.out; simpa [FQ] using this
      have hl' : ∃ l', LS W wj s l' ∧ l' 0 = some xa ∧ ∃ y, l' 1 = some y := by
        by_cases h0 : er = 0
        · obtain ⟨x', h1, _⟩ := HR1.out h0
          exact ⟨_, ⟨h1, HLSF.out.2.then HCJ.out⟩, by rw [upd_other _ _ (by omega)]; exact HXA.out, x', upd_same _ _ _⟩
        · exact ⟨l, ⟨HR0.out h0, HLSF.out.2.then HCJ.out⟩, HXA.out, xb, HXB.out⟩
      obtain ⟨l2, hls2, hl20, yb, hl21⟩ := hl'
      have HL2 := Lib.hid hls2
      have HL20 := Lib.hid hl20
      have HL21 := Lib.hid hl21
      clear hls2 hl20 hl21 HJ HLS HLSF HN HWF HX HY HX0 HXA HXB HLA HLBB HNO HLB
      have HQ1 := Lib.hid (noTaken none h wj (shAtNil h wj))
      go_wp2_with fail
      refine HQ1.out.mono ?_
      rintro e wx ⟨rfl, hw⟩
      rw [hw]
      clear hw wx HQ1
      have HQ1 := Lib.hid (noInsert none h k wj (shAtNil h wj))
      go_wp2_with fail
      refine HQ1.out.mono ?_
      rintro e wx ⟨rfl, hw⟩
      rw [hw]
      clear hw wx HQ1
      go_wp2_with fail
      refine (nilOpen h 1 0 9 wj).mono ?_
      rintro e wk ⟨rfl, HBK⟩
      replace HL2 := Lib.hid (HL2.out.below HBK.out)
      clear HBK
      have HC := Lib.hid (isClose HL2.out.1 0 (lk0 HL20.out))
      go_wp2_with fail
      refine HC.out.mono ?_
      rintro e wm ⟨rfl, HS, HCM⟩
      have HL3 := Lib.hid (show LS W wm s (upd l2 0 none) from ⟨HS.out, HL2.out.2.then HCM.out⟩)
      have HN0 := Lib.hid (show lk (upd l2 0 none) 0 = none by unfold lk; rw [if_pos (by omega)]; exact upd_same _ _ _)
      have HN1 := Lib.hid (show lk (upd l2 0 none) 1 = some yb from lk1 (by rw [upd_other _ _ (by omega)]; exact HL21.out))
      clear HC HS HCM HL2 HL20 HL21
      have HT := Lib.hid (shTaken HL3.out.1 0)
      rw [HN0.out] at HT
      simp only [Option.isSome_none] at HT
      go_wp2_with fail
      refine HT.out.mono ?_
      rintro e wx ⟨rfl, hw⟩
      rw [hw]
      clear hw wx HT
      have HT := Lib.hid (shTaken HL3.out.1 1)
      rw [HN1.out] at HT
      simp only [Option.isSome_some] at HT
      go_wp2_with fail
      refine HT.out.mono ?_
      rintro e wx ⟨rfl, hw⟩
      rw [hw]
      clear hw wx HT
      have HT := Lib.hid (hasNo HL3.out.1 0 HN0.out)
      go_wp2_with fail
      refine HT.out.mono ?_
      rintro e wx ⟨rfl, hw⟩
      rw [hw]
      clear hw wx HT
      have HO := Lib.hid (shOpen HL3.out.1 0 (by omega) (upd_same _ _ _) 2 0 9 (.inl rfl) (by omega) (by omega) (by omega))
      go_wp2_with fail
      refine HO.out.mono ?_
      rintro e wo ⟨x2, rfl, HS, HX2, HCO, _, _⟩
      obtain ⟨d2, hd2, hls2⟩ := fresh2 HX2.out.2.2.2
      have HL4 := Lib.hid (show LS W wo s _ from ⟨HS.out, HL3.out.2.then HCO.out⟩)
      have HZ := Lib.hid (hasZero HL4.out.1 0 (x := x2) (lk0 (upd_same _ _ _)) d2 hd2 hls2)
      clear HO HS HX2 HCO HL3 HN0 HN1 hd2 hls2
      go_wp2_with fail
      refine HZ.out.mono ?_
      rintro e wx ⟨rfl, hw⟩
      rw [hw]
      clear hw wx HZ
      go_wp2
      go_ret
      exact ⟨rfl, HL4.out.bel⟩
end Go.Proofs.YtcnaikoloagbdaaGreat
namespace Go.Proofs.YtcnaikoloagbdaaGreat
set_option linter.unusedVariables false
set_option linter.unusedSimpArgs false
open Go.RowKit Go.Shelf
attribute [local go_sem ↓] Go.wp_at_zero Go.wp_at_succ

set_option maxRecDepth 100000 in
set_option maxHeartbeats 16000000 in
theorem law_nn (h : Int) (hh0 : h ≠ 0) (hh1 : h ≠ 1) (o : Int) (ho0 : o ≠ 0) (ho1 : o ≠ 1) (k m : Int) (A4 : Option Addr) (c4 : Nat) (a4 : List Int) (W : World) (hp : Rd .u8 W A4 a4) (hl4 : a4.length ≤ 281474976710656) :
    Calls Tryz.prog 3 #[.int .i64 h, .int .i64 o, .int .u64 k, .int .u64 m, .slice A4 a4.length c4] W fun e W' => e = .returned (.bool true) ∧ Hid (Below W.heap.size W W') := by
  have HP := Lib.hid hp
  have HL4 := Lib.hid hl4
  clear hp hl4
  have HH0 := Lib.hid hh0
  have HH1 := Lib.hid hh1
  have eh0 : (h == 0) = false := by simpa using hh0
  have eh1 : (h == 1) = false := by simpa using hh1
  clear hh0 hh1
  have HO0 := Lib.hid ho0
  have HO1 := Lib.hid ho1
  have eo0 : (o == 0) = false := by simpa using ho0
  have eo1 : (o == 1) = false := by simpa using ho1
  clear ho0 ho1
  go_enter Tryz.func3, Tryz.ntmps3
  go_wp2_with fail
  refine (awakeW W).mono ?_
  rintro e w1 ⟨rfl, HB1⟩
  obtain ⟨w2, hw2⟩ : ∃ w2, w2 = w1.alloc (.cells #[.int .u64 1, .int .u64 2] 22) := ⟨_, rfl⟩
  obtain ⟨w3, hw3⟩ : ∃ w3, w3 = w2.alloc (.cells #[.int .u64 7] 22) := ⟨_, rfl⟩
  obtain ⟨w4, hw4⟩ : ∃ w4, w4 = w3.alloc (.cells #[.slice (some ⟨w1.heap.size, 0, none⟩) 2 2, .slice (some ⟨w1.heap.size + 1, 0, none⟩) 1 1] 29) := ⟨_, rfl⟩
  have hB2 : Below w1.heap.size w1 w2 := by rw [hw2]; exact (Below.refl _ _).alloc (Nat.le_refl _) _
  have hB3 : Below w2.heap.size w2 w3 := by rw [hw3]; exact (Below.refl _ _).alloc (Nat.le_refl _) _
  have hB4 : Below w3.heap.size w3 w4 := by rw [hw4]; exact (Below.refl _ _).alloc (Nat.le_refl _) _
  have hz2 : w2.heap.size = w1.heap.size + 1 := by rw [hw2]; simp
  have hz3 : w3.heap.size = w2.heap.size + 1 := by rw [hw3]; simp
  have hz4 : w4.heap.size = w3.heap.size + 1 := by rw [hw4]; simp
  have HLY := Lib.hid (layW (w1.heap.size + 1 + 1) w1.heap.size (w1.heap.size + 1) w4
    (by rw [hB4.block _ (by omega), hB3.block _ (by omega), hw2]; exact blk_new _ _ _)
    (by rw [hB4.block _ (by omega), hw3, ← hz2]; exact blk_new _ _ _)
    (by rw [hw4, ← hz2, ← hz3]; exact blk_new _ _ _))
  have HB4 := Lib.hid (below_then (below_then (below_then HB1.out hB2) hB3) hB4)
  have HW4 := Lib.hid hw4
  have HW3 := Lib.hid hw3
  have HW2 := Lib.hid hw2
  clear hB2 hB3 hB4 hz2 hz3 hz4 hw4 hw3 hw2 HB1
  go_wp2_with fail
  rw [← HW2.out, ← HW3.out, ← HW4.out]
  refine HLY.out.mono ?_
  rintro e w5 ⟨s, vl, l, rfl, HS5, HL5, HB5⟩
  obtain ⟨⟨xa, hxa, hla⟩, ⟨xb, hxb, hlb⟩, hno⟩ := HL5.out
  have HXA := Lib.hid hxa
  have HXB := Lib.hid hxb
  have HLA := Lib.hid hla
  have HLBB := Lib.hid hlb
  have HNO := Lib.hid hno
  have HLB := Lib.hid (LB.of hxa hla hxb hlb hno)
  have HLS := Lib.hid (show LS W w5 s l from ⟨HS5.out.mono HB4.out.size, (Chg.of_below HB4.out).then (Chg.of_below HB5.out)⟩)
  clear HL5 HS5 HB5 HLY HW2 HW3 HW4 HB4 hxa hla hxb hlb hno
  have HX := Lib.hid (lkN HNO.out HH0.out HH1.out)
  have HY := Lib.hid (lkN HNO.out HO0.out HO1.out)
  have HX0 := Lib.hid (lk0 HXA.out)
  have HQ := Lib.hid (qGet HLS.out.1 HLB.out h k)
  go_wp2_with fail
  refine HQ.out.mono ?_
  rintro e w6 ⟨v6, e6, rfl, h6, HK⟩
  replace HLS := Lib.hid (HLS.out.k HK.out)
  clear HK
  obtain rfl : e6 = 6 := h6.2 HX.out
  clear HQ h6
  have HQ := Lib.hid (qHas HLS.out.1 HLB.out h k)
  go_wp2_with fail
  refine HQ.out.mono ?_
  rintro e w7 ⟨v7, e7, rfl, h7, HK⟩
  replace HLS := Lib.hid (HLS.out.k HK.out)
  clear HK
  obtain rfl : e7 = 6 := h7.2 HX.out
  clear HQ h7
  have HQ := Lib.hid (qNext HLS.out.1 HLB.out h k)
  go_wp2_with fail
  refine HQ.out.mono ?_
  rintro e w8 ⟨v8, e8, rfl, h8, HK⟩
  replace HLS := Lib.hid (HLS.out.k HK.out)
  clear HK
  obtain rfl : e8 = 6 := h8.2 HX.out
  clear HQ h8
  have HQ := Lib.hid (qPrev HLS.out.1 HLB.out h k)
  go_wp2_with fail
  refine HQ.out.mono ?_
  rintro e w9 ⟨v9, e9, rfl, h9, HK⟩
  replace HLS := Lib.hid (HLS.out.k HK.out)
  clear HK
  obtain rfl : e9 = 6 := h9.2 HX.out
  clear HQ h9
  have HQ := Lib.hid (qRank HLS.out.1 HLB.out h k)
  go_wp2_with fail
  refine HQ.out.mono ?_
  rintro e w10 ⟨v10, e10, rfl, h10, HK⟩
  replace HLS := Lib.hid (HLS.out.k HK.out)
  clear HK
  obtain rfl : e10 = 6 := h10.2 HX.out
  clear HQ h10
  have HQ := Lib.hid (qSelect HLS.out.1 HLB.out h 0)
  go_wp2_with fail
  refine HQ.out.mono ?_
  rintro e w11 ⟨v11, e11, rfl, h11, HK⟩
  replace HLS := Lib.hid (HLS.out.k HK.out)
  clear HK
  obtain rfl : e11 = 6 := h11.2 HX.out
  clear HQ h11
  have HQ := Lib.hid (qCount HLS.out.1 HLB.out h k m)
  go_wp2_with fail
  refine HQ.out.mono ?_
  rintro e w12 ⟨v12, e12, rfl, h12, HK⟩
  replace HLS := Lib.hid (HLS.out.k HK.out)
  clear HK
  obtain rfl : e12 = 6 := h12.2 HX.out
  clear HQ h12
  have HQ := Lib.hid (qEncode HLS.out.1 HLB.out h)
  go_wp2_with fail
  refine HQ.out.mono ?_
  rintro e w13 ⟨v13, e13, rfl, h13, HK⟩
  replace HLS := Lib.hid (HLS.out.k HK.out)
  clear HK
  obtain rfl : e13 = 6 := h13.2 HX.out
  clear HQ h13
  have HQ := Lib.hid (shStep HLS.out.1 h true)
  go_wp2_with fail
  refine HQ.out.mono ?_
  rintro e w14 ⟨e14, rfl, h14, hw⟩
  rw [hw]
  clear hw w14
  obtain rfl : e14 = 6 := h14.2 HX.out
  clear HQ h14
  have HQ := Lib.hid (qVersion HLS.out.1 HLB.out h)
  go_wp2_with fail
  refine HQ.out.mono ?_
  rintro e w15 ⟨v15, e15, rfl, h15, HK⟩
  replace HLS := Lib.hid (HLS.out.k HK.out)
  clear HK
  obtain rfl : e15 = 6 := h15.2 HX.out
  clear HQ h15
  have HQ := Lib.hid (qUsed HLS.out.1 HLB.out h)
  go_wp2_with fail
  refine HQ.out.mono ?_
  rintro e w16 ⟨v16, e16, rfl, h16, HK⟩
  replace HLS := Lib.hid (HLS.out.k HK.out)
  clear HK
  obtain rfl : e16 = 6 := h16.2 HX.out
  clear HQ h16
  have HQ := Lib.hid (shSeek HLS.out.1 h k)
  go_wp2_with fail
  refine HQ.out.mono ?_
  rintro e w17 ⟨e17, rfl, h17, hw⟩
  rw [hw]
  clear hw w17
  obtain rfl : e17 = 6 := h17.2 HX.out
  clear HQ h17
  have HQ := Lib.hid (qEqual HLS.out.1 HLB.out 0 o)
  go_wp2_with fail
  refine HQ.out.mono ?_
  rintro e w18 ⟨v18, e18, rfl, h18, HK⟩
  replace HLS := Lib.hid (HLS.out.k HK.out)
  clear HK
  obtain rfl : e18 = 6 := h18.2 (by first | exact .inr HY.out | exact .inl HY.out)
  clear HQ h18
  have HQ := Lib.hid (qWithin HLS.out.1 HLB.out o 0)
  go_wp2_with fail
  refine HQ.out.mono ?_
  rintro e w19 ⟨v19, e19, rfl, h19, HK⟩
  replace HLS := Lib.hid (HLS.out.k HK.out)
  clear HK
  obtain rfl : e19 = 6 := h19.2 (by first | exact .inr HY.out | exact .inl HY.out)
  clear HQ h19
  obtain ⟨g0, hg0⟩ : ∃ g0, g0 = w19.heap.size := ⟨_, rfl⟩
  obtain ⟨wa, hwa⟩ : ∃ wa, wa = w19.alloc (.cells #[.int .i64 6, .int .i64 6, .int .i64 6, .int .i64 6, .int .i64 6, .int .i64 6, .int .i64 6, .int .i64 6, .int .i64 6, .int .i64 6, .int .i64 6, .int .i64 6] 30) := ⟨_, rfl⟩
  have HWA := Lib.hid hwa
  have HG0 := Lib.hid hg0
  have HDG := Lib.hid (show s ≠ g0 ∧ (∀ h x, l h = some x → ¬ x.own g0) ∧ W.heap.size ≤ g0 from by
    have h1 := blk_lt HLS.out.1.head
    have h2 := HLS.out.2.size
    exact ⟨by omega, fun h x e hx => by have := (HLS.out.1.ok h x e).lt _ hx; omega, by omega⟩)
  have HOWN := Lib.hid (show Own .i64 30 wa W.heap.size (.slice (some ⟨g0, 0, none⟩) 12 12) (List.replicate 12 6) from by
    rw [hwa, hg0]; exact Own.made HLS.out.2.size (List.replicate 12 6) (by simp [maxLen]))
  replace HLS := Lib.hid (show LS W wa s l from by rw [hwa]; exact HLS.out.alloc _)
  have HAT := Lib.hid (shAtNo HLS.out.1 h HX.out)
  have HQ := Lib.hid (noWipe _ h k m wa HAT.out)
  clear hwa hg0
  go_wp2_with fail
  rw [← HWA.out, ← HG0.out]
  refine HQ.out.mono ?_
  rintro e wx ⟨rfl, hw⟩
  rw [hw]
  clear hw wx HQ
  have HQ := Lib.hid (noInsert _ h k wa HAT.out)
  go_wp2_with fail
  refine HQ.out.mono ?_
  rintro e wx ⟨rfl, hw⟩
  rw [hw]
  clear hw wx HQ
  have HQ := Lib.hid (noPut _ h k m wa HAT.out)
  go_wp2_with fail
  refine HQ.out.mono ?_
  rintro e wx ⟨rfl, hw⟩
  rw [hw]
  clear hw wx HQ
  have HQ := Lib.hid (noDelete _ h k wa HAT.out)
  go_wp2_with fail
  refine HQ.out.mono ?_
  rintro e wx ⟨rfl, hw⟩
  rw [hw]
  clear hw wx HQ
  have HQ := Lib.hid (noClear _ h wa HAT.out)
  go_wp2_with fail
  refine HQ.out.mono ?_
  rintro e wx ⟨rfl, hw⟩
  rw [hw]
  clear hw wx HQ
  have HQ := Lib.hid (noJoin _ h wa HAT.out)
  go_wp2_with fail
  refine HQ.out.mono ?_
  rintro e wx ⟨rfl, hw⟩
  rw [hw]
  clear hw wx HQ
  have HQ := Lib.hid (lBytes A4 c4 20 a4 wa (HP.out.below HLS.out.bel) HL4.out (by omega))
  go_wp2_with fail
  refine HQ.out.mono ?_
  rintro e wb ⟨r, l', rfl, HOW, _, _, HBb⟩
  obtain ⟨Ab, cb, rfl, _, _, _⟩ := HOW.out.form
  replace HLS := Lib.hid (HLS.out.below HBb.out)
  replace HOWN := Lib.hid (HOWN.out.below HBb.out)
  replace HAT := Lib.hid (shAtNo HLS.out.1 h HX.out)
  clear HQ HOW HBb
  have HQ := Lib.hid (noDecode _ h Ab l'.length cb wb HAT.out)
  go_wp2_with fail
  refine HQ.out.mono ?_
  rintro e wx ⟨rfl, hw⟩
  rw [hw]
  clear hw wx HQ
  have HQ := Lib.hid (noCursor _ h k m wb HAT.out)
  go_wp2_with fail
  refine HQ.out.mono ?_
  rintro e wx ⟨rfl, hw⟩
  rw [hw]
  clear hw wx HQ
  have HQ := Lib.hid (noClose HLS.out.1 h HX.out)
  go_wp2_with fail
  refine HQ.out.mono ?_
  rintro e wx ⟨rfl, hw⟩
  rw [hw]
  clear hw wx HQ HAT
  obtain ⟨i0, hinf, hz0, hz1, hz2⟩ := info_parts errno_info
  obtain ⟨wc, hwc⟩ : ∃ wc, wc = wb.alloc (.cells #[.int .i64 6, .int .i64 6, .int .i64 6, .int .i64 6, .int .i64 6, .int .i64 6, .int .i64 6, .int .i64 6, .int .i64 6] 30) := ⟨_, rfl⟩
  have HWC := Lib.hid hwc
  have hBc : Below wb.heap.size wb wc := by rw [hwc]; exact (Below.refl _ _).alloc (Nat.le_refl _) _
  have HR9 := Lib.hid (show Rd .i64 wc (some ⟨wb.heap.size, 0, none⟩) (List.replicate 9 6) from rd_block (e := 30) (List.replicate 9 6) (by rw [hwc]; exact blk_new _ _ _))
  replace HLS := Lib.hid (HLS.out.below hBc)
  replace HOWN := Lib.hid (HOWN.out.below hBc)
  clear hwc hBc
  go_wp2_with (at_builtin; rw [← HWC.out]; refine wpList_pushAll W.heap.size _ (List.replicate 12 6) (List.replicate 9 6) _ _ _ _ rfl rfl Tryz.underlying45 hinf hz0 hz1 hz2 rfl rfl rfl HR9.out HOWN.out HLS.out.2.size (by simp) (by simp [maxLen]) ?_; intro v1 wd ho hg hv; obtain ⟨A9, c9, hv9, _, _, hr9⟩ := ho.form; rw [show (List.replicate 12 6 ++ List.replicate 9 6 : List Int).length = 21 from rfl] at hv9; subst hv9; have HRD := Lib.hid hr9; have HG9 := Lib.hid hg; clear ho hg hv hr9)
  replace HLS := Lib.hid (HLS.out.grown (show wc.grownBy wd (some g0) from HG9.out) HDG.out.1 HDG.out.2.1 HDG.out.2.2)
  obtain ⟨es, hes⟩ : ∃ es : List Int, es = List.replicate 12 6 ++ List.replicate 9 6 := ⟨_, rfl⟩
  rw [← hes] at HRD
  have HLEN := Lib.hid (show es.length = 21 by rw [hes]; rfl)
  have HEN := Lib.hid (show ∀ j, j < 21 → es.getD j 0 = 6 from fun j hj => by
    rw [hes, List.replicate_append_replicate, List.getD_eq_getElem?_getD, List.getElem?_replicate, if_pos hj]; rfl)
  clear hes HG9 HDG HOWN HR9 HWC HWA HG0 hinf hz0 hz1 hz2
  go_loopw [47, 223] (fun _ v223 wr => ∃ (j : Nat), v223 = .int .i64 j ∧ j ≤ 21 ∧ wr = wd) (fun _ v223 _ => 21 - (intOf v223).toNat)
  case atStart => exact ⟨0, rfl, by omega, rfl⟩
  case round =>
    obtain ⟨j, rfl, hj, hw⟩ := hrel
    rw [hw]
    clear hw wr
    by_cases hlt : j < 21
    · obtain ⟨a1, hA1, _, hc1⟩ := HRD.out j (by rw [HLEN.out]; exact hlt)
      have hz := HEN.out j hlt
      subst hA1
      rw [hz] at hc1
      clear hz
      go_wp2
      first
      | (refine ⟨⟨j + 1, by go_num, by omega, by first | trivial | rfl⟩, ?_⟩
         simp [intOf]; omega)
      | (go_roundw
         case rel => exact ⟨j + 1, by go_num, by omega, by first | trivial | rfl⟩
         case measure => simp [intOf]; omega)
    · obtain rfl : j = 21 := by omega
      clear HRD HEN HLEN hj hlt
      have HT := Lib.hid (shTaken HLS.out.1 h)
      rw [HX.out] at HT
      simp only [Option.isSome_some, Option.isSome_none] at HT
      obtain ⟨wf, hwf⟩ : ∃ wf, wf = wd.alloc (.cells #[.int .i64 o] 3) := ⟨_, rfl⟩
      have HWF := Lib.hid hwf
      have HLSF := Lib.hid (show LS W wf s l from by rw [hwf]; exact HLS.out.alloc _)
      have HN := Lib.hid (show wf.heap[wd.heap.size]? = some (.cells #[.int .i64 o] 3 (0, 0)) from by rw [hwf]; exact blk_new _ _ _)
      clear hwf
      go_wp2_with fail
      refine HT.out.mono ?_
      rintro e wx ⟨rfl, hw⟩
      rw [hw]
      clear hw wx HT
      have HJ := Lib.hid (noJoinOf HLSF.out.1 1 (lk1 HXB.out) o HY.out wd.heap.size HN.out)
      go_wp2_with fail
      rw [← HWF.out]
      refine HJ.out.mono ?_
      rintro e wj ⟨rfl, HK⟩
      have hl' : ∃ l', LS W wj s l' ∧ l' 0 = some xa ∧ ∃ y, l' 1 = some y := ⟨l, HLSF.out.k HK.out, HXA.out, xb, HXB.out⟩
      obtain ⟨l2, hls2, hl20, yb, hl21⟩ := hl'
      have HL2 := Lib.hid hls2
      have HL20 := Lib.hid hl20
      have HL21 := Lib.hid hl21
      clear hls2 hl20 hl21 HJ HLS HLSF HN HWF HX HY HX0 HXA HXB HLA HLBB HNO HLB
      have HQ1 := Lib.hid (noTaken none h wj (shAtNil h wj))
      go_wp2_with fail
      refine HQ1.out.mono ?_
      rintro e wx ⟨rfl, hw⟩
      rw [hw]
      clear hw wx HQ1
      have HQ1 := Lib.hid (noInsert none h k wj (shAtNil h wj))
      go_wp2_with fail
      refine HQ1.out.mono ?_
      rintro e wx ⟨rfl, hw⟩
      rw [hw]
      clear hw wx HQ1
      go_wp2_with fail
      refine (nilOpen h 1 0 9 wj).mono ?_
      rintro e wk ⟨rfl, HBK⟩
      replace HL2 := Lib.hid (HL2.out.below HBK.out)
      clear HBK
      have HC := Lib.hid (isClose HL2.out.1 0 (lk0 HL20.out))
      go_wp2_with fail
      refine HC.out.mono ?_
      rintro e wm ⟨rfl, HS, HCM⟩
      have HL3 := Lib.hid (show LS W wm s (upd l2 0 none) from ⟨HS.out, HL2.out.2.then HCM.out⟩)
      have HN0 := Lib.hid (show lk (upd l2 0 none) 0 = none by unfold lk; rw [if_pos (by omega)]; exact upd_same _ _ _)
      have HN1 := Lib.hid (show lk (upd l2 0 none) 1 = some yb from lk1 (by rw [upd_other _ _ (by omega)]; exact HL21.out))
      clear HC HS HCM HL2 HL20 HL21
      have HT := Lib.hid (shTaken HL3.out.1 0)
      rw [HN0.out] at HT
      simp only [Option.isSome_none] at HT
      go_wp2_with fail
      refine HT.out.mono ?_
      rintro e wx ⟨rfl, hw⟩
      rw [hw]
      clear hw wx HT
      have HT := Lib.hid (shTaken HL3.out.1 1)
      rw [HN1.out] at HT
      simp only [Option.isSome_some] at HT
      go_wp2_with fail
      refine HT.out.mono ?_
      rintro e wx ⟨rfl, hw⟩
      rw [hw]
      clear hw wx HT
      have HT := Lib.hid (hasNo HL3.out.1 0 HN0.out)
      go_wp2_with fail
      refine HT.out.mono ?_
      rintro e wx ⟨rfl, hw⟩
      rw [hw]
      clear hw wx HT
      have HO := Lib.hid (shOpen HL3.out.1 0 (by omega) (upd_same _ _ _) 2 0 9 (.inl rfl) (by omega) (by omega) (by omega))
      go_wp2_with fail
      refine HO.out.mono ?_
      rintro e wo ⟨x2, rfl, HS, HX2, HCO, _, _⟩
      obtain ⟨d2, hd2, hls2⟩ := fresh2 HX2.out.2.2.2
      have HL4 := Lib.hid (show LS W wo s _ from ⟨HS.out, HL3.out.2.then HCO.out⟩)
      have HZ := Lib.hid (hasZero HL4.out.1 0 (x := x2) (lk0 (upd_same _ _ _)) d2 hd2 hls2)
      clear HO HS HX2 HCO HL3 HN0 HN1 hd2 hls2
      go_wp2_with fail
      refine HZ.out.mono ?_
      rintro e wx ⟨rfl, hw⟩
      rw [hw]
      clear hw wx HZ
      go_wp2
      go_ret
      exact ⟨rfl, HL4.out.bel⟩
end Go.Proofs.YtcnaikoloagbdaaGreat
