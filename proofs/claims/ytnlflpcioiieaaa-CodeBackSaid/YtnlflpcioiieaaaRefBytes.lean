/-
  stepstoneref19.Bytes walked.
-/
import Derived.Test.YtnlflpcioiieaaaPairs
import Derived.Test.YtnlflpcioiieaaaNumbers
namespace Go.Proofs.Ytnlflpcioiieaaa
set_option linter.unusedVariables false
set_option linter.unusedSimpArgs false
open Go.RowKit

/-- what the document's Bytes answer: no bound on how many -/
def refBytesR (two : Bool) (l : List (Int × Int)) : List Int × Int :=
  match gapsP two none l with
  | none => ([], 8)
  | some g => ((if two then 1 else 0) :: (num l.length ++ g), 0)
theorem refBytesR_eq (two : Bool) (l : List (Int × Int)) (h : l.length ≤ 262144) : refBytesR two l = bytesR two l := by
  unfold refBytesR bytesR
  cases gapsP two none l with
  | none => rfl
  | some g => simp only; rw [if_neg (show ¬ 262144 < l.length by omega)]

theorem refNumber_i (x : Int) (w : World) (h0 : 0 ≤ x) (h1 : x ≤ 18446744073709551615) :
    Calls Try.prog 14 #[.int .u64 x] w fun e w' => ∃ (A : Option Addr) (c : Nat), e = .returned (.slice A (num x.toNat).length c) ∧ Rd .u8 w' A (num x.toNat) ∧ Below w.heap.size w w' := by
  obtain ⟨k, rfl⟩ := Int.eq_ofNat_of_zero_le h0
  exact refNumber_n k w (by omega)
theorem refNumber_m (x : Int) (m : Nat) (w : World) (hm : x.toNat = m) (h0 : 0 ≤ x) (h1 : x ≤ 18446744073709551615) :
    Calls Try.prog 14 #[.int .u64 x] w fun e w' => ∃ (A : Option Addr) (c : Nat), e = .returned (.slice A (num m).length c) ∧ Rd .u8 w' A (num m) ∧ Below w.heap.size w w' := by
  subst hm
  exact refNumber_i x w h0 h1
set_option maxHeartbeats 8000000 in
set_option maxRecDepth 100000 in
theorem refBytes_any (A : Option Addr) (c : Nat) (l : List (Int × Int)) (two : Bool) (w : World) (hB : U64P l) (hr : RdP w A l) (hlen : l.length ≤ 1000) :
    Calls Try.prog 21 #[.slice A l.length c, .bool two] w fun e w' => ∃ v, e = .returned (.tuple #[v, .int .i64 (refBytesR two l).2]) ∧ Own .u8 5 w' w.heap.size v (refBytesR two l).1 ∧ Below w.heap.size w w' := by
  have HR := Lib.hid hr
  have HB := Lib.hid hB
  obtain ⟨j0, ji, jz0, jz1, jz2⟩ := info_parts u8_info
  clear hr hB
  go_enter Try.func21, Try.ntmps21
  have hl10 := num_len10 (n := l.length) (by omega)
  have hne53 : 5 ≠ 43 := by decide
  cases two
  · go_wp2_with fail
    refine (refNumber_n l.length _ (by omega)).mono ?_
    rintro e w1 ⟨A1, c1, rfl, rr1, hb1⟩
    have ho1 := (Own.made (k := .u8) (e := 5) (w := w) (base := w.heap.size) (Nat.le_refl _) [0] (by simp [maxLen])).below hb1
    have HB1 := Lib.hid (((Below.refl w.heap.size w).alloc (Nat.le_refl _) (.cells #[.int .u8 0] 5)).trans (hb1.mono (by simp)))
    have hs1 := HB1.out.size
    have BB1 : ([(0 : Int)].length + (num l.length).length) * 1 ≤ 140737488355328 ∧ [(0 : Int)].length + (num l.length).length ≤ maxLen := ⟨by simp; omega, by simp [maxLen]; omega⟩
    go_wp2_with (at_builtin; refine wpList_pushAll w.heap.size _ [0] (num l.length) _ _ _ _ rfl rfl Try.underlying23 ji jz0 jz1 jz2 rfl rfl rfl rr1 ho1 hs1 BB1.1 BB1.2 ?_; intro v2 w2 ho2 hg2 _)
    have HB2 := Lib.hid (HB1.out.grown hg2 hs1 (fun g hg => (ho1.block g hg).1))
    have HO2 := Lib.hid ho2
    clear ho1 hb1 rr1 BB1
    go_loopw [6, 21] (fun v6 v21 wr => ∃ (i : Nat) (done P : List Int), i ≤ l.length ∧ v21 = .int .i64 i ∧ Hid (P = 0 :: (num l.length ++ done)) ∧ Hid (Own .u8 5 wr w.heap.size v6 P) ∧ P.length ≤ 20 + 20 * i ∧
      Hid (gapsP false none l = (gapsP false (if i = 0 then none else some (l.getD (i - 1) (0, 0)).1) (l.drop i)).map (done ++ ·)) ∧ Hid (Below w.heap.size w wr)) (fun _ v21 _ => l.length - (intOf v21).toNat)
    case atStart => exact ⟨0, [], [0] ++ num l.length, Nat.zero_le _, rfl, (by show _ = _; simp), HO2.out, (by simp; omega), (by show _ = _; simp), HB2.out⟩
    case round =>
      obtain ⟨i, done, P, hi, rfl, HPE, HO, hPl, HG, HBW⟩ := hrel
      have hsz := HBW.out.size
      by_cases hlt : i < l.length
      · obtain ⟨ad, rfl, had, hk0, hv0⟩ := HR.out i hlt
        have hk0' := (HBW.out.cell (p := ad.add (i * 2)) (by rw [block_of_add]; exact had)).trans hk0
        have hv0' := (HBW.out.cell (p := ad.add (i * 2 + 1)) (by rw [block_of_add]; exact had)).trans hv0
        rw [pair_addr] at hv0'
        obtain ⟨⟨hx0, hx1⟩, hvv0, hvv1⟩ := HB.out.at_ hlt
        have HD := Lib.hid (drop_getDP hlt)
        have HKX := Lib.hid (show (l.getD (i + 1 - 1) (0, 0)).1 = (l.getD i (0, 0)).1 by rw [Nat.add_sub_cancel])
        have hnv := num_len10 (n := (l.getD i (0, 0)).2.toNat) (by omega)
        have HNV := Lib.hid hnv
        clear hk0 hv0 hnv
        by_cases h0 : i = 0
        · have H0 := Lib.hid h0
          generalize l.getD i (0, 0) = x at *
          obtain ⟨x0, x1⟩ := x
          have hea := HBW.out.alloc hsz (.cells #[.int .u64 x0, .int .u64 x1] 43)
          have HEA := Lib.hid hea
          have HOA := Lib.hid (HO.out.below ((Below.refl _ _).alloc (Nat.le_refl _) (.cells #[.int .u64 x0, .int .u64 x1] 43)))
          have hi0b : ((i : Int) == 0) = true := by simp [h0]
          have hn0 := num_len10 (n := x0.toNat) (by omega)
          clear h0 hea
          go_wp2_with fail
          refine (refNumber_i x0 _ hx0 hx1).mono ?_
          rintro e w3 ⟨A3, c3, rfl, rr3, hb3⟩
          have ho3 := HOA.out.below hb3
          have HB3 := Lib.hid (HEA.out.trans (hb3.mono HEA.out.size))
          have hs3 := HB3.out.size
          have HY3 := Lib.hid (blk_below (heap_alloc_new wr (.cells #[.int .u64 x0, .int .u64 x1] 43)) hb3 rfl)
          have BB3 : (P.length + (num x0.toNat).length) * 1 ≤ 140737488355328 ∧ P.length + (num x0.toNat).length ≤ maxLen := ⟨by omega, by unfold maxLen; omega⟩
          have HN1 := Lib.hid hn0
          have HG2 := Lib.hid (show gapsP false none l = (gapsP false (if i + 1 = 0 then none else some (l.getD (i + 1 - 1) (0, 0)).1) (l.drop (i + 1))).map ((done ++ (num x0.toNat ++ vals false x1)) ++ ·) by
            rw [HG.out, HD.out, if_pos H0.out, if_neg (by omega), HKX.out]
            simp [gapsP, vals, Option.map_map, Function.comp_def])
          go_wp2_with (at_builtin; refine wpList_pushAll w.heap.size _ P (num x0.toNat) _ _ _ _ rfl rfl Try.underlying23 ji jz0 jz1 jz2 rfl rfl rfl rr3 ho3 hs3 BB3.1 BB3.2 ?_; intro v4 w4 ho4 hg4 _; have HY4 := Lib.hid (grown_block ho3 hg4 HY3.out hne53); have y41 := blk_cell HY4.out 1 rfl)
          have HB4 := HB3.out.grown hg4 hs3 (fun g hg => (ho3.block g hg).1)
          have HG2 := Lib.hid (show gapsP false none l = (gapsP false (if i + 1 = 0 then none else some (l.getD (i + 1 - 1) (0, 0)).1) (l.drop (i + 1))).map ((done ++ num x0.toNat) ++ ·) by rw [HG2.out]; simp [vals])
          go_roundw
          case rel => exact ⟨i + 1, done ++ num x0.toNat, P ++ num x0.toNat, by omega, by go_num, (by show _ = _; rw [HPE.out]; simp), ho4, (by rw [List.length_append]; have := HN1.out; omega), HG2, HB4⟩
          case measure => simp [intOf]; omega
        · have hi0b : ((i : Int) == 0) = false := by simp; omega
          obtain ⟨oad, e', hoad, ok1, _⟩ := HR.out (i - 1) (by omega)
          cases e'
          have hx3 : ((i : Int) - 1).toNat = i - 1 := by omega
          have hx4 : (0 : Int) ≤ (i : Int) - 1 := by omega
          have hx5 : (i : Int) - 1 < l.length := by omega
          have hx6 : IntKind.i64.wrap ((i : Int) - 1) = (i : Int) - 1 := by rw [IntKind.wrap_i64]; omega
          have hx7 : (1 : Int) ≤ (i : Int) := by omega
          have hla := (HB.out.at_ (show i - 1 < l.length by omega)).1
          have H0 := Lib.hid h0
          generalize l.getD i (0, 0) = x at *
          obtain ⟨x0, x1⟩ := x
          generalize (l.getD (i - 1) (0, 0)).1 = la at *
          have hea := HBW.out.alloc hsz (.cells #[.int .u64 x0, .int .u64 x1] 43)
          have HEA := Lib.hid hea
          have HOA := Lib.hid (HO.out.below ((Below.refl _ _).alloc (Nat.le_refl _) (.cells #[.int .u64 x0, .int .u64 x1] 43)))
          have ok2 := (hea.cell (p := ad.add ((i - 1) * 2)) (by rw [block_of_add]; exact hoad)).trans ok1
          clear h0 hea ok1
          by_cases hle : x0 ≤ la
          · have HK := Lib.hid (show refBytesR false l = ([], 8) by
              have : gapsP false none l = none := by
                rw [HG.out, HD.out, if_neg H0.out]
                simp only [gapsP, if_pos hle]
                rfl
              simp [refBytesR, this])
            go_wp2
            go_region
            all_goals
              go_wp2
              try rw [Exit.noGoto_ret]
              go_ret2
              exact ⟨_, ret_ve (by rw [HK.out]), by rw [HK.out]; exact Own.nil _ _ _ _, by first | exact HEA.out.drew | exact HEA.out⟩
          · obtain ⟨gm, hgm⟩ : ∃ gm, (x0 - la - 1).toNat = gm := ⟨_, rfl⟩
            have hn0 := num_len10 (n := gm) (by omega)
            have HGM := Lib.hid hgm
            have HN1 := Lib.hid hn0
            have hd0 : 0 ≤ x0 - la - 1 := by omega
            have hd1 : x0 - la - 1 ≤ 18446744073709551615 := by omega
            have hw1 : IntKind.u64.wrap (x0 - la) = x0 - la := by rw [IntKind.wrap_u64]; omega
            have hw2 : IntKind.u64.wrap (x0 - la - 1) = x0 - la - 1 := by rw [IntKind.wrap_u64]; omega
            have HG2 := Lib.hid (show gapsP false none l = (gapsP false (if i + 1 = 0 then none else some (l.getD (i + 1 - 1) (0, 0)).1) (l.drop (i + 1))).map ((done ++ (num gm ++ vals false x1)) ++ ·) by
              rw [HG.out, HD.out, if_neg H0.out, if_neg (by omega), HKX.out]
              simp only [gapsP, if_neg hle, hgm, Option.map_map, Function.comp_def, vals, List.append_assoc])
            have BB3 : (P.length + (num gm).length) * 1 ≤ 140737488355328 ∧ P.length + (num gm).length ≤ maxLen := ⟨by omega, by unfold maxLen; omega⟩
            have HYA := Lib.hid (heap_alloc_new wr (.cells #[.int .u64 x0, .int .u64 x1] 43))
            have hsA := HEA.out.size
            clear hn0 hgm
            go_wp2
            go_region
            all_goals
              go_wp2
              go_region_law (first | ((with_reducible refine gate_scall (f := 14) rfl ?_); refine step_goes rfl Try.func14 (by kernel_rfl) rfl #[.int .u64 (x0 - la - 1)] rfl (by simp only [List.map_toArray, List.map_cons, List.map_nil]; rfl) (refNumber_m (x0 - la - 1) gm _ HGM.out hd0 hd1) ?_; rintro e w3 ⟨A3, c3, rfl, rr3, hb3⟩; have ho3 := HOA.out.belowH hb3 rfl; have HB3 := Lib.hid (HEA.out.trans (below_H (w := wr.alloc (.cells #[.int .u64 x0, .int .u64 x1] 43)) (hb3.mono hsA) rfl rfl rfl rfl)); have hs3 := HB3.out.size; have HY3 := Lib.hid (blk_below HYA.out hb3 rfl); refine ⟨_, rfl, ?_⟩) | ((with_reducible refine gate_sbuiltin (b := .append) rfl ?_); refine step_pushAll w.heap.size _ P _ _ _ _ _ rfl rfl Try.underlying23 ji jz0 jz1 jz2 rfl rfl rfl rr3 ho3 hs3 BB3.1 BB3.2 ?_; intro v4 w4 ho4 hg4 _; have HY4 := Lib.hid (grown_block ho3 hg4 HY3.out hne53); have y41 := blk_cell HY4.out 1 rfl))
              all_goals
                try go_wp2_with fail
                have HB4 := HB3.out.grown hg4 hs3 (fun g hg => (ho3.block g hg).1)
                have HG2 := Lib.hid (show gapsP false none l = (gapsP false (if i + 1 = 0 then none else some (l.getD (i + 1 - 1) (0, 0)).1) (l.drop (i + 1))).map ((done ++ num gm) ++ ·) by rw [HG2.out]; simp [vals])
                go_roundw
                case rel => exact ⟨i + 1, done ++ num gm, P ++ num gm, by omega, by go_num, (by show _ = _; rw [HPE.out]; simp), ho4, (by rw [List.length_append]; have := HN1.out; omega), HG2, HB4⟩
                case measure => simp [intOf]; omega
      · obtain rfl : i = l.length := by omega
        have HS := Lib.hid (show refBytesR false l = (P, 0) by
          have hnil : ∀ o : Option Int, gapsP false o [] = some [] := fun o => by cases o <;> rfl
          unfold refBytesR
          rw [HG.out, List.drop_length, hnil, HPE.out]
          simp)
        go_wp2
        go_ret2
        exact ⟨_, ret_ve (by rw [HS.out]), by rw [HS.out]; exact HO.out, HBW.out⟩
  · go_wp2_with fail
    refine (refNumber_n l.length _ (by omega)).mono ?_
    rintro e w1 ⟨A1, c1, rfl, rr1, hb1⟩
    have ho1 := (Own.made (k := .u8) (e := 5) (w := w) (base := w.heap.size) (Nat.le_refl _) [1] (by simp [maxLen])).below hb1
    have HB1 := Lib.hid (((Below.refl w.heap.size w).alloc (Nat.le_refl _) (.cells #[.int .u8 1] 5)).trans (hb1.mono (by simp)))
    have hs1 := HB1.out.size
    have BB1 : ([(1 : Int)].length + (num l.length).length) * 1 ≤ 140737488355328 ∧ [(1 : Int)].length + (num l.length).length ≤ maxLen := ⟨by simp; omega, by simp [maxLen]; omega⟩
    go_wp2_with (at_builtin; refine wpList_pushAll w.heap.size _ [1] (num l.length) _ _ _ _ rfl rfl Try.underlying23 ji jz0 jz1 jz2 rfl rfl rfl rr1 ho1 hs1 BB1.1 BB1.2 ?_; intro v2 w2 ho2 hg2 _)
    have HB2 := Lib.hid (HB1.out.grown hg2 hs1 (fun g hg => (ho1.block g hg).1))
    have HO2 := Lib.hid ho2
    clear ho1 hb1 rr1 BB1
    go_loopw [6, 21] (fun v6 v21 wr => ∃ (i : Nat) (done P : List Int), i ≤ l.length ∧ v21 = .int .i64 i ∧ Hid (P = 1 :: (num l.length ++ done)) ∧ Hid (Own .u8 5 wr w.heap.size v6 P) ∧ P.length ≤ 20 + 20 * i ∧
      Hid (gapsP true none l = (gapsP true (if i = 0 then none else some (l.getD (i - 1) (0, 0)).1) (l.drop i)).map (done ++ ·)) ∧ Hid (Below w.heap.size w wr)) (fun _ v21 _ => l.length - (intOf v21).toNat)
    case atStart => exact ⟨0, [], [1] ++ num l.length, Nat.zero_le _, rfl, (by show _ = _; simp), HO2.out, (by simp; omega), (by show _ = _; simp), HB2.out⟩
    case round =>
      obtain ⟨i, done, P, hi, rfl, HPE, HO, hPl, HG, HBW⟩ := hrel
      have hsz := HBW.out.size
      by_cases hlt : i < l.length
      · obtain ⟨ad, rfl, had, hk0, hv0⟩ := HR.out i hlt
        have hk0' := (HBW.out.cell (p := ad.add (i * 2)) (by rw [block_of_add]; exact had)).trans hk0
        have hv0' := (HBW.out.cell (p := ad.add (i * 2 + 1)) (by rw [block_of_add]; exact had)).trans hv0
        rw [pair_addr] at hv0'
        obtain ⟨⟨hx0, hx1⟩, hvv0, hvv1⟩ := HB.out.at_ hlt
        have HD := Lib.hid (drop_getDP hlt)
        have HKX := Lib.hid (show (l.getD (i + 1 - 1) (0, 0)).1 = (l.getD i (0, 0)).1 by rw [Nat.add_sub_cancel])
        have hnv := num_len10 (n := (l.getD i (0, 0)).2.toNat) (by omega)
        have HNV := Lib.hid hnv
        clear hk0 hv0 hnv
        by_cases h0 : i = 0
        · have H0 := Lib.hid h0
          generalize l.getD i (0, 0) = x at *
          obtain ⟨x0, x1⟩ := x
          have hea := HBW.out.alloc hsz (.cells #[.int .u64 x0, .int .u64 x1] 43)
          have HEA := Lib.hid hea
          have HOA := Lib.hid (HO.out.below ((Below.refl _ _).alloc (Nat.le_refl _) (.cells #[.int .u64 x0, .int .u64 x1] 43)))
          have hi0b : ((i : Int) == 0) = true := by simp [h0]
          have hn0 := num_len10 (n := x0.toNat) (by omega)
          clear h0 hea
          go_wp2_with fail
          refine (refNumber_i x0 _ hx0 hx1).mono ?_
          rintro e w3 ⟨A3, c3, rfl, rr3, hb3⟩
          have ho3 := HOA.out.below hb3
          have HB3 := Lib.hid (HEA.out.trans (hb3.mono HEA.out.size))
          have hs3 := HB3.out.size
          have HY3 := Lib.hid (blk_below (heap_alloc_new wr (.cells #[.int .u64 x0, .int .u64 x1] 43)) hb3 rfl)
          have BB3 : (P.length + (num x0.toNat).length) * 1 ≤ 140737488355328 ∧ P.length + (num x0.toNat).length ≤ maxLen := ⟨by omega, by unfold maxLen; omega⟩
          have HN1 := Lib.hid hn0
          have HG2 := Lib.hid (show gapsP true none l = (gapsP true (if i + 1 = 0 then none else some (l.getD (i + 1 - 1) (0, 0)).1) (l.drop (i + 1))).map ((done ++ (num x0.toNat ++ vals true x1)) ++ ·) by
            rw [HG.out, HD.out, if_pos H0.out, if_neg (by omega), HKX.out]
            simp [gapsP, vals, Option.map_map, Function.comp_def])
          go_wp2_with (at_builtin; refine wpList_pushAll w.heap.size _ P (num x0.toNat) _ _ _ _ rfl rfl Try.underlying23 ji jz0 jz1 jz2 rfl rfl rfl rr3 ho3 hs3 BB3.1 BB3.2 ?_; intro v4 w4 ho4 hg4 _; have HY4 := Lib.hid (grown_block ho3 hg4 HY3.out hne53); have y41 := blk_cell HY4.out 1 rfl)
          have HG2 := Lib.hid (show gapsP true none l = (gapsP true (if i + 1 = 0 then none else some (l.getD (i + 1 - 1) (0, 0)).1) (l.drop (i + 1))).map ((done ++ (num x0.toNat ++ num x1.toNat)) ++ ·) by rw [HG2.out]; simp [vals])
          have HB4 := Lib.hid (HB3.out.grown hg4 hs3 (fun g hg => (ho3.block g hg).1))
          refine (refNumber_i x1 _ hvv0 hvv1).mono ?_
          rintro e w5 ⟨A5, c5, rfl, rr5, hb5⟩
          have ho5 := ho4.below hb5
          have HB5 := Lib.hid (HB4.out.trans (hb5.mono HB4.out.size))
          have hs5 := HB5.out.size
          have BB5 : ((P ++ num x0.toNat).length + (num x1.toNat).length) * 1 ≤ 140737488355328 ∧ (P ++ num x0.toNat).length + (num x1.toNat).length ≤ maxLen := by rw [List.length_append]; have h1 := HN1.out; have h2 : (num x1.toNat).length ≤ 10 := HNV.out; exact ⟨by omega, by unfold maxLen; omega⟩
          go_wp2_with (at_builtin; refine wpList_pushAll w.heap.size _ (P ++ num x0.toNat) (num x1.toNat) _ _ _ _ rfl rfl Try.underlying23 ji jz0 jz1 jz2 rfl rfl rfl rr5 ho5 hs5 BB5.1 BB5.2 ?_; intro v6 w6 ho6 hg6 _; have HB6 := Lib.hid (HB5.out.grown hg6 hs5 (fun g hg => (ho5.block g hg).1)))
          go_roundw
          case rel => exact ⟨i + 1, done ++ (num x0.toNat ++ num x1.toNat), P ++ num x0.toNat ++ num x1.toNat, by omega, by go_num, (by show _ = _; rw [HPE.out]; simp), ho6, (by rw [List.length_append, List.length_append]; (have h1 := HN1.out; have h2 : (num x1.toNat).length ≤ 10 := HNV.out; omega)), HG2, HB6⟩
          case measure => simp [intOf]; omega
        · have hi0b : ((i : Int) == 0) = false := by simp; omega
          obtain ⟨oad, e', hoad, ok1, _⟩ := HR.out (i - 1) (by omega)
          cases e'
          have hx3 : ((i : Int) - 1).toNat = i - 1 := by omega
          have hx4 : (0 : Int) ≤ (i : Int) - 1 := by omega
          have hx5 : (i : Int) - 1 < l.length := by omega
          have hx6 : IntKind.i64.wrap ((i : Int) - 1) = (i : Int) - 1 := by rw [IntKind.wrap_i64]; omega
          have hx7 : (1 : Int) ≤ (i : Int) := by omega
          have hla := (HB.out.at_ (show i - 1 < l.length by omega)).1
          have H0 := Lib.hid h0
          generalize l.getD i (0, 0) = x at *
          obtain ⟨x0, x1⟩ := x
          generalize (l.getD (i - 1) (0, 0)).1 = la at *
          have hea := HBW.out.alloc hsz (.cells #[.int .u64 x0, .int .u64 x1] 43)
          have HEA := Lib.hid hea
          have HOA := Lib.hid (HO.out.below ((Below.refl _ _).alloc (Nat.le_refl _) (.cells #[.int .u64 x0, .int .u64 x1] 43)))
          have ok2 := (hea.cell (p := ad.add ((i - 1) * 2)) (by rw [block_of_add]; exact hoad)).trans ok1
          clear h0 hea ok1
          by_cases hle : x0 ≤ la
          · have HK := Lib.hid (show refBytesR true l = ([], 8) by
              have : gapsP true none l = none := by
                rw [HG.out, HD.out, if_neg H0.out]
                simp only [gapsP, if_pos hle]
                rfl
              simp [refBytesR, this])
            go_wp2
            go_region
            all_goals
              go_wp2
              try rw [Exit.noGoto_ret]
              go_ret2
              exact ⟨_, ret_ve (by rw [HK.out]), by rw [HK.out]; exact Own.nil _ _ _ _, by first | exact HEA.out.drew | exact HEA.out⟩
          · obtain ⟨gm, hgm⟩ : ∃ gm, (x0 - la - 1).toNat = gm := ⟨_, rfl⟩
            have hn0 := num_len10 (n := gm) (by omega)
            have HGM := Lib.hid hgm
            have HN1 := Lib.hid hn0
            have hd0 : 0 ≤ x0 - la - 1 := by omega
            have hd1 : x0 - la - 1 ≤ 18446744073709551615 := by omega
            have hw1 : IntKind.u64.wrap (x0 - la) = x0 - la := by rw [IntKind.wrap_u64]; omega
            have hw2 : IntKind.u64.wrap (x0 - la - 1) = x0 - la - 1 := by rw [IntKind.wrap_u64]; omega
            have HG2 := Lib.hid (show gapsP true none l = (gapsP true (if i + 1 = 0 then none else some (l.getD (i + 1 - 1) (0, 0)).1) (l.drop (i + 1))).map ((done ++ (num gm ++ vals true x1)) ++ ·) by
              rw [HG.out, HD.out, if_neg H0.out, if_neg (by omega), HKX.out]
              simp only [gapsP, if_neg hle, hgm, Option.map_map, Function.comp_def, vals, List.append_assoc])
            have BB3 : (P.length + (num gm).length) * 1 ≤ 140737488355328 ∧ P.length + (num gm).length ≤ maxLen := ⟨by omega, by unfold maxLen; omega⟩
            have HYA := Lib.hid (heap_alloc_new wr (.cells #[.int .u64 x0, .int .u64 x1] 43))
            have hsA := HEA.out.size
            clear hn0 hgm
            go_wp2
            go_region
            all_goals
              go_wp2
              go_region_law (first | ((with_reducible refine gate_scall (f := 14) rfl ?_); refine step_goes rfl Try.func14 (by kernel_rfl) rfl #[.int .u64 (x0 - la - 1)] rfl (by simp only [List.map_toArray, List.map_cons, List.map_nil]; rfl) (refNumber_m (x0 - la - 1) gm _ HGM.out hd0 hd1) ?_; rintro e w3 ⟨A3, c3, rfl, rr3, hb3⟩; have ho3 := HOA.out.belowH hb3 rfl; have HB3 := Lib.hid (HEA.out.trans (below_H (w := wr.alloc (.cells #[.int .u64 x0, .int .u64 x1] 43)) (hb3.mono hsA) rfl rfl rfl rfl)); have hs3 := HB3.out.size; have HY3 := Lib.hid (blk_below HYA.out hb3 rfl); refine ⟨_, rfl, ?_⟩) | ((with_reducible refine gate_sbuiltin (b := .append) rfl ?_); refine step_pushAll w.heap.size _ P _ _ _ _ _ rfl rfl Try.underlying23 ji jz0 jz1 jz2 rfl rfl rfl rr3 ho3 hs3 BB3.1 BB3.2 ?_; intro v4 w4 ho4 hg4 _; have HY4 := Lib.hid (grown_block ho3 hg4 HY3.out hne53); have y41 := blk_cell HY4.out 1 rfl))
              all_goals
                try go_wp2_with fail
                have HG2 := Lib.hid (show gapsP true none l = (gapsP true (if i + 1 = 0 then none else some (l.getD (i + 1 - 1) (0, 0)).1) (l.drop (i + 1))).map ((done ++ (num gm ++ num x1.toNat)) ++ ·) by rw [HG2.out]; simp [vals])
                have HB4 := Lib.hid (HB3.out.grown hg4 hs3 (fun g hg => (ho3.block g hg).1))
                refine (refNumber_i x1 _ hvv0 hvv1).mono ?_
                rintro e w5 ⟨A5, c5, rfl, rr5, hb5⟩
                have ho5 := ho4.below hb5
                have HB5 := Lib.hid (HB4.out.trans (hb5.mono HB4.out.size))
                have hs5 := HB5.out.size
                have BB5 : ((P ++ num gm).length + (num x1.toNat).length) * 1 ≤ 140737488355328 ∧ (P ++ num gm).length + (num x1.toNat).length ≤ maxLen := by rw [List.length_append]; have h1 := HN1.out; have h2 : (num x1.toNat).length ≤ 10 := HNV.out; exact ⟨by omega, by unfold maxLen; omega⟩
                go_wp2_with (at_builtin; refine wpList_pushAll w.heap.size _ (P ++ num gm) (num x1.toNat) _ _ _ _ rfl rfl Try.underlying23 ji jz0 jz1 jz2 rfl rfl rfl rr5 ho5 hs5 BB5.1 BB5.2 ?_; intro v6 w6 ho6 hg6 _; have HB6 := Lib.hid (HB5.out.grown hg6 hs5 (fun g hg => (ho5.block g hg).1)))
                go_roundw
                case rel => exact ⟨i + 1, done ++ (num gm ++ num x1.toNat), P ++ num gm ++ num x1.toNat, by omega, by go_num, (by show _ = _; rw [HPE.out]; simp), ho6, (by rw [List.length_append, List.length_append]; (have h1 := HN1.out; have h2 : (num x1.toNat).length ≤ 10 := HNV.out; omega)), HG2, HB6⟩
                case measure => simp [intOf]; omega
      · obtain rfl : i = l.length := by omega
        have HS := Lib.hid (show refBytesR true l = (P, 0) by
          have hnil : ∀ o : Option Int, gapsP true o [] = some [] := fun o => by cases o <;> rfl
          unfold refBytesR
          rw [HG.out, List.drop_length, hnil, HPE.out]
          simp)
        go_wp2
        go_ret2
        exact ⟨_, ret_ve (by rw [HS.out]), by rw [HS.out]; exact HO.out, HBW.out⟩
theorem refBytes_b (A : Option Addr) (c m : Nat) (l : List (Int × Int)) (two : Bool) (w : World) (hm : l.length = m) (hB : U64P l) (hr : RdP w A l) (hlen : l.length ≤ 1000) :
    Calls Try.prog 21 #[.slice A m c, .bool two] w fun e w' => ∃ (B : Option Addr) (d : Nat) (p : List Int) (er : Int), e = .returned (.tuple #[.slice B p.length d, .int .i64 er]) ∧ Hid (bytesR two l = (p, er)) ∧ p.length ≤ d ∧ Rd .u8 w' B p ∧ Below w.heap.size w w' := by
  subst hm
  refine (refBytes_any A c l two w hB hr hlen).mono ?_
  rintro e w' ⟨v, rfl, ho, hb⟩
  rw [refBytesR_eq two l (by omega)] at ho ⊢
  obtain ⟨B, d, rfl, hd, _, hr'⟩ := ho.form
  exact ⟨B, d, _, _, rfl, rfl, hd, hr', hb⟩
end Go.Proofs.Ytnlflpcioiieaaa
