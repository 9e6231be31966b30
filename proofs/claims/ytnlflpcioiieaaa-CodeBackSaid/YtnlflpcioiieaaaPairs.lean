/-
  code.Pairs walked.
-/
import Derived.Test.YtnlflpcioiieaaaKeys
import Derived.Test.YtnlflpcioiieaaaItems
import Derived.Test.YtnlflpcioiieaaaPair
namespace Go.Proofs.Ytnlflpcioiieaaa
set_option linter.unusedVariables false
set_option linter.unusedSimpArgs false
open Go.RowKit

theorem U64P.at_ {l : List (Int × Int)} (h : U64P l) {k : Nat} (hk : k < l.length) : (0 ≤ (l.getD k (0, 0)).1 ∧ (l.getD k (0, 0)).1 ≤ 18446744073709551615) ∧ (0 ≤ (l.getD k (0, 0)).2 ∧ (l.getD k (0, 0)).2 ≤ 18446744073709551615) :=
  h _ (by rw [List.getD_eq_getElem?_getD, List.getElem?_eq_getElem hk]; exact List.getElem_mem hk)
theorem drop_getDP {l : List (Int × Int)} {k : Nat} (hk : k < l.length) : l.drop k = l.getD k (0, 0) :: l.drop (k + 1) := by
  rw [List.getD_eq_getElem?_getD, List.getElem?_eq_getElem hk]; exact List.drop_eq_getElem_cons hk

theorem Enc.put {w : World} {base b : Nat} {l : List Int} {x v : Value} {k n : Int} (hh : w.heap[b]? = some (.cells #[x, .int .u64 k, .int .i64 n] 63 (0, 0))) (ho : Own .u8 5 w base v l) (hb : base ≤ b) : Enc (w.setCell ⟨b, 0, none⟩ v) base b l k n := by
  have h1 := blk_set hh 0 v
  exact ⟨hb, v, by simpa using h1, own_set ho hh (by decide) 0 v⟩

set_option maxHeartbeats 1000000 in
set_option maxRecDepth 100000 in
theorem pairs_any (A : Option Addr) (c : Nat) (l : List (Int × Int)) (w : World) (hB : U64P l) (hr : RdP w A l) (hlen : l.length ≤ 1000000) :
    Calls Try.prog 20 #[.slice A l.length c] w fun e w' => ∃ v, e = .returned (.tuple #[v, .int .i64 (bytesR true l).2]) ∧ Own .u8 5 w' w.heap.size v (bytesR true l).1 ∧ Below w.heap.size w w' := by
  have HR := Lib.hid hr
  have HB := Lib.hid hB
  clear hr hB
  have hl10 := num_len10 (n := l.length) (by omega)
  go_enter Try.func20, Try.ntmps20
  go_wp2_with fail
  refine (begin_any _ _ _ (by omega) (by omega)).mono ?_
  rintro e w1 ⟨b, rfl, hE1, hb1⟩
  rw [Int.toNat_natCast] at hE1
  obtain ⟨q0, qi, qz0, qz1, qz2⟩ := info_parts u8_info
  go_wp2_with fail
  go_loopw [6, 12] (fun v6 v12 wr => ∃ (i : Nat) (done : List Int) (last : Int), i ≤ l.length ∧ v12 = .int .i64 i ∧ Hid (gapsP true none l = (gapsP true (if i = 0 then none else some last) (l.drop i)).map (done ++ ·)) ∧ Hid (Enc wr w.heap.size b (1 :: (num l.length ++ done)) last i) ∧
    done.length ≤ 20 * i ∧ Hid (i ≠ 0 → 0 ≤ last) ∧ Below w.heap.size w wr) (fun _ v12 _ => l.length - (intOf v12).toNat)
  case atStart => exact ⟨0, [], 0, Nat.zero_le _, rfl, (by show _ = _; simp), (by show Enc _ _ _ _ _ _; rw [List.append_nil]; exact hE1), by simp, fun h => absurd rfl h, hb1⟩
  case round =>
    obtain ⟨i, done, last, hi, rfl, HG, HE, hd, HL, hb⟩ := hrel
    have hsz := hb.size
    by_cases hlt : i < l.length
    · obtain ⟨ad, rfl, had, hk0, hv0⟩ := HR.out i hlt
      have hk0' := (hb.cell (p := ad.add (i * 2)) (by rw [block_of_add]; exact had)).trans hk0
      have hv0' := (hb.cell (p := ad.add (i * 2 + 1)) (by rw [block_of_add]; exact had)).trans hv0
      rw [pair_addr] at hv0'
      clear hk0 hv0
      obtain ⟨⟨hx0, hx1⟩, hv0, hv1⟩ := HB.out.at_ hlt
      have HV := Lib.hid (show (l.getD i (0, 0)).2 < 18446744073709551616 by omega)
      have HD := Lib.hid (drop_getDP hlt)
      generalize l.getD i (0, 0) = x at *
      have hplen : (1 :: (num l.length ++ done)).length ≤ 35184372088832 := by simp; omega
      have hnv := num_len10 (n := x.2.toNat) (by omega)
      have hea := hb.alloc hsz (.cells #[.int .u64 x.1, .int .u64 x.2] 43)
      have hsza := hea.size
      by_cases h0 : i = 0
      · have HE0 := Lib.hid (show Enc (wr.alloc (.cells #[.int .u64 x.1, .int .u64 x.2] 43)) w.heap.size b (1 :: (num l.length ++ done)) last 0 by have := HE.out.below ((Below.refl _ _).alloc (Nat.le_refl _) (.cells #[.int .u64 x.1, .int .u64 x.2] 43)); rw [h0] at this; exact this)
        have hnl := num_len10 (n := x.1.toNat) (by omega)
        have H0 := Lib.hid h0
        clear h0
        go_wp2_with fail
        refine (key_first b x.1 last _ _ w.heap.size HE0.out hsza hx0 (by omega) (by omega)).mono ?_
        rintro e w2 ⟨rfl, hE2, hb2, hk2⟩
        have HG2 := Lib.hid (show gapsP true none l = (gapsP true (if i + 1 = 0 then none else some x.1) (l.drop (i + 1))).map ((done ++ (num x.1.toNat ++ num x.2.toNat)) ++ ·) by
          rw [HG.out, HD.out, if_pos H0.out, if_neg (by omega)]
          simp [gapsP, vals, Option.map_map, Function.comp_def])
        have HNL := Lib.hid hnv
        have HNX := Lib.hid hnl
        go_wp2
        have hpl2 : ((1 :: (num l.length ++ done)) ++ num x.1.toNat).length ≤ 70368744177664 := by first | (rw [List.length_append]; omega) | (simp only [List.length_append, List.length_cons] at hplen ⊢; omega)
        obtain ⟨p2, hp2⟩ : ∃ p2, (1 :: (num l.length ++ done)) ++ num x.1.toNat = p2 := ⟨_, rfl⟩
        rw [hp2] at hE2 hpl2
        have HP2 := Lib.hid hp2
        have HPL := Lib.hid hpl2
        clear hp2 hpl2
        have HE2 := Lib.hid hE2
        have HKT := Lib.hid hk2
        have HB2 := Lib.hid hb2
        obtain ⟨A2, c2, hc2, hm2, hr2, ho2, hh2, hbb⟩ := hE2.cells
        have HYB := Lib.hid (hk2 wr.heap.size _ 43 (by decide) (by decide) (heap_alloc_new wr (.cells #[.int .u64 x.1, .int .u64 x.2] 43)))
        have y1 := blk_cell HYB.out 1 rfl
        have c0 := blk_cell hh2 0 rfl
        have f0 := blk_free hh2 0
        have hbase2 := Nat.le_trans hsza hb2.size
        have HH := Lib.hid hh2
        have HO := Lib.hid ho2
        have hq6 : (p2.length + (num x.2.toNat).length) * 1 ≤ 140737488355328 := by have := HPL.out; have := HNL.out; omega
        have hq7 : p2.length + (num x.2.toNat).length ≤ maxLen := by unfold maxLen; have := HPL.out; have := HNL.out; omega
        clear hh2 ho2 hr2 hE2 hk2 hb2
        go_region_law (first | ((with_reducible refine gate_scall (f := 11) rfl ?_); refine step_goes rfl Try.func11 (by kernel_rfl) rfl #[.int .u64 x.2] rfl (by simp only [List.map_toArray, List.map_cons, List.map_nil]; rfl) (number_int x.2 _ hv0 HV.out) ?_; rintro e w3 ⟨v3, rfl, ho3, hb3⟩; obtain ⟨A3, c3, rfl, hc3, hm3, hr3⟩ := ho3.form; have hO3 := HO.out.belowH hb3 rfl; have hbl3 := Nat.le_trans hbase2 hb3.size; have hh3 := Lib.hid (blk_below HH.out hb3 rfl); have hc03 := blk_cell hh3.out 0 rfl; refine ⟨_, rfl, ?_⟩) | ((with_reducible refine gate_sbuiltin (b := .append) rfl ?_); refine step_pushAll w.heap.size _ p2 _ _ _ _ _ rfl rfl Try.underlying23 qi qz0 qz1 qz2 rfl rfl rfl hr3 hO3 hbl3 hq6 hq7 ?_; intro v4 w4 ho4 hg4 _; obtain ⟨A4, c4, rfl, hc4, hm4, hr4⟩ := ho4.form; have hh4 := Lib.hid (grown_block hO3 hg4 hh3.out (by decide)); have hf4 := blk_free hh4.out 0; have hc04 := blk_cell hh4.out 0 rfl))
        all_goals
          have hb4 := ((hea.trans HB2.out).trans ((below_H (w := w2) (hb3.mono hbase2) rfl rfl rfl rfl).grown hg4 hbl3 (fun g hgk => (hO3.block g hgk).1))).setCell (p := ⟨b, 0, none⟩) hbb (.slice A4 (p2 ++ num x.2.toNat).length c4)
          have hE4 := Enc.put hh4.out ho4 hbb
          rw [List.length_append] at hb4 hE4
          go_wp2
          go_roundw
          case rel => exact ⟨i + 1, done ++ (num x.1.toNat ++ num x.2.toNat), x.1, by omega, by go_num, HG2, (by rw [show 1 :: (num l.length ++ (done ++ (num x.1.toNat ++ num x.2.toNat))) = p2 ++ num x.2.toNat by rw [← HP2.out]; simp]; first | exact hE4 | (rw [H0.out]; exact hE4)), (by have := HNL.out; have := HNX.out; rw [List.length_append, List.length_append]; omega), fun _ => hx0, hb4⟩
          case measure => simp [intOf] <;> omega
      · have hi0 : (0 : Int) < i := by omega
        have hla := HL.out h0
        have HEA := Lib.hid (HE.out.below ((Below.refl _ _).alloc (Nat.le_refl _) (.cells #[.int .u64 x.1, .int .u64 x.2] 43)))
        by_cases hle : x.1 ≤ last
        · have HK := Lib.hid (show bytesR true l = ([], 8) by
            have : gapsP true none l = none := by
              rw [HG.out, HD.out, if_neg h0]
              simp [gapsP, hle]
            simp [bytesR, this])
          go_wp2_with fail
          refine (key_no b x.1 last _ _ _ w.heap.size HEA.out hi0 hle).mono ?_
          rintro e w2 ⟨rfl, rfl⟩
          go_wp2
          go_ret2
          exact ⟨_, ret_ve (by rw [HK.out]), by rw [HK.out]; exact Own.nil _ _ _ _, hea⟩
        · have HG2 := Lib.hid (show gapsP true none l = (gapsP true (if i + 1 = 0 then none else some x.1) (l.drop (i + 1))).map ((done ++ (num (x.1 - last - 1).toNat ++ num x.2.toNat)) ++ ·) by
            rw [HG.out, HD.out, if_neg h0, if_neg (by omega)]
            simp [gapsP, vals, hle, Option.map_map, Function.comp_def])
          have hnl := num_len10 (n := (x.1 - last - 1).toNat) (by omega)
          have HNX := Lib.hid hnl
          have HNL := Lib.hid hnv
          go_wp2_with fail
          refine (key_next b x.1 last _ _ _ w.heap.size HEA.out hsza hla (by omega) hx1 hi0 (by omega) (by omega)).mono ?_
          rintro e w2 ⟨rfl, hE2, hb2, hk2⟩
          go_wp2
          have hpl2 : ((1 :: (num l.length ++ done)) ++ num (x.1 - last - 1).toNat).length ≤ 70368744177664 := by first | (rw [List.length_append]; omega) | (simp only [List.length_append, List.length_cons] at hplen ⊢; omega)
          obtain ⟨p2, hp2⟩ : ∃ p2, (1 :: (num l.length ++ done)) ++ num (x.1 - last - 1).toNat = p2 := ⟨_, rfl⟩
          rw [hp2] at hE2 hpl2
          have HP2 := Lib.hid hp2
          have HPL := Lib.hid hpl2
          clear hp2 hpl2
          have HE2 := Lib.hid hE2
          have HKT := Lib.hid hk2
          have HB2 := Lib.hid hb2
          obtain ⟨A2, c2, hc2, hm2, hr2, ho2, hh2, hbb⟩ := hE2.cells
          have HYB := Lib.hid (hk2 wr.heap.size _ 43 (by decide) (by decide) (heap_alloc_new wr (.cells #[.int .u64 x.1, .int .u64 x.2] 43)))
          have y1 := blk_cell HYB.out 1 rfl
          have c0 := blk_cell hh2 0 rfl
          have f0 := blk_free hh2 0
          have hbase2 := Nat.le_trans hsza hb2.size
          have HH := Lib.hid hh2
          have HO := Lib.hid ho2
          have hq6 : (p2.length + (num x.2.toNat).length) * 1 ≤ 140737488355328 := by have := HPL.out; have := HNL.out; omega
          have hq7 : p2.length + (num x.2.toNat).length ≤ maxLen := by unfold maxLen; have := HPL.out; have := HNL.out; omega
          clear hh2 ho2 hr2 hE2 hk2 hb2
          go_region_law (first | ((with_reducible refine gate_scall (f := 11) rfl ?_); refine step_goes rfl Try.func11 (by kernel_rfl) rfl #[.int .u64 x.2] rfl (by simp only [List.map_toArray, List.map_cons, List.map_nil]; rfl) (number_int x.2 _ hv0 HV.out) ?_; rintro e w3 ⟨v3, rfl, ho3, hb3⟩; obtain ⟨A3, c3, rfl, hc3, hm3, hr3⟩ := ho3.form; have hO3 := HO.out.belowH hb3 rfl; have hbl3 := Nat.le_trans hbase2 hb3.size; have hh3 := Lib.hid (blk_below HH.out hb3 rfl); have hc03 := blk_cell hh3.out 0 rfl; refine ⟨_, rfl, ?_⟩) | ((with_reducible refine gate_sbuiltin (b := .append) rfl ?_); refine step_pushAll w.heap.size _ p2 _ _ _ _ _ rfl rfl Try.underlying23 qi qz0 qz1 qz2 rfl rfl rfl hr3 hO3 hbl3 hq6 hq7 ?_; intro v4 w4 ho4 hg4 _; obtain ⟨A4, c4, rfl, hc4, hm4, hr4⟩ := ho4.form; have hh4 := Lib.hid (grown_block hO3 hg4 hh3.out (by decide)); have hf4 := blk_free hh4.out 0; have hc04 := blk_cell hh4.out 0 rfl))
          all_goals
            have hb4 := ((hea.trans HB2.out).trans ((below_H (w := w2) (hb3.mono hbase2) rfl rfl rfl rfl).grown hg4 hbl3 (fun g hgk => (hO3.block g hgk).1))).setCell (p := ⟨b, 0, none⟩) hbb (.slice A4 (p2 ++ num x.2.toNat).length c4)
            have hE4 := Enc.put hh4.out ho4 hbb
            rw [List.length_append] at hb4 hE4
            go_wp2
            go_roundw
            case rel => exact ⟨i + 1, done ++ (num (x.1 - last - 1).toNat ++ num x.2.toNat), x.1, by omega, by go_num, HG2, (by rw [show 1 :: (num l.length ++ (done ++ (num (x.1 - last - 1).toNat ++ num x.2.toNat))) = p2 ++ num x.2.toNat by rw [← HP2.out]; simp]; first | exact hE4 | (rw [H0.out]; exact hE4)), (by have := HNL.out; have := HNX.out; rw [List.length_append, List.length_append]; omega), fun _ => hx0, hb4⟩
            case measure => simp [intOf] <;> omega
    · obtain rfl : i = l.length := by omega
      have HS := Lib.hid (show gapsP true none l = some done by
        rw [HG.out, List.drop_length]
        simp [gapsP])
      obtain ⟨A2, c2, _, _, hr2, ho2, hh2, hbb⟩ := HE.out.cells
      have e0 := blk_cell hh2 0 rfl
      have HO2 := Lib.hid ho2
      clear ho2 hh2 hr2
      by_cases hmx : 262144 < l.length
      · have HK := Lib.hid (show bytesR true l = ([], 1) by simp [bytesR, HS.out, hmx])
        go_wp2
        go_ret2
        exact ⟨_, ret_ve (by rw [HK.out]), by rw [HK.out]; exact Own.nil _ _ _ _, hb⟩
      · have HK := Lib.hid (show bytesR true l = (1 :: (num l.length ++ done), 0) by simp [bytesR, HS.out, hmx])
        go_wp2
        go_ret2
        exact ⟨_, ret_ve (by rw [HK.out]), by rw [HK.out]; have h := HO2.out; simp only [List.length_cons, List.length_append] at h; exact h, hb⟩
end Go.Proofs.Ytnlflpcioiieaaa
