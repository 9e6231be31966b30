/-
  slices' BinarySearch, Clone, Grow, Concat at uint64, walked.
-/
import Derived.Test.YtmpjjehihimadaaGreatCollF
import Derived.Test.YtmpjjehihimadaaGreatZeros
import Derived.IntWalk
import Derived.Lib.Tables
namespace Go.Proofs.YtmpjjehihimadaaGreat
set_option linter.unusedVariables false
set_option linter.unusedSimpArgs false
open Go.RowKit

set_option maxHeartbeats 1000000 in
set_option maxRecDepth 100000 in
theorem bs64 (A : Option Addr) (c : Nat) (l : List Int) (v : Int) (w : World) (hr : Rd .u64 w A l) (hlen : l.length ≤ 1000000) :
    Calls Tryz.prog 246 #[.slice A l.length c, .int .u64 v] w fun e w' => ∃ (i : Nat) (b : Bool), e = .returned (.tuple #[.int .i64 i, .bool b]) ∧ i ≤ l.length ∧ Hid (b = true → i < l.length) ∧ Hid (Below w.heap.size w w') := by
  have HR := Lib.hid hr
  clear hr
  go_enter Tryz.func246, Tryz.ntmps246
  go_wp2
  go_loopw [7, 8] (fun v7 v8 wr => ∃ i j : Nat, v7 = .int .i64 i ∧ v8 = .int .i64 j ∧ i ≤ j ∧ j ≤ l.length ∧ Below w.heap.size w wr) (fun v7 v8 _ => (intOf v8).toNat - (intOf v7).toNat)
  case atStart => exact ⟨0, l.length, rfl, rfl, Nat.zero_le _, Nat.le_refl _, Below.refl _ _⟩
  case round =>
    obtain ⟨i, j, rfl, rfl, hi, hjl, hb⟩ := hrel
    by_cases hlt : i < j
    · have hw1 : IntKind.i64.wrap ((i : Int) + (j : Int)) = (i : Int) + (j : Int) := by rw [IntKind.wrap_i64]; omega
      have hw2 : IntKind.u64.wrap ((i : Int) + (j : Int)) = (i : Int) + (j : Int) := by rw [IntKind.wrap_u64]; omega
      obtain ⟨h, hh, hih, hhj⟩ : ∃ h : Nat, ((i : Int) + (j : Int)) / 2 = (h : Int) ∧ i ≤ h ∧ h < j := ⟨(i + j) / 2, by omega, by omega, by omega⟩
      have hhl : h < l.length := by omega
      obtain ⟨ad, rfl, had, hc⟩ := HR.out h hhl
      have hc' := (hb.cell (p := ad.add h) (by rw [block_of_add]; exact had)).trans hc
      clear hc
      generalize l.getD h 0 = x at *
      by_cases hxv : x < v
      · go_wp2
        go_roundw
        case rel => exact ⟨h + 1, j, by go_num, rfl, by omega, hjl, hb⟩
        case measure => simp [intOf]; omega
      · go_wp2
        go_roundw
        case rel => exact ⟨i, h, rfl, rfl, hih, by omega, hb⟩
        case measure => simp [intOf]; omega
    · obtain rfl : i = j := by omega
      by_cases hil : i < l.length
      · obtain ⟨ad, rfl, had, hc⟩ := HR.out i hil
        have hc' := (hb.cell (p := ad.add i) (by rw [block_of_add]; exact had)).trans hc
        clear hc
        generalize l.getD i 0 = x at *
        by_cases hxv : x = v
        · subst hxv
          have hb2 : (x == x) = true := by simp
          go_wp2
          go_ret2
          exact ⟨i, true, rfl, hjl, fun _ => hil, hb⟩
        · have hb2 : (x == v) = false := by simp [hxv]
          go_wp2
          go_ret2
          exact ⟨i, false, rfl, hjl, fun h => (by cases h), hb⟩
      · go_wp2
        go_ret2
        exact ⟨i, false, rfl, hjl, fun h => (by cases h), hb⟩
set_option maxHeartbeats 400000 in
set_option maxRecDepth 100000 in
theorem clone64 (A : Option Addr) (c : Nat) (l : List Int) (w : World) (hr : Rd .u64 w A l) (hlen : l.length ≤ 1000000) :
    Calls Tryz.prog 37 #[.slice A l.length c] w fun e w' => ∃ v, e = .returned v ∧ Own .u64 22 w' w.heap.size v l ∧ Below w.heap.size w w' := by
  obtain ⟨i0, hi, hz0, hz1, hz2⟩ := info_parts u64_info
  have hq := fun w => Lib.run_eql_slice_nil (P := Tryz.prog) w 38 22 A l.length c 0 0 Tryz.underlying38
  have HR := Lib.hid hr
  clear hr
  rcases A with _ | ad
  · have hl : l = [] := by
      rcases l with _ | ⟨x, l⟩
      · rfl
      · obtain ⟨_, e, _⟩ := HR.out 0 (by simp); cases e
    subst hl
    clear hq
    have hq := fun w => Lib.run_eql_slice_nil (P := Tryz.prog) w 38 22 none 0 c 0 0 Tryz.underlying38
    go_enter Tryz.func37, Tryz.ntmps37
    go_wp2
    go_ret
    exact ⟨_, rfl, Own.nil _ _ _ _, Below.refl _ _⟩
  · have hown := Own.made (k := .u64) (e := 22) (w := w) (base := w.heap.size) (Nat.le_refl _) [] (by simp [maxLen])
    have hb := (Below.refl w.heap.size w).alloc (Nat.le_refl _) (.cells #[] 22)
    go_enter Tryz.func37, Tryz.ntmps37
    go_wp2_with (at_builtin; refine wpList_pushAll w.heap.size _ [] l _ c _ _ rfl rfl Tryz.underlying38 hi hz0 hz1 hz2 rfl rfl rfl (HR.out.below ((Below.refl _ _).alloc (Nat.le_refl _) _)) hown ?g0 ?g1 ?g2 ?_; (case g0 => simp); (case g1 => simp; omega); (case g2 => simp [maxLen]; omega); intro v2 w2 ho2 hg2 _)
    go_ret
    exact ⟨_, rfl, ho2, hb.grown hg2 (by simp) (fun g hgk => (hown.block g hgk).1)⟩
/-- a row of the call's own, cut to nothing -/
theorem Own.cut0 {k : IntKind} {e : TypeId} {w : World} {base : Nat} {A : Option Addr} {n c : Nat} {l : List Int} (h : Own k e w base (.slice A n c) l) : Own k e w base (.slice A 0 c) [] := by
  obtain ⟨h1, h2⟩ := h
  refine ⟨rfl, ?_⟩
  rcases h2 with ⟨h2, h3⟩ | ⟨g, cap, cur, e1, hg, hh, hnc, hcap, hsz, htk⟩
  · injection h2 with a1 a2 a3
    subst a1; subst a3
    exact .inl ⟨rfl, rfl⟩
  · injection e1 with a1 a2 a3
    subst a1; subst a3
    exact .inr ⟨g, _, cur, rfl, hg, hh, Nat.zero_le _, hcap, hsz, by simp⟩
set_option maxHeartbeats 400000 in
set_option maxRecDepth 100000 in
theorem grow64 (n : Nat) (w : World) (hn : n ≤ 1000000) :
    Calls Tryz.prog 255 #[.slice none 0 0, .int .i64 n] w fun e w' => ∃ v, e = .returned v ∧ Own .u64 22 w' w.heap.size v [] ∧ Below w.heap.size w w' := by
  obtain ⟨i0, hi, hz0, hz1, hz2⟩ := info_parts u64_info
  have hnil := Lib.hid (Own.nil .u64 22 w w.heap.size)
  have hb1 : ([] : List Int).length + n ≤ maxLen := by simp [maxLen]; omega
  have hb2 : (([] : List Int).length + n) * 8 ≤ 140737488355328 := by simp; omega
  go_enter Tryz.func255, Tryz.ntmps255
  by_cases h0 : 0 < n
  · have h0i : (0 : Int) < n := by omega
    have h0j : ¬ (n : Int) < 0 := by omega
    go_wp2_with (at_builtin; refine wpList_appendZeros (kx := .i64) w.heap.size _ [] n _ _ rfl rfl Tryz.underlying38 Tryz.underlying3 hi hz0 hz1 hz2 (by decide) rfl rfl hnil.out (Nat.le_refl _) hb2 hb1 ?_; intro v2 w2 ho2 hg2 hx2; obtain ⟨A2, c2, rfl, hc2, _, _⟩ := ho2.form; have HO := Lib.hid ho2.cut0; have HB := Lib.hid ((Below.refl w.heap.size w).grown hg2 (Nat.le_refl _) (fun g hgk => (hnil.out.block g hgk).1)); clear ho2 hg2 hx2)
    go_ret
    exact ⟨_, rfl, HO.out, HB.out⟩
  · obtain rfl : n = 0 := by omega
    go_wp2
    go_ret
    exact ⟨_, rfl, hnil.out, Below.refl _ _⟩
set_option maxHeartbeats 1000000 in
set_option maxRecDepth 100000 in
theorem concat64 (B : Nat) (A0 A1 A2 : Option Addr) (c0 c1 c2 : Nat) (l0 l1 l2 : List Int) (w : World) (hB : w.heap[B]? = some (.cells #[.slice A0 l0.length c0, .slice A1 l1.length c1, .slice A2 l2.length c2] 38 (0, 0)))
    (h0 : Rd .u64 w A0 l0) (h1 : Rd .u64 w A1 l1) (h2 : Rd .u64 w A2 l2) (hl : l0.length + l1.length + l2.length ≤ 1000000) :
    Calls Tryz.prog 247 #[.slice (some ⟨B, 0, none⟩) 3 3] w fun e w' => ∃ v, e = .returned v ∧ Own .u64 22 w' w.heap.size v (l0 ++ l1 ++ l2) ∧ Below w.heap.size w w' := by
  obtain ⟨i0, hi, hz0, hz1, hz2⟩ := info_parts u64_info
  have H0 := Lib.hid h0
  have H1 := Lib.hid h1
  have H2 := Lib.hid h2
  have HB := Lib.hid hB
  have q0 := blk_cell hB 0 rfl
  have q1 := blk_cell hB 1 rfl
  have q2 := blk_cell hB 2 rfl
  have BB : ∀ a b : Nat, a + b ≤ 1000000 → (a + b) * 8 ≤ 140737488355328 ∧ a + b ≤ maxLen := fun a b h => ⟨by omega, by unfold maxLen; omega⟩
  clear h0 h1 h2 hB
  go_enter Tryz.func247, Tryz.ntmps247
  go_wp2
  go_loopw [3, 11] (fun v3 v11 wr => ∃ k s : Nat, k ≤ 3 ∧ v11 = .int .i64 k ∧ v3 = .int .i64 s ∧ Hid (s = if k = 0 then 0 else if k = 1 then l0.length else if k = 2 then l0.length + l1.length else l0.length + l1.length + l2.length) ∧ wr = w) (fun _ v11 _ => 3 - (intOf v11).toNat)
  case atStart => exact ⟨0, 0, by omega, rfl, rfl, rfl, rfl⟩
  case round =>
    obtain ⟨k, s, hk, rfl, rfl, HS, rfl⟩ := hrel
    rcases k with _ | _ | _ | _ | k
    · obtain rfl : s = 0 := HS.out
      clear HS
      go_wp2
      go_roundw
      case rel => exact ⟨1, l0.length, by omega, rfl, by simp, rfl, trivial⟩
      case measure => simp [intOf]
    · obtain rfl : s = l0.length := HS.out
      clear HS
      go_wp2
      go_roundw
      case rel => exact ⟨2, l0.length + l1.length, by omega, rfl, by simp, rfl, trivial⟩
      case measure => simp [intOf]
    · have hs : s = l0.length + l1.length := HS.out
      have hs2 : IntKind.i64.wrap ((s : Int) + (l2.length : Int)) = (s : Int) + (l2.length : Int) := by rw [IntKind.wrap_i64]; omega
      have hs3 : ¬ (s : Int) + (l2.length : Int) < 0 := by omega
      have hs4 : s + l2.length = l0.length + l1.length + l2.length := by omega
      have hs5 : s ≤ 1000000 := by omega
      have HS4 := Lib.hid hs4
      clear hs hs4 HS
      go_wp2
      go_roundw
      case rel => exact ⟨3, s + l2.length, by omega, rfl, by simp, HS4.out, trivial⟩
      case measure => simp [intOf]
    · have hs : s ≤ 1000000 := by have : s = l0.length + l1.length + l2.length := HS.out; omega
      clear HS
      rename World => w
      go_wp2_with fail
      refine (grow64 s _ hs).mono ?_
      rintro e w1 ⟨v6, rfl, ho1, hb1⟩
      have HO1 := Lib.hid ho1
      have q0' := (hb1.cell (p := ⟨B, 0, none⟩) (blk_lt HB.out)).trans q0
      have q1' := (hb1.cell (p := ⟨B, 1, none⟩) (blk_lt HB.out)).trans q1
      have q2' := (hb1.cell (p := ⟨B, 2, none⟩) (blk_lt HB.out)).trans q2
      have HB1 := Lib.hid hb1
      have hbw := blk_lt HB.out
      clear ho1 hb1 q0 q1 q2
      go_wp2_with fail
      go_loopw [6, 27] (fun v6 v27 wr => ∃ (k : Nat) (p : List Int), k ≤ 3 ∧ v27 = .int .i64 k ∧ Hid (p = if k = 0 then [] else if k = 1 then l0 else if k = 2 then l0 ++ l1 else l0 ++ l1 ++ l2) ∧ Hid (Own .u64 22 wr w.heap.size v6 p) ∧ Below w.heap.size w wr) (fun _ v27 _ => 3 - (intOf v27).toNat)
      case atStart => exact ⟨0, [], by omega, rfl, rfl, HO1, HB1.out⟩
      case round =>
        obtain ⟨k, p, hk, rfl, HP, HO, hb⟩ := hrel
        rename World => wx
        have hsz := hb.size
        have r0 := (hb.cell (p := ⟨B, 0, none⟩) hbw).trans (blk_cell HB.out 0 rfl)
        have r1 := (hb.cell (p := ⟨B, 1, none⟩) hbw).trans (blk_cell HB.out 1 rfl)
        have r2 := (hb.cell (p := ⟨B, 2, none⟩) hbw).trans (blk_cell HB.out 2 rfl)
        rcases k with _ | _ | _ | _ | k
        · obtain rfl : p = [] := HP.out
          have b1 := BB 0 l0.length (by omega)
          go_wp2_with (at_builtin; refine wpList_pushAll w.heap.size _ [] l0 A0 c0 _ _ rfl rfl Tryz.underlying38 hi hz0 hz1 hz2 rfl rfl rfl (H0.out.below hb) HO.out hsz b1.1 b1.2 ?_; intro v2 w2 ho2 hg2 _)
          try go_wp2
          go_roundw
          case rel => exact ⟨1, l0, by omega, rfl, rfl, ho2, hb.grown hg2 hsz (fun g hg => (HO.out.block g hg).1)⟩
          case measure => simp [intOf]
        · obtain rfl : p = l0 := HP.out
          have b1 := BB p.length l1.length (by omega)
          go_wp2_with (at_builtin; refine wpList_pushAll w.heap.size _ p l1 A1 c1 _ _ rfl rfl Tryz.underlying38 hi hz0 hz1 hz2 rfl rfl rfl (H1.out.below hb) HO.out hsz b1.1 b1.2 ?_; intro v2 w2 ho2 hg2 _)
          try go_wp2
          go_roundw
          case rel => exact ⟨2, p ++ l1, by omega, rfl, rfl, ho2, hb.grown hg2 hsz (fun g hg => (HO.out.block g hg).1)⟩
          case measure => simp [intOf]
        · have hp : p = l0 ++ l1 := HP.out
          have b1 := BB p.length l2.length (by rw [hp]; simp; omega)
          have HE := Lib.hid (show p ++ l2 = l0 ++ l1 ++ l2 by rw [hp])
          clear hp HP
          go_wp2_with (at_builtin; refine wpList_pushAll w.heap.size _ p l2 A2 c2 _ _ rfl rfl Tryz.underlying38 hi hz0 hz1 hz2 rfl rfl rfl (H2.out.below hb) HO.out hsz b1.1 b1.2 ?_; intro v2 w2 ho2 hg2 _)
          try go_wp2
          go_roundw
          case rel => exact ⟨3, p ++ l2, by omega, rfl, HE.out, ho2, hb.grown hg2 hsz (fun g hg => (HO.out.block g hg).1)⟩
          case measure => simp [intOf]
        · have HE := Lib.hid (show p = l0 ++ l1 ++ l2 from HP.out)
          clear HP
          go_wp2
          go_ret
          exact ⟨_, rfl, by rw [← HE.out]; exact HO.out, hb⟩
        · omega
    · omega
end Go.Proofs.YtmpjjehihimadaaGreat
