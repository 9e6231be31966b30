/-
  veb.VEB: in the tree of 1, 5 and 9 the next key from 2 on, from 6 on, the last one up to 9; walked.
-/
import Derived.Test.YtmpjjehihimadaaGreatVeb9
namespace Go.Proofs.YtmpjjehihimadaaGreat
set_option linter.unusedVariables false
set_option linter.unusedSimpArgs false
open Go.RowKit

set_option maxRecDepth 100000 in
theorem vNextLo (t : Nat) (i : Int) (x : Ve) (wide k : Int) (hw : wide = 64 ∨ wide = 32) (hk : k ≤ x.min) (w : World) : Calls Tryz.prog 124 #[.pointer (some ⟨t, 0, none⟩), .int .i64 i, .agg #[.int .u64 x.min, .int .u64 x.max, .int .i64 x.sum, .int .u64 x.bits], .int .i64 wide, .int .u64 k] w fun e w' => e = .returned (.int .u64 x.min) ∧ Hid (Below w.heap.size w w') := by
  have hA := Lib.hid ((Below.refl w.heap.size w).alloc (Nat.le_refl _) (.cells #[.int .u64 x.min, .int .u64 x.max, .int .i64 x.sum, .int .u64 x.bits] 112))
  rcases hw with rfl | rfl
  all_goals
    go_enter Tryz.func124, Tryz.ntmps124
    go_wp2_with fail
    refine (vEnds x _ (by decide) _).mono ?_
    rintro e w1 ⟨rfl, HB1⟩
    go_wp2
    go_ret
    exact ⟨rfl, below_then hA.out HB1.out⟩
set_option maxRecDepth 100000 in
set_option maxHeartbeats 4000000 in
theorem vNext5 (d : VD) (w : World) (h : VP w d) (hv : V3 d) : Calls Tryz.prog 124 #[.pointer (some ⟨d.t, 0, none⟩), .int .i64 0, .agg #[.int .u64 1, .int .u64 9, .int .i64 2, .int .u64 0], .int .i64 64, .int .u64 2] w fun e w' => e = .returned (.int .u64 5) ∧ Hid (VP w' d) ∧ Hid (Chg d.red w w') := by
  obtain ⟨h1, hx1⟩ := hv.at1
  have hA := (Below.refl w.heap.size w).alloc (Nat.le_refl _) (.cells #[.int .u64 1, .int .u64 9, .int .i64 2, .int .u64 0] 112)
  have HB0 := Lib.hid hA
  have H0 := Lib.hid (h.below hA)
  have HN0 := Lib.hid (blk_new w #[.int .u64 1, .int .u64 9, .int .i64 2, .int .u64 0] 112)
  have HE := Lib.hid hv.2.2
  have HRL := Lib.hid (show ∀ q, d.red q → q ≠ w.heap.size from fun q hq => by have := h.lt q (d.red_own q hq); omega)
  have HRD := Lib.hid (show ∀ V, VP V d → _ from fun V hV => vRead d V hV 1 h1 _ hx1)
  clear h hv hx1 hA
  go_enter Tryz.func124, Tryz.ntmps124
  go_wp2_with fail
  refine (vEnds ⟨1, 9, 2, 0⟩ 64 (.inl rfl) _).mono ?_
  rintro e w1 ⟨rfl, HB1⟩
  have HN1 := Lib.hid (blk_below HN0.out HB1.out rfl)
  have H1 := Lib.hid (H0.out.below HB1.out)
  have n2 := blk_cell HN1.out 2 (v := .int .i64 2) rfl
  have HBT := Lib.hid (below_then HB0.out HB1.out)
  clear HB0 H0 HN0 HB1
  go_wp2_with fail
  refine (vHigh 2 (.inl rfl) _).mono ?_
  rintro e w2 ⟨rfl, rfl⟩
  go_wp2_with fail
  refine (vLow 2 (.inl rfl) _).mono ?_
  rintro e w3 ⟨rfl, rfl⟩
  go_wp2_with fail
  refine (vCluster d _ H1.out true (fun ok hf => hf.one HE.out.1) HE.out.2).mono ?_
  rintro e w4 ⟨rfl, H4, HC4⟩
  have HC5 := Lib.hid ((Chg.of_below (S := d.red) HBT.out).then HC4.out)
  clear n2 HN1 H1 HC4
  go_wp2_with fail
  refine (HRD.out _ H4.out).mono ?_
  rintro e w6 ⟨rfl, H6, HC6⟩
  have HC7 := Lib.hid (HC5.out.then HC6.out)
  have hA7 := (Below.refl w6.heap.size w6).alloc (Nat.le_refl _) (.cells #[.int .u64 5, .int .u64 5, .int .i64 (-1), .int .u64 0] 112)
  have HB7 := Lib.hid hA7
  have H7 := Lib.hid (H6.out.below hA7)
  have HN7 := Lib.hid (blk_new w6 #[.int .u64 5, .int .u64 5, .int .i64 (-1), .int .u64 0] 112)
  clear hA7 HC5 HC6 H4
  go_wp2_with fail
  refine (vEnds ⟨5, 5, -1, 0⟩ 32 (.inr rfl) _).mono ?_
  rintro e w8 ⟨rfl, HB8⟩
  have HN8 := Lib.hid (blk_below HN7.out HB8.out rfl)
  have k0 := blk_cell HN8.out 0 (v := .int .u64 5) rfl
  have k1 := blk_cell HN8.out 1 (v := .int .u64 5) rfl
  have k2 := blk_cell HN8.out 2 (v := .int .i64 (-1)) rfl
  have k3 := blk_cell HN8.out 3 (v := .int .u64 0) rfl
  have HB9 := Lib.hid (below_then HB7.out HB8.out)
  have H9 := Lib.hid (H7.out.below HB8.out)
  clear HN7 HB7 HB8 H7
  go_wp2_with fail
  refine (vNextLo d.t 1 ⟨5, 5, -1, 0⟩ 32 2 (.inr rfl) (by decide) _).mono ?_
  rintro e w10 ⟨rfl, HB10⟩
  have HC10 := Lib.hid (HC7.out.then (Chg.of_below (below_then HB9.out HB10.out)))
  have H10 := Lib.hid (H9.out.below HB10.out)
  clear k0 k1 k2 k3 HN8 HB9 HB10 H9
  go_wp2_with fail
  refine (vJoin _).mono ?_
  rintro e w11 ⟨rfl, rfl⟩
  go_wp2
  go_ret
  exact ⟨rfl, H10.out, HC10.out⟩
set_option maxRecDepth 100000 in
set_option maxHeartbeats 4000000 in
theorem vNext9 (d : VD) (w : World) (h : VP w d) (hv : V3 d) : Calls Tryz.prog 124 #[.pointer (some ⟨d.t, 0, none⟩), .int .i64 0, .agg #[.int .u64 1, .int .u64 9, .int .i64 2, .int .u64 0], .int .i64 64, .int .u64 6] w fun e w' => e = .returned (.int .u64 9) ∧ Hid (VP w' d) ∧ Hid (Chg d.red w w') := by
  obtain ⟨h1, hx1⟩ := hv.at1
  obtain ⟨h2, hx2⟩ := hv.at2
  have hA := (Below.refl w.heap.size w).alloc (Nat.le_refl _) (.cells #[.int .u64 1, .int .u64 9, .int .i64 2, .int .u64 0] 112)
  have HB0 := Lib.hid hA
  have H0 := Lib.hid (h.below hA)
  have HN0 := Lib.hid (blk_new w #[.int .u64 1, .int .u64 9, .int .i64 2, .int .u64 0] 112)
  have HE := Lib.hid hv.2.2
  have HRL := Lib.hid (show ∀ q, d.red q → q ≠ w.heap.size from fun q hq => by have := h.lt q (d.red_own q hq); omega)
  have HRD := Lib.hid (show ∀ V, VP V d → _ from fun V hV => vRead d V hV 1 h1 _ hx1)
  have HRS := Lib.hid (show ∀ V, VP V d → _ from fun V hV => vRead d V hV 2 h2 _ hx2)
  clear h hv hx1 hx2 hA
  go_enter Tryz.func124, Tryz.ntmps124
  go_wp2_with fail
  refine (vEnds ⟨1, 9, 2, 0⟩ 64 (.inl rfl) _).mono ?_
  rintro e w1 ⟨rfl, HB1⟩
  have HN1 := Lib.hid (blk_below HN0.out HB1.out rfl)
  have H1 := Lib.hid (H0.out.below HB1.out)
  have n2 := blk_cell HN1.out 2 (v := .int .i64 2) rfl
  have HBT := Lib.hid (below_then HB0.out HB1.out)
  clear HB0 H0 HN0 HB1
  go_wp2_with fail
  refine (vHigh 6 (.inr (.inr (.inl rfl))) _).mono ?_
  rintro e w2 ⟨rfl, rfl⟩
  go_wp2_with fail
  refine (vLow 6 (.inr (.inr (.inl rfl))) _).mono ?_
  rintro e w3 ⟨rfl, rfl⟩
  go_wp2_with fail
  refine (vCluster d _ H1.out true (fun ok hf => hf.one HE.out.1) HE.out.2).mono ?_
  rintro e w4 ⟨rfl, H4, HC4⟩
  have HC5 := Lib.hid ((Chg.of_below (S := d.red) HBT.out).then HC4.out)
  have HN4 := Lib.hid (HC4.out.blk HN1.out (fun e => HRL.out _ e rfl))
  have hz4 : w.heap.size < w4.heap.size := blk_lt HN4.out
  clear n2 HN1 H1 HC4
  go_wp2_with fail
  refine (HRD.out _ H4.out).mono ?_
  rintro e w6 ⟨rfl, H6, HC6⟩
  have HC7 := Lib.hid (HC5.out.then HC6.out)
  have hA7 := (Below.refl w6.heap.size w6).alloc (Nat.le_refl _) (.cells #[.int .u64 5, .int .u64 5, .int .i64 (-1), .int .u64 0] 112)
  have HB7 := Lib.hid hA7
  have H7 := Lib.hid (H6.out.below hA7)
  have HN6 := Lib.hid (HC6.out.blk HN4.out (fun e => HRL.out _ e rfl))
  clear hA7 HC5 HC6 H4
  go_wp2_with fail
  refine (vEnds ⟨5, 5, -1, 0⟩ 32 (.inr rfl) _).mono ?_
  rintro e w8 ⟨rfl, HB8⟩
  have HB9 := Lib.hid (below_then HB7.out HB8.out)
  have H9 := Lib.hid (H7.out.below HB8.out)
  have HN9 := Lib.hid (blk_below HN6.out HB9.out rfl)
  have HC9 := Lib.hid (HC7.out.then (Chg.of_below HB9.out))
  have n2 := blk_cell HN9.out 2 (v := .int .i64 2) rfl
  clear HN6 HB7 HB8 H7 HB9 HC7 hz4 H6
  go_wp2_with fail
  refine (HRS.out _ H9.out).mono ?_
  rintro e w10 ⟨rfl, H10, HC10⟩
  have HC11 := Lib.hid (HC9.out.then HC10.out)
  have hA11 := (Below.refl w10.heap.size w10).alloc (Nat.le_refl _) (.cells #[.int .u64 0, .int .u64 0, .int .i64 (-1), .int .u64 0] 112)
  have HB11 := Lib.hid hA11
  have H11 := Lib.hid (H10.out.below hA11)
  clear hA11 HC9 HC10 H9 H10 n2 HN9
  go_wp2_with fail
  refine (vEnds ⟨0, 0, -1, 0⟩ 32 (.inr rfl) _).mono ?_
  rintro e w12 ⟨rfl, HB12⟩
  have HC13 := Lib.hid (HC11.out.then (Chg.of_below (below_then HB11.out HB12.out)))
  have H13 := Lib.hid (H11.out.below HB12.out)
  clear HC11 HB11 H11 HB12
  go_wp2
  go_ret
  exact ⟨rfl, H13.out, HC13.out⟩
set_option maxRecDepth 100000 in
theorem vPrev9 (d : VD) (w : World) (h : VP w d) : Calls Tryz.prog 125 #[.pointer (some ⟨d.t, 0, none⟩), .int .i64 0, .agg #[.int .u64 1, .int .u64 9, .int .i64 2, .int .u64 0], .int .i64 64, .int .u64 9] w fun e w' => e = .returned (.int .u64 9) ∧ Hid (VP w' d) ∧ Hid (Chg d.red w w') := by
  have hA := Lib.hid ((Below.refl w.heap.size w).alloc (Nat.le_refl _) (.cells #[.int .u64 1, .int .u64 9, .int .i64 2, .int .u64 0] 112))
  have H := Lib.hid h
  clear h
  go_enter Tryz.func125, Tryz.ntmps125
  go_wp2_with fail
  refine (vEnds ⟨1, 9, 2, 0⟩ 64 (.inl rfl) _).mono ?_
  rintro e w1 ⟨rfl, HB1⟩
  have HB2 := Lib.hid (below_then hA.out HB1.out)
  clear hA HB1
  go_wp2
  go_ret
  exact ⟨rfl, H.out.below HB2.out, Chg.of_below HB2.out⟩
set_option maxRecDepth 100000 in
set_option maxHeartbeats 4000000 in
theorem vNext (d : VD) (k y : Int) (w : World) (h : VP w d) (hv : V3 d) (hn : 0 < d.n) (hk : k ≤ 9)
    (R : ∀ V, VP V d → Calls Tryz.prog 124 #[.pointer (some ⟨d.t, 0, none⟩), .int .i64 0, .agg #[.int .u64 1, .int .u64 9, .int .i64 2, .int .u64 0], .int .i64 64, .int .u64 k] V fun e V' => e = .returned (.int .u64 y) ∧ Hid (VP V' d) ∧ Hid (Chg d.red V V')) :
    Calls Tryz.prog 108 #[.pointer (some ⟨d.t, 0, none⟩), .int .u64 k] w fun e w' => e = .returned (.tuple #[.int .u64 y, .bool true]) ∧ Hid (VP w' d) ∧ Hid (Chg d.red w w') := by
  obtain ⟨h0, hx⟩ := hv.at0
  have H := Lib.hid h
  have HR := Lib.hid R
  have HN := Lib.hid (decide_eq_true hn)
  have H3 := Lib.hid (show ∀ V, VP V d → V.cell? ⟨d.t, 3, none⟩ = some (.int .i64 0) from fun V hV => by have := hV.cells.2.2.2.1; rwa [hv.2.1] at this)
  have HRD := Lib.hid (show ∀ V, VP V d → _ from fun V hV => vRead d V hV 0 h0 _ hx)
  clear h R hn hv hx
  go_enter Tryz.func108, Tryz.ntmps108
  go_wp2_with fail
  refine (vStart d _ H.out).mono ?_
  rintro e w1 ⟨rfl, H1, HC1⟩
  rw [HN.out]
  have q1 := H3.out _ H1.out
  go_wp2_with fail
  refine (HRD.out _ H1.out).mono ?_
  rintro e w2 ⟨rfl, H2, HC2⟩
  have hA := (Below.refl w2.heap.size w2).alloc (Nat.le_refl _) (.cells #[.int .u64 1, .int .u64 9, .int .i64 2, .int .u64 0] 112)
  have HB3 := Lib.hid hA
  have H3' := Lib.hid (H2.out.below hA)
  have HN3 := Lib.hid (blk_new w2 #[.int .u64 1, .int .u64 9, .int .i64 2, .int .u64 0] 112)
  have HC3 := Lib.hid ((HC1.out.then HC2.out).then (Chg.of_below hA))
  clear hA q1
  go_wp2
  generalize w2.alloc (.cells #[.int .u64 1, .int .u64 9, .int .i64 2, .int .u64 0] 112) = w3 at *
  have q3 := H3.out _ H3'.out
  have n0 := blk_cell HN3.out 0 (v := .int .u64 1) rfl
  have n1 := blk_cell HN3.out 1 (v := .int .u64 9) rfl
  have n2 := blk_cell HN3.out 2 (v := .int .i64 2) rfl
  have n3 := blk_cell HN3.out 3 (v := .int .u64 0) rfl
  have HD := Lib.hid H3'.out.drewn
  go_region_law (first | ((with_reducible refine gate_scall (f := 124) rfl ?_); refine step_goes rfl Tryz.func124 (by kernel_rfl) rfl #[.pointer (some ⟨d.t, 0, none⟩), .int .i64 0, .agg #[.int .u64 1, .int .u64 9, .int .i64 2, .int .u64 0], .int .i64 64, .int .u64 k] rfl (by simp only [List.map_toArray, List.map_cons, List.map_nil]; rfl) (HR.out _ HD.out) ?_; rintro e w4 ⟨rfl, H4, HC4⟩; refine ⟨_, rfl, ?_⟩))
  all_goals
    have HC5 := Lib.hid (HC3.out.drew.then HC4.out)
    clear HC3 HC4 HD
    go_wp2
    go_ret2
    exact ⟨rfl, H4.out, HC5.out⟩
set_option maxRecDepth 100000 in
set_option maxHeartbeats 4000000 in
theorem vPrev (d : VD) (k y : Int) (w : World) (h : VP w d) (hv : V3 d) (hn : 0 < d.n) (hk : 1 ≤ k)
    (R : ∀ V, VP V d → Calls Tryz.prog 125 #[.pointer (some ⟨d.t, 0, none⟩), .int .i64 0, .agg #[.int .u64 1, .int .u64 9, .int .i64 2, .int .u64 0], .int .i64 64, .int .u64 k] V fun e V' => e = .returned (.int .u64 y) ∧ Hid (VP V' d) ∧ Hid (Chg d.red V V')) :
    Calls Tryz.prog 109 #[.pointer (some ⟨d.t, 0, none⟩), .int .u64 k] w fun e w' => e = .returned (.tuple #[.int .u64 y, .bool true]) ∧ Hid (VP w' d) ∧ Hid (Chg d.red w w') := by
  obtain ⟨h0, hx⟩ := hv.at0
  have H := Lib.hid h
  have HR := Lib.hid R
  have HN := Lib.hid (decide_eq_true hn)
  have H3 := Lib.hid (show ∀ V, VP V d → V.cell? ⟨d.t, 3, none⟩ = some (.int .i64 0) from fun V hV => by have := hV.cells.2.2.2.1; rwa [hv.2.1] at this)
  have HRD := Lib.hid (show ∀ V, VP V d → _ from fun V hV => vRead d V hV 0 h0 _ hx)
  clear h R hn hv hx
  go_enter Tryz.func109, Tryz.ntmps109
  go_wp2_with fail
  refine (vStart d _ H.out).mono ?_
  rintro e w1 ⟨rfl, H1, HC1⟩
  rw [HN.out]
  have q1 := H3.out _ H1.out
  go_wp2_with fail
  refine (HRD.out _ H1.out).mono ?_
  rintro e w2 ⟨rfl, H2, HC2⟩
  have hA := (Below.refl w2.heap.size w2).alloc (Nat.le_refl _) (.cells #[.int .u64 1, .int .u64 9, .int .i64 2, .int .u64 0] 112)
  have HB3 := Lib.hid hA
  have H3' := Lib.hid (H2.out.below hA)
  have HN3 := Lib.hid (blk_new w2 #[.int .u64 1, .int .u64 9, .int .i64 2, .int .u64 0] 112)
  have HC3 := Lib.hid ((HC1.out.then HC2.out).then (Chg.of_below hA))
  clear hA q1
  go_wp2
  generalize w2.alloc (.cells #[.int .u64 1, .int .u64 9, .int .i64 2, .int .u64 0] 112) = w3 at *
  have q3 := H3.out _ H3'.out
  have n0 := blk_cell HN3.out 0 (v := .int .u64 1) rfl
  have n1 := blk_cell HN3.out 1 (v := .int .u64 9) rfl
  have n2 := blk_cell HN3.out 2 (v := .int .i64 2) rfl
  have n3 := blk_cell HN3.out 3 (v := .int .u64 0) rfl
  have HD := Lib.hid H3'.out.drewn
  go_region_law (first | ((with_reducible refine gate_scall (f := 125) rfl ?_); refine step_goes rfl Tryz.func125 (by kernel_rfl) rfl #[.pointer (some ⟨d.t, 0, none⟩), .int .i64 0, .agg #[.int .u64 1, .int .u64 9, .int .i64 2, .int .u64 0], .int .i64 64, .int .u64 k] rfl (by simp only [List.map_toArray, List.map_cons, List.map_nil]; rfl) (HR.out _ HD.out) ?_; rintro e w4 ⟨rfl, H4, HC4⟩; refine ⟨_, rfl, ?_⟩))
  all_goals
    have HC5 := Lib.hid (HC3.out.drew.then HC4.out)
    clear HC3 HC4 HD
    go_wp2
    go_ret2
    exact ⟨rfl, H4.out, HC5.out⟩
end Go.Proofs.YtmpjjehihimadaaGreat
