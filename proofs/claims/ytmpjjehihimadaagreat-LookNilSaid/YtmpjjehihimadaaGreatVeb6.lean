/-
  veb.VEB: need of the key 9 in the tree of 1 and 5, of 7 in that of 1, 5 and 9; walked.
-/
import Derived.Test.YtmpjjehihimadaaGreatVeb5
namespace Go.Proofs.YtmpjjehihimadaaGreat
set_option linter.unusedVariables false
set_option linter.unusedSimpArgs false
open Go.RowKit

set_option maxRecDepth 100000 in
set_option maxHeartbeats 4000000 in
theorem vNeed2 (d : VD) (w : World) (h : VP w d) (hv : V2 d) : Calls Tryz.prog 122 #[.pointer (some ⟨d.t, 0, none⟩), .int .i64 0, .int .i64 64, .int .u64 9] w fun e w' => e = .returned (.int .i64 2) ∧ Hid (VP w' d) ∧ Hid (Chg d.red w w') := by
  obtain ⟨h0, hx⟩ := hv.at0
  have H := Lib.hid h
  have HX := Lib.hid hx
  have HE := Lib.hid hv.2.2.2
  clear h hv hx
  go_enter Tryz.func122, Tryz.ntmps122
  go_wp2_with fail
  refine (vSee d _ H.out 0 h0 _ HX.out).mono ?_
  rintro e w1 ⟨rfl, HB1⟩
  have hA := (Below.refl w1.heap.size w1).alloc (Nat.le_refl _) (.cells #[.int .u64 1, .int .u64 5, .int .i64 (-1), .int .u64 0] 112)
  have HN2 := Lib.hid (blk_new w1 #[.int .u64 1, .int .u64 5, .int .i64 (-1), .int .u64 0] 112)
  have HB2 := Lib.hid (below_then HB1.out hA)
  have hz1 := HB1.out.size
  clear hA
  go_wp2_with fail
  refine (vSingle 1 5 (-1) 0 _).mono ?_
  rintro e w3 ⟨rfl, HB3⟩
  rw [show decide ((1 : Int) = 5) = false from rfl]
  have HN3 := Lib.hid (blk_below HN2.out HB3.out rfl)
  have n0 := blk_cell HN3.out 0 (v := .int .u64 1) rfl
  have n1 := blk_cell HN3.out 1 (v := .int .u64 5) rfl
  have HBT := Lib.hid (below_then HB2.out HB3.out)
  have H3 := Lib.hid (H.out.below HBT.out)
  have HRL := Lib.hid (show ∀ q, d.red q → q ≠ w1.heap.size from fun q hq => by have := H.out.lt q (d.red_own q hq); omega)
  clear HN2 HB2 HB3
  go_wp2_with fail
  refine (vHigh 5 (.inr (.inl rfl)) _).mono ?_
  rintro e w4 ⟨rfl, rfl⟩
  go_wp2_with fail
  refine (vCluster d _ H3.out false (noFn HE.out) (noVal HE.out)).mono ?_
  rintro e w5 ⟨rfl, H5, HC5⟩
  have HN5 := Lib.hid (HC5.out.blk HN3.out (fun e => HRL.out _ e rfl))
  have HC6 := Lib.hid ((Chg.of_below (S := d.red) HBT.out).then HC5.out)
  clear n0 n1
  have n2 := blk_cell HN5.out 2 (v := .int .i64 (-1)) rfl
  clear HN3 H3 HC5
  go_wp2
  go_ret
  exact ⟨rfl, H5.out, HC6.out⟩
set_option maxRecDepth 100000 in
set_option maxHeartbeats 4000000 in
theorem vNeed3 (d : VD) (w : World) (h : VP w d) (hv : V3 d) : Calls Tryz.prog 122 #[.pointer (some ⟨d.t, 0, none⟩), .int .i64 0, .int .i64 64, .int .u64 7] w fun e w' => e = .returned (.int .i64 0) ∧ Hid (VP w' d) ∧ Hid (Chg d.red w w') := by
  obtain ⟨h0, hx⟩ := hv.at0
  obtain ⟨h1, hx1⟩ := hv.at1
  have H := Lib.hid h
  have HX := Lib.hid hx
  have HX1 := Lib.hid hx1
  have HE := Lib.hid hv.2.2
  clear h hv hx hx1
  go_enter Tryz.func122, Tryz.ntmps122
  go_wp2_with fail
  refine (vSee d _ H.out 0 h0 _ HX.out).mono ?_
  rintro e w1 ⟨rfl, HB1⟩
  have hA := (Below.refl w1.heap.size w1).alloc (Nat.le_refl _) (.cells #[.int .u64 1, .int .u64 9, .int .i64 2, .int .u64 0] 112)
  have HN2 := Lib.hid (blk_new w1 #[.int .u64 1, .int .u64 9, .int .i64 2, .int .u64 0] 112)
  have HB2 := Lib.hid (below_then HB1.out hA)
  have hz1 := HB1.out.size
  clear hA
  go_wp2_with fail
  refine (vSingle 1 9 2 0 _).mono ?_
  rintro e w3 ⟨rfl, HB3⟩
  rw [show decide ((1 : Int) = 9) = false from rfl]
  have HN3 := Lib.hid (blk_below HN2.out HB3.out rfl)
  have n0 := blk_cell HN3.out 0 (v := .int .u64 1) rfl
  have n1 := blk_cell HN3.out 1 (v := .int .u64 9) rfl
  have HBT := Lib.hid (below_then HB2.out HB3.out)
  have H3 := Lib.hid (H.out.below HBT.out)
  clear HN2 HB2 HB3
  go_wp2_with fail
  refine (vHigh 7 (.inr (.inr (.inr rfl))) _).mono ?_
  rintro e w4 ⟨rfl, rfl⟩
  go_wp2_with fail
  refine (vCluster d _ H3.out true (fun ok hf => hf.one HE.out.1) HE.out.2).mono ?_
  rintro e w5 ⟨rfl, H5, HC5⟩
  have HC6 := Lib.hid ((Chg.of_below (S := d.red) HBT.out).then HC5.out)
  clear n0 n1 HN3 H3 HC5
  go_wp2_with fail
  refine (vLow 7 (.inr (.inr (.inr rfl))) _).mono ?_
  rintro e w6 ⟨rfl, rfl⟩
  go_wp2_with fail
  refine (vNeedS d _ H5.out 1 h1 5 (-1) 0 HX1.out 32 7 (.inr rfl)).mono ?_
  rintro e w7 ⟨rfl, HB7⟩
  go_wp2
  go_ret
  exact ⟨rfl, H5.out.below HB7.out, HC6.out.then (Chg.of_below HB7.out)⟩
end Go.Proofs.YtmpjjehihimadaaGreat
