/-
  The walk of the law JoinMakes.
-/
import Derived.Test.YtbjekoljipjldaaGreatDoorQLaid
import Derived.Test.YtbjekoljipjldaaGreatDoorQTab
namespace Go.Proofs.YtbjekoljipjldaaGreatDoor
set_option linter.unusedVariables false
set_option linter.unusedSimpArgs false
open Go.RowKit

set_option maxRecDepth 100000 in
set_option maxHeartbeats 4000000 in
theorem walk_joinMakes (A0 : Option Addr) (c0 : Nat) (a0 : List (Nat × Nat × Nat × Nat)) (A1 : Option Addr) (c1 : Nat) (a1 : List (Nat × Nat × Nat × Nat)) (a2 a3 : Bool) (W : World)
    (s0 : a0.length * 8 ≤ 140737488351232) (l0 : a0.length ≤ c0) (y0 : RdA W A0 a0) (s1 : a1.length * 8 ≤ 140737488351232) (l1 : a1.length ≤ c1) (y1 : RdA W A1 a1) (hL : laidMetH Tryz.prog Rows.joinMakesRow.laid W) :
    Calls Tryz.prog 5 #[.slice A0 a0.length c0, .slice A1 a1.length c1, .bool a2, .bool a3] W fun e W' => e = .returned (.bool true) ∧ Below W.heap.size W W' := by
  have HT := Lib.hid (tab64 hL)
  have HR0 := Lib.hid y0
  have HR1 := Lib.hid y1
  have hl0 : a0.length ≤ 140737488351232 := by omega
  have hl1 : a1.length ≤ 140737488351232 := by omega
  clear hL y0 y1 s0 s1 l0 l1
  go_enter Tryz.func5, Tryz.ntmps5
  go_wp2_with fail
  refine (awake10 _ HT.out).mono ?_
  rintro e w1 ⟨rfl, hb1⟩
  have HB1 := Lib.hid hb1
  clear hb1
  go_wp2_with fail
  refine (layAny A0 c0 a0 a2 _ (HR0.out.below HB1.out) (HT.out.stays HB1.out) hl0).mono ?_
  rintro e w2 ⟨a, sa, ka, p, rfl, HA, HSA, hb2⟩
  have HB2 := Lib.hid (below_then HB1.out hb2)
  clear hb2
  go_wp2_with fail
  refine (layAny A1 c1 a1 a3 _ (HR1.out.below HB2.out) (HT.out.stays HB2.out) hl1).mono ?_
  rintro e w3 ⟨b, sb, kb, q, rfl, HB, HSB, hb3⟩
  have HC := Lib.hid (below_then HB2.out hb3)
  replace HA := Lib.hid (HA.out.below hb3)
  replace HSA := Lib.hid (HSA.out.below hb3)
  have HTC := Lib.hid (HT.out.stays HC.out)
  clear hb3 HT HB1 HB2 HR0 HR1
  have CK := Lib.hid (Below.refl w3.heap.size w3)
  go_wp2_with fail
  refine (boxKind a ka p _ (HA.out.below CK.out)).mono ?_
  rintro e w4 ⟨rfl, hbz⟩
  replace CK := Lib.hid (below_then CK.out hbz)
  go_wp2_with fail
  refine (boxKind b kb q _ (HB.out.below CK.out)).mono ?_
  rintro e w5 ⟨rfl, hbz⟩
  replace CK := Lib.hid (below_then CK.out hbz)
  skip
  go_wp2_with fail
  refine (or2 (some ⟨a, 0, none⟩) (some ⟨b, 0, none⟩) p q _ (HA.out.below CK.out).v (HB.out.below CK.out).v (HTC.out.stays CK.out)).mono ?_
  rintro e w6 ⟨x, rfl, HX, hbz⟩
  replace CK := Lib.hid (below_then CK.out hbz)
  clear hbz
  go_wp2_with fail
  refine (rJoin0 sa sb p q _ (HSA.out.below CK.out) (HSB.out.below CK.out)).mono ?_
  rintro e w7 ⟨g, rfl, _, HGS, hbz⟩
  replace CK := Lib.hid (below_then CK.out hbz)
  replace HX := Lib.hid (HX.out.below hbz)
  clear hbz
  go_wp2_with fail
  refine (plainAny x g _ _ HX.out HGS.out (HTC.out.stays CK.out)).mono ?_
  rintro e w8 ⟨rfl, hbz⟩
  replace CK := Lib.hid (below_then CK.out hbz)
  clear hbz HX HGS
  skip
  go_wp2_with fail
  refine (and2 (some ⟨a, 0, none⟩) (some ⟨b, 0, none⟩) p q _ (HA.out.below CK.out).v (HB.out.below CK.out).v (HTC.out.stays CK.out)).mono ?_
  rintro e w9 ⟨x, rfl, HX, hbz⟩
  replace CK := Lib.hid (below_then CK.out hbz)
  clear hbz
  go_wp2_with fail
  refine (rJoin1 sa sb p q _ (HSA.out.below CK.out) (HSB.out.below CK.out)).mono ?_
  rintro e w10 ⟨g, rfl, _, HGS, hbz⟩
  replace CK := Lib.hid (below_then CK.out hbz)
  replace HX := Lib.hid (HX.out.below hbz)
  clear hbz
  go_wp2_with fail
  refine (plainAny x g _ _ HX.out HGS.out (HTC.out.stays CK.out)).mono ?_
  rintro e w11 ⟨rfl, hbz⟩
  replace CK := Lib.hid (below_then CK.out hbz)
  clear hbz HX HGS
  skip
  go_wp2_with fail
  refine (less2 (some ⟨a, 0, none⟩) (some ⟨b, 0, none⟩) p q _ (HA.out.below CK.out).v (HB.out.below CK.out).v (HTC.out.stays CK.out)).mono ?_
  rintro e w12 ⟨x, rfl, HX, hbz⟩
  replace CK := Lib.hid (below_then CK.out hbz)
  clear hbz
  go_wp2_with fail
  refine (rJoin2 sa sb p q _ (HSA.out.below CK.out) (HSB.out.below CK.out)).mono ?_
  rintro e w13 ⟨g, rfl, _, HGS, hbz⟩
  replace CK := Lib.hid (below_then CK.out hbz)
  replace HX := Lib.hid (HX.out.below hbz)
  clear hbz
  go_wp2_with fail
  refine (plainAny x g _ _ HX.out HGS.out (HTC.out.stays CK.out)).mono ?_
  rintro e w14 ⟨rfl, hbz⟩
  replace CK := Lib.hid (below_then CK.out hbz)
  clear hbz HX HGS
  skip
  go_wp2_with fail
  refine (xor2 (some ⟨a, 0, none⟩) (some ⟨b, 0, none⟩) p q _ (HA.out.below CK.out).v (HB.out.below CK.out).v (HTC.out.stays CK.out)).mono ?_
  rintro e w15 ⟨x, rfl, HX, hbz⟩
  replace CK := Lib.hid (below_then CK.out hbz)
  clear hbz
  go_wp2_with fail
  refine (rJoin3 sa sb p q _ (HSA.out.below CK.out) (HSB.out.below CK.out)).mono ?_
  rintro e w16 ⟨g, rfl, _, HGS, hbz⟩
  replace CK := Lib.hid (below_then CK.out hbz)
  replace HX := Lib.hid (HX.out.below hbz)
  clear hbz
  go_wp2_with fail
  refine (plainAny x g _ _ HX.out HGS.out (HTC.out.stays CK.out)).mono ?_
  rintro e w17 ⟨rfl, hbz⟩
  replace CK := Lib.hid (below_then CK.out hbz)
  clear hbz HX HGS
  have hz17 := CK.out.size
  have HG := Lib.hid ((HA.out.below CK.out).base.2)
  go_wp2_with fail
  refine (or2 (some ⟨a, 0, none⟩) (some ⟨a, 0, none⟩) p p _ (HA.out.below CK.out).v (HA.out.below CK.out).v (HTC.out.stays CK.out)).mono ?_
  rintro e w18 ⟨x, rfl, HX, hbz⟩
  replace CK := Lib.hid (below_then CK.out hbz)
  have hxb := HX.out.base.1
  have hx0 : 0 ≠ x := by have := HA.out.base.2; omega
  have hz18 := CK.out.size
  go_wp2_with fail
  refine (boxFill x _ _ 0 9 _ HX.out (HTC.out.stays CK.out) (by have := HX.out.base.2; omega) hx0 (by omega) (by omega)).mono ?_
  rintro e w19 ⟨n, rfl, HX2, HG2⟩
  have HXB := Lib.hid (below_row (base := w3.heap.size) HG2.out (by omega) (by omega))
  replace CK := Lib.hid (CK.out.trans HXB.out)
  have hz19 := HG2.out.size
  obtain ⟨k2, hx2⟩ := HX2.out
  have HX3 := Lib.hid hx2
  clear hx2
  go_wp2_with fail
  refine (boxWipe x _ _ 10 5000 _ HX3.out (HTC.out.stays CK.out) (by have := HX3.out.base; omega) hx0 (by omega) (by omega)).mono ?_
  rintro e w20 ⟨n2, rfl, HX4, HG4⟩
  have HXB2 := Lib.hid (below_row (base := w3.heap.size) HG4.out (by omega) (by omega))
  replace CK := Lib.hid (CK.out.trans HXB2.out)
  go_wp2_with fail
  refine (boxKind a ka p _ (HA.out.below CK.out)).mono ?_
  rintro e w21 ⟨rfl, hbz⟩
  replace CK := Lib.hid (below_then CK.out hbz)
  go_wp2_with fail
  refine (boxKind b kb q _ (HB.out.below CK.out)).mono ?_
  rintro e w22 ⟨rfl, hbz⟩
  replace CK := Lib.hid (below_then CK.out hbz)
  skip
  go_wp2_with fail
  refine (boxList (.pointer (some ⟨a, 0, none⟩)) p _ (HA.out.below CK.out).v (HTC.out.stays CK.out)).mono ?_
  rintro e w23 ⟨A4, c4, rfl, hc4, HO4, hbz⟩
  replace CK := Lib.hid (below_then CK.out hbz)
  clear hbz hc4
  go_wp2_with fail
  refine (rList sa p _ (HSA.out.below CK.out)).mono ?_
  rintro e w24 ⟨A5, c5, rfl, HR5, hbz⟩
  replace CK := Lib.hid (below_then CK.out hbz)
  have HR4 := Lib.hid (HO4.out.rd.below hbz)
  clear hbz
  go_wp2_with fail
  refine (rSame A4 A5 c4 c5 (L p) _ HR4.out HR5.out (L_le p)).mono ?_
  rintro e w25 ⟨rfl, hbz⟩
  replace CK := Lib.hid (below_then CK.out hbz)
  clear hbz HR4 HR5 HO4
  skip
  go_wp2_with fail
  refine (boxList (.pointer (some ⟨b, 0, none⟩)) q _ (HB.out.below CK.out).v (HTC.out.stays CK.out)).mono ?_
  rintro e w26 ⟨A4, c4, rfl, hc4, HO4, hbz⟩
  replace CK := Lib.hid (below_then CK.out hbz)
  clear hbz hc4
  go_wp2_with fail
  refine (rList sb q _ (HSB.out.below CK.out)).mono ?_
  rintro e w27 ⟨A5, c5, rfl, HR5, hbz⟩
  replace CK := Lib.hid (below_then CK.out hbz)
  have HR4 := Lib.hid (HO4.out.rd.below hbz)
  clear hbz
  go_wp2_with fail
  refine (rSame A4 A5 c4 c5 (L q) _ HR4.out HR5.out (L_le q)).mono ?_
  rintro e w28 ⟨rfl, hbz⟩
  replace CK := Lib.hid (below_then CK.out hbz)
  clear hbz HR4 HR5 HO4
  go_wp2
  go_ret
  exact ⟨rfl, below_then HC.out CK.out⟩
end Go.Proofs.YtbjekoljipjldaaGreatDoor
