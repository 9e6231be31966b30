/-
  The walk of the law JoinAsks.
-/
import Derived.Test.YtbjekoljipjldaaGreatDoorQLaid
import Derived.Test.YtbjekoljipjldaaGreatDoorQTab
namespace Go.Proofs.YtbjekoljipjldaaGreatDoor
set_option linter.unusedVariables false
set_option linter.unusedSimpArgs false
open Go.RowKit

theorem nat_beq (n m : Nat) : ((n : Int) == (m : Int)) = decide (n = m) := by
  by_cases h : n = m
  · rw [decide_eq_true h, h]; simp
  · rw [decide_eq_false h, beq_eq_false_iff_ne]; omega
theorem none_both (p : Nat → Bool) : L (bothP noneP p) = [] := L_none fun _ _ => rfl
theorem both_none (p : Nat → Bool) : L (bothP p noneP) = [] := L_none fun i _ => by unfold bothP noneP; simp
theorem both_pos (p q : Nat → Bool) : (∃ i, i < 65536 ∧ p i = true ∧ q i = true) ↔ 0 < (L (bothP p q)).length := by
  constructor
  · rintro ⟨i, hi, h1, h2⟩
    exact List.length_pos_of_mem ((mem_L hi).2 (show bothP p q i = true by unfold bothP; rw [h1, h2]; rfl))
  · intro h
    obtain ⟨i, _, hi, h1⟩ := L_at h
    unfold bothP at h1
    rw [Bool.and_eq_true] at h1
    exact ⟨i, hi, h1.1, h1.2⟩
theorem nilV {w : World} : BoxV w 0 (.pointer none) noneP := .inl ⟨rfl, fun _ _ => rfl⟩
theorem within_nil (va : Value) (p : Nat → Bool) (w : World) (ha : BoxV w 0 va p) (hb : BoxV w 0 (.pointer none) noneP) (hT : Tab64 w) :
    Calls Tryz.prog 16 #[va, .pointer none] w fun e w' => ∃ r : Bool, e = .returned (.bool r) ∧ Hid (r = decide ((L p).length = 0)) ∧ Below w.heap.size w w' :=
  (joinWithin va (.pointer none) p noneP w ha hb hT).mono fun e w' ⟨r, h1, h2, h3⟩ => ⟨r, h1, by
    show r = _
    rw [h2.out, both_none]
    by_cases h : (L p).length = 0
    · rw [decide_eq_true h, decide_eq_true (by rw [h]; rfl)]
    · rw [decide_eq_false h, decide_eq_false (fun e => h (by rw [← e]; rfl))], h3⟩
theorem meet_false {m : Bool} {p q : Nat → Bool} (h : m = true ↔ ∃ i, i < 65536 ∧ p i = true ∧ q i = true) (hn : ∀ i, i < 65536 → ¬ (p i = true ∧ q i = true)) : m = false := by
  cases m
  · rfl
  · obtain ⟨i, hi, h1⟩ := h.1 rfl
    exact absurd h1 (hn i hi)
set_option maxRecDepth 100000 in
set_option maxHeartbeats 8000000 in
theorem walk_joinAsks (A0 : Option Addr) (c0 : Nat) (a0 : List (Nat × Nat × Nat × Nat)) (A1 : Option Addr) (c1 : Nat) (a1 : List (Nat × Nat × Nat × Nat)) (a2 a3 a4 : Bool) (W : World)
    (s0 : a0.length * 8 ≤ 140737488351232) (l0 : a0.length ≤ c0) (y0 : RdA W A0 a0) (s1 : a1.length * 8 ≤ 140737488351232) (l1 : a1.length ≤ c1) (y1 : RdA W A1 a1) (hL : laidMetH Tryz.prog Rows.joinAsksRow.laid W) :
    Calls Tryz.prog 4 #[.slice A0 a0.length c0, .slice A1 a1.length c1, .bool a2, .bool a3, .bool a4] W fun e W' => e = .returned (.bool true) ∧ Below W.heap.size W W' := by
  have HT := Lib.hid (tab64 hL)
  have HR0 := Lib.hid y0
  have HR1 := Lib.hid y1
  have hl0 : a0.length ≤ 140737488351232 := by omega
  have hl1 : a1.length ≤ 140737488351232 := by omega
  clear hL y0 y1 s0 s1 l0 l1
  go_enter Tryz.func4, Tryz.ntmps4
  go_wp2_with fail
  refine (awake10 _ HT.out).mono ?_
  rintro e w1 ⟨rfl, hb1⟩
  have HB1 := Lib.hid hb1
  clear hb1
  go_wp2_with fail
  refine (layAny A0 c0 a0 a2 _ (HR0.out.below HB1.out) (HT.out.stays HB1.out) hl0).mono ?_
  rintro e w2 ⟨a, sa, ka, p, rfl, HA, HSA, hb2⟩
  have HB2 := Lib.hid (below_then HB1.out hb2)
  clear hb2
  go_wp2_with fail
  refine (layAny A1 c1 a1 a3 _ (HR1.out.below HB2.out) (HT.out.stays HB2.out) hl1).mono ?_
  rintro e w3 ⟨b, sb, kb, q, rfl, HB, HSB, hb3⟩
  have HC := Lib.hid (below_then HB2.out hb3)
  replace HA := Lib.hid (HA.out.below hb3)
  replace HSA := Lib.hid (HSA.out.below hb3)
  have HTC := Lib.hid (HT.out.stays HC.out)
  clear hb3 HB1 HB2 HR1
  have CK := Lib.hid (Below.refl w3.heap.size w3)
  cases a4
  · skip
    have HBO := Lib.hid (fun w h1 h2 h3 => joinBoth (.pointer (some ⟨a, 0, none⟩)) (.pointer (some ⟨b, 0, none⟩)) p q w h1 h2 h3)
    have HWI := Lib.hid (fun w h1 h2 h3 => joinWithin (.pointer (some ⟨a, 0, none⟩)) (.pointer (some ⟨b, 0, none⟩)) p q w h1 h2 h3)
    have HEQ := Lib.hid (fun w h1 h2 h3 => joinEqual (.pointer (some ⟨a, 0, none⟩)) (.pointer (some ⟨b, 0, none⟩)) p q w h1 h2 h3)
    have HNW := Lib.hid (fun w h1 h2 h3 => within_nil (.pointer (some ⟨a, 0, none⟩)) p w h1 h2 h3)
    have HLA := Lib.hid (fun w h1 => rLen sa p w h1)
    have HLB := Lib.hid (fun w h1 => rLen sb q w h1)
    have HPOS := Lib.hid (both_pos p q)
    go_wp2_with fail
    refine (rJoin1 sa sb p q _ (HSA.out.below CK.out) (HSB.out.below CK.out)).mono ?_
    rintro e w10 ⟨g, rfl, _, HGS, hbz⟩
    replace CK := Lib.hid (below_then CK.out hbz)
    have HLN := Lib.hid (fun h1 => rLen g (bothP p q) w10 h1)
    generalize (L (bothP p q)).length = n at *
    generalize (L p).length = la at *
    generalize (L q).length = lb at *
    clear hbz
    go_wp2_with fail
    refine (HLN.out HGS.out).mono ?_
    rintro e w11 ⟨rfl, hbz⟩
    replace CK := Lib.hid (below_then CK.out hbz)
    clear hbz HLN HGS
    go_wp2_with fail
    refine (HBO.out _ (HA.out.below CK.out).v (HB.out.below CK.out).v (HTC.out.stays CK.out)).mono ?_
    rintro e w12 ⟨rfl, hbz⟩
    replace CK := Lib.hid (below_then CK.out hbz)
    clear hbz
    go_wp2_with fail
    refine (HWI.out _ (HA.out.below CK.out).v (HB.out.below CK.out).v (HTC.out.stays CK.out)).mono ?_
    rintro e w13 ⟨r, rfl, HR, hbz⟩
    replace CK := Lib.hid (below_then CK.out hbz)
    have hr : ((n : Int) == (la : Int)) = r := by rw [HR.out, nat_beq]
    clear hbz
    go_wp2_with fail
    refine (HLA.out _ (HSA.out.below CK.out)).mono ?_
    rintro e w14 ⟨rfl, hbz⟩
    replace CK := Lib.hid (below_then CK.out hbz)
    clear hbz
    go_wp2_with fail
    refine (HEQ.out _ (HA.out.below CK.out).v (HB.out.below CK.out).v (HTC.out.stays CK.out)).mono ?_
    rintro e w15 ⟨r2, rfl, HR2, hbz⟩
    replace CK := Lib.hid (below_then CK.out hbz)
    clear hbz
    go_wp2_with fail
    refine (HLA.out _ (HSA.out.below CK.out)).mono ?_
    rintro e w16 ⟨rfl, hbz⟩
    replace CK := Lib.hid (below_then CK.out hbz)
    clear hbz
    cases r
    · obtain rfl : r2 = false := by
        have h1 := HR.out
        have h2 : ¬ n = la := fun h => by rw [decide_eq_true h] at h1; cases h1
        rw [HR2.out, decide_eq_false (fun h => h2 h.2)]
      skip
      go_wp2_with fail
      refine (joinMeet (.pointer (some ⟨a, 0, none⟩)) (.pointer (some ⟨b, 0, none⟩)) p q _ (HA.out.below CK.out).v (HB.out.below CK.out).v (HTC.out.stays CK.out)).mono ?_
      rintro e w18 ⟨m, rfl, HM, hbz⟩
      replace CK := Lib.hid (below_then CK.out hbz)
      clear hbz
      have HMP := Lib.hid (HM.out.trans HPOS.out)
      have hm : decide (0 < n) = m := by
        cases m
        · rw [decide_eq_false]
          intro h
          have := HMP.out.2 (by omega)
          cases this
        · rw [decide_eq_true]
          have := HMP.out.1 rfl
          omega
      go_wp2_with fail
      refine (joinWithin (.pointer none) (.pointer (some ⟨a, 0, none⟩)) noneP p _ nilV (HA.out.below CK.out).v (HTC.out.stays CK.out)).mono ?_
      rintro e w19 ⟨r4, rfl, HR4, hbz⟩
      replace CK := Lib.hid (below_then CK.out hbz)
      clear hbz
      obtain rfl : r4 = true := by rw [HR4.out, none_both, L_noneP]; rfl
      go_wp2_with fail
      refine (HNW.out _ (HA.out.below CK.out).v nilV (HTC.out.stays CK.out)).mono ?_
      rintro e w20 ⟨r5, rfl, HR5, hbz⟩
      replace CK := Lib.hid (below_then CK.out hbz)
      clear hbz
      have hr5 : ((la : Int) == 0) = r5 := by rw [HR5.out, show (0 : Int) = ((0 : Nat) : Int) from rfl, nat_beq]
      go_wp2_with fail
      refine (HLA.out _ (HSA.out.below CK.out)).mono ?_
      rintro e w21 ⟨rfl, hbz⟩
      replace CK := Lib.hid (below_then CK.out hbz)
      clear hbz
      go_wp2_with fail
      refine (joinMeet (.pointer (some ⟨a, 0, none⟩)) (.pointer none) p noneP _ (HA.out.below CK.out).v nilV (HTC.out.stays CK.out)).mono ?_
      rintro e w22 ⟨m2, rfl, HM2, hbz⟩
      replace CK := Lib.hid (below_then CK.out hbz)
      clear hbz
      obtain rfl : m2 = false := meet_false HM2.out (fun i _ => fun h => by cases h.2)
      go_wp2_with fail
      refine (joinMeet (.pointer none) (.pointer (some ⟨a, 0, none⟩)) noneP p _ nilV (HA.out.below CK.out).v (HTC.out.stays CK.out)).mono ?_
      rintro e w23 ⟨m3, rfl, HM3, hbz⟩
      replace CK := Lib.hid (below_then CK.out hbz)
      obtain rfl : m3 = false := meet_false HM3.out (fun i _ => fun h => by cases h.1)
      go_wp2
      go_ret
      exact ⟨rfl, below_then HC.out CK.out⟩
    · have hr3 : ((n : Int) == (lb : Int)) = r2 := by
        have h1 : n = la := of_decide_eq_true HR.out.symm
        rw [HR2.out, nat_beq, h1]
        by_cases h : la = lb <;> simp [h]
      go_wp2_with fail
      refine (HLB.out _ (HSB.out.below CK.out)).mono ?_
      rintro e w17 ⟨rfl, hbz⟩
      replace CK := Lib.hid (below_then CK.out hbz)
      clear hbz
      skip
      go_wp2_with fail
      refine (joinMeet (.pointer (some ⟨a, 0, none⟩)) (.pointer (some ⟨b, 0, none⟩)) p q _ (HA.out.below CK.out).v (HB.out.below CK.out).v (HTC.out.stays CK.out)).mono ?_
      rintro e w18 ⟨m, rfl, HM, hbz⟩
      replace CK := Lib.hid (below_then CK.out hbz)
      clear hbz
      have HMP := Lib.hid (HM.out.trans HPOS.out)
      have hm : decide (0 < n) = m := by
        cases m
        · rw [decide_eq_false]
          intro h
          have := HMP.out.2 (by omega)
          cases this
        · rw [decide_eq_true]
          have := HMP.out.1 rfl
          omega
      go_wp2_with fail
      refine (joinWithin (.pointer none) (.pointer (some ⟨a, 0, none⟩)) noneP p _ nilV (HA.out.below CK.out).v (HTC.out.stays CK.out)).mono ?_
      rintro e w19 ⟨r4, rfl, HR4, hbz⟩
      replace CK := Lib.hid (below_then CK.out hbz)
      clear hbz
      obtain rfl : r4 = true := by rw [HR4.out, none_both, L_noneP]; rfl
      go_wp2_with fail
      refine (HNW.out _ (HA.out.below CK.out).v nilV (HTC.out.stays CK.out)).mono ?_
      rintro e w20 ⟨r5, rfl, HR5, hbz⟩
      replace CK := Lib.hid (below_then CK.out hbz)
      clear hbz
      have hr5 : ((la : Int) == 0) = r5 := by rw [HR5.out, show (0 : Int) = ((0 : Nat) : Int) from rfl, nat_beq]
      go_wp2_with fail
      refine (HLA.out _ (HSA.out.below CK.out)).mono ?_
      rintro e w21 ⟨rfl, hbz⟩
      replace CK := Lib.hid (below_then CK.out hbz)
      clear hbz
      go_wp2_with fail
      refine (joinMeet (.pointer (some ⟨a, 0, none⟩)) (.pointer none) p noneP _ (HA.out.below CK.out).v nilV (HTC.out.stays CK.out)).mono ?_
      rintro e w22 ⟨m2, rfl, HM2, hbz⟩
      replace CK := Lib.hid (below_then CK.out hbz)
      clear hbz
      obtain rfl : m2 = false := meet_false HM2.out (fun i _ => fun h => by cases h.2)
      go_wp2_with fail
      refine (joinMeet (.pointer none) (.pointer (some ⟨a, 0, none⟩)) noneP p _ nilV (HA.out.below CK.out).v (HTC.out.stays CK.out)).mono ?_
      rintro e w23 ⟨m3, rfl, HM3, hbz⟩
      replace CK := Lib.hid (below_then CK.out hbz)
      obtain rfl : m3 = false := meet_false HM3.out (fun i _ => fun h => by cases h.1)
      go_wp2
      go_ret
      exact ⟨rfl, below_then HC.out CK.out⟩
  · go_wp2_with fail
    refine (layAny A0 c0 a0 a3 _ (HR0.out.below HC.out) HTC.out hl0).mono ?_
    clear HB HSB kb q
    rintro e w3' ⟨b, sb, kb, q, rfl, HB, HSB, hb3⟩
    replace HC := Lib.hid (below_then HC.out hb3)
    replace HA := Lib.hid (HA.out.below hb3)
    replace HSA := Lib.hid (HSA.out.below hb3)
    replace HTC := Lib.hid (HTC.out.stays hb3)
    clear hb3 CK
    have CK := Lib.hid (Below.refl w3'.heap.size w3')
    have HBO := Lib.hid (fun w h1 h2 h3 => joinBoth (.pointer (some ⟨a, 0, none⟩)) (.pointer (some ⟨b, 0, none⟩)) p q w h1 h2 h3)
    have HWI := Lib.hid (fun w h1 h2 h3 => joinWithin (.pointer (some ⟨a, 0, none⟩)) (.pointer (some ⟨b, 0, none⟩)) p q w h1 h2 h3)
    have HEQ := Lib.hid (fun w h1 h2 h3 => joinEqual (.pointer (some ⟨a, 0, none⟩)) (.pointer (some ⟨b, 0, none⟩)) p q w h1 h2 h3)
    have HNW := Lib.hid (fun w h1 h2 h3 => within_nil (.pointer (some ⟨a, 0, none⟩)) p w h1 h2 h3)
    have HLA := Lib.hid (fun w h1 => rLen sa p w h1)
    have HLB := Lib.hid (fun w h1 => rLen sb q w h1)
    have HPOS := Lib.hid (both_pos p q)
    go_wp2_with fail
    refine (rJoin1 sa sb p q _ (HSA.out.below CK.out) (HSB.out.below CK.out)).mono ?_
    rintro e w10 ⟨g, rfl, _, HGS, hbz⟩
    replace CK := Lib.hid (below_then CK.out hbz)
    have HLN := Lib.hid (fun h1 => rLen g (bothP p q) w10 h1)
    generalize (L (bothP p q)).length = n at *
    generalize (L p).length = la at *
    generalize (L q).length = lb at *
    clear hbz
    go_wp2_with fail
    refine (HLN.out HGS.out).mono ?_
    rintro e w11 ⟨rfl, hbz⟩
    replace CK := Lib.hid (below_then CK.out hbz)
    clear hbz HLN HGS
    go_wp2_with fail
    refine (HBO.out _ (HA.out.below CK.out).v (HB.out.below CK.out).v (HTC.out.stays CK.out)).mono ?_
    rintro e w12 ⟨rfl, hbz⟩
    replace CK := Lib.hid (below_then CK.out hbz)
    clear hbz
    go_wp2_with fail
    refine (HWI.out _ (HA.out.below CK.out).v (HB.out.below CK.out).v (HTC.out.stays CK.out)).mono ?_
    rintro e w13 ⟨r, rfl, HR, hbz⟩
    replace CK := Lib.hid (below_then CK.out hbz)
    have hr : ((n : Int) == (la : Int)) = r := by rw [HR.out, nat_beq]
    clear hbz
    go_wp2_with fail
    refine (HLA.out _ (HSA.out.below CK.out)).mono ?_
    rintro e w14 ⟨rfl, hbz⟩
    replace CK := Lib.hid (below_then CK.out hbz)
    clear hbz
    go_wp2_with fail
    refine (HEQ.out _ (HA.out.below CK.out).v (HB.out.below CK.out).v (HTC.out.stays CK.out)).mono ?_
    rintro e w15 ⟨r2, rfl, HR2, hbz⟩
    replace CK := Lib.hid (below_then CK.out hbz)
    clear hbz
    go_wp2_with fail
    refine (HLA.out _ (HSA.out.below CK.out)).mono ?_
    rintro e w16 ⟨rfl, hbz⟩
    replace CK := Lib.hid (below_then CK.out hbz)
    clear hbz
    cases r
    · obtain rfl : r2 = false := by
        have h1 := HR.out
        have h2 : ¬ n = la := fun h => by rw [decide_eq_true h] at h1; cases h1
        rw [HR2.out, decide_eq_false (fun h => h2 h.2)]
      skip
      go_wp2_with fail
      refine (joinMeet (.pointer (some ⟨a, 0, none⟩)) (.pointer (some ⟨b, 0, none⟩)) p q _ (HA.out.below CK.out).v (HB.out.below CK.out).v (HTC.out.stays CK.out)).mono ?_
      rintro e w18 ⟨m, rfl, HM, hbz⟩
      replace CK := Lib.hid (below_then CK.out hbz)
      clear hbz
      have HMP := Lib.hid (HM.out.trans HPOS.out)
      have hm : decide (0 < n) = m := by
        cases m
        · rw [decide_eq_false]
          intro h
          have := HMP.out.2 (by omega)
          cases this
        · rw [decide_eq_true]
          have := HMP.out.1 rfl
          omega
      go_wp2_with fail
      refine (joinWithin (.pointer none) (.pointer (some ⟨a, 0, none⟩)) noneP p _ nilV (HA.out.below CK.out).v (HTC.out.stays CK.out)).mono ?_
      rintro e w19 ⟨r4, rfl, HR4, hbz⟩
      replace CK := Lib.hid (below_then CK.out hbz)
      clear hbz
      obtain rfl : r4 = true := by rw [HR4.out, none_both, L_noneP]; rfl
      go_wp2_with fail
      refine (HNW.out _ (HA.out.below CK.out).v nilV (HTC.out.stays CK.out)).mono ?_
      rintro e w20 ⟨r5, rfl, HR5, hbz⟩
      replace CK := Lib.hid (below_then CK.out hbz)
      clear hbz
      have hr5 : ((la : Int) == 0) = r5 := by rw [HR5.out, show (0 : Int) = ((0 : Nat) : Int) from rfl, nat_beq]
      go_wp2_with fail
      refine (HLA.out _ (HSA.out.below CK.out)).mono ?_
      rintro e w21 ⟨rfl, hbz⟩
      replace CK := Lib.hid (below_then CK.out hbz)
      clear hbz
      go_wp2_with fail
      refine (joinMeet (.pointer (some ⟨a, 0, none⟩)) (.pointer none) p noneP _ (HA.out.below CK.out).v nilV (HTC.out.stays CK.out)).mono ?_
      rintro e w22 ⟨m2, rfl, HM2, hbz⟩
      replace CK := Lib.hid (below_then CK.out hbz)
      clear hbz
      obtain rfl : m2 = false := meet_false HM2.out (fun i _ => fun h => by cases h.2)
      go_wp2_with fail
      refine (joinMeet (.pointer none) (.pointer (some ⟨a, 0, none⟩)) noneP p _ nilV (HA.out.below CK.out).v (HTC.out.stays CK.out)).mono ?_
      rintro e w23 ⟨m3, rfl, HM3, hbz⟩
      replace CK := Lib.hid (below_then CK.out hbz)
      obtain rfl : m3 = false := meet_false HM3.out (fun i _ => fun h => by cases h.1)
      go_wp2
      go_ret
      exact ⟨rfl, below_then HC.out CK.out⟩
    · have hr3 : ((n : Int) == (lb : Int)) = r2 := by
        have h1 : n = la := of_decide_eq_true HR.out.symm
        rw [HR2.out, nat_beq, h1]
        by_cases h : la = lb <;> simp [h]
      go_wp2_with fail
      refine (HLB.out _ (HSB.out.below CK.out)).mono ?_
      rintro e w17 ⟨rfl, hbz⟩
      replace CK := Lib.hid (below_then CK.out hbz)
      clear hbz
      skip
      go_wp2_with fail
      refine (joinMeet (.pointer (some ⟨a, 0, none⟩)) (.pointer (some ⟨b, 0, none⟩)) p q _ (HA.out.below CK.out).v (HB.out.below CK.out).v (HTC.out.stays CK.out)).mono ?_
      rintro e w18 ⟨m, rfl, HM, hbz⟩
      replace CK := Lib.hid (below_then CK.out hbz)
      clear hbz
      have HMP := Lib.hid (HM.out.trans HPOS.out)
      have hm : decide (0 < n) = m := by
        cases m
        · rw [decide_eq_false]
          intro h
          have := HMP.out.2 (by omega)
          cases this
        · rw [decide_eq_true]
          have := HMP.out.1 rfl
          omega
      go_wp2_with fail
      refine (joinWithin (.pointer none) (.pointer (some ⟨a, 0, none⟩)) noneP p _ nilV (HA.out.below CK.out).v (HTC.out.stays CK.out)).mono ?_
      rintro e w19 ⟨r4, rfl, HR4, hbz⟩
      replace CK := Lib.hid (below_then CK.out hbz)
      clear hbz
      obtain rfl : r4 = true := by rw [HR4.out, none_both, L_noneP]; rfl
      go_wp2_with fail
      refine (HNW.out _ (HA.out.below CK.out).v nilV (HTC.out.stays CK.out)).mono ?_
      rintro e w20 ⟨r5, rfl, HR5, hbz⟩
      replace CK := Lib.hid (below_then CK.out hbz)
      clear hbz
      have hr5 : ((la : Int) == 0) = r5 := by rw [HR5.out, show (0 : Int) = ((0 : Nat) : Int) from rfl, nat_beq]
      go_wp2_with fail
      refine (HLA.out _ (HSA.out.below CK.out)).mono ?_
      rintro e w21 ⟨rfl, hbz⟩
      replace CK := Lib.hid (below_then CK.out hbz)
      clear hbz
      go_wp2_with fail
      refine (joinMeet (.pointer (some ⟨a, 0, none⟩)) (.pointer none) p noneP _ (HA.out.below CK.out).v nilV (HTC.out.stays CK.out)).mono ?_
      rintro e w22 ⟨m2, rfl, HM2, hbz⟩
      replace CK := Lib.hid (below_then CK.out hbz)
      clear hbz
      obtain rfl : m2 = false := meet_false HM2.out (fun i _ => fun h => by cases h.2)
      go_wp2_with fail
      refine (joinMeet (.pointer none) (.pointer (some ⟨a, 0, none⟩)) noneP p _ nilV (HA.out.below CK.out).v (HTC.out.stays CK.out)).mono ?_
      rintro e w23 ⟨m3, rfl, HM3, hbz⟩
      replace CK := Lib.hid (below_then CK.out hbz)
      obtain rfl : m3 = false := meet_false HM3.out (fun i _ => fun h => by cases h.1)
      go_wp2
      go_ret
      exact ⟨rfl, below_then HC.out CK.out⟩
end Go.Proofs.YtbjekoljipjldaaGreatDoor
