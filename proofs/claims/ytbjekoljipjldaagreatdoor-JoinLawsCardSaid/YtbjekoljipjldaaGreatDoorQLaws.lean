/-
  The walk of the law JoinLaws.
-/
import Derived.Test.YtbjekoljipjldaaGreatDoorQAsks
namespace Go.Proofs.YtbjekoljipjldaaGreatDoor
set_option linter.unusedVariables false
set_option linter.unusedSimpArgs false
open Go.RowKit

def orB (p q : Nat → Bool) : Nat → Bool := fun i => p i || q i
def lessB (p q : Nat → Bool) : Nat → Bool := fun i => p i && !q i
def xorB (p q : Nat → Bool) : Nat → Bool := fun i => p i != q i
theorem len_or (p q : Nat → Bool) : (L (orB p q)).length + (L (bothP p q)).length = (L p).length + (L q).length := by
  rw [L_len, L_len, L_len, L_len]
  have h1 := cnt_or p q 0 65536
  have h2 := cnt_sub q p 0 65536
  have h3 : cnt (fun i => !p i && q i) 0 65536 = cnt (fun i => q i && !p i) 0 65536 := cnt_congr _ fun i _ _ => by rw [Bool.and_comm]
  have h4 : cnt (bothP p q) 0 65536 = cnt (fun i => q i && p i) 0 65536 := cnt_congr _ fun i _ _ => by unfold bothP; rw [Bool.and_comm]
  have h5 : cnt (orB p q) 0 65536 = cnt (fun i => p i || q i) 0 65536 := rfl
  omega
theorem len_less (p q : Nat → Bool) : (L (lessB p q)).length + (L (bothP p q)).length = (L p).length := by
  rw [L_len, L_len, L_len]
  exact cnt_sub p q 0 65536
set_option maxRecDepth 100000 in
set_option maxHeartbeats 8000000 in
theorem walk_joinLaws (A0 : Option Addr) (c0 : Nat) (a0 : List (Nat × Nat × Nat × Nat)) (A1 : Option Addr) (c1 : Nat) (a1 : List (Nat × Nat × Nat × Nat)) (a2 a3 : Bool) (W : World)
    (s0 : a0.length * 8 ≤ 140737488351232) (l0 : a0.length ≤ c0) (y0 : RdA W A0 a0) (s1 : a1.length * 8 ≤ 140737488351232) (l1 : a1.length ≤ c1) (y1 : RdA W A1 a1) (hL : laidMetH Tryz.prog Rows.joinLawsRow.laid W) :
    Calls Tryz.prog 6 #[.slice A0 a0.length c0, .slice A1 a1.length c1, .bool a2, .bool a3] W fun e W' => e = .returned (.bool true) ∧ Below W.heap.size W W' := by
  have HT := Lib.hid (tab64 hL)
  have HR0 := Lib.hid y0
  have HR1 := Lib.hid y1
  have hl0 : a0.length ≤ 140737488351232 := by omega
  have hl1 : a1.length ≤ 140737488351232 := by omega
  clear hL y0 y1 s0 s1 l0 l1
  go_enter Tryz.func6, Tryz.ntmps6
  go_wp2_with fail
  refine (awake10 _ HT.out).mono ?_
  rintro e w1 ⟨rfl, hb1⟩
  have HB1 := Lib.hid hb1
  clear hb1
  go_wp2_with fail
  refine (layAny A0 c0 a0 a2 _ (HR0.out.below HB1.out) (HT.out.stays HB1.out) hl0).mono ?_
  rintro e w2 ⟨a, sa, ka, p, rfl, HA, HSA, hb2⟩
  have HB2 := Lib.hid (below_then HB1.out hb2)
  clear hb2
  go_wp2_with fail
  refine (layAny A1 c1 a1 a3 _ (HR1.out.below HB2.out) (HT.out.stays HB2.out) hl1).mono ?_
  rintro e w3 ⟨b, sb, kb, q, rfl, HB, HSB, hb3⟩
  have HC := Lib.hid (below_then HB2.out hb3)
  replace HA := Lib.hid (HA.out.below hb3)
  replace HSA := Lib.hid (HSA.out.below hb3)
  have HTC := Lib.hid (HT.out.stays HC.out)
  clear hb3 HB1 HB2 HR1
  have CK := Lib.hid (Below.refl w3.heap.size w3)
  have HL1 := Lib.hid (len_or p q)
  have HL2 := Lib.hid (len_less p q)
  have bd1 := L_le (orB p q)
  have bd2 := L_le (bothP p q)
  have bd3 := L_le p
  have bd4 := L_le q
  have bd5 := L_le (lessB p q)
  have HLO := Lib.hid (fun (x : Nat) (w : World) (k : Int) (base : Nat) (h : Box w base x k (orB p q)) => boxLen _ _ w h.v)
  have HLN := Lib.hid (fun (x : Nat) (w : World) (k : Int) (base : Nat) (h : Box w base x k (bothP p q)) => boxLen _ _ w h.v)
  have HLL := Lib.hid (fun (x : Nat) (w : World) (k : Int) (base : Nat) (h : Box w base x k (lessB p q)) => boxLen _ _ w h.v)
  have HLA := Lib.hid (fun (x : Nat) (w : World) (k : Int) (base : Nat) (h : Box w base x k p) => boxLen _ _ w h.v)
  have HLB := Lib.hid (fun (x : Nat) (w : World) (k : Int) (base : Nat) (h : Box w base x k q) => boxLen _ _ w h.v)
  have HBO := Lib.hid (fun w h1 h2 h3 => joinBoth (.pointer (some ⟨a, 0, none⟩)) (.pointer (some ⟨b, 0, none⟩)) p q w h1 h2 h3)
  generalize (L (orB p q)).length = no at *
  generalize (L (bothP p q)).length = nn at *
  generalize (L (lessB p q)).length = nl at *
  generalize (L p).length = la at *
  generalize (L q).length = lb at *
  have e1 : ((no : Int) + (nn : Int) == (la : Int) + (lb : Int)) = true := by rw [beq_iff_eq]; have := HL1.out; omega
  have e2 : ((nl : Int) == (la : Int) - (nn : Int)) = true := by rw [beq_iff_eq]; have := HL2.out; omega
  go_wp2_with fail
  refine (or2 (some ⟨a, 0, none⟩) (some ⟨b, 0, none⟩) p q _ (HA.out.below CK.out).v (HB.out.below CK.out).v (HTC.out.stays CK.out)).mono ?_
  rintro e w4 ⟨xo, rfl, HO, hbz⟩
  replace CK := Lib.hid (below_then CK.out hbz)
  clear hbz
  go_wp2_with fail
  refine (and2 (some ⟨a, 0, none⟩) (some ⟨b, 0, none⟩) p q _ (HA.out.below CK.out).v (HB.out.below CK.out).v (HTC.out.stays CK.out)).mono ?_
  rintro e w5 ⟨xn, rfl, HN, hbz⟩
  replace CK := Lib.hid (below_then CK.out hbz)
  replace HO := Lib.hid (HO.out.below hbz)
  clear hbz
  go_wp2_with fail
  refine (less2 (some ⟨a, 0, none⟩) (some ⟨b, 0, none⟩) p q _ (HA.out.below CK.out).v (HB.out.below CK.out).v (HTC.out.stays CK.out)).mono ?_
  rintro e w6 ⟨xl, rfl, HLS, hbz⟩
  replace CK := Lib.hid (below_then CK.out hbz)
  replace HO := Lib.hid (HO.out.below hbz)
  replace HN := Lib.hid (HN.out.below hbz)
  clear hbz
  go_wp2_with fail
  refine (xor2 (some ⟨a, 0, none⟩) (some ⟨b, 0, none⟩) p q _ (HA.out.below CK.out).v (HB.out.below CK.out).v (HTC.out.stays CK.out)).mono ?_
  rintro e w7 ⟨xx, rfl, HXX, hbz⟩
  replace CK := Lib.hid (below_then CK.out hbz)
  replace HO := Lib.hid (HO.out.below hbz)
  replace HN := Lib.hid (HN.out.below hbz)
  replace HLS := Lib.hid (HLS.out.below hbz)
  replace HA := Lib.hid (HA.out.below CK.out)
  replace HB := Lib.hid (HB.out.below CK.out)
  replace HC := Lib.hid (below_then HC.out CK.out)
  replace HTC := Lib.hid (HTC.out.stays CK.out)
  clear hbz CK
  have CK := Lib.hid (Below.refl w7.heap.size w7)
  go_wp2_with fail
  refine (HLO.out xo _ _ _ (HO.out.below CK.out)).mono ?_
  rintro e w8 ⟨rfl, hbz⟩
  replace CK := Lib.hid (below_then CK.out hbz)
  clear hbz
  go_wp2_with fail
  refine (HLN.out xn _ _ _ (HN.out.below CK.out)).mono ?_
  rintro e w9 ⟨rfl, hbz⟩
  replace CK := Lib.hid (below_then CK.out hbz)
  clear hbz
  go_wp2_with fail
  refine (HLA.out a _ _ _ (HA.out.below CK.out)).mono ?_
  rintro e w10 ⟨rfl, hbz⟩
  replace CK := Lib.hid (below_then CK.out hbz)
  clear hbz
  go_wp2_with fail
  refine (HLB.out b _ _ _ (HB.out.below CK.out)).mono ?_
  rintro e w11 ⟨rfl, hbz⟩
  replace CK := Lib.hid (below_then CK.out hbz)
  clear hbz
  go_wp2_with fail
  refine (HLN.out xn _ _ _ (HN.out.below CK.out)).mono ?_
  rintro e w12 ⟨rfl, hbz⟩
  replace CK := Lib.hid (below_then CK.out hbz)
  clear hbz
  go_wp2_with fail
  refine (HBO.out _ (HA.out.below CK.out).v (HB.out.below CK.out).v (HTC.out.stays CK.out)).mono ?_
  rintro e w13 ⟨rfl, hbz⟩
  replace CK := Lib.hid (below_then CK.out hbz)
  clear hbz
  go_wp2_with fail
  refine (HLL.out xl _ _ _ (HLS.out.below CK.out)).mono ?_
  rintro e w14 ⟨rfl, hbz⟩
  replace CK := Lib.hid (below_then CK.out hbz)
  clear hbz
  go_wp2_with fail
  refine (HLA.out a _ _ _ (HA.out.below CK.out)).mono ?_
  rintro e w15 ⟨rfl, hbz⟩
  replace CK := Lib.hid (below_then CK.out hbz)
  clear hbz
  go_wp2_with fail
  refine (HLN.out xn _ _ _ (HN.out.below CK.out)).mono ?_
  rintro e w16 ⟨rfl, hbz⟩
  replace CK := Lib.hid (below_then CK.out hbz)
  clear hbz HLO HLN HLL HLA HLB HBO
  go_wp2_with fail
  refine (less2 (some ⟨xo, 0, none⟩) (some ⟨xn, 0, none⟩) (orB p q) (bothP p q) _ (HO.out.below CK.out).v (HN.out.below CK.out).v (HTC.out.stays CK.out)).mono ?_
  rintro e w17 ⟨xd, rfl, HD, hbz⟩
  replace CK := Lib.hid (below_then CK.out hbz)
  clear hbz
  go_wp2_with fail
  refine (joinEqual (.pointer (some ⟨xx, 0, none⟩)) (.pointer (some ⟨xd, 0, none⟩)) (xorB p q) (lessB (orB p q) (bothP p q)) _ (HXX.out.below CK.out).v HD.out.v (HTC.out.stays CK.out)).mono ?_
  rintro e w18 ⟨r1, rfl, HR1, hbz⟩
  replace CK := Lib.hid (below_then CK.out hbz)
  clear hbz HD
  obtain rfl : r1 = true := by rw [HR1.out, decide_eq_true]; exact ⟨congrArg List.length (L_congr fun i _ => by simp only [xorB, lessB, orB, bothP]; cases p i <;> cases q i <;> rfl), congrArg List.length (L_congr fun i _ => by simp only [bothP, xorB, lessB, orB]; cases p i <;> cases q i <;> rfl)⟩
  go_wp2_with fail
  refine (joinMeet (.pointer (some ⟨xl, 0, none⟩)) (.pointer (some ⟨b, 0, none⟩)) (lessB p q) q _ (HLS.out.below CK.out).v (HB.out.below CK.out).v (HTC.out.stays CK.out)).mono ?_
  rintro e w19 ⟨m, rfl, HM, hbz⟩
  replace CK := Lib.hid (below_then CK.out hbz)
  clear hbz
  obtain rfl : m = false := meet_false HM.out (fun i _ h => by have h1 := h.1; unfold lessB at h1; rw [h.2] at h1; simp at h1)
  go_wp2_with fail
  refine (joinWithin (.pointer (some ⟨xn, 0, none⟩)) (.pointer (some ⟨a, 0, none⟩)) (bothP p q) p _ (HN.out.below CK.out).v (HA.out.below CK.out).v (HTC.out.stays CK.out)).mono ?_
  rintro e w20 ⟨r2, rfl, HR2, hbz⟩
  replace CK := Lib.hid (below_then CK.out hbz)
  clear hbz
  obtain rfl : r2 = true := by rw [HR2.out, decide_eq_true]; exact congrArg List.length (L_congr fun i _ => by simp only [bothP]; cases p i <;> cases q i <;> rfl)
  go_wp2_with fail
  refine (joinWithin (.pointer (some ⟨a, 0, none⟩)) (.pointer (some ⟨xo, 0, none⟩)) p (orB p q) _ (HA.out.below CK.out).v (HO.out.below CK.out).v (HTC.out.stays CK.out)).mono ?_
  rintro e w21 ⟨r3, rfl, HR3, hbz⟩
  replace CK := Lib.hid (below_then CK.out hbz)
  clear hbz
  obtain rfl : r3 = true := by rw [HR3.out, decide_eq_true]; exact congrArg List.length (L_congr fun i _ => by simp only [bothP, orB]; cases p i <;> cases q i <;> rfl)
  go_wp2_with fail
  refine (or2 (some ⟨xl, 0, none⟩) (some ⟨xn, 0, none⟩) (lessB p q) (bothP p q) _ (HLS.out.below CK.out).v (HN.out.below CK.out).v (HTC.out.stays CK.out)).mono ?_
  rintro e w22 ⟨xe, rfl, HE, hbz⟩
  replace CK := Lib.hid (below_then CK.out hbz)
  clear hbz
  go_wp2_with fail
  refine (joinEqual (.pointer (some ⟨xe, 0, none⟩)) (.pointer (some ⟨a, 0, none⟩)) (orB (lessB p q) (bothP p q)) p _ HE.out.v (HA.out.below CK.out).v (HTC.out.stays CK.out)).mono ?_
  rintro e w23 ⟨r4, rfl, HR4, hbz⟩
  replace CK := Lib.hid (below_then CK.out hbz)
  clear hbz HE
  obtain rfl : r4 = true := by rw [HR4.out, decide_eq_true]; exact ⟨congrArg List.length (L_congr fun i _ => by simp only [lessB, orB, bothP]; cases p i <;> cases q i <;> rfl), congrArg List.length (L_congr fun i _ => by simp only [bothP, lessB, orB]; cases p i <;> cases q i <;> rfl)⟩
  go_wp2
  go_ret
  exact ⟨rfl, below_then HC.out CK.out⟩
end Go.Proofs.YtbjekoljipjldaaGreatDoor
