/-
  math/bits' OnesCount64, TrailingZeros64, and package bit, walked.
-/
import Derived.Test.YtcnaikoloagbdaaGreatQBase
import Derived.Test.YtcnaikoloagbdaaGreatQBit
import Derived.Laws.BitsLemmas
import Derived.Laws.Bits64
import Derived.Laws.BitsAllLaws
namespace Go.Proofs.YtcnaikoloagbdaaGreat
set_option linter.unusedVariables false
set_option linter.unusedSimpArgs false
open Go.RowKit

theorem and_u64 (a b : Nat) (ha : a < 18446744073709551616) (hb : b < 18446744073709551616) : bits .and .u64 (a : Int) (b : Int) = ((a &&& b : Nat) : Int) := bits_and_u64_nat a b ha hb
set_option maxRecDepth 100000 in
set_option maxHeartbeats 1000000 in
theorem onesCount (x : Nat) (w : World) (hx : x < 18446744073709551616) : Calls Tryz.prog 432 #[.int .u64 x] w fun e w' => e = .returned (.int .i64 (pop x)) ∧ w' = w := by
  obtain ⟨p1, hp1⟩ : ∃ p, (x / 2) &&& 6148914691236517205 = p := ⟨_, rfl⟩
  obtain ⟨q1, hq1⟩ : ∃ q, x &&& 6148914691236517205 = q := ⟨_, rfl⟩
  obtain ⟨a, ha⟩ : ∃ a, p1 + q1 = a := ⟨_, rfl⟩
  obtain ⟨p2, hp2⟩ : ∃ p, (a / 4) &&& 3689348814741910323 = p := ⟨_, rfl⟩
  obtain ⟨q2, hq2⟩ : ∃ q, a &&& 3689348814741910323 = q := ⟨_, rfl⟩
  obtain ⟨b, hb⟩ : ∃ b, p2 + q2 = b := ⟨_, rfl⟩
  obtain ⟨c, hc⟩ : ∃ c, (b / 16 + b) &&& 1085102592571150095 = c := ⟨_, rfl⟩
  have hsw : swar x = c := by unfold swar; simp only; rw [hp1, hq1, ha, hp2, hq2, hb, hc]
  obtain ⟨hc1, hpop⟩ := swar_pop x
  rw [hsw] at hc1 hpop
  have b1 : p1 ≤ 6148914691236517205 := by rw [← hp1]; exact Nat.and_le_right
  have b2 : q1 ≤ 6148914691236517205 := by rw [← hq1]; exact Nat.and_le_right
  have b3 : p2 ≤ 3689348814741910323 := by rw [← hp2]; exact Nat.and_le_right
  have b4 : q2 ≤ 3689348814741910323 := by rw [← hq2]; exact Nat.and_le_right
  have k1 : bits .and .u64 ((x : Int) / 2) 6148914691236517205 = (p1 : Int) := by rw [← hp1, ← and_u64 _ _ (by omega) (by omega)]; rfl
  have k2 : bits .and .u64 (x : Int) 6148914691236517205 = (q1 : Int) := by rw [← hq1, ← and_u64 _ _ (by omega) (by omega)]; rfl
  have k3 : (p1 : Int) + (q1 : Int) = (a : Int) := by omega
  have k4 : bits .and .u64 ((a : Int) / 4) 3689348814741910323 = (p2 : Int) := by rw [← hp2, ← and_u64 _ _ (by omega) (by omega)]; rfl
  have k5 : bits .and .u64 (a : Int) 3689348814741910323 = (q2 : Int) := by rw [← hq2, ← and_u64 _ _ (by omega) (by omega)]; rfl
  have k6 : (p2 : Int) + (q2 : Int) = (b : Int) := by omega
  obtain ⟨bb, hbb⟩ : ∃ bb, b / 16 + b = bb := ⟨_, rfl⟩
  have k7 : (b : Int) / 16 + (b : Int) = (bb : Int) := by omega
  have k8 : bits .and .u64 (bb : Int) 1085102592571150095 = (c : Int) := by rw [← hc, hbb, ← and_u64 _ _ (by omega) (by omega)]; rfl
  obtain ⟨y, hy⟩ : ∃ y, c + c / 256 = y := ⟨_, rfl⟩
  have k9 : (c : Int) + (c : Int) / 256 = (y : Int) := by omega
  obtain ⟨z, hz⟩ : ∃ z, y + y / 65536 = z := ⟨_, rfl⟩
  have k10 : (y : Int) + (y : Int) / 65536 = (z : Int) := by omega
  obtain ⟨t, ht⟩ : ∃ t, z + z / 4294967296 = t := ⟨_, rfl⟩
  have k11 : (z : Int) + (z : Int) / 4294967296 = (t : Int) := by omega
  rw [hy, hz, ht] at hpop
  have t1 : t < 4611686018427387904 := by omega
  have n1 : (a : Int) < 18446744073709551616 := by omega
  have n2 : (b : Int) < 18446744073709551616 := by omega
  have n3 : (bb : Int) < 18446744073709551616 := by omega
  have n4 : (y : Int) < 18446744073709551616 := by omega
  have n5 : (z : Int) < 18446744073709551616 := by omega
  have n6 : (t : Int) < 4611686018427387904 := by omega
  have k12 : bits .and .i64 (t : Int) 127 = (pop x : Int) := by
    have h := bits_mask .i64 63 (by decide) (fun n h0 h1 => by rw [IntKind.wrap_i64]; omega) 7 (by decide) (t : Int) (by omega) (by omega)
    rw [show ((2 : Int) ^ 7 - 1) = 127 from rfl] at h
    rw [h, ← hpop]
    rfl
  clear hp1 hq1 ha hp2 hq2 hb hc hsw hc1 hpop hbb hy hz ht b1 b2 b3 b4
  go_enter Tryz.func432, Tryz.ntmps432
  go_wp2
  go_ret
  exact ⟨rfl, rfl⟩
/-- the library's table lies as its initialiser lays it -/
def Tab64 (w : World) : Prop := ∀ j, j < 64 → w.cell? ⟨0, j, none⟩ = some (.int .u8 (Lib.deBruijn64tab.getD j 0))
theorem Tab64.lt {w : World} (h : Tab64 w) : 0 < w.heap.size := by
  have h0 := h 0 (by decide)
  rcases Nat.lt_or_ge 0 w.heap.size with h1 | h1
  · exact h1
  · rw [World.cell?, Array.getElem?_eq_none h1] at h0
    cases h0
theorem Tab64.below {w w' : World} {B : Nat} (h : Tab64 w) (hb : Below B w w') (hB : 0 < B) : Tab64 w' := fun j hj => (hb.cell (p := ⟨0, j, none⟩) hB).trans (h j hj)
theorem Tab64.stays {w w' : World} (h : Tab64 w) (hb : Below w.heap.size w w') : Tab64 w' := h.below hb h.lt
set_option maxRecDepth 100000 in
set_option maxHeartbeats 1000000 in
theorem trailing (x : Nat) (w : World) (hx : x < 18446744073709551616) (h0 : x ≠ 0) (hT : Tab64 w) : Calls Tryz.prog 301 #[.int .u64 x] w fun e w' => e = .returned (.int .i64 (Lib.ctz 64 x)) ∧ w' = w := by
  obtain ⟨hlow, hk⟩ := Lib.lowest_bit 64 x h0 hx
  obtain ⟨hi, htab⟩ := Lib.deBruijn64_at _ hk
  rw [← hlow] at hi htab
  obtain ⟨k, hkk⟩ : ∃ k, Lib.ctz 64 x = k := ⟨_, rfl⟩
  rw [hkk] at hk htab ⊢
  obtain ⟨idx, hidx⟩ : ∃ idx, (x &&& (2 ^ 64 - x)) * 285870213051353865 % 18446744073709551616 / 288230376151711744 = idx := ⟨_, rfl⟩
  rw [hidx] at hi htab
  have e1 : IntKind.u64.wrap (-(x : Int)) = ((18446744073709551616 - x : Nat) : Int) := by rw [IntKind.wrap_u64]; omega
  have e2 : bits .and .u64 (x : Int) ((18446744073709551616 - x : Nat) : Int) = ((x &&& (2 ^ 64 - x) : Nat) : Int) := bits_and_u64_nat x _ hx (by omega)
  have key : IntKind.u64.wrap (bits .and .u64 (x : Int) (IntKind.u64.wrap (-(x : Int))) * 285870213051353865) / 288230376151711744 = (idx : Int) := by
    rw [e1, e2, IntKind.wrap_u64, ← hidx]
    generalize x &&& (2 ^ 64 - x) = lb
    omega
  have hc := hT idx hi
  have hx0 : ((x : Int) == 0) = false := by rw [beq_eq_false_iff_ne]; omega
  have hc' : w.cell? ⟨0, idx, none⟩ = some (.int .u8 (k : Int)) := by rw [hc]; simp only [← htab]
  have hi' : (idx : Int) < 64 := by omega
  clear hlow hi htab hidx e1 e2 hc hT
  go_enter Tryz.func301, Tryz.ntmps301
  go_wp2_with (simp only [key])
  go_ret
  exact ⟨rfl, rfl⟩
/-- a without b's bits -/
def andn (a b : Nat) : Nat := a &&& (18446744073709551615 - b)
theorem andn_bit (a b i : Nat) (hb : b < 18446744073709551616) (hi : i < 64) : (andn a b).testBit i = (a.testBit i && !b.testBit i) := by
  unfold andn
  rw [Nat.testBit_and, show (18446744073709551615 - b : Nat) = 2 ^ 64 - (b + 1) by omega, Nat.testBit_two_pow_sub_succ (by simpa using hb)]
  simp [hi]
theorem andn_lt (a b : Nat) (ha : a < 18446744073709551616) : andn a b < 18446744073709551616 := Nat.lt_of_le_of_lt Nat.and_le_left ha
/-- the bits from one on below another one -/
def mask (a b : Nat) : Nat := andn (2 ^ b - 1) (2 ^ a - 1)
theorem pow64 {i : Nat} (h : i ≤ 64) : 2 ^ i ≤ 18446744073709551616 := Nat.le_trans (Nat.pow_le_pow_right (by decide) h) (by decide)
theorem mask_lt (a b : Nat) (hb : b ≤ 64) : mask a b < 18446744073709551616 := andn_lt _ _ (by have := pow64 hb; have := Nat.two_pow_pos b; omega)
theorem mask_bit (a b i : Nat) (ha : a ≤ 64) (hi : i < 64) : (mask a b).testBit i = (decide (a ≤ i) && decide (i < b)) := by
  unfold mask
  rw [andn_bit _ _ _ (by have := pow64 ha; have := Nat.two_pow_pos a; omega) hi, Nat.testBit_two_pow_sub_one, Nat.testBit_two_pow_sub_one]
  by_cases h1 : i < b <;> by_cases h2 : i < a <;> simp [h1, h2] <;> omega
set_option maxRecDepth 100000 in
set_option maxHeartbeats 1000000 in
theorem bitOne (i : Nat) (w : World) (hi : i < 64) : Calls Tryz.prog 295 #[.int .i64 i] w fun e w' => e = .returned (.int .u64 ((2 ^ i : Nat) : Int)) ∧ w' = w := by
  have hi1 : (i : Int) < 64 := by omega
  have hp : 2 ^ i < 18446744073709551616 := Nat.lt_of_lt_of_le (Nat.pow_lt_pow_right (by decide) hi) (by decide)
  obtain ⟨z, hz⟩ : ∃ z, 2 ^ i = z := ⟨_, rfl⟩
  have hw : IntKind.u64.wrap ((2 : Int) ^ i) = (z : Int) := by
    rw [show ((2 : Int) ^ i) = ((2 ^ i : Nat) : Int) by norm_cast, hz, IntKind.wrap_u64]
    omega
  rw [hz]
  clear hz hp
  go_enter Tryz.func295, Tryz.ntmps295
  go_wp2
  go_ret
  exact ⟨rfl, rfl⟩
set_option maxRecDepth 100000 in
set_option maxHeartbeats 1000000 in
theorem bitBelow (i : Nat) (w : World) (hi : i ≤ 64) : Calls Tryz.prog 299 #[.int .i64 i] w fun e w' => e = .returned (.int .u64 ((2 ^ i - 1 : Nat) : Int)) ∧ w' = w := by
  have hp := pow64 hi
  have hp0 := Nat.two_pow_pos i
  by_cases h0 : i = 0
  · subst h0
    go_enter Tryz.func299, Tryz.ntmps299
    go_wp2
    go_ret
    exact ⟨rfl, rfl⟩
  · by_cases h1 : i = 64
    · subst h1
      go_enter Tryz.func299, Tryz.ntmps299
      go_wp2
      go_ret
      exact ⟨rfl, rfl⟩
    · have hi0 : ¬ (i : Int) ≤ 0 := by omega
      have hi1 : (i : Int) < 64 := by omega
      obtain ⟨z, hz⟩ : ∃ z, 2 ^ i = z := ⟨_, rfl⟩
      have hp1 : 2 ^ i < 18446744073709551616 := Nat.lt_of_lt_of_le (Nat.pow_lt_pow_right (by decide) (show i < 64 by omega)) (by decide)
      have hw : IntKind.u64.wrap ((2 : Int) ^ i) = (z : Int) := by
        rw [show ((2 : Int) ^ i) = ((2 ^ i : Nat) : Int) by norm_cast, hz, IntKind.wrap_u64]
        omega
      rw [hz] at hp1 hp0 hp ⊢
      have hw2 : IntKind.u64.wrap ((z : Int) - 1) = ((z - 1 : Nat) : Int) := by rw [IntKind.wrap_u64]; omega
      clear hz
      go_enter Tryz.func299, Tryz.ntmps299
      go_wp2
      go_ret
      exact ⟨by simp [hw2], rfl⟩
set_option maxRecDepth 100000 in
set_option maxHeartbeats 1000000 in
theorem bitMask (a b : Nat) (w : World) (ha : a ≤ 64) (hb : b ≤ 64) : Calls Tryz.prog 431 #[.int .i64 a, .int .i64 b] w fun e w' => e = .returned (.int .u64 (mask a b)) ∧ w' = w := by
  have hx : bits .andNot .u64 ((2 ^ b - 1 : Nat) : Int) ((2 ^ a - 1 : Nat) : Int) = (mask a b : Int) := u64_andNot_nat _ _ (by have := pow64 hb; have := Nat.two_pow_pos b; omega) (by have := pow64 ha; have := Nat.two_pow_pos a; omega)
  generalize hy : mask a b = y at *
  have HB := fun w => bitBelow b w hb
  have HA := fun w => bitBelow a w ha
  obtain ⟨p, hp⟩ : ∃ p, 2 ^ b - 1 = p := ⟨_, rfl⟩
  obtain ⟨q, hq⟩ : ∃ q, 2 ^ a - 1 = q := ⟨_, rfl⟩
  rw [hp, hq] at hx
  rw [hp] at HB
  rw [hq] at HA
  have HB := Lib.hid HB
  have HA := Lib.hid HA
  clear hp hq hy
  go_enter Tryz.func431, Tryz.ntmps431
  go_wp2_with fail
  refine (HB.out _).mono ?_
  rintro e w1 ⟨rfl, rfl⟩
  go_wp2_with fail
  refine (HA.out _).mono ?_
  rintro e w2 ⟨rfl, rfl⟩
  go_wp2
  go_ret
  exact ⟨rfl, rfl⟩
theorem and_one (x i : Nat) : x &&& 2 ^ i = if x.testBit i then 2 ^ i else 0 := by
  apply Nat.eq_of_testBit_eq
  intro j
  rw [Nat.testBit_and, Nat.testBit_two_pow]
  by_cases h : i = j
  · subst h
    by_cases hx : x.testBit i <;> simp [hx]
  · by_cases hx : x.testBit i <;> simp [h, hx]
set_option maxRecDepth 100000 in
set_option maxHeartbeats 1000000 in
theorem bitGet (x i : Nat) (w : World) (hx : x < 18446744073709551616) (hi : i < 64) : Calls Tryz.prog 282 #[.int .u64 x, .int .i64 i] w fun e w' => e = .returned (.bool (x.testBit i)) ∧ w' = w := by
  have HO := fun w => bitOne i w hi
  have hp : 2 ^ i < 18446744073709551616 := Nat.lt_of_lt_of_le (Nat.pow_lt_pow_right (by decide) hi) (by decide)
  have hp0 := Nat.two_pow_pos i
  have hx1 := bits_and_u64_nat x (2 ^ i) hx hp
  rw [and_one] at hx1
  obtain ⟨z, hz⟩ : ∃ z, 2 ^ i = z := ⟨_, rfl⟩
  rw [hz] at HO hx1 hp hp0
  obtain ⟨r, hr⟩ : ∃ r, x.testBit i = r := ⟨_, rfl⟩
  rw [hr] at hx1 ⊢
  have HO := Lib.hid HO
  clear hz hr
  cases r
  · go_enter Tryz.func282, Tryz.ntmps282
    go_wp2_with fail
    refine (HO.out _).mono ?_
    rintro e w1 ⟨rfl, rfl⟩
    simp only [Bool.false_eq_true, if_false] at hx1
    go_wp2
    go_ret
    exact ⟨rfl, rfl⟩
  · go_enter Tryz.func282, Tryz.ntmps282
    go_wp2_with fail
    refine (HO.out _).mono ?_
    rintro e w1 ⟨rfl, rfl⟩
    simp only [if_true] at hx1
    have hz0 : ((z : Int) == 0) = false := by rw [beq_eq_false_iff_ne]; omega
    have hz1 : ((z : Int) != 0) = true := by simp; omega
    go_wp2
    go_ret
    exact ⟨rfl, rfl⟩
set_option maxRecDepth 100000 in
set_option maxHeartbeats 1000000 in
theorem bitSet (x i : Nat) (w : World) (hx : x < 18446744073709551616) (hi : i < 64) : Calls Tryz.prog 288 #[.int .u64 x, .int .i64 i] w fun e w' => e = .returned (.int .u64 ((x ||| 2 ^ i : Nat) : Int)) ∧ w' = w := by
  have HO := fun w => bitOne i w hi
  have hp : 2 ^ i < 18446744073709551616 := Nat.lt_of_lt_of_le (Nat.pow_lt_pow_right (by decide) hi) (by decide)
  have hx1 := bits_or_u64_nat x (2 ^ i) hx hp
  obtain ⟨z, hz⟩ : ∃ z, 2 ^ i = z := ⟨_, rfl⟩
  rw [hz] at HO hx1 ⊢
  obtain ⟨r, hr⟩ : ∃ r, x ||| z = r := ⟨_, rfl⟩
  rw [hr] at hx1 ⊢
  have HO := Lib.hid HO
  clear hz hr hp
  go_enter Tryz.func288, Tryz.ntmps288
  go_wp2_with fail
  refine (HO.out _).mono ?_
  rintro e w1 ⟨rfl, rfl⟩
  go_wp2
  go_ret
  exact ⟨rfl, rfl⟩
set_option maxRecDepth 100000 in
theorem bitCount (x : Nat) (w : World) (hx : x < 18446744073709551616) : Calls Tryz.prog 427 #[.int .u64 x] w fun e w' => e = .returned (.int .i64 (pop x)) ∧ w' = w := by
  go_enter Tryz.func427, Tryz.ntmps427
  go_wp2_with fail
  refine (onesCount x _ hx).mono ?_
  rintro e w1 ⟨rfl, rfl⟩
  go_wp2
  go_ret
  exact ⟨rfl, rfl⟩
/-- the least bit, or -1 -/
def lowBit (x : Nat) : Int := if x = 0 then -1 else (Lib.ctz 64 x : Int)
set_option maxRecDepth 100000 in
theorem bitLow (x : Nat) (w : World) (hx : x < 18446744073709551616) (hT : Tab64 w) : Calls Tryz.prog 297 #[.int .u64 x] w fun e w' => e = .returned (.int .i64 (lowBit x)) ∧ w' = w := by
  have HT := Lib.hid hT
  clear hT
  by_cases h0 : x = 0
  · subst h0
    go_enter Tryz.func297, Tryz.ntmps297
    go_wp2
    go_ret
    exact ⟨rfl, rfl⟩
  · have hl : lowBit x = (Lib.ctz 64 x : Int) := by unfold lowBit; rw [if_neg h0]
    rw [hl]
    have h0' : ((x : Int) == 0) = false := by rw [beq_eq_false_iff_ne]; omega
    go_enter Tryz.func297, Tryz.ntmps297
    go_wp2_with fail
    refine (trailing x _ hx h0 HT.out).mono ?_
    rintro e w1 ⟨rfl, rfl⟩
    go_wp2
    go_ret
    exact ⟨rfl, rfl⟩
end Go.Proofs.YtcnaikoloagbdaaGreat
