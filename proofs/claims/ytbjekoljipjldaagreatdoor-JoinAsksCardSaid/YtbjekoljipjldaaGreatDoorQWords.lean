/-
  Words of 64 bits, in plain Lean: which bits are set, how many, the least; masks.
  math/bits' OnesCount64, TrailingZeros64, and package bit, walked.
  package strip on 1024 words, walked: there, Get, Set, Bits, New, Words, Of.
  strip.New, Words, Of, walked.
  The parts of a range of bits, word by word: strip.parts, walked.
  strip.parts: the iterator over a range's parts, made and handed back.
-/
import Derived.Lib.TrailingZeros
import Derived.Laws.Bits64b
import Derived.Test.YtbjekoljipjldaaGreatDoorQBase
import Derived.Laws.BitsLemmas
import Derived.Laws.Bits64
import Derived.Laws.BitsAllLaws
import Derived.IntWalk
import Derived.Deep.DrawnRows
import Derived.Deep.RegionLaw
import Derived.Laws.CopyOwn
import Derived.RangeFuncNested
import Derived.RangeFuncBound
import Derived.RangeFuncCalls
import Derived.RangeFuncLeaves
import Derived.RangeFuncFrom
import Derived.Shelf.Abstract
import Derived.Shelf.RegionOpen
import Derived.WalkKit
import Derived.OwnWalkIn
import Derived.TacticsInMore
import Derived.LoopNIn
import Derived.LoopIn
namespace Go.Proofs.YtbjekoljipjldaaGreatDoor
set_option linter.unusedVariables false
set_option linter.unusedSimpArgs false

/-- how many bits below n are set -/
def popN (x : Nat) : Nat → Nat
  | 0 => 0
  | n + 1 => popN x n + (if x.testBit n then 1 else 0)
/-- how many are set in a word -/
def pop (x : Nat) : Nat := popN x 64
theorem popN_le (x : Nat) : ∀ n, popN x n ≤ n
  | 0 => Nat.le_refl _
  | n + 1 => by
    have := popN_le x n
    simp only [popN]
    split <;> omega
theorem popN_zero (n : Nat) : popN 0 n = 0 := by
  induction n with
  | zero => rfl
  | succ n ih => simp [popN, ih]
theorem popN_congr {x y : Nat} : ∀ n, (∀ i, i < n → x.testBit i = y.testBit i) → popN x n = popN y n
  | 0, _ => rfl
  | n + 1, h => by
    simp only [popN]
    rw [popN_congr n (fun i hi => h i (by omega)), h n (by omega)]
/-- the low part, and the rest behind it -/
theorem popN_split (a y w : Nat) (ha : a < 2 ^ w) : ∀ n, popN (a + 2 ^ w * y) (w + n) = popN a w + popN y n
  | 0 => by
    simp only [Nat.add_zero, popN]
    refine popN_congr w (fun i hi => ?_)
    rw [Nat.add_comm, Nat.testBit_two_pow_mul_add _ ha, if_pos hi]
  | n + 1 => by
    rw [show w + (n + 1) = (w + n) + 1 from rfl, popN, popN_split a y w ha n, popN]
    have : (a + 2 ^ w * y).testBit (w + n) = y.testBit n := by
      rw [Nat.add_comm a, Nat.testBit_two_pow_mul_add _ ha, if_neg (by omega)]
      congr 1
      omega
    rw [this]
    omega
/-! the count as math/bits has it -/
theorem and_split (a x m y : Nat) (ha : a < 256) (hm : m < 256) : (a + 256 * x) &&& (m + 256 * y) = (a &&& m) + 256 * (x &&& y) := by
  apply Nat.eq_of_testBit_eq
  intro i
  have h1 : ∀ c z : Nat, c < 256 → (c + 256 * z).testBit i = if i < 8 then c.testBit i else z.testBit (i - 8) := fun c z hc => by
    rw [Nat.add_comm, show (256 : Nat) = 2 ^ 8 from rfl, Nat.testBit_two_pow_mul_add _ (by simpa using hc)]
  have hand : a &&& m < 256 := Nat.and_lt_two_pow (n := 8) _ (by simpa using hm)
  rw [Nat.testBit_and, h1 a x ha, h1 m y hm, h1 _ _ hand]
  split
  · rw [Nat.testBit_and]
  · rw [Nat.testBit_and]
def rep (m : Nat) : Nat → Nat
  | 0 => 0
  | k + 1 => m + 256 * rep m k
def T (f : Nat → Nat) : Nat → Nat → Nat
  | 0, _ => 0
  | k + 1, x => f (x % 256) + 256 * T f k (x / 256)
def e1 (b : Nat) : Nat := ((b / 2) &&& 85) + (b &&& 85)
def e2 (b : Nat) : Nat := ((b / 4) &&& 51) + (b &&& 51)
def e3 (b : Nat) : Nat := (b / 16 + b) &&& 15
theorem e1_in : ∀ b, b < 256 → e1 b < 256 := by decide +kernel
theorem e2_in : ∀ b, b < 256 → e2 b < 256 := by decide +kernel
theorem e12_in : ∀ b, b < 256 → e2 (e1 b) ≤ 68 ∧ e2 (e1 b) % 16 ≤ 4 := by decide +kernel
theorem e123_pop : ∀ b, b < 256 → e3 (e2 (e1 b)) = popN b 8 := by decide +kernel
theorem sh1 : ∀ r, r < 256 → ∀ b, b < 2 → ((r + 256 * b) / 2) &&& 85 = (r / 2) &&& 85 := by decide +kernel
theorem sh2 : ∀ r, r < 256 → ∀ b, b < 4 → ((r + 256 * b) / 4) &&& 51 = (r / 4) &&& 51 := by decide +kernel
theorem sh3 : ∀ r, r < 69 → ∀ b, b < 5 → ((r + 256 * b) / 16 + r) &&& 15 = e3 r := by decide +kernel
theorem step1 : ∀ k x, ((x / 2) &&& rep 85 k) + (x &&& rep 85 k) = T e1 k x
  | 0, x => by simp [rep, T]
  | k + 1, x => by
    have hx : x = x % 256 + 256 * (x / 256) := by omega
    have hx2 : x / 2 = (x % 256 + 256 * (x / 256 % 2)) / 2 + 256 * (x / 256 / 2) := by omega
    have h1 : x &&& rep 85 (k + 1) = (x % 256 &&& 85) + 256 * (x / 256 &&& rep 85 k) := by
      conv => lhs; rw [hx]
      exact and_split _ _ _ _ (by omega) (by omega)
    have h2 : (x / 2) &&& rep 85 (k + 1) = ((x % 256) / 2 &&& 85) + 256 * (x / 256 / 2 &&& rep 85 k) := by
      conv => lhs; rw [hx2]
      rw [rep, and_split _ _ _ _ (by omega) (by omega), sh1 _ (by omega) _ (by omega)]
    rw [h1, h2, T, ← step1 k (x / 256), e1]
    omega
theorem step2 : ∀ k x, ((x / 4) &&& rep 51 k) + (x &&& rep 51 k) = T e2 k x
  | 0, x => by simp [rep, T]
  | k + 1, x => by
    have hx : x = x % 256 + 256 * (x / 256) := by omega
    have hx2 : x / 4 = (x % 256 + 256 * (x / 256 % 4)) / 4 + 256 * (x / 256 / 4) := by omega
    have h1 : x &&& rep 51 (k + 1) = (x % 256 &&& 51) + 256 * (x / 256 &&& rep 51 k) := by
      conv => lhs; rw [hx]
      exact and_split _ _ _ _ (by omega) (by omega)
    have h2 : (x / 4) &&& rep 51 (k + 1) = ((x % 256) / 4 &&& 51) + 256 * (x / 256 / 4 &&& rep 51 k) := by
      conv => lhs; rw [hx2]
      rw [rep, and_split _ _ _ _ (by omega) (by omega), sh2 _ (by omega) _ (by omega)]
    rw [h1, h2, T, ← step2 k (x / 256), e2]
    omega
theorem T_T {f g : Nat → Nat} (hf : ∀ b, b < 256 → f b < 256) : ∀ k x, T g k (T f k x) = T (fun b => g (f b)) k x
  | 0, _ => rfl
  | k + 1, x => by
    have h := hf (x % 256) (by omega)
    have h1 : (f (x % 256) + 256 * T f k (x / 256)) % 256 = f (x % 256) := by omega
    have h2 : (f (x % 256) + 256 * T f k (x / 256)) / 256 = T f k (x / 256) := by omega
    simp only [T]
    rw [h1, h2, T_T hf k]
theorem T_low {f : Nat → Nat} {c : Nat} (hf : ∀ b, b < 256 → f b % 16 ≤ c) : ∀ k x, T f k x % 16 ≤ c
  | 0, _ => Nat.zero_le _
  | k + 1, x => by
    have := hf (x % 256) (by omega)
    simp only [T]
    omega
theorem step3 : ∀ k x, (T (fun b => e2 (e1 b)) k x / 16 + T (fun b => e2 (e1 b)) k x) &&& rep 15 k = T (fun b => e3 (e2 (e1 b))) k x
  | 0, x => by simp [rep, T]
  | k + 1, x => by
    have hr := (e12_in (x % 256) (by omega)).1
    have hq := T_low (f := fun b => e2 (e1 b)) (c := 4) (fun b hb => (e12_in b hb).2) k (x / 256)
    simp only [T]
    obtain ⟨r, hr'⟩ : ∃ r, e2 (e1 (x % 256)) = r := ⟨_, rfl⟩
    have ih := step3 k (x / 256)
    rw [← ih]
    generalize T (fun b => e2 (e1 b)) k (x / 256) = q at *
    rw [hr'] at hr ⊢
    have h1 : (r + 256 * q) / 16 + (r + 256 * q) = ((r + 256 * (q % 16)) / 16 + r) + 256 * (q / 16 + q) := by omega
    rw [h1, rep, and_split _ _ _ _ (by omega) (by omega), sh3 r (by omega) _ (by omega)]
theorem popN_bytes (x : Nat) : ∀ k, popN x (8 * (k + 1)) = popN (x % 256) 8 + popN (x / 256) (8 * k) := fun k => by
  have h := popN_split (x % 256) (x / 256) 8 (by omega) (8 * k)
  rw [show x % 256 + 2 ^ 8 * (x / 256) = x by omega] at h
  rw [show 8 * (k + 1) = 8 + 8 * k by omega, h]
theorem T_congr {f g : Nat → Nat} (h : ∀ b, b < 256 → f b = g b) : ∀ k x, T f k x = T g k x
  | 0, _ => rfl
  | k + 1, x => by simp only [T]; rw [h _ (by omega), T_congr h k]
def swar (x : Nat) : Nat :=
  let a := ((x / 2) &&& 6148914691236517205) + (x &&& 6148914691236517205)
  let b := ((a / 4) &&& 3689348814741910323) + (a &&& 3689348814741910323)
  (b / 16 + b) &&& 1085102592571150095
theorem swar_T (x : Nat) : swar x = T (fun b => popN b 8) 8 x := by
  unfold swar
  simp only
  rw [show (6148914691236517205 : Nat) = rep 85 8 by decide +kernel, show (3689348814741910323 : Nat) = rep 51 8 by decide +kernel, show (1085102592571150095 : Nat) = rep 15 8 by decide +kernel,
    step1, step2, T_T e1_in, step3, T_congr (fun b hb => e123_pop b hb)]
theorem sum_bytes (c f0 f1 f2 f3 f4 f5 f6 f7 : Nat) (hc : c = f0 + 256 * f1 + 65536 * f2 + 16777216 * f3 + 4294967296 * f4 + 1099511627776 * f5 + 281474976710656 * f6 + 72057594037927936 * f7) (h0 : f0 ≤ 8) (h1 : f1 ≤ 8) (h2 : f2 ≤ 8) (h3 : f3 ≤ 8) (h4 : f4 ≤ 8) (h5 : f5 ≤ 8) (h6 : f6 ≤ 8) (h7 : f7 ≤ 8) :
    c < 1152921504606846976 ∧ (c + c / 256 + (c + c / 256) / 65536 + (c + c / 256 + (c + c / 256) / 65536) / 4294967296) % 128 = f0 + f1 + f2 + f3 + f4 + f5 + f6 + f7 := by
  have hlt : c < 1152921504606846976 := by omega
  refine ⟨hlt, ?_⟩
  have d1 : c / 256 = f1 + 256 * f2 + 65536 * f3 + 16777216 * f4 + 4294967296 * f5 + 1099511627776 * f6 + 281474976710656 * f7 := by omega
  obtain ⟨y, hy⟩ : ∃ y, y = c + c / 256 := ⟨_, rfl⟩
  rw [← hy]
  rw [d1, hc] at hy
  clear d1 hc hlt
  obtain ⟨g7, hg7⟩ : ∃ g, g = f6 + f7 := ⟨_, rfl⟩
  obtain ⟨g5, hg5⟩ : ∃ g, g = f4 + f5 := ⟨_, rfl⟩
  obtain ⟨g3, hg3⟩ : ∃ g, g = f2 + f3 := ⟨_, rfl⟩
  obtain ⟨g1, hg1⟩ : ∃ g, g = f0 + f1 := ⟨_, rfl⟩
  obtain ⟨lo, hlo⟩ : ∃ lo, lo = f1 + f2 := ⟨_, rfl⟩
  obtain ⟨mi, hmi⟩ : ∃ mi, mi = f3 + f4 := ⟨_, rfl⟩
  obtain ⟨hi, hhi⟩ : ∃ hi, hi = f5 + f6 := ⟨_, rfl⟩
  have hy2 : y = g1 + 256 * lo + 65536 * g3 + 16777216 * mi + 4294967296 * g5 + 1099511627776 * hi + 281474976710656 * g7 + 72057594037927936 * f7 := by omega
  have e : f0 + f1 + f2 + f3 + f4 + f5 + f6 + f7 = g1 + g3 + g5 + g7 := by omega
  have b1 : g1 ≤ 16 := by omega
  have b3 : g3 ≤ 16 := by omega
  have b5 : g5 ≤ 16 := by omega
  have b7 : g7 ≤ 16 := by omega
  have c1 : lo ≤ 16 := by omega
  have c2 : mi ≤ 16 := by omega
  have c3 : hi ≤ 16 := by omega
  rw [e]
  clear hy hg7 hg5 hg3 hg1 hlo hmi hhi e h0 h1 h2 h3 h4 h5 h6
  have d2 : y / 65536 = g3 + 256 * mi + 65536 * g5 + 16777216 * hi + 4294967296 * g7 + 1099511627776 * f7 := by omega
  obtain ⟨z, hz⟩ : ∃ z, z = y + y / 65536 := ⟨_, rfl⟩
  rw [← hz]
  rw [d2, hy2] at hz
  clear d2 hy2
  obtain ⟨r, hr⟩ : ∃ r, r = (lo + mi) + 256 * (g3 + g5) + 65536 * (mi + hi) := ⟨_, rfl⟩
  have hr1 : r < 4194304 := by omega
  have hz2 : z = (g1 + g3) + 256 * r + 4294967296 * ((g5 + g7) + 256 * (hi + f7) + 65536 * g7 + 16777216 * f7) := by omega
  have d3 : z / 4294967296 = (g5 + g7) + 256 * (hi + f7) + 65536 * g7 + 16777216 * f7 := by omega
  rw [d3]
  omega
theorem T_8 (f : Nat → Nat) (x : Nat) : T f 8 x = f (x % 256) + 256 * (f (x / 256 % 256) + 256 * (f (x / 256 / 256 % 256) + 256 * (f (x / 256 / 256 / 256 % 256) + 256 * (f (x / 256 / 256 / 256 / 256 % 256) + 256 * (f (x / 256 / 256 / 256 / 256 / 256 % 256) + 256 * (f (x / 256 / 256 / 256 / 256 / 256 / 256 % 256) + 256 * f (x / 256 / 256 / 256 / 256 / 256 / 256 / 256 % 256))))))) := by
  simp only [T, Nat.mul_zero, Nat.add_zero]
theorem pop_8 (x : Nat) : pop x = popN (x % 256) 8 + (popN (x / 256 % 256) 8 + (popN (x / 256 / 256 % 256) 8 + (popN (x / 256 / 256 / 256 % 256) 8 + (popN (x / 256 / 256 / 256 / 256 % 256) 8 + (popN (x / 256 / 256 / 256 / 256 / 256 % 256) 8 + (popN (x / 256 / 256 / 256 / 256 / 256 / 256 % 256) 8 + popN (x / 256 / 256 / 256 / 256 / 256 / 256 / 256 % 256) 8)))))) := by
  unfold pop
  rw [popN_bytes x 7, popN_bytes _ 6, popN_bytes _ 5, popN_bytes _ 4, popN_bytes _ 3, popN_bytes _ 2, popN_bytes _ 1]
  rw [show 8 * 1 = 8 * (0 + 1) from rfl]
  have h2 : popN (x / 256 / 256 / 256 / 256 / 256 / 256 / 256) (8 * (0 + 1)) = popN (x / 256 / 256 / 256 / 256 / 256 / 256 / 256 % 256) 8 := popN_bytes _ 0
  rw [h2]
theorem swar_pop (x : Nat) : swar x < 1152921504606846976 ∧ (swar x + swar x / 256 + (swar x + swar x / 256) / 65536 + (swar x + swar x / 256 + (swar x + swar x / 256) / 65536) / 4294967296) % 128 = pop x := by
  have hp : ∀ b, popN b 8 ≤ 8 := fun b => popN_le b 8
  have h1 := swar_T x
  rw [T_8] at h1
  rw [pop_8]
  have a0 := hp (x % 256)
  have a1 := hp (x / 256 % 256)
  have a2 := hp (x / 256 / 256 % 256)
  have a3 := hp (x / 256 / 256 / 256 % 256)
  have a4 := hp (x / 256 / 256 / 256 / 256 % 256)
  have a5 := hp (x / 256 / 256 / 256 / 256 / 256 % 256)
  have a6 := hp (x / 256 / 256 / 256 / 256 / 256 / 256 % 256)
  have a7 := hp (x / 256 / 256 / 256 / 256 / 256 / 256 / 256 % 256)
  generalize popN (x % 256) 8 = f0 at *
  generalize popN (x / 256 % 256) 8 = f1 at *
  generalize popN (x / 256 / 256 % 256) 8 = f2 at *
  generalize popN (x / 256 / 256 / 256 % 256) 8 = f3 at *
  generalize popN (x / 256 / 256 / 256 / 256 % 256) 8 = f4 at *
  generalize popN (x / 256 / 256 / 256 / 256 / 256 % 256) 8 = f5 at *
  generalize popN (x / 256 / 256 / 256 / 256 / 256 / 256 % 256) 8 = f6 at *
  generalize popN (x / 256 / 256 / 256 / 256 / 256 / 256 / 256 % 256) 8 = f7 at *
  clear hp
  generalize swar x = c at *
  have := sum_bytes c f0 f1 f2 f3 f4 f5 f6 f7 (by omega) a0 a1 a2 a3 a4 a5 a6 a7
  rw [this.2]
  exact ⟨this.1, by omega⟩
end Go.Proofs.YtbjekoljipjldaaGreatDoor
namespace Go.Proofs.YtbjekoljipjldaaGreatDoor
set_option linter.unusedVariables false
set_option linter.unusedSimpArgs false
open Go.RowKit

theorem and_u64 (a b : Nat) (ha : a < 18446744073709551616) (hb : b < 18446744073709551616) : bits .and .u64 (a : Int) (b : Int) = ((a &&& b : Nat) : Int) := bits_and_u64_nat a b ha hb
set_option maxRecDepth 100000 in
set_option maxHeartbeats 1000000 in
theorem onesCount (x : Nat) (w : World) (hx : x < 18446744073709551616) : Calls Tryz.prog 123 #[.int .u64 x] w fun e w' => e = .returned (.int .i64 (pop x)) ∧ w' = w := by
  obtain ⟨p1, hp1⟩ : ∃ p, (x / 2) &&& 6148914691236517205 = p := ⟨_, rfl⟩
  obtain ⟨q1, hq1⟩ : ∃ q, x &&& 6148914691236517205 = q := ⟨_, rfl⟩
  obtain ⟨a, ha⟩ : ∃ a, p1 + q1 = a := ⟨_, rfl⟩
  obtain ⟨p2, hp2⟩ : ∃ p, (a / 4) &&& 3689348814741910323 = p := ⟨_, rfl⟩
  obtain ⟨q2, hq2⟩ : ∃ q, a &&& 3689348814741910323 = q := ⟨_, rfl⟩
  obtain ⟨b, hb⟩ : ∃ b, p2 + q2 = b := ⟨_, rfl⟩
  obtain ⟨c, hc⟩ : ∃ c, (b / 16 + b) &&& 1085102592571150095 = c := ⟨_, rfl⟩
  have hsw : swar x = c := by unfold swar; simp only; rw [hp1, hq1, ha, hp2, hq2, hb, hc]
  obtain ⟨hc1, hpop⟩ := swar_pop x
  rw [hsw] at hc1 hpop
  have b1 : p1 ≤ 6148914691236517205 := by rw [← hp1]; exact Nat.and_le_right
  have b2 : q1 ≤ 6148914691236517205 := by rw [← hq1]; exact Nat.and_le_right
  have b3 : p2 ≤ 3689348814741910323 := by rw [← hp2]; exact Nat.and_le_right
  have b4 : q2 ≤ 3689348814741910323 := by rw [← hq2]; exact Nat.and_le_right
  have k1 : bits .and .u64 ((x : Int) / 2) 6148914691236517205 = (p1 : Int) := by rw [← hp1, ← and_u64 _ _ (by omega) (by omega)]; rfl
  have k2 : bits .and .u64 (x : Int) 6148914691236517205 = (q1 : Int) := by rw [← hq1, ← and_u64 _ _ (by omega) (by omega)]; rfl
  have k3 : (p1 : Int) + (q1 : Int) = (a : Int) := by omega
  have k4 : bits .and .u64 ((a : Int) / 4) 3689348814741910323 = (p2 : Int) := by rw [← hp2, ← and_u64 _ _ (by omega) (by omega)]; rfl
  have k5 : bits .and .u64 (a : Int) 3689348814741910323 = (q2 : Int) := by rw [← hq2, ← and_u64 _ _ (by omega) (by omega)]; rfl
  have k6 : (p2 : Int) + (q2 : Int) = (b : Int) := by omega
  obtain ⟨bb, hbb⟩ : ∃ bb, b / 16 + b = bb := ⟨_, rfl⟩
  have k7 : (b : Int) / 16 + (b : Int) = (bb : Int) := by omega
  have k8 : bits .and .u64 (bb : Int) 1085102592571150095 = (c : Int) := by rw [← hc, hbb, ← and_u64 _ _ (by omega) (by omega)]; rfl
  obtain ⟨y, hy⟩ : ∃ y, c + c / 256 = y := ⟨_, rfl⟩
  have k9 : (c : Int) + (c : Int) / 256 = (y : Int) := by omega
  obtain ⟨z, hz⟩ : ∃ z, y + y / 65536 = z := ⟨_, rfl⟩
  have k10 : (y : Int) + (y : Int) / 65536 = (z : Int) := by omega
  obtain ⟨t, ht⟩ : ∃ t, z + z / 4294967296 = t := ⟨_, rfl⟩
  have k11 : (z : Int) + (z : Int) / 4294967296 = (t : Int) := by omega
  rw [hy, hz, ht] at hpop
  have t1 : t < 4611686018427387904 := by omega
  have n1 : (a : Int) < 18446744073709551616 := by omega
  have n2 : (b : Int) < 18446744073709551616 := by omega
  have n3 : (bb : Int) < 18446744073709551616 := by omega
  have n4 : (y : Int) < 18446744073709551616 := by omega
  have n5 : (z : Int) < 18446744073709551616 := by omega
  have n6 : (t : Int) < 4611686018427387904 := by omega
  have k12 : bits .and .i64 (t : Int) 127 = (pop x : Int) := by
    have h := bits_mask .i64 63 (by decide) (fun n h0 h1 => by rw [IntKind.wrap_i64]; omega) 7 (by decide) (t : Int) (by omega) (by omega)
    rw [show ((2 : Int) ^ 7 - 1) = 127 from rfl] at h
    rw [h, ← hpop]
    rfl
  clear hp1 hq1 ha hp2 hq2 hb hc hsw hc1 hpop hbb hy hz ht b1 b2 b3 b4
  go_enter Tryz.func123, Tryz.ntmps123
  go_wp2
  go_ret
  exact ⟨rfl, rfl⟩
/-- the library's table lies as its initialiser lays it -/
def Tab64 (w : World) : Prop := ∀ j, j < 64 → w.cell? ⟨0, j, none⟩ = some (.int .u8 (Lib.deBruijn64tab.getD j 0))
theorem Tab64.lt {w : World} (h : Tab64 w) : 0 < w.heap.size := by
  have h0 := h 0 (by decide)
  rcases Nat.lt_or_ge 0 w.heap.size with h1 | h1
  · exact h1
  · rw [World.cell?, Array.getElem?_eq_none h1] at h0
    cases h0
theorem Tab64.below {w w' : World} {B : Nat} (h : Tab64 w) (hb : Below B w w') (hB : 0 < B) : Tab64 w' := fun j hj => (hb.cell (p := ⟨0, j, none⟩) hB).trans (h j hj)
theorem Tab64.stays {w w' : World} (h : Tab64 w) (hb : Below w.heap.size w w') : Tab64 w' := h.below hb h.lt
set_option maxRecDepth 100000 in
set_option maxHeartbeats 1000000 in
theorem trailing (x : Nat) (w : World) (hx : x < 18446744073709551616) (h0 : x ≠ 0) (hT : Tab64 w) : Calls Tryz.prog 130 #[.int .u64 x] w fun e w' => e = .returned (.int .i64 (Lib.ctz 64 x)) ∧ w' = w := by
  obtain ⟨hlow, hk⟩ := Lib.lowest_bit 64 x h0 hx
  obtain ⟨hi, htab⟩ := Lib.deBruijn64_at _ hk
  rw [← hlow] at hi htab
  obtain ⟨k, hkk⟩ : ∃ k, Lib.ctz 64 x = k := ⟨_, rfl⟩
  rw [hkk] at hk htab ⊢
  obtain ⟨idx, hidx⟩ : ∃ idx, (x &&& (2 ^ 64 - x)) * 285870213051353865 % 18446744073709551616 / 288230376151711744 = idx := ⟨_, rfl⟩
  rw [hidx] at hi htab
  have e1 : IntKind.u64.wrap (-(x : Int)) = ((18446744073709551616 - x : Nat) : Int) := by rw [IntKind.wrap_u64]; omega
  have e2 : bits .and .u64 (x : Int) ((18446744073709551616 - x : Nat) : Int) = ((x &&& (2 ^ 64 - x) : Nat) : Int) := bits_and_u64_nat x _ hx (by omega)
  have key : IntKind.u64.wrap (bits .and .u64 (x : Int) (IntKind.u64.wrap (-(x : Int))) * 285870213051353865) / 288230376151711744 = (idx : Int) := by
    rw [e1, e2, IntKind.wrap_u64, ← hidx]
    generalize x &&& (2 ^ 64 - x) = lb
    omega
  have hc := hT idx hi
  have hx0 : ((x : Int) == 0) = false := by rw [beq_eq_false_iff_ne]; omega
  have hc' : w.cell? ⟨0, idx, none⟩ = some (.int .u8 (k : Int)) := by rw [hc]; simp only [← htab]
  have hi' : (idx : Int) < 64 := by omega
  clear hlow hi htab hidx e1 e2 hc hT
  go_enter Tryz.func130, Tryz.ntmps130
  go_wp2_with (simp only [key])
  go_ret
  exact ⟨rfl, rfl⟩
/-- a without b's bits -/
def andn (a b : Nat) : Nat := a &&& (18446744073709551615 - b)
theorem andn_bit (a b i : Nat) (hb : b < 18446744073709551616) (hi : i < 64) : (andn a b).testBit i = (a.testBit i && !b.testBit i) := by
  unfold andn
  rw [Nat.testBit_and, show (18446744073709551615 - b : Nat) = 2 ^ 64 - (b + 1) by omega, Nat.testBit_two_pow_sub_succ (by simpa using hb)]
  simp [hi]
theorem andn_lt (a b : Nat) (ha : a < 18446744073709551616) : andn a b < 18446744073709551616 := Nat.lt_of_le_of_lt Nat.and_le_left ha
/-- the bits from one on below another one -/
def mask (a b : Nat) : Nat := andn (2 ^ b - 1) (2 ^ a - 1)
theorem pow64 {i : Nat} (h : i ≤ 64) : 2 ^ i ≤ 18446744073709551616 := Nat.le_trans (Nat.pow_le_pow_right (by decide) h) (by decide)
theorem mask_lt (a b : Nat) (hb : b ≤ 64) : mask a b < 18446744073709551616 := andn_lt _ _ (by have := pow64 hb; have := Nat.two_pow_pos b; omega)
theorem mask_bit (a b i : Nat) (ha : a ≤ 64) (hi : i < 64) : (mask a b).testBit i = (decide (a ≤ i) && decide (i < b)) := by
  unfold mask
  rw [andn_bit _ _ _ (by have := pow64 ha; have := Nat.two_pow_pos a; omega) hi, Nat.testBit_two_pow_sub_one, Nat.testBit_two_pow_sub_one]
  by_cases h1 : i < b <;> by_cases h2 : i < a <;> simp [h1, h2] <;> omega
set_option maxRecDepth 100000 in
set_option maxHeartbeats 1000000 in
theorem bitOne (i : Nat) (w : World) (hi : i < 64) : Calls Tryz.prog 117 #[.int .i64 i] w fun e w' => e = .returned (.int .u64 ((2 ^ i : Nat) : Int)) ∧ w' = w := by
  have hi1 : (i : Int) < 64 := by omega
  have hp : 2 ^ i < 18446744073709551616 := Nat.lt_of_lt_of_le (Nat.pow_lt_pow_right (by decide) hi) (by decide)
  obtain ⟨z, hz⟩ : ∃ z, 2 ^ i = z := ⟨_, rfl⟩
  have hw : IntKind.u64.wrap ((2 : Int) ^ i) = (z : Int) := by
    rw [show ((2 : Int) ^ i) = ((2 ^ i : Nat) : Int) by norm_cast, hz, IntKind.wrap_u64]
    omega
  rw [hz]
  clear hz hp
  go_enter Tryz.func117, Tryz.ntmps117
  go_wp2
  go_ret
  exact ⟨rfl, rfl⟩
set_option maxRecDepth 100000 in
set_option maxHeartbeats 1000000 in
theorem bitBelow (i : Nat) (w : World) (hi : i ≤ 64) : Calls Tryz.prog 131 #[.int .i64 i] w fun e w' => e = .returned (.int .u64 ((2 ^ i - 1 : Nat) : Int)) ∧ w' = w := by
  have hp := pow64 hi
  have hp0 := Nat.two_pow_pos i
  by_cases h0 : i = 0
  · subst h0
    go_enter Tryz.func131, Tryz.ntmps131
    go_wp2
    go_ret
    exact ⟨rfl, rfl⟩
  · by_cases h1 : i = 64
    · subst h1
      go_enter Tryz.func131, Tryz.ntmps131
      go_wp2
      go_ret
      exact ⟨rfl, rfl⟩
    · have hi0 : ¬ (i : Int) ≤ 0 := by omega
      have hi1 : (i : Int) < 64 := by omega
      obtain ⟨z, hz⟩ : ∃ z, 2 ^ i = z := ⟨_, rfl⟩
      have hp1 : 2 ^ i < 18446744073709551616 := Nat.lt_of_lt_of_le (Nat.pow_lt_pow_right (by decide) (show i < 64 by omega)) (by decide)
      have hw : IntKind.u64.wrap ((2 : Int) ^ i) = (z : Int) := by
        rw [show ((2 : Int) ^ i) = ((2 ^ i : Nat) : Int) by norm_cast, hz, IntKind.wrap_u64]
        omega
      rw [hz] at hp1 hp0 hp ⊢
      have hw2 : IntKind.u64.wrap ((z : Int) - 1) = ((z - 1 : Nat) : Int) := by rw [IntKind.wrap_u64]; omega
      clear hz
      go_enter Tryz.func131, Tryz.ntmps131
      go_wp2
      go_ret
      exact ⟨by simp [hw2], rfl⟩
set_option maxRecDepth 100000 in
set_option maxHeartbeats 1000000 in
theorem bitMask (a b : Nat) (w : World) (ha : a ≤ 64) (hb : b ≤ 64) : Calls Tryz.prog 122 #[.int .i64 a, .int .i64 b] w fun e w' => e = .returned (.int .u64 (mask a b)) ∧ w' = w := by
  have hx : bits .andNot .u64 ((2 ^ b - 1 : Nat) : Int) ((2 ^ a - 1 : Nat) : Int) = (mask a b : Int) := u64_andNot_nat _ _ (by have := pow64 hb; have := Nat.two_pow_pos b; omega) (by have := pow64 ha; have := Nat.two_pow_pos a; omega)
  generalize hy : mask a b = y at *
  have HB := fun w => bitBelow b w hb
  have HA := fun w => bitBelow a w ha
  obtain ⟨p, hp⟩ : ∃ p, 2 ^ b - 1 = p := ⟨_, rfl⟩
  obtain ⟨q, hq⟩ : ∃ q, 2 ^ a - 1 = q := ⟨_, rfl⟩
  rw [hp, hq] at hx
  rw [hp] at HB
  rw [hq] at HA
  have HB := Lib.hid HB
  have HA := Lib.hid HA
  clear hp hq hy
  go_enter Tryz.func122, Tryz.ntmps122
  go_wp2_with fail
  refine (HB.out _).mono ?_
  rintro e w1 ⟨rfl, rfl⟩
  go_wp2_with fail
  refine (HA.out _).mono ?_
  rintro e w2 ⟨rfl, rfl⟩
  go_wp2
  go_ret
  exact ⟨rfl, rfl⟩
theorem and_one (x i : Nat) : x &&& 2 ^ i = if x.testBit i then 2 ^ i else 0 := by
  apply Nat.eq_of_testBit_eq
  intro j
  rw [Nat.testBit_and, Nat.testBit_two_pow]
  by_cases h : i = j
  · subst h
    by_cases hx : x.testBit i <;> simp [hx]
  · by_cases hx : x.testBit i <;> simp [h, hx]
set_option maxRecDepth 100000 in
set_option maxHeartbeats 1000000 in
theorem bitGet (x i : Nat) (w : World) (hx : x < 18446744073709551616) (hi : i < 64) : Calls Tryz.prog 116 #[.int .u64 x, .int .i64 i] w fun e w' => e = .returned (.bool (x.testBit i)) ∧ w' = w := by
  have HO := fun w => bitOne i w hi
  have hp : 2 ^ i < 18446744073709551616 := Nat.lt_of_lt_of_le (Nat.pow_lt_pow_right (by decide) hi) (by decide)
  have hp0 := Nat.two_pow_pos i
  have hx1 := bits_and_u64_nat x (2 ^ i) hx hp
  rw [and_one] at hx1
  obtain ⟨z, hz⟩ : ∃ z, 2 ^ i = z := ⟨_, rfl⟩
  rw [hz] at HO hx1 hp hp0
  obtain ⟨r, hr⟩ : ∃ r, x.testBit i = r := ⟨_, rfl⟩
  rw [hr] at hx1 ⊢
  have HO := Lib.hid HO
  clear hz hr
  cases r
  · go_enter Tryz.func116, Tryz.ntmps116
    go_wp2_with fail
    refine (HO.out _).mono ?_
    rintro e w1 ⟨rfl, rfl⟩
    simp only [Bool.false_eq_true, if_false] at hx1
    go_wp2
    go_ret
    exact ⟨rfl, rfl⟩
  · go_enter Tryz.func116, Tryz.ntmps116
    go_wp2_with fail
    refine (HO.out _).mono ?_
    rintro e w1 ⟨rfl, rfl⟩
    simp only [if_true] at hx1
    have hz0 : ((z : Int) == 0) = false := by rw [beq_eq_false_iff_ne]; omega
    have hz1 : ((z : Int) != 0) = true := by simp; omega
    go_wp2
    go_ret
    exact ⟨rfl, rfl⟩
set_option maxRecDepth 100000 in
set_option maxHeartbeats 1000000 in
theorem bitSet (x i : Nat) (w : World) (hx : x < 18446744073709551616) (hi : i < 64) : Calls Tryz.prog 96 #[.int .u64 x, .int .i64 i] w fun e w' => e = .returned (.int .u64 ((x ||| 2 ^ i : Nat) : Int)) ∧ w' = w := by
  have HO := fun w => bitOne i w hi
  have hp : 2 ^ i < 18446744073709551616 := Nat.lt_of_lt_of_le (Nat.pow_lt_pow_right (by decide) hi) (by decide)
  have hx1 := bits_or_u64_nat x (2 ^ i) hx hp
  obtain ⟨z, hz⟩ : ∃ z, 2 ^ i = z := ⟨_, rfl⟩
  rw [hz] at HO hx1 ⊢
  obtain ⟨r, hr⟩ : ∃ r, x ||| z = r := ⟨_, rfl⟩
  rw [hr] at hx1 ⊢
  have HO := Lib.hid HO
  clear hz hr hp
  go_enter Tryz.func96, Tryz.ntmps96
  go_wp2_with fail
  refine (HO.out _).mono ?_
  rintro e w1 ⟨rfl, rfl⟩
  go_wp2
  go_ret
  exact ⟨rfl, rfl⟩
set_option maxRecDepth 100000 in
theorem bitCount (x : Nat) (w : World) (hx : x < 18446744073709551616) : Calls Tryz.prog 103 #[.int .u64 x] w fun e w' => e = .returned (.int .i64 (pop x)) ∧ w' = w := by
  go_enter Tryz.func103, Tryz.ntmps103
  go_wp2_with fail
  refine (onesCount x _ hx).mono ?_
  rintro e w1 ⟨rfl, rfl⟩
  go_wp2
  go_ret
  exact ⟨rfl, rfl⟩
/-- the least bit, or -1 -/
def lowBit (x : Nat) : Int := if x = 0 then -1 else (Lib.ctz 64 x : Int)
set_option maxRecDepth 100000 in
theorem bitLow (x : Nat) (w : World) (hx : x < 18446744073709551616) (hT : Tab64 w) : Calls Tryz.prog 118 #[.int .u64 x] w fun e w' => e = .returned (.int .i64 (lowBit x)) ∧ w' = w := by
  have HT := Lib.hid hT
  clear hT
  by_cases h0 : x = 0
  · subst h0
    go_enter Tryz.func118, Tryz.ntmps118
    go_wp2
    go_ret
    exact ⟨rfl, rfl⟩
  · have hl : lowBit x = (Lib.ctz 64 x : Int) := by unfold lowBit; rw [if_neg h0]
    rw [hl]
    have h0' : ((x : Int) == 0) = false := by rw [beq_eq_false_iff_ne]; omega
    go_enter Tryz.func118, Tryz.ntmps118
    go_wp2_with fail
    refine (trailing x _ hx h0 HT.out).mono ?_
    rintro e w1 ⟨rfl, rfl⟩
    go_wp2
    go_ret
    exact ⟨rfl, rfl⟩
end Go.Proofs.YtbjekoljipjldaaGreatDoor
namespace Go.Proofs.YtbjekoljipjldaaGreatDoor
set_option linter.unusedVariables false
set_option linter.unusedSimpArgs false
open Go.RowKit
attribute [local go_sem ↓] Go.wp_at_zero Go.wp_at_succ

/-- words of 64 bits -/
def Ws (ws : List Nat) : Prop := ws.length = 1024 ∧ ∀ x ∈ ws, x < 18446744073709551616
theorem Ws.at_ {ws : List Nat} (h : Ws ws) {k : Nat} (hk : k < 1024) : ws.getD k 0 < 18446744073709551616 := by
  rw [List.getD_eq_getElem?_getD, List.getElem?_eq_getElem (by rw [h.1]; exact hk)]
  exact h.2 _ (List.getElem_mem _)
/-- the bit i of words -/
def wbit (ws : List Nat) (i : Nat) : Bool := (ws.getD (i / 64) 0).testBit (i % 64)
/-- the cells of words -/
def wcells (ws : List Nat) : Array Value := (ws.map (fun x : Nat => Value.int .u64 (x : Int))).toArray
/-- a strip of 1024 words: its block, its words' block -/
def St (w : World) (s d : Nat) (ws : List Nat) : Prop := w.heap[s]? = some (.cells #[.slice (some ⟨d, 0, none⟩) 1024 1024] 127 (0, 0)) ∧ w.heap[d]? = some (.cells (wcells ws) 95 (0, 0)) ∧ Ws ws
theorem St.below {w w' : World} {s d : Nat} {ws : List Nat} (h : St w s d ws) (hb : Below w.heap.size w w') : St w' s d ws :=
  ⟨by rw [hb.block s (blk_lt h.1)]; exact h.1, by rw [hb.block d (blk_lt h.2.1)]; exact h.2.1, h.2.2⟩
theorem St.cell {w : World} {s d : Nat} {ws : List Nat} (h : St w s d ws) {k : Nat} (hk : k < 1024) : w.cell? ⟨d, k, none⟩ = some (.int .u64 (ws.getD k 0 : Nat)) := by
  refine blk_cell h.2.1 k ?_
  have hl : k < ws.length := by rw [h.2.2.1]; exact hk
  simp [wcells, List.getD_eq_getElem?_getD, List.getElem?_eq_getElem hl]
set_option maxRecDepth 100000 in
theorem stBits (s d : Nat) (ws : List Nat) (w : World) (hS : St w s d ws) : Calls Tryz.prog 115 #[.pointer (some ⟨s, 0, none⟩)] w fun e w' => e = .returned (.int .i64 65536) ∧ w' = w := by
  have q0 := blk_cell hS.1 0 rfl
  go_enter Tryz.func115, Tryz.ntmps115
  go_wp2
  go_ret
  exact ⟨rfl, rfl⟩
set_option maxRecDepth 100000 in
theorem stThere (s d : Nat) (ws : List Nat) (i : Nat) (w : World) (hS : St w s d ws) (hi : i < 65536) : Calls Tryz.prog 94 #[.pointer (some ⟨s, 0, none⟩), .int .i64 i] w fun e w' => e = .returned (.bool true) ∧ w' = w := by
  have hi1 : (i : Int) < 65536 := by omega
  have HS := Lib.hid hS
  clear hS
  go_enter Tryz.func94, Tryz.ntmps94
  go_wp2_with fail
  refine (stBits s d ws _ HS.out).mono ?_
  rintro e w1 ⟨rfl, rfl⟩
  go_wp2
  go_ret
  exact ⟨rfl, rfl⟩
set_option maxRecDepth 100000 in
set_option maxHeartbeats 1000000 in
theorem stGet (s d : Nat) (ws : List Nat) (i : Nat) (w : World) (hS : St w s d ws) (hi : i < 65536) : Calls Tryz.prog 95 #[.pointer (some ⟨s, 0, none⟩), .int .i64 i] w fun e w' => e = .returned (.bool (wbit ws i)) ∧ w' = w := by
  have HS := Lib.hid hS
  have q0 := blk_cell hS.1 0 rfl
  have q1 := hS.cell (k := i / 64) (by omega)
  have hx := hS.2.2.at_ (k := i / 64) (by omega)
  obtain ⟨x, hxx⟩ : ∃ x, ws.getD (i / 64) 0 = x := ⟨_, rfl⟩
  have HW := Lib.hid (show wbit ws i = x.testBit (i % 64) by unfold wbit; rw [hxx])
  rw [hxx] at q1 hx
  have k1 : (i : Int) / 64 = ((i / 64 : Nat) : Int) := by omega
  have k2 : (i : Int) % 64 = ((i % 64 : Nat) : Int) := by omega
  obtain ⟨a, ha⟩ : ∃ a, i / 64 = a := ⟨_, rfl⟩
  obtain ⟨r, hr⟩ : ∃ r, i % 64 = r := ⟨_, rfl⟩
  have ha1 : (a : Int) < 1024 := by omega
  have hr1 : r < 64 := by omega
  rw [ha] at k1 q1
  rw [hr] at k2 HW
  clear hS hxx ha hr
  go_enter Tryz.func95, Tryz.ntmps95
  go_wp2_with fail
  refine (stThere s d ws i _ HS.out hi).mono ?_
  rintro e w1 ⟨rfl, rfl⟩
  go_wp2_with fail
  refine (bitGet x r _ hx hr1).mono ?_
  rintro e w2 ⟨rfl, rfl⟩
  go_wp2
  go_ret
  exact ⟨by rw [HW.out]; rfl, rfl⟩
/-- words with the bit i set -/
def setW (ws : List Nat) (i : Nat) : List Nat := ws.set (i / 64) (ws.getD (i / 64) 0 ||| 2 ^ (i % 64))
theorem or_one_self {x i : Nat} (h : x.testBit i = true) : x ||| 2 ^ i = x := by
  apply Nat.eq_of_testBit_eq
  intro j
  rw [Nat.testBit_or, Nat.testBit_two_pow]
  by_cases hj : i = j
  · subst hj; simp [h]
  · simp [hj]
theorem set_self {ws : List Nat} {k : Nat} : ws.set k (ws.getD k 0) = ws := by
  apply List.ext_getElem?
  intro j
  rw [List.getElem?_set]
  split
  · rename_i h
    subst h
    split
    · rename_i hl
      rw [List.getD_eq_getElem?_getD, List.getElem?_eq_getElem hl]; rfl
    · rename_i hl
      rw [List.getElem?_eq_none (by omega)]
  · rfl
theorem setW_same {ws : List Nat} {i : Nat} (h : wbit ws i = true) : setW ws i = ws := by
  unfold setW
  rw [or_one_self h, set_self]
theorem Ws.set {ws : List Nat} (h : Ws ws) (k x : Nat) (hx : x < 18446744073709551616) : Ws (ws.set k x) :=
  ⟨by rw [List.length_set]; exact h.1, fun y hy => by
    rcases List.mem_or_eq_of_mem_set hy with hy | rfl
    · exact h.2 y hy
    · exact hx⟩
theorem wcells_set (ws : List Nat) (k x : Nat) : (wcells ws).setIfInBounds k (.int .u64 (x : Int)) = wcells (ws.set k x) := by
  unfold wcells
  rw [List.setIfInBounds_toArray, List.map_set]
/-- a word is stored -/
theorem St.store {w : World} {s d : Nat} {ws : List Nat} (h : St w s d ws) (k x : Nat) (hx : x < 18446744073709551616) : St (w.setCell ⟨d, k, none⟩ (.int .u64 (x : Int))) s d (ws.set k x) := by
  have hne : s ≠ d := fun e => by
    have h1 := h.1
    rw [e, h.2.1] at h1
    injection h1 with h3
    injection h3 with h4 h5
    exact absurd h5 (by decide)
  exact ⟨by rw [Below.heap_setCell w ⟨d, k, none⟩ _ s hne]; exact h.1, by rw [← wcells_set]; exact blk_set h.2.1 k _, h.2.2.set k x hx⟩
theorem grown_refl (w : World) (row : Option Nat) : w.grownBy w row := ⟨rfl, rfl, rfl, Nat.le_refl _, fun _ _ _ => rfl⟩
theorem grown_set {w w' : World} {b i : Nat} {u : Value} (h : w.grownBy w' (some b)) : w.grownBy (w'.setCell ⟨b, i, none⟩ u) (some b) :=
  ⟨h.os, h.tape, h.output, by simpa using h.size, fun k hk hne => by
    rw [Below.heap_setCell w' ⟨b, i, none⟩ u k (fun e => hne (by rw [e]))]
    exact h.block k hk hne⟩
theorem grown_drew {w w' : World} {row : Option Nat} (h : w.grownBy w' row) : w.grownBy w'.drew row := ⟨h.os, h.tape, h.output, h.size, h.block⟩
theorem St.drew {w : World} {s d : Nat} {ws : List Nat} (h : St w s d ws) : St w.drew s d ws := h
set_option maxRecDepth 100000 in
set_option maxHeartbeats 2000000 in
theorem stSet (s d : Nat) (ws : List Nat) (i : Nat) (w : World) (hS : St w s d ws) (hi : i < 65536) : Calls Tryz.prog 79 #[.pointer (some ⟨s, 0, none⟩), .int .i64 i] w fun e w' => e = .returned (.bool (!wbit ws i)) ∧ St w' s d (setW ws i) ∧ w.grownBy w' (some d) := by
  have HS := Lib.hid hS
  have q0 := blk_cell hS.1 0 rfl
  have q1 := hS.cell (k := i / 64) (by omega)
  have f1 := blk_free hS.2.1 (i / 64)
  have hx := hS.2.2.at_ (k := i / 64) (by omega)
  obtain ⟨x, hxx⟩ : ∃ x, ws.getD (i / 64) 0 = x := ⟨_, rfl⟩
  have HSW := Lib.hid (show setW ws i = ws.set (i / 64) (x ||| 2 ^ (i % 64)) by unfold setW; rw [hxx])
  rw [hxx] at q1 hx
  have k1 : (i : Int) / 64 = ((i / 64 : Nat) : Int) := by omega
  have k2 : (i : Int) % 64 = ((i % 64 : Nat) : Int) := by omega
  obtain ⟨a, ha⟩ : ∃ a, i / 64 = a := ⟨_, rfl⟩
  obtain ⟨r, hr⟩ : ∃ r, i % 64 = r := ⟨_, rfl⟩
  have ha1 : (a : Int) < 1024 := by omega
  have hr1 : r < 64 := by omega
  have k3 : (i : Int).tmod 64 = (r : Int) := by rw [Int.tmod_eq_emod_of_nonneg (by omega), k2, hr]
  have k4 : IntKind.i64.wrap (a : Int) = (a : Int) := by rw [IntKind.wrap_i64]; omega
  have hxr : x ||| 2 ^ r < 18446744073709551616 := Nat.or_lt_two_pow (n := 64) hx (Nat.lt_of_lt_of_le (Nat.pow_lt_pow_right (by decide) hr1) (by decide))
  rw [ha] at k1 q1 HSW f1
  rw [hr] at k2 HSW
  obtain ⟨y, hy⟩ : ∃ y, x ||| 2 ^ r = y := ⟨_, rfl⟩
  have HB := Lib.hid (fun w => hy ▸ bitSet x r w hx hr1)
  rw [hy] at hxr HSW
  obtain ⟨g, hg⟩ : ∃ g, wbit ws i = g := ⟨_, rfl⟩
  have HG := Lib.hid hg
  rw [hg]
  clear hS hxx ha hr hy hg
  go_enter Tryz.func79, Tryz.ntmps79
  go_wp2_with fail
  refine (stThere s d ws i _ HS.out hi).mono ?_
  rintro e w1 ⟨rfl, rfl⟩
  go_wp2_with fail
  refine (stGet s d ws i _ HS.out hi).mono ?_
  rintro e w2 ⟨rfl, rfl⟩
  rw [HG.out]
  cases g
  · go_wp2_with fail
    go_region_law (first | ((with_reducible refine gate_scall (f := 96) rfl ?_); refine step_goes rfl Tryz.func96 (by kernel_rfl) rfl #[.int .u64 (x : Int), .int .i64 (r : Int)] rfl (by simp only [List.map_toArray, List.map_cons, List.map_nil]; rfl) (HB.out _) ?_; rintro e wy ⟨rfl, rfl⟩; refine ⟨_, rfl, ?_⟩))
    all_goals
      go_wp2
      go_ret
      refine ⟨rfl, ?_, ?_⟩
      · rw [HSW.out]
        exact (HS.out.drew.store a y hxr)
      · exact grown_set (grown_drew (grown_refl _ _))
  · go_wp2
    go_ret
    exact ⟨rfl, by rw [setW_same HG.out]; exact HS.out, grown_refl _ _⟩
end Go.Proofs.YtbjekoljipjldaaGreatDoor
namespace Go.Proofs.YtbjekoljipjldaaGreatDoor
set_option linter.unusedVariables false
set_option linter.unusedSimpArgs false
open Go.RowKit
attribute [local go_sem ↓] Go.wp_at_zero Go.wp_at_succ

/-- a cheap look ahead: the operation is a call of this builtin -/
theorem gate_wbuiltin {P : Program} {ops : Array Oper} {rest : List Oper} {o : Oper} {a : Act} {Q : Exit → Act → World → Prop} {w : World} {b : Builtin} {xs : Array Operand} {ts : Array TypeId} (_ho : o.op = .call { callee := .builtin b, args := xs, argTypes := ts }) (h : wpList P ops Q (o :: rest) a w) : wpList P ops Q (o :: rest) a w := h
/-- words as integers -/
def wi (ws : List Nat) : List Int := ws.map (fun x : Nat => (x : Int))
theorem wi_len (ws : List Nat) : (wi ws).length = ws.length := by simp [wi]
theorem wi_at (ws : List Nat) (k : Nat) : (wi ws).getD k 0 = ((ws.getD k 0 : Nat) : Int) := by
  simp only [wi, List.getD_eq_getElem?_getD, List.getElem?_map]
  cases ws[k]? <;> rfl
theorem St.rd {w : World} {s d : Nat} {ws : List Nat} (h : St w s d ws) : Rd .u64 w (some ⟨d, 0, none⟩) (wi ws) := fun i hi => by
  rw [wi_len, h.2.2.1] at hi
  exact ⟨_, rfl, blk_lt h.2.1, by rw [add_mk, wi_at]; exact h.cell hi⟩
theorem zeros_ws : Ws (List.replicate 1024 0) := ⟨List.length_replicate .., fun x hx => by rw [(List.mem_replicate.1 hx).2]; decide⟩
theorem u64_info : (Tryz.prog.info? 95).map (fun i => (i.zero, i.size, i.bytes)) = some (some (.int .u64 0), 1, 8) := by kernel_rfl
theorem zeros_cells : wcells (List.replicate 1024 0) = (List.replicate 1024 (Value.int .u64 0)).toArray := by
  unfold wcells
  rw [List.map_replicate]
  rfl
set_option maxRecDepth 100000 in
set_option maxHeartbeats 1000000 in
theorem stNew (w : World) : Calls Tryz.prog 86 #[.int .i64 1024] w fun e w' => ∃ s d, e = .returned (.tuple #[.pointer (some ⟨s, 0, none⟩), .int .i64 0]) ∧ w.heap.size ≤ s ∧ w.heap.size ≤ d ∧ St w' s d (List.replicate 1024 0) ∧ Below w.heap.size w w' := by
  obtain ⟨i0, hi, hz0, hz1, hz2⟩ := info_parts u64_info
  have hb1 : i0.bytes * 1024 ≤ 281474976710656 := by rw [hz2]; decide
  have hm : (1024 : Nat) ≤ maxLen := by simp [maxLen]
  go_enter Tryz.func86, Tryz.ntmps86
  go_wp2_with (refine wpList_makeInts (k := .u64) 1024 _ _ rfl rfl Tryz.underlying113 hi hz0 hz1 rfl rfl hb1 hm ?_; rw [← zeros_cells])
  go_ret2
  refine ⟨_, _, rfl, by simp, Nat.le_refl _, ⟨alloc_at (by simp), blk_alloc (heap_alloc_new _ _) _, zeros_ws⟩, ((Below.refl _ _).alloc (Nat.le_refl _) _).alloc (by simp) _⟩
set_option maxHeartbeats 400000 in
set_option maxRecDepth 100000 in
theorem clone64 (ad : Addr) (c : Nat) (l : List Int) (w : World) (hr : Rd .u64 w (some ad) l) (hlen : l.length ≤ 1000000) :
    Calls Tryz.prog 119 #[.slice (some ad) l.length c] w fun e w' => ∃ v, e = .returned v ∧ Own .u64 95 w' w.heap.size v l ∧ Below w.heap.size w w' := by
  obtain ⟨i0, hi, hz0, hz1, hz2⟩ := info_parts u64_info
  have hq := fun w => Lib.run_eql_slice_nil (P := Tryz.prog) w 113 95 (some ad) l.length c 0 0 Tryz.underlying113
  have HR := Lib.hid hr
  clear hr
  have hown := Own.made (k := .u64) (e := 95) (w := w) (base := w.heap.size) (Nat.le_refl _) [] (by simp [maxLen])
  have hb := (Below.refl w.heap.size w).alloc (Nat.le_refl _) (.cells #[] 95)
  go_enter Tryz.func119, Tryz.ntmps119
  go_wp2_with (at_builtin; refine wpList_pushAll w.heap.size _ [] l _ c _ _ rfl rfl Tryz.underlying113 hi hz0 hz1 hz2 rfl rfl rfl (HR.out.below ((Below.refl _ _).alloc (Nat.le_refl _) _)) hown ?g0 ?g1 ?g2 ?_; (case g0 => simp); (case g1 => simp; omega); (case g2 => simp [maxLen]; omega); intro v2 w2 ho2 hg2 _)
  go_ret
  exact ⟨_, rfl, ho2, hb.grown hg2 (by simp) (fun g hgk => (hown.block g hgk).1)⟩
theorem clone64n (ad : Addr) (n c : Nat) (l : List Int) (w : World) (hn : l.length = n) (hr : Rd .u64 w (some ad) l) (hlen : l.length ≤ 1000000) :
    Calls Tryz.prog 119 #[.slice (some ad) n c] w fun e w' => ∃ A' c', e = .returned (.slice A' n c') ∧ n ≤ c' ∧ Hid (Own .u64 95 w' w.heap.size (.slice A' n c') l) ∧ Below w.heap.size w w' := by
  subst hn
  refine (clone64 ad c l w hr hlen).mono fun e w' ⟨v, he, ho, hb⟩ => ?_
  obtain ⟨A', c', rfl, hc, _, _⟩ := ho.form
  exact ⟨A', c', he, hc, ho, hb⟩
set_option maxRecDepth 100000 in
set_option maxHeartbeats 1000000 in
theorem stWords (s d : Nat) (ws : List Nat) (w : World) (hS : St w s d ws) : Calls Tryz.prog 99 #[.pointer (some ⟨s, 0, none⟩)] w fun e w' => ∃ A' c', e = .returned (.slice A' 1024 c') ∧ 1024 ≤ c' ∧ Hid (Own .u64 95 w' w.heap.size (.slice A' 1024 c') (wi ws)) ∧ Below w.heap.size w w' := by
  have q0 := blk_cell hS.1 0 rfl
  have HS := Lib.hid hS
  have hl : (wi ws).length = 1024 := by rw [wi_len]; exact hS.2.2.1
  have HL := Lib.hid hl
  clear hS hl
  go_enter Tryz.func99, Tryz.ntmps99
  go_wp2_with fail
  refine (clone64n ⟨d, 0, none⟩ 1024 1024 (wi ws) _ HL.out HS.out.rd (by rw [HL.out]; decide)).mono ?_
  rintro e w1 ⟨A', c', rfl, hc, HO, hb⟩
  go_wp2
  go_ret
  exact ⟨A', c', rfl, hc, HO, hb⟩
theorem wcells_wi (ws : List Nat) : wcells ws = ((wi ws).map (Value.int .u64)).toArray := by
  unfold wcells wi
  rw [List.map_map]
  rfl
set_option maxRecDepth 100000 in
set_option maxHeartbeats 2000000 in
theorem stOf (A : Option Addr) (c : Nat) (ws : List Nat) (w : World) (hW : Ws ws) (hr : Rd .u64 w A (wi ws)) : Calls Tryz.prog 100 #[.slice A 1024 c] w fun e w' => ∃ s d, e = .returned (.tuple #[.pointer (some ⟨s, 0, none⟩), .int .i64 0]) ∧ w.heap.size ≤ s ∧ w.heap.size ≤ d ∧ St w' s d ws ∧ Below w.heap.size w w' := by
  obtain ⟨i0, hi, hz0, hz1, hz2⟩ := info_parts u64_info
  have hb1 : i0.bytes * 1024 ≤ 281474976710656 := by rw [hz2]; decide
  have hm : (1024 : Nat) ≤ maxLen := by simp [maxLen]
  obtain ⟨ad, rfl, _, _⟩ := hr 0 (by rw [wi_len, hW.1]; decide)
  have HR := Lib.hid hr
  have HW := Lib.hid hW
  obtain ⟨cs, hcs⟩ : ∃ cs, cs = (wi ws).map (Value.int .u64) := ⟨_, rfl⟩
  have hcl : cs.length = 1024 := by rw [hcs, List.length_map, wi_len]; exact hW.1
  have HCL := Lib.hid hcl
  have HWC := Lib.hid (show wcells ws = cs.toArray by rw [wcells_wi, hcs])
  obtain ⟨zs, hzs⟩ : ∃ zs, zs = List.replicate 1024 (Value.int .u64 0) := ⟨_, rfl⟩
  have hzl : zs.length = 1024 := by rw [hzs]; exact List.length_replicate ..
  have HZL := Lib.hid hzl
  have HONE := Lib.hid (show ∀ v ∈ cs, v.oneCell' = true from fun v hv => by rw [hcs] at hv; obtain ⟨x, _, rfl⟩ := List.mem_map.1 hv; rfl)
  have HPOS := Lib.hid (show ∀ w', Below w.heap.size w w' → ∀ j v, cs[j]? = some v → w'.cell? (ad.add j) = some v from fun w' hb j v hv => by
    have hj : j < (wi ws).length := by
      rcases Nat.lt_or_ge j (wi ws).length with h | h
      · exact h
      · rw [hcs, List.getElem?_eq_none (by simpa using h)] at hv; cases hv
    obtain ⟨ad', e', _, hc⟩ := HR.out.below hb j hj
    injection e' with e'
    subst e'
    rw [hc, ← hv, hcs, List.getElem?_map, List.getD_eq_getElem?_getD, List.getElem?_eq_getElem hj]
    rfl)
  have HSP := Lib.hid (show (zs.toArray.toList.take 0 ++ (cs ++ zs.toArray.toList.drop (0 + cs.length))).toArray = cs.toArray by rw [List.take_zero, List.nil_append, List.drop_of_length_le (by simp [hzl, hcl]), List.append_nil])
  have hszz : (Tryz.prog.info? 95).map (·.size) = some 1 := by rw [hi]; simp [hz1]
  have hcn : cs.length = Nat.min 1024 1024 := by rw [hcl]; rfl
  have hfit : 0 + cs.length ≤ zs.toArray.size := by rw [hcl, List.size_toArray, hzl]; decide
  have HCN := Lib.hid hcn
  have HFIT := Lib.hid hfit
  clear hr hW hcs hcl hzl hcn hfit
  have HBL := Lib.hid (show Below w.heap.size w ((w.alloc (.cells zs.toArray 95)).alloc (.cells #[.slice (some ⟨w.heap.size, 0, none⟩) 1024 1024] 127)) from ((Below.refl _ _).alloc (Nat.le_refl _) _).alloc (by simp) _)
  have HPP := Lib.hid (HPOS.out _ HBL.out)
  have HS1 := Lib.hid (show ((w.alloc (.cells zs.toArray 95)).alloc (.cells #[.slice (some ⟨w.heap.size, 0, none⟩) 1024 1024] 127)).heap[w.heap.size + 1]? = some (.cells #[.slice (some ⟨w.heap.size, 0, none⟩) 1024 1024] 127 (0, 0)) from alloc_at (by simp))
  have HS0 := Lib.hid (show ((w.alloc (.cells zs.toArray 95)).alloc (.cells #[.slice (some ⟨w.heap.size, 0, none⟩) 1024 1024] 127)).heap[w.heap.size]? = some (.cells zs.toArray 95 (0, 0)) from blk_alloc (heap_alloc_new _ _) _)
  go_enter Tryz.func100, Tryz.ntmps100
  go_wp2_with (first
    | (refine wpList_makeInts (k := .u64) 1024 _ _ rfl rfl Tryz.underlying113 hi hz0 hz1 rfl rfl hb1 hm ?_; rw [← hzs]; clear hzs)
    | ((with_reducible refine gate_wbuiltin (b := .copy) rfl ?_); refine wpList_copy_own rfl _ _ 113 113 rfl 95 Tryz.underlying113 hszz w.heap.size 0 1024 1024 ad 1024 c rfl rfl zs.toArray 95 HS0.out cs HCN.out HPP.out HFIT.out HONE.out ?_; rw [HSP.out]))
  go_ret2
  refine ⟨w.heap.size + 1, rfl, Nat.le_succ _, w.heap.size, Nat.le_refl _, ⟨?_, ?_, HW.out⟩, below_setRow HBL.out (Nat.le_refl _) _⟩
  · rw [setRow_other _ _ _ _ (by omega)]
    exact HS1.out
  · rw [HWC.out]
    exact setRow_heap _ _ _ _ _ _ HS0.out
end Go.Proofs.YtbjekoljipjldaaGreatDoor
namespace Go.Proofs.YtbjekoljipjldaaGreatDoor
set_option linter.unusedVariables false
set_option linter.unusedSimpArgs false
open Go.RowKit Go.Shelf
attribute [local go_sem] Oper.semAt_some
attribute [local go_sem ↓] Go.wp_at_zero Go.wp_at_succ
attribute [local go_sem] gmax2_int gmin2_int gmax_two gmin_two

theorem St.drewN {w : World} {s d : Nat} {ws : List Nat} (h : St w s d ws) (n : Nat) : St (w.drewN n) s d ws := h
/-- a part: a word's place, a mask -/
abbrev Part := { x : Nat × Nat // x.1 < 1024 ∧ x.2 < 18446744073709551616 }
def endOf (f t : Nat) : Nat := min t (64 * (f / 64 + 1))
theorem endOf_gt {f t : Nat} (h : f < t) : f < endOf f t := by unfold endOf; omega
theorem endOf_le (f t : Nat) : endOf f t ≤ t := by unfold endOf; omega
def partOf (f t : Nat) (h : f < t ∧ t ≤ 65536) : Part := ⟨(f / 64, mask (f - 64 * (f / 64)) (endOf f t - 64 * (f / 64))), by show f / 64 < 1024; omega, mask_lt _ _ (by unfold endOf; omega)⟩
/-- the parts from a bit on below another one -/
def partsF : Nat → Nat → Nat → List Part
  | 0, _, _ => []
  | k + 1, f, t => if h : f < t ∧ t ≤ 65536 then partOf f t h :: partsF k (endOf f t) t else []
def encP (x : Part) : Array Value := #[.agg #[.int .i64 (x.1.1 : Nat), .int .u64 (x.1.2 : Nat)]]
theorem partsF_stop (k : Nat) {f t : Nat} (h : t ≤ f) : partsF k f t = [] := by
  cases k with
  | zero => rfl
  | succ k => simp only [partsF]; rw [dif_neg (by omega)]
theorem partsF_go (k : Nat) {f t : Nat} (h : f < t ∧ t ≤ 65536) : partsF (k + 1) f t = partOf f t h :: partsF k (endOf f t) t := by
  simp only [partsF]; rw [dif_pos h]
set_option maxRecDepth 100000 in
set_option maxHeartbeats 2000000 in
theorem parts1 (n : Nat) (hn : 1 ≤ n) (l B1 B2 B3 n₀ s d f t : Nat) (ws : List Nat) (J Jx : List Part → World → Prop) (hf : f ≤ 65536) (ht : t ≤ 65536)
    (hY : ∀ pre x W, J pre W → pre.length < 2000 → YieldAt Fence.wide (n - 1) Tryz.prog l (encP x) W fun e W' =>
      (e = .returned (.bool true) ∧ J (pre ++ [x]) W' ∧ Below n₀ W W') ∨ (e = .returned (.bool false) ∧ Jx (pre ++ [x]) W'))
    (hJd : ∀ pre W q, J pre W → J pre (W.drewN q))
    (W : World) (c1 : W.cell? ⟨B1, 0, none⟩ = some (.int .i64 (f : Int))) (c2 : W.cell? ⟨B2, 0, none⟩ = some (.int .i64 (t : Int))) (c3 : W.cell? ⟨B3, 0, none⟩ = some (.pointer (some ⟨s, 0, none⟩))) (hS : St W s d ws) (h0 : J [] W) :
    CallsIn Fence.wide n Tryz.prog 121 #[.func (.yield l) #[] #[], .pointer (some ⟨B1, 0, none⟩), .pointer (some ⟨B2, 0, none⟩), .pointer (some ⟨B3, 0, none⟩)] W fun e W' => (∃ v, e = .returned v) ∧
      ((∃ xs, xs = partsF 1100 f t ∧ J xs W') ∨ (∃ pre, pre <+: partsF 1100 f t ∧ Jx pre W')) := by
  have HS := Lib.hid hS
  clear hS
  have h0f : ((f : Int) < 0) = False := by simp
  have hft : ((65536 : Int) < (t : Int)) = False := by simp; omega
  have hd1 : (decide ((f : Int) < 0)) = false := by simp
  refine callsIn_wide.2 ?_
  go_enter Tryz.func121, Tryz.ntmps121
  go_wp2_with fail
  go_quiet (first | (go_at_call 115; refine Calls.quiet_of_same (stBits s d ws _ (HS.out.drewN _))))
  go_wp2
  go_loopw [5] (fun v5 wr => ∃ (pre : List Part) (f' k : Nat), v5 = .int .i64 (f' : Nat) ∧ f' ≤ 65536 ∧ partsF 1100 f t = pre ++ partsF k f' t ∧ pre.length + k = 1100 ∧ (f' < t → 65536 < 64 * k + 64 * (f' / 64)) ∧ J pre wr) (fun v5 _ => 65536 - (intOf v5).toNat)
  case atStart => exact ⟨[], f, 1100, rfl, hf, rfl, rfl, fun _ => by omega, hJd _ _ _ h0⟩
  case round =>
    obtain ⟨pre, f', k, rfl, hf', hpk, hlen, hinv, hJs⟩ := hrel
    have HPK := Lib.hid hpk
    have HLEN := Lib.hid hlen
    have HINV := Lib.hid hinv
    clear hpk hlen hinv h0 hJd
    by_cases hlt : f' < t
    · obtain ⟨fn, tmps, assign, body, hy, hR⟩ := hY pre (partOf f' t ⟨hlt, ht⟩) wr hJs (by have := HLEN.out; omega)
      have hfm : Fence.wide.fn 122 := trivial
      have hmk : CallsIn Fence.wide (n - 1) Tryz.prog 122 #[.int .i64 (f' - 64 * (f' / 64) : Nat), .int .i64 (endOf f' t - 64 * (f' / 64) : Nat)] wr fun e w' => e = .returned (.int .u64 (mask (f' - 64 * (f' / 64)) (endOf f' t - 64 * (f' / 64)) : Nat)) ∧ w' = wr := callsIn_wide.2 (bitMask _ _ _ (by omega) (by unfold endOf; omega))
      have e1 : ((f' - 64 * (f' / 64) : Nat) : Int) = (f' : Int) - 64 * ((f' : Int) / 64) := by omega
      rw [e1] at hmk
      have HMK := Lib.hid hmk
      clear hmk e1
      refine (wpIn_wide (n := n)).1 ?_
      have HK1 : 1 ≤ k := by have := HINV.out hlt; omega
      have HSTEP := Lib.hid (show partsF 1100 f t = (pre ++ [partOf f' t ⟨hlt, ht⟩]) ++ partsF (k - 1) (endOf f' t) t by
        rw [HPK.out]
        obtain ⟨k', rfl⟩ : ∃ k', k = k' + 1 := ⟨k - 1, by omega⟩
        rw [partsF_go k' ⟨hlt, ht⟩, List.append_assoc]
        rfl)
      have HPRE := Lib.hid (show pre ++ [partOf f' t ⟨hlt, ht⟩] <+: partsF 1100 f t from ⟨_, HSTEP.out.symm⟩)
      have HNEXT := Lib.hid (show endOf f' t < t → 65536 < 64 * (k - 1) + 64 * (endOf f' t / 64) from fun h => by have := HINV.out hlt; unfold endOf at h ⊢; omega)
      have he : encP (partOf f' t ⟨hlt, ht⟩) = #[.agg #[.int .i64 ((f' : Int) / 64), .int .u64 ((mask (f' - 64 * (f' / 64)) (endOf f' t - 64 * (f' / 64)) : Nat) : Int)]] := by
        show #[Value.agg #[.int .i64 ((f' / 64 : Nat) : Int), .int .u64 ((mask (f' - 64 * (f' / 64)) (endOf f' t - 64 * (f' / 64)) : Nat) : Int)]] = _
        rw [Int.natCast_ediv]
        rfl
      rw [he] at hy
      clear he
      gi_wp2
      · have hm := HMK.out
        rw [show ((endOf f' t - 64 * (f' / 64) : Nat) : Int) = 64 * ((f' : Int) / 64 + 1) - 64 * ((f' : Int) / 64) from by unfold endOf; omega] at hm
        refine hm.mono ?_
        rintro e w1 ⟨rfl, rfl⟩
        gi_wp2
        refine hR.mono ?_
        rintro e W3 (⟨rfl, hJ3, hk3⟩ | ⟨rfl, hJx3⟩)
        · gi_wp2
          go_roundw
          case rel => exact ⟨pre ++ [partOf f' t ⟨hlt, ht⟩], endOf f' t, k - 1, by first | rfl | (congr 1; unfold endOf; omega), by unfold endOf; omega, HSTEP.out, by have := HLEN.out; simp; omega, HNEXT.out, hJ3⟩
          case measure => first | omega | (simp [intOf]; omega)
        · gi_wp2
          refine bodyPost_ret (results_none rfl _ _ _) rfl ?_
          exact ⟨⟨_, rfl⟩, .inr ⟨pre ++ [partOf f' t ⟨hlt, ht⟩], HPRE.out, hJx3⟩⟩
      · have hm := HMK.out
        rw [show ((endOf f' t - 64 * (f' / 64) : Nat) : Int) = (t : Int) - 64 * ((f' : Int) / 64) from by unfold endOf; omega] at hm
        refine hm.mono ?_
        rintro e w1 ⟨rfl, rfl⟩
        gi_wp2
        refine hR.mono ?_
        rintro e W3 (⟨rfl, hJ3, hk3⟩ | ⟨rfl, hJx3⟩)
        · gi_wp2
          go_roundw
          case rel => exact ⟨pre ++ [partOf f' t ⟨hlt, ht⟩], endOf f' t, k - 1, by first | rfl | (congr 1; unfold endOf; omega), by unfold endOf; omega, HSTEP.out, by have := HLEN.out; simp; omega, HNEXT.out, hJ3⟩
          case measure => first | omega | (simp [intOf]; omega)
        · gi_wp2
          refine bodyPost_ret (results_none rfl _ _ _) rfl ?_
          exact ⟨⟨_, rfl⟩, .inr ⟨pre ++ [partOf f' t ⟨hlt, ht⟩], HPRE.out, hJx3⟩⟩
    · go_wp2
      go_end0
      exact ⟨⟨_, rfl⟩, .inl ⟨pre, by rw [HPK.out, partsF_stop _ (by omega), List.append_nil], hJs⟩⟩
end Go.Proofs.YtbjekoljipjldaaGreatDoor
namespace Go.Proofs.YtbjekoljipjldaaGreatDoor
set_option linter.unusedVariables false
set_option linter.unusedSimpArgs false
open Go.RowKit Go.Shelf
attribute [local go_sem ↓] Go.wp_at_zero Go.wp_at_succ
set_option maxRecDepth 100000 in
set_option maxHeartbeats 1000000 in
theorem stPartsMake (s f t : Nat) (w : World) : Calls Tryz.prog 102 #[.pointer (some ⟨s, 0, none⟩), .int .i64 f, .int .i64 t] w fun e w' => e = .returned (.func (.func 121) #[] #[.pointer (some ⟨w.heap.size + 1, 0, none⟩), .pointer (some ⟨w.heap.size + 2, 0, none⟩), .pointer (some ⟨w.heap.size, 0, none⟩)]) ∧ Below w.heap.size w w' ∧ w.heap.size + 3 ≤ w'.heap.size ∧ w'.cell? ⟨w.heap.size, 0, none⟩ = some (.pointer (some ⟨s, 0, none⟩)) ∧ w'.cell? ⟨w.heap.size + 1, 0, none⟩ = some (.int .i64 (f : Int)) ∧ w'.cell? ⟨w.heap.size + 2, 0, none⟩ = some (.int .i64 (t : Int)) := by
  go_enter Tryz.func102, Tryz.ntmps102
  go_wp2
  go_ret
  refine ⟨rfl, (((Below.refl _ _).alloc (Nat.le_refl _) _).alloc (by simp) _).alloc (by simp; omega) _, by simp, ?_, ?_, ?_⟩
  · exact blk_cell (blk_alloc (blk_alloc (heap_alloc_new _ _) _) _) 0 rfl
  · exact blk_cell (blk_alloc (alloc_at (by simp)) _) 0 rfl
  · exact blk_cell (alloc_at (by simp)) 0 rfl
set_option maxRecDepth 100000 in
theorem stParts (n : Nat) (hn : 1 ≤ n) (B1 B2 B3 n₀ s d f t : Nat) (ws : List Nat) (hf : f ≤ 65536) (ht : t ≤ 65536) (w : World) (hn₀ : n₀ ≤ w.heap.size)
    (c1 : w.cell? ⟨B1, 0, none⟩ = some (.int .i64 (f : Int))) (c2 : w.cell? ⟨B2, 0, none⟩ = some (.int .i64 (t : Int))) (c3 : w.cell? ⟨B3, 0, none⟩ = some (.pointer (some ⟨s, 0, none⟩))) (b1 : B1 < w.heap.size) (b2 : B2 < w.heap.size) (b3 : B3 < w.heap.size) (hS : St w s d ws) :
    SeqStopsK Fence.wide n Tryz.prog 121 #[.pointer (some ⟨B1, 0, none⟩), .pointer (some ⟨B2, 0, none⟩), .pointer (some ⟨B3, 0, none⟩)] encP (Below n₀) (fun xs => xs = partsF 1100 f t) (fun pre => pre <+: partsF 1100 f t) 2000 w := fun l J Jx W hW hJ _ hY h0 =>
  parts1 n hn l B1 B2 B3 n₀ s d f t ws J Jx hf ht hY (fun pre W1 q h => hJ pre W1 _ none h ⟨rfl, rfl, rfl, Nat.le_refl _, fun _ _ _ => rfl⟩ (fun r e => by cases e)) W ((hW.cell (p := ⟨B1, 0, none⟩) b1).trans c1) ((hW.cell (p := ⟨B2, 0, none⟩) b2).trans c2) ((hW.cell (p := ⟨B3, 0, none⟩) b3).trans c3) (hS.below hW) h0
end Go.Proofs.YtbjekoljipjldaaGreatDoor
