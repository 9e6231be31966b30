/-
  Words of 64 bits, in plain Lean: which bits are set, how many, the least; masks.
-/
import Derived.Lib.TrailingZeros
import Derived.Laws.Bits64b
namespace Go.Proofs.YtcnaikoloagbdaaGreat
set_option linter.unusedVariables false
set_option linter.unusedSimpArgs false

/-- how many bits below n are set -/
def popN (x : Nat) : Nat → Nat
  | 0 => 0
  | n + 1 => popN x n + (if x.testBit n then 1 else 0)
/-- how many are set in a word -/
def pop (x : Nat) : Nat := popN x 64
theorem popN_le (x : Nat) : ∀ n, popN x n ≤ n
  | 0 => Nat.le_refl _
  | n + 1 => by
    have := popN_le x n
    simp only [popN]
    split <;> omega
theorem popN_zero (n : Nat) : popN 0 n = 0 := by
  induction n with
  | zero => rfl
  | succ n ih => simp [popN, ih]
theorem popN_congr {x y : Nat} : ∀ n, (∀ i, i < n → x.testBit i = y.testBit i) → popN x n = popN y n
  | 0, _ => rfl
  | n + 1, h => by
    simp only [popN]
    rw [popN_congr n (fun i hi => h i (by omega)), h n (by omega)]
/-- the low part, and the rest behind it -/
theorem popN_split (a y w : Nat) (ha : a < 2 ^ w) : ∀ n, popN (a + 2 ^ w * y) (w + n) = popN a w + popN y n
  | 0 => by
    simp only [Nat.add_zero, popN]
    refine popN_congr w (fun i hi => ?_)
    rw [Nat.add_comm, Nat.testBit_two_pow_mul_add _ ha, if_pos hi]
  | n + 1 => by
    rw [show w + (n + 1) = (w + n) + 1 from rfl, popN, popN_split a y w ha n, popN]
    have : (a + 2 ^ w * y).testBit (w + n) = y.testBit n := by
      rw [Nat.add_comm a, Nat.testBit_two_pow_mul_add _ ha, if_neg (by omega)]
      congr 1
      omega
    rw [this]
    omega
/-! the count as math/bits has it -/
theorem and_split (a x m y : Nat) (ha : a < 256) (hm : m < 256) : (a + 256 * x) &&& (m + 256 * y) = (a &&& m) + 256 * (x &&& y) := by
  apply Nat.eq_of_testBit_eq
  intro i
  have h1 : ∀ c z : Nat, c < 256 → (c + 256 * z).testBit i = if i < 8 then c.testBit i else z.testBit (i - 8) := fun c z hc => by
    rw [Nat.add_comm, show (256 : Nat) = 2 ^ 8 from rfl, Nat.testBit_two_pow_mul_add _ (by simpa using hc)]
  have hand : a &&& m < 256 := Nat.and_lt_two_pow (n := 8) _ (by simpa using hm)
  rw [Nat.testBit_and, h1 a x ha, h1 m y hm, h1 _ _ hand]
  split
  · rw [Nat.testBit_and]
  · rw [Nat.testBit_and]
def rep (m : Nat) : Nat → Nat
  | 0 => 0
  | k + 1 => m + 256 * rep m k
def T (f : Nat → Nat) : Nat → Nat → Nat
  | 0, _ => 0
  | k + 1, x => f (x % 256) + 256 * T f k (x / 256)
def e1 (b : Nat) : Nat := ((b / 2) &&& 85) + (b &&& 85)
def e2 (b : Nat) : Nat := ((b / 4) &&& 51) + (b &&& 51)
def e3 (b : Nat) : Nat := (b / 16 + b) &&& 15
theorem e1_in : ∀ b, b < 256 → e1 b < 256 := by decide +kernel
theorem e2_in : ∀ b, b < 256 → e2 b < 256 := by decide +kernel
theorem e12_in : ∀ b, b < 256 → e2 (e1 b) ≤ 68 ∧ e2 (e1 b) % 16 ≤ 4 := by decide +kernel
theorem e123_pop : ∀ b, b < 256 → e3 (e2 (e1 b)) = popN b 8 := by decide +kernel
theorem sh1 : ∀ r, r < 256 → ∀ b, b < 2 → ((r + 256 * b) / 2) &&& 85 = (r / 2) &&& 85 := by decide +kernel
theorem sh2 : ∀ r, r < 256 → ∀ b, b < 4 → ((r + 256 * b) / 4) &&& 51 = (r / 4) &&& 51 := by decide +kernel
theorem sh3 : ∀ r, r < 69 → ∀ b, b < 5 → ((r + 256 * b) / 16 + r) &&& 15 = e3 r := by decide +kernel
theorem step1 : ∀ k x, ((x / 2) &&& rep 85 k) + (x &&& rep 85 k) = T e1 k x
  | 0, x => by simp [rep, T]
  | k + 1, x => by
    have hx : x = x % 256 + 256 * (x / 256) := by omega
    have hx2 : x / 2 = (x % 256 + 256 * (x / 256 % 2)) / 2 + 256 * (x / 256 / 2) := by omega
    have h1 : x &&& rep 85 (k + 1) = (x % 256 &&& 85) + 256 * (x / 256 &&& rep 85 k) := by
      conv => lhs; rw [hx]
      exact and_split _ _ _ _ (by omega) (by omega)
    have h2 : (x / 2) &&& rep 85 (k + 1) = ((x % 256) / 2 &&& 85) + 256 * (x / 256 / 2 &&& rep 85 k) := by
      conv => lhs; rw [hx2]
      rw [rep, and_split _ _ _ _ (by omega) (by omega), sh1 _ (by omega) _ (by omega)]
    rw [h1, h2, T, ← step1 k (x / 256), e1]
    omega
theorem step2 : ∀ k x, ((x / 4) &&& rep 51 k) + (x &&& rep 51 k) = T e2 k x
  | 0, x => by simp [rep, T]
  | k + 1, x => by
    have hx : x = x % 256 + 256 * (x / 256) := by omega
    have hx2 : x / 4 = (x % 256 + 256 * (x / 256 % 4)) / 4 + 256 * (x / 256 / 4) := by omega
    have h1 : x &&& rep 51 (k + 1) = (x % 256 &&& 51) + 256 * (x / 256 &&& rep 51 k) := by
      conv => lhs; rw [hx]
      exact and_split _ _ _ _ (by omega) (by omega)
    have h2 : (x / 4) &&& rep 51 (k + 1) = ((x % 256) / 4 &&& 51) + 256 * (x / 256 / 4 &&& rep 51 k) := by
      conv => lhs; rw [hx2]
      rw [rep, and_split _ _ _ _ (by omega) (by omega), sh2 _ (by omega) _ (by omega)]
    rw [h1, h2, T, ← step2 k (x / 256), e2]
    omega
theorem T_T {f g : Nat → Nat} (hf : ∀ b, b < 256 → f b < 256) : ∀ k x, T g k (T f k x) = T (fun b => g (f b)) k x
  | 0, _ => rfl
  | k + 1, x => by
    have h := hf (x % 256) (by omega)
    have h1 : (f (x % 256) + 256 * T f k (x / 256)) % 256 = f (x % 256) := by omega
    have h2 : (f (x % 256) + 256 * T f k (x / 256)) / 256 = T f k (x / 256) := by omega
    simp only [T]
    rw [h1, h2, T_T hf k]
theorem T_low {f : Nat → Nat} {c : Nat} (hf : ∀ b, b < 256 → f b % 16 ≤ c) : ∀ k x, T f k x % 16 ≤ c
  | 0, _ => Nat.zero_le _
  | k + 1, x => by
    have := hf (x % 256) (by omega)
    simp only [T]
    omega
theorem step3 : ∀ k x, (T (fun b => e2 (e1 b)) k x / 16 + T (fun b => e2 (e1 b)) k x) &&& rep 15 k = T (fun b => e3 (e2 (e1 b))) k x
  | 0, x => by simp [rep, T]
  | k + 1, x => by
    have hr := (e12_in (x % 256) (by omega)).1
    have hq := T_low (f := fun b => e2 (e1 b)) (c := 4) (fun b hb => (e12_in b hb).2) k (x / 256)
    simp only [T]
    obtain ⟨r, hr'⟩ : ∃ r, e2 (e1 (x % 256)) = r := ⟨_, rfl⟩
    have ih := step3 k (x / 256)
    rw [← ih]
    generalize T (fun b => e2 (e1 b)) k (x / 256) = q at *
    rw [hr'] at hr ⊢
    have h1 : (r + 256 * q) / 16 + (r + 256 * q) = ((r + 256 * (q % 16)) / 16 + r) + 256 * (q / 16 + q) := by omega
    rw [h1, rep, and_split _ _ _ _ (by omega) (by omega), sh3 r (by omega) _ (by omega)]
theorem popN_bytes (x : Nat) : ∀ k, popN x (8 * (k + 1)) = popN (x % 256) 8 + popN (x / 256) (8 * k) := fun k => by
  have h := popN_split (x % 256) (x / 256) 8 (by omega) (8 * k)
  rw [show x % 256 + 2 ^ 8 * (x / 256) = x by omega] at h
  rw [show 8 * (k + 1) = 8 + 8 * k by omega, h]
theorem T_congr {f g : Nat → Nat} (h : ∀ b, b < 256 → f b = g b) : ∀ k x, T f k x = T g k x
  | 0, _ => rfl
  | k + 1, x => by simp only [T]; rw [h _ (by omega), T_congr h k]
def swar (x : Nat) : Nat :=
  let a := ((x / 2) &&& 6148914691236517205) + (x &&& 6148914691236517205)
  let b := ((a / 4) &&& 3689348814741910323) + (a &&& 3689348814741910323)
  (b / 16 + b) &&& 1085102592571150095
theorem swar_T (x : Nat) : swar x = T (fun b => popN b 8) 8 x := by
  unfold swar
  simp only
  rw [show (6148914691236517205 : Nat) = rep 85 8 by decide +kernel, show (3689348814741910323 : Nat) = rep 51 8 by decide +kernel, show (1085102592571150095 : Nat) = rep 15 8 by decide +kernel,
    step1, step2, T_T e1_in, step3, T_congr (fun b hb => e123_pop b hb)]
theorem sum_bytes (c f0 f1 f2 f3 f4 f5 f6 f7 : Nat) (hc : c = f0 + 256 * f1 + 65536 * f2 + 16777216 * f3 + 4294967296 * f4 + 1099511627776 * f5 + 281474976710656 * f6 + 72057594037927936 * f7) (h0 : f0 ≤ 8) (h1 : f1 ≤ 8) (h2 : f2 ≤ 8) (h3 : f3 ≤ 8) (h4 : f4 ≤ 8) (h5 : f5 ≤ 8) (h6 : f6 ≤ 8) (h7 : f7 ≤ 8) :
    c < 1152921504606846976 ∧ (c + c / 256 + (c + c / 256) / 65536 + (c + c / 256 + (c + c / 256) / 65536) / 4294967296) % 128 = f0 + f1 + f2 + f3 + f4 + f5 + f6 + f7 := by
  have hlt : c < 1152921504606846976 := by omega
  refine ⟨hlt, ?_⟩
  have d1 : c / 256 = f1 + 256 * f2 + 65536 * f3 + 16777216 * f4 + 4294967296 * f5 + 1099511627776 * f6 + 281474976710656 * f7 := by omega
  obtain ⟨y, hy⟩ : ∃ y, y = c + c / 256 := ⟨_, rfl⟩
  rw [← hy]
  rw [d1, hc] at hy
  clear d1 hc hlt
  obtain ⟨g7, hg7⟩ : ∃ g, g = f6 + f7 := ⟨_, rfl⟩
  obtain ⟨g5, hg5⟩ : ∃ g, g = f4 + f5 := ⟨_, rfl⟩
  obtain ⟨g3, hg3⟩ : ∃ g, g = f2 + f3 := ⟨_, rfl⟩
  obtain ⟨g1, hg1⟩ : ∃ g, g = f0 + f1 := ⟨_, rfl⟩
  obtain ⟨lo, hlo⟩ : ∃ lo, lo = f1 + f2 := ⟨_, rfl⟩
  obtain ⟨mi, hmi⟩ : ∃ mi, mi = f3 + f4 := ⟨_, rfl⟩
  obtain ⟨hi, hhi⟩ : ∃ hi, hi = f5 + f6 := ⟨_, rfl⟩
  have hy2 : y = g1 + 256 * lo + 65536 * g3 + 16777216 * mi + 4294967296 * g5 + 1099511627776 * hi + 281474976710656 * g7 + 72057594037927936 * f7 := by omega
  have e : f0 + f1 + f2 + f3 + f4 + f5 + f6 + f7 = g1 + g3 + g5 + g7 := by omega
  have b1 : g1 ≤ 16 := by omega
  have b3 : g3 ≤ 16 := by omega
  have b5 : g5 ≤ 16 := by omega
  have b7 : g7 ≤ 16 := by omega
  have c1 : lo ≤ 16 := by omega
  have c2 : mi ≤ 16 := by omega
  have c3 : hi ≤ 16 := by omega
  rw [e]
  clear hy hg7 hg5 hg3 hg1 hlo hmi hhi e h0 h1 h2 h3 h4 h5 h6
  have d2 : y / 65536 = g3 + 256 * mi + 65536 * g5 + 16777216 * hi + 4294967296 * g7 + 1099511627776 * f7 := by omega
  obtain ⟨z, hz⟩ : ∃ z, z = y + y / 65536 := ⟨_, rfl⟩
  rw [← hz]
  rw [d2, hy2] at hz
  clear d2 hy2
  obtain ⟨r, hr⟩ : ∃ r, r = (lo + mi) + 256 * (g3 + g5) + 65536 * (mi + hi) := ⟨_, rfl⟩
  have hr1 : r < 4194304 := by omega
  have hz2 : z = (g1 + g3) + 256 * r + 4294967296 * ((g5 + g7) + 256 * (hi + f7) + 65536 * g7 + 16777216 * f7) := by omega
  have d3 : z / 4294967296 = (g5 + g7) + 256 * (hi + f7) + 65536 * g7 + 16777216 * f7 := by omega
  rw [d3]
  omega
theorem T_8 (f : Nat → Nat) (x : Nat) : T f 8 x = f (x % 256) + 256 * (f (x / 256 % 256) + 256 * (f (x / 256 / 256 % 256) + 256 * (f (x / 256 / 256 / 256 % 256) + 256 * (f (x / 256 / 256 / 256 / 256 % 256) + 256 * (f (x / 256 / 256 / 256 / 256 / 256 % 256) + 256 * (f (x / 256 / 256 / 256 / 256 / 256 / 256 % 256) + 256 * f (x / 256 / 256 / 256 / 256 / 256 / 256 / 256 % 256))))))) := by
  simp only [T, Nat.mul_zero, Nat.add_zero]
theorem pop_8 (x : Nat) : pop x = popN (x % 256) 8 + (popN (x / 256 % 256) 8 + (popN (x / 256 / 256 % 256) 8 + (popN (x / 256 / 256 / 256 % 256) 8 + (popN (x / 256 / 256 / 256 / 256 % 256) 8 + (popN (x / 256 / 256 / 256 / 256 / 256 % 256) 8 + (popN (x / 256 / 256 / 256 / 256 / 256 / 256 % 256) 8 + popN (x / 256 / 256 / 256 / 256 / 256 / 256 / 256 % 256) 8)))))) := by
  unfold pop
  rw [popN_bytes x 7, popN_bytes _ 6, popN_bytes _ 5, popN_bytes _ 4, popN_bytes _ 3, popN_bytes _ 2, popN_bytes _ 1]
  rw [show 8 * 1 = 8 * (0 + 1) from rfl]
  have h2 : popN (x / 256 / 256 / 256 / 256 / 256 / 256 / 256) (8 * (0 + 1)) = popN (x / 256 / 256 / 256 / 256 / 256 / 256 / 256 % 256) 8 := popN_bytes _ 0
  rw [h2]
theorem swar_pop (x : Nat) : swar x < 1152921504606846976 ∧ (swar x + swar x / 256 + (swar x + swar x / 256) / 65536 + (swar x + swar x / 256 + (swar x + swar x / 256) / 65536) / 4294967296) % 128 = pop x := by
  have hp : ∀ b, popN b 8 ≤ 8 := fun b => popN_le b 8
  have h1 := swar_T x
  rw [T_8] at h1
  rw [pop_8]
  have a0 := hp (x % 256)
  have a1 := hp (x / 256 % 256)
  have a2 := hp (x / 256 / 256 % 256)
  have a3 := hp (x / 256 / 256 / 256 % 256)
  have a4 := hp (x / 256 / 256 / 256 / 256 % 256)
  have a5 := hp (x / 256 / 256 / 256 / 256 / 256 % 256)
  have a6 := hp (x / 256 / 256 / 256 / 256 / 256 / 256 % 256)
  have a7 := hp (x / 256 / 256 / 256 / 256 / 256 / 256 / 256 % 256)
  generalize popN (x % 256) 8 = f0 at *
  generalize popN (x / 256 % 256) 8 = f1 at *
  generalize popN (x / 256 / 256 % 256) 8 = f2 at *
  generalize popN (x / 256 / 256 / 256 % 256) 8 = f3 at *
  generalize popN (x / 256 / 256 / 256 / 256 % 256) 8 = f4 at *
  generalize popN (x / 256 / 256 / 256 / 256 / 256 % 256) 8 = f5 at *
  generalize popN (x / 256 / 256 / 256 / 256 / 256 / 256 % 256) 8 = f6 at *
  generalize popN (x / 256 / 256 / 256 / 256 / 256 / 256 / 256 % 256) 8 = f7 at *
  clear hp
  generalize swar x = c at *
  have := sum_bytes c f0 f1 f2 f3 f4 f5 f6 f7 (by omega) a0 a1 a2 a3 a4 a5 a6 a7
  rw [this.2]
  exact ⟨this.1, by omega⟩
end Go.Proofs.YtcnaikoloagbdaaGreat
