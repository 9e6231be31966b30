/-
  Numbers as bytes, in plain Lean: 'num n' are n's bytes, 'dec l' reads the number in front; each undoes the other, and nothing else is read.
-/
import Derived.Test.YtcnaikoloagbdaaGreatProg
namespace Go.Proofs.YtcnaikoloagbdaaGreat
set_option linter.unusedVariables false
set_option linter.unusedSimpArgs false

def num (n : Nat) : List Int := if n < 128 then [(n : Int)] else (128 + ((n % 128 : Nat) : Int)) :: num (n / 128)
termination_by n
decreasing_by omega
theorem num_small {n : Nat} (h : n < 128) : num n = [(n : Int)] := by rw [num, if_pos h]
theorem num_big {n : Nat} (h : ¬ n < 128) : num n = (128 + ((n % 128 : Nat) : Int)) :: num (n / 128) := by rw [num, if_neg h]
theorem num_pos (n : Nat) : 0 < (num n).length := by
  by_cases h : n < 128
  · rw [num_small h]; simp
  · rw [num_big h]; simp
/-- a list of bytes -/
def Bytes (l : List Int) : Prop := ∀ b ∈ l, 0 ≤ b ∧ b < 256
theorem num_bytes (n : Nat) : Bytes (num n) := by
  induction n using Nat.strongRecOn with
  | _ n ih =>
    by_cases h : n < 128
    · rw [num_small h]; intro b hb; simp at hb; subst hb; omega
    · rw [num_big h]; intro b hb
      rcases List.mem_cons.1 hb with rfl | hb
      · omega
      · exact ih _ (by omega) b hb
theorem num_len (k : Nat) : ∀ n : Nat, n < 128 ^ (k + 1) → (num n).length ≤ k + 1 := by
  induction k with
  | zero => intro n h; rw [num_small (by simpa using h)]; simp
  | succ k ih =>
    intro n h
    by_cases hs : n < 128
    · rw [num_small hs]; simp
    · rw [num_big hs, List.length_cons]
      have := ih (n / 128) (by rw [Nat.div_lt_iff_lt_mul (by omega)]; rwa [Nat.pow_succ] at h)
      omega
theorem num_len10 {n : Nat} (h : n < 18446744073709551616) : (num n).length ≤ 10 := num_len 9 n (Nat.lt_of_lt_of_le h (by decide))

/-- the number in front, from the i-th part on -/
def decG (i acc : Nat) : List Int → Option (Nat × List Int)
  | [] => none
  | b :: l => if (i = 9 ∧ 1 < b) ∨ (b = 0 ∧ 0 < i) then none else if 128 ≤ b then decG (i + 1) (acc + b.toNat % 128 * 128 ^ i) l else some (acc + b.toNat * 128 ^ i, l)
def dec (l : List Int) : Option (Nat × List Int) := decG 0 0 l

theorem decG_num (n : Nat) : ∀ (i acc : Nat) (r : List Int), i ≤ 9 → n * 128 ^ i < 18446744073709551616 → (n ≠ 0 ∨ i = 0) → decG i acc (num n ++ r) = some (acc + n * 128 ^ i, r) := by
  induction n using Nat.strongRecOn with
  | _ n ih =>
    intro i acc r hi hn h0
    by_cases h : n < 128
    · rw [num_small h]
      simp only [List.cons_append, List.nil_append, decG]
      rw [if_neg, if_neg (by omega), Int.toNat_natCast]
      intro hh
      rcases hh with ⟨rfl, hb⟩ | ⟨hb, hp⟩
      · have : n < 2 := by
          have e : (128 : Nat) ^ 9 = 9223372036854775808 := by decide
          rw [e] at hn; omega
        omega
      · omega
    · have hi8 : i ≤ 8 := by
        rcases Nat.lt_or_ge i 9 with h9 | h9
        · omega
        · have : i = 9 := by omega
          subst this
          have e : (128 : Nat) ^ 9 = 9223372036854775808 := by decide
          rw [e] at hn; omega
      have hdiv : n % 128 + 128 * (n / 128) = n := Nat.mod_add_div n 128
      have hsplit : n % 128 * 128 ^ i + n / 128 * 128 ^ (i + 1) = n * 128 ^ i := by
        rw [Nat.pow_succ, Nat.mul_comm (128 ^ i) 128, ← Nat.mul_assoc, ← Nat.add_mul]
        congr 1; omega
      rw [num_big h]
      simp only [List.cons_append, decG]
      rw [if_neg (by omega), if_pos (by omega), show (128 + ((n % 128 : Nat) : Int)).toNat % 128 = n % 128 by omega]
      rw [ih (n / 128) (by omega) (i + 1) _ r (by omega) (by omega) (.inl (by omega))]
      congr 2; omega

theorem pow_dvd (i : Nat) (hi : i ≤ 9) : 128 ^ i ∣ 18446744073709551616 := by
  have h : i = 0 ∨ i = 1 ∨ i = 2 ∨ i = 3 ∨ i = 4 ∨ i = 5 ∨ i = 6 ∨ i = 7 ∨ i = 8 ∨ i = 9 := by omega
  rcases h with rfl | rfl | rfl | rfl | rfl | rfl | rfl | rfl | rfl | rfl <;> decide
theorem decG_some : ∀ (l : List Int) (i acc : Nat) (m : Nat) (r : List Int), Bytes l → i ≤ 9 → decG i acc l = some (m, r) →
    ∃ n, m = acc + n * 128 ^ i ∧ l = num n ++ r ∧ (n ≠ 0 ∨ i = 0) ∧ n * 128 ^ i < 18446744073709551616 := by
  intro l
  induction l with
  | nil => intro i acc m r _ _ h; simp [decG] at h
  | cons b l ih =>
    intro i acc m r hB hi h
    have hb := hB b (List.mem_cons_self)
    simp only [decG] at h
    split at h
    · cases h
    · rename_i hno
      split at h
      · rename_i h128
        have hi8 : i ≤ 8 := by
          rcases Nat.lt_or_ge i 9 with h9 | h9
          · omega
          · exact absurd (.inl ⟨by omega, by omega⟩) hno
        obtain ⟨n, rfl, rfl, hn, hlt⟩ := ih (i + 1) _ m r (fun x hx => hB x (List.mem_cons_of_mem _ hx)) (by omega) h
        refine ⟨b.toNat % 128 + 128 * n, ?_, ?_, by omega, ?_⟩
        · rw [Nat.add_mul, Nat.pow_succ, Nat.mul_comm (128 ^ i) 128, ← Nat.mul_assoc, Nat.mul_comm n 128]; omega
        · have hbig : ¬ (b.toNat % 128 + 128 * n) < 128 := by omega
          rw [num_big hbig, List.cons_append, show (b.toNat % 128 + 128 * n) / 128 = n by omega]
          congr 1; omega
        · obtain ⟨q, hq⟩ := pow_dvd (i + 1) (by omega)
          have hlt' : n < q := by
            rw [hq, Nat.mul_comm n] at hlt
            exact Nat.lt_of_mul_lt_mul_left hlt
          have h1 : (n + 1) * 128 ^ (i + 1) ≤ q * 128 ^ (i + 1) := Nat.mul_le_mul_right _ hlt'
          have h2 : (b.toNat % 128 + 128 * n) * 128 ^ i < (n + 1) * 128 ^ (i + 1) := by
            rw [Nat.pow_succ, Nat.mul_comm (128 ^ i) 128, ← Nat.mul_assoc]
            exact Nat.mul_lt_mul_of_pos_right (by omega) (Nat.pow_pos (by omega))
          rw [Nat.mul_comm q, ← hq] at h1
          omega
      · rename_i h128
        simp only [Option.some.injEq, Prod.mk.injEq] at h
        obtain ⟨rfl, rfl⟩ := h
        refine ⟨b.toNat, rfl, ?_, ?_, ?_⟩
        · rw [num_small (by omega)]
          simp; omega
        · rcases Nat.eq_zero_or_pos i with h0 | h0
          · exact .inr h0
          · left; intro hz; exact hno (.inr ⟨by omega, h0⟩)
        · rcases Nat.lt_or_ge i 9 with h9 | h9
          · have h1 : b.toNat * 128 ^ i < 128 * 128 ^ 8 := Nat.lt_of_lt_of_le (Nat.mul_lt_mul_of_pos_right (show b.toNat < 128 by omega) (Nat.pow_pos (by omega))) (Nat.mul_le_mul_left _ (Nat.pow_le_pow_right (by omega) (by omega)))
            have e : (128 : Nat) * 128 ^ 8 ≤ 18446744073709551616 := by decide
            omega
          · have : i = 9 := by omega
            subst this
            have : b.toNat ≤ 1 := by
              rcases Nat.lt_or_ge 1 b.toNat with h1 | h1
              · exact absurd (.inl ⟨rfl, by omega⟩) hno
              · exact h1
            have e : (128 : Nat) ^ 9 = 9223372036854775808 := by decide
            rw [e]; omega

theorem dec_num {n : Nat} (h : n < 18446744073709551616) (r : List Int) : dec (num n ++ r) = some (n, r) := by
  have := decG_num n 0 0 r (by omega) (by simpa using h) (.inr rfl)
  simpa [dec] using this
theorem dec_some {l r : List Int} {n : Nat} (hB : Bytes l) (h : dec l = some (n, r)) : n < 18446744073709551616 ∧ l = num n ++ r := by
  obtain ⟨m, e, hl, _, hlt⟩ := decG_some l 0 0 n r hB (by omega) h
  simp at e hlt
  subst e
  exact ⟨hlt, hl⟩
/-- two numbers in front of the same bytes are one -/
theorem num_inj {n m : Nat} {r s : List Int} (hn : n < 18446744073709551616) (hm : m < 18446744073709551616) (h : num n ++ r = num m ++ s) : n = m ∧ r = s := by
  have h1 := dec_num hn r
  rw [h, dec_num hm s] at h1
  simp only [Option.some.injEq, Prod.mk.injEq] at h1
  exact ⟨h1.1.symm, h1.2.symm⟩

/-- the document's reading: how many bytes lead; the value of bytes -/
def lead : List Int → Nat
  | [] => 0
  | b :: l => if 128 ≤ b then lead l + 1 else 0
def val : List Int → Nat
  | [] => 0
  | b :: l => b.toNat % 128 + 128 * val l
theorem lead_le (l : List Int) : lead l ≤ l.length := by
  induction l with
  | nil => simp [lead]
  | cons b l ih => simp only [lead]; split <;> simp <;> omega
theorem lead_num (n : Nat) (r : List Int) : lead (num n ++ r) + 1 = (num n).length := by
  induction n using Nat.strongRecOn with
  | _ n ih =>
    by_cases h : n < 128
    · rw [num_small h]; simp [lead]; omega
    · rw [num_big h]
      simp only [List.cons_append, lead]
      rw [if_pos (by omega), List.length_cons, ih (n / 128) (by omega)]
theorem val_num (n : Nat) : val (num n) = n := by
  induction n using Nat.strongRecOn with
  | _ n ih =>
    by_cases h : n < 128
    · rw [num_small h]; simp [val]; omega
    · rw [num_big h]; simp only [val]; rw [ih (n / 128) (by omega)]; omega
/-- the document's number in front, and how many bytes it has; 0: none -/
def refRead (l : List Int) : Nat × Nat :=
  if lead l = l.length ∨ 9 < lead l then (0, 0)
  else if 18446744073709551616 ≤ val (l.take (lead l + 1)) then (0, 0)
  else if num (val (l.take (lead l + 1))) = l.take (lead l + 1) then (val (l.take (lead l + 1)), lead l + 1) else (0, 0)
theorem refRead_dec {l : List Int} (hB : Bytes l) : refRead l = match dec l with | some (n, r) => (n, l.length - r.length) | none => (0, 0) := by
  rcases hd : dec l with _ | ⟨n, r⟩
  · show refRead l = (0, 0)
    unfold refRead
    split
    · rfl
    · split
      · rfl
      · split
        · rename_i h1 h2 h3
          have : l = num (val (l.take (lead l + 1))) ++ l.drop (lead l + 1) := by rw [h3, List.take_append_drop]
          rw [this, dec_num (by omega)] at hd
          cases hd
        · rfl
  · obtain ⟨hn, hl⟩ := dec_some hB hd
    have h1 := lead_num n r
    rw [← hl] at h1
    have ht : l.take (lead l + 1) = num n := by rw [h1, hl, List.take_left']; rfl
    have hlen : l.length = (num n).length + r.length := by rw [hl, List.length_append]
    have h10 := num_len10 hn
    unfold refRead
    rw [ht, val_num, if_neg (by omega), if_neg (by omega), if_pos rfl, h1]
    show (n, _) = (n, _)
    congr 1; omega
theorem lead_drop (l : List Int) (k : Nat) (h : k < l.length) (h128 : 128 ≤ l.getD k 0) (hk : lead l = k + lead (l.drop k)) : lead l = (k + 1) + lead (l.drop (k + 1)) := by
  rw [hk, List.drop_eq_getElem_cons h]
  rw [List.getD_eq_getElem?_getD, List.getElem?_eq_getElem h] at h128
  simp only [lead]
  rw [if_pos (by simpa using h128)]
  omega
theorem lead_stop (l : List Int) (k : Nat) (h : k < l.length) (h128 : ¬ 128 ≤ l.getD k 0) (hk : lead l = k + lead (l.drop k)) : lead l = k := by
  rw [hk, List.drop_eq_getElem_cons h]
  rw [List.getD_eq_getElem?_getD, List.getElem?_eq_getElem h] at h128
  simp only [lead]
  rw [if_neg (by simpa using h128)]
  omega
theorem val_drop_le (l : List Int) (k : Nat) : val (l.drop k) ≤ val l := by
  induction l generalizing k with
  | nil => simp
  | cons b l ih =>
    cases k with
    | zero => simp
    | succ k =>
      have := ih k
      simp only [List.drop_succ_cons, val]
      omega
theorem val_step (l : List Int) (k : Nat) (h : k < l.length) : val (l.drop k) = (l.getD k 0).toNat % 128 + 128 * val (l.drop (k + 1)) := by
  rw [List.drop_eq_getElem_cons h]
  simp only [val, List.getD_eq_getElem?_getD, List.getElem?_eq_getElem h]
  rfl
end Go.Proofs.YtcnaikoloagbdaaGreat
