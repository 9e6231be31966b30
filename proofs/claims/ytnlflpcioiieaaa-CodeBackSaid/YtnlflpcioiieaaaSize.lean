/-
  code.Size walked: so many bytes as its numbers have.
-/
import Derived.Test.YtnlflpcioiieaaaCode1
import Derived.Test.YtnlflpcioiieaaaLen
namespace Go.Proofs.Ytnlflpcioiieaaa
set_option linter.unusedVariables false
set_option linter.unusedSimpArgs false
open Go.RowKit
attribute [local go_sem] gmax2_int gmin2_int gmax_two gmin_two

theorem bitLen_num (n : Nat) : n < 18446744073709551616 → (num n).length = max 1 ((Lib.bitLen n + 6) / 7) := by
  induction n using Nat.strongRecOn with
  | _ n ih =>
    intro hn
    by_cases h : n < 128
    · have key : ∀ k : Fin 128, max 1 ((Lib.bitLen k.val + 6) / 7) = 1 := by decide +kernel
      rw [num_small h, key ⟨n, h⟩]; rfl
    · rw [num_big h, List.length_cons, ih (n / 128) (by omega) (by omega), Lib.bitLen_shift 7 n (by omega) (by rw [show (2 : Nat) ^ 64 = 18446744073709551616 by decide]; exact hn)]
      have : 0 < Lib.bitLen (n / 2 ^ 7) := by
        rw [Lib.bitLen_half _ (by omega) (by rw [show (2 : Nat) ^ 64 = 18446744073709551616 by decide]; omega)]; omega
      rw [show n / 128 = n / 2 ^ 7 from rfl]
      omega
/-- so many bytes have all of these -/
def sizes (l : List Int) : Nat := (l.map fun x => (num x.toNat).length).sum
theorem sizes_snoc (l : List Int) (k : Nat) (h : k < l.length) : sizes (l.take (k + 1)) = sizes (l.take k) + (num (l.getD k 0).toNat).length := by
  unfold sizes
  rw [List.take_succ_eq_append_getElem h, List.map_append, List.sum_append, List.getD_eq_getElem?_getD, List.getElem?_eq_getElem h]
  simp only [List.map_cons, List.map_nil, List.sum_cons, List.sum_nil, Nat.add_zero, Option.getD_some]
theorem sizes_le (l : List Int) (h : ∀ x ∈ l, 0 ≤ x ∧ x ≤ 18446744073709551615) : sizes l ≤ 10 * l.length := by
  unfold sizes
  induction l with
  | nil => simp
  | cons x l ih =>
    have h1 := ih (fun y hy => h y (List.mem_cons_of_mem _ hy))
    have h2 := h x List.mem_cons_self
    have h3 := num_len10 (n := x.toNat) (by omega)
    simp only [List.map_cons, List.sum_cons, List.length_cons]
    omega
theorem len64_b (x : Int) (w : World) (h0 : 0 ≤ x) (h1 : x ≤ 18446744073709551615) :
    Calls Try.prog 25 #[.int .u64 x] w fun e w' => ∃ b : Nat, e = .returned (.int .i64 b) ∧ b ≤ 64 ∧ Hid ((num x.toNat).length = max 1 ((b + 6) / 7)) ∧ w = w' :=
  (len64_any x w h0 h1).mono fun _ _ ⟨he, hw⟩ => ⟨_, he, Lib.bitLen_le _ 64 (by omega) (by rw [show (2 : Nat) ^ 64 = 18446744073709551616 by decide]; omega), bitLen_num _ (by omega), hw.symm⟩

set_option maxHeartbeats 400000 in
set_option maxRecDepth 100000 in
theorem size_any (A : Option Addr) (c : Nat) (l : List Int) (w : World) (hr : Rd .u64 w A l) (hB : ∀ x ∈ l, 0 ≤ x ∧ x ≤ 18446744073709551615) (hlen : l.length * 8 ≤ 140737488351232) :
    Calls Try.prog 16 #[.slice A l.length c] w fun e w' => e = .returned (.int .i64 (sizes l : Nat)) ∧ w = w' := by
  have HR := Lib.hid hr
  have HB := Lib.hid hB
  have hsz := sizes_le l hB
  have HSZ := Lib.hid (show ∀ k, sizes (l.take k) ≤ 10 * l.length from fun k => Nat.le_trans (sizes_le _ (fun x hx => hB x (List.mem_of_mem_take hx))) (by simp; omega))
  clear hr hB
  go_enter Try.func16, Try.ntmps16
  go_wp2
  go_loopw [3, 5, 8] (fun v3 v5 v8 wr => ∃ k : Nat, k ≤ l.length ∧ v8 = .int .i64 k ∧ v3 = .int .i64 (sizes (l.take k) : Nat) ∧ w = wr) (fun _ _ v8 _ => l.length - (intOf v8).toNat)
  case atStart => exact ⟨0, Nat.zero_le _, rfl, rfl, rfl⟩
  case round =>
    obtain ⟨k, hk, rfl, rfl, rfl⟩ := hrel
    by_cases hlt : k < l.length
    · obtain ⟨ad, rfl, had, hcl⟩ := HR.out k hlt
      have hx := HB.out _ (show l.getD k 0 ∈ l by rw [List.getD_eq_getElem?_getD, List.getElem?_eq_getElem hlt]; exact List.getElem_mem hlt)
      have HS := Lib.hid (sizes_snoc l k hlt)
      have hs0 := HSZ.out k
      generalize sizes (l.take k) = sk at *
      generalize l.getD k 0 = x at *
      have HX := Lib.hid hx
      clear hx
      go_wp2_with (go_at_call 25; refine (len64_b x _ HX.out.1 HX.out.2).mono ?_; rintro e w1 ⟨b, rfl, hb64, HL, rfl⟩)
      all_goals
        go_roundw
        case rel => exact ⟨k + 1, by omega, by go_num, by rw [HS.out, HL.out]; congr 1; omega, by first | rfl | trivial⟩
        case measure => simp [intOf] <;> omega
    · obtain rfl : k = l.length := by omega
      go_wp2
      go_ret
      exact ⟨ret_int (by rw [List.take_length]), rfl⟩
end Go.Proofs.Ytnlflpcioiieaaa
