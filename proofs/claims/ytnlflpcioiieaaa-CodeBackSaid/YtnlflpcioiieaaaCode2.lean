/-
  code.Read walked.
-/
import Derived.Test.YtnlflpcioiieaaaCode1
import Derived.Deep.LoopGhost
namespace Go.Proofs.Ytnlflpcioiieaaa
set_option linter.unusedVariables false
set_option linter.unusedSimpArgs false
open Go.RowKit

theorem wraps_u64 (n : Int) (h0 : 0 ≤ n) (h1 : n < 2 ^ 64) : IntKind.u64.wrap n = n := by
  rw [IntKind.wrap_u64, show ((18446744073709551616 : Int)) = 2 ^ 64 by decide, Int.emod_eq_of_lt h0 h1]
theorem strip128 (x : Int) (h0 : 0 ≤ x) (h1 : x < 256) : bits .andNot .u8 x 128 = x % 128 := by
  have key : ∀ k : Nat, k < 256 → bits .andNot .u8 (k : Int) 128 = (k : Int) % 128 := by decide +kernel
  have := key x.toNat (by omega)
  rwa [show ((x.toNat : Nat) : Int) = x by omega] at this
theorem pow7 (k : Nat) : (2 : Nat) ^ (7 * k) = 128 ^ k := by rw [Nat.pow_mul]
/-- one part more -/
theorem or_part (k acc : Nat) (x : Int) (h0 : 0 ≤ x) (h1 : x < 256) (hacc : acc < 128 ^ k) (ha64 : acc < 18446744073709551616) (hfit : x.toNat % 128 * 128 ^ k < 18446744073709551616) :
    bits .or .u64 (acc : Int) (IntKind.u64.wrap (IntKind.u64.wrap (bits .andNot .u8 x 128) * 2 ^ (7 * k))) = ((acc + x.toNat % 128 * 128 ^ k : Nat) : Int) := by
  rw [strip128 x h0 h1, wraps_u64 (x % 128) (by omega) (by omega)]
  have e : x % 128 * 2 ^ (7 * k) = ((x.toNat % 128 * 128 ^ k : Nat) : Int) := by
    rw [← pow7]
    push_cast
    rw [show ((x.toNat : Nat) : Int) = x by omega]
  have h64 : (18446744073709551616 : Nat) = 2 ^ 64 := by decide
  rw [e, wraps_u64 _ (by omega) (by rw [h64] at hfit; exact_mod_cast hfit)]
  rw [(bits_nat .u64 64 (by decide) wraps_u64 acc _ (by rw [← h64]; omega) (by rw [← h64]; exact hfit)).2]
  congr 1
  rw [Nat.or_comm, ← pow7, Nat.mul_comm, ← Nat.two_pow_add_eq_or_of_lt (by rw [pow7]; exact hacc)]
  omega

/-- how many parts may follow -/
theorem part_fits (k : Nat) (x : Int) (h0 : 0 ≤ x) (h1 : x < 256) (hk : k ≤ 9) (h9 : k = 9 → x ≤ 1) : x.toNat % 128 * 128 ^ k < 18446744073709551616 := by
  rcases Nat.lt_or_ge k 9 with h | h
  · have h2 : x.toNat % 128 * 128 ^ k ≤ 127 * 128 ^ 8 := Nat.mul_le_mul (by omega) (Nat.pow_le_pow_right (by omega) (by omega))
    have e : (127 : Nat) * 128 ^ 8 < 18446744073709551616 := by decide
    omega
  · have hk9 : k = 9 := by omega
    subst hk9
    have hx := h9 rfl
    have e : (128 : Nat) ^ 9 = 9223372036854775808 := by decide
    rw [e]
    omega

theorem clone_n (A : Option Addr) (c n : Nat) (l : List Int) (w : World) (hn : l.length = n) (hr : Rd .u8 w A l) (hlen : l.length ≤ 140737488351232) :
    Calls Try.prog 24 #[.slice A n c] w fun e w' => ∃ v, e = .returned v ∧ Own .u8 5 w' w.heap.size v l ∧ Below w.heap.size w w' := by
  subst hn
  exact clone_any A c l w hr hlen

set_option maxHeartbeats 400000 in
set_option maxRecDepth 100000 in
theorem read_any (A : Option Addr) (c : Nat) (l : List Int) (w : World) (hB : Bytes l) (hr : Rd .u8 w A l) (hlen : l.length ≤ 140737488351232) (hc : l.length ≤ c) :
    Calls Try.prog 12 #[.slice A l.length c] w fun e w' => ∃ (n : Nat) (v : Value) (r : List Int) (er : Int), e = .returned (.tuple #[.int .u64 n, v, .int .i64 er]) ∧
      Hid ((er = 0 ∧ dec l = some (n, r)) ∨ (er = 2 ∧ n = 0 ∧ r = [] ∧ dec l = none)) ∧ Own .u8 5 w' w.heap.size v r ∧ Below w.heap.size w w' := by
  have HR := Lib.hid hr
  have HB := Lib.hid hB
  clear hr hB
  go_enter Try.func12, Try.ntmps12
  go_wp2
  go_step3
  go_wp2
  go_step3
  go_wp2
  go_loopg [5, 10] 10 (fun g v5 v10 wr => ∃ (k acc : Nat), k ≤ l.length ∧ v10 = .int .i64 k ∧ v5 = .int .u64 acc ∧ g + k = 10 ∧ 1 ≤ g ∧ Hid (dec l = decG k acc (l.drop k) ∧ acc < 128 ^ k) ∧ wr = w)
  case atStart => exact ⟨0, 0, Nat.zero_le _, rfl, rfl, rfl, by omega, ⟨rfl, by simp⟩, rfl⟩
  case round =>
    obtain ⟨k, acc, hk, rfl, rfl, hg, hg1, HD, rfl⟩ := hrel
    by_cases hlt : k < l.length
    · obtain ⟨ad, rfl, had, hcl⟩ := HR.out k hlt
      have hx := HB.out _ (show l.getD k 0 ∈ l by rw [List.getD_eq_getElem?_getD, List.getElem?_eq_getElem hlt]; exact List.getElem_mem hlt)
      have hdr := Lib.hid (show l.drop k = l.getD k 0 :: l.drop (k + 1) by rw [List.getD_eq_getElem?_getD, List.getElem?_eq_getElem hlt]; exact List.drop_eq_getElem_cons hlt)
      generalize l.getD k 0 = x at *
      obtain ⟨hx0, hx1⟩ := hx
      have hk9 : k ≤ 9 := by omega
      by_cases hbad : (k = 9 ∧ 1 < x) ∨ (x = 0 ∧ 0 < k)
      · have HN := Lib.hid (show dec l = none by rw [HD.out.1, hdr.out, decG, if_pos hbad])
        by_cases h9 : k = 9
        · have h9b : ((k : Int) == 9) = true := by simp [h9]
          have h9i : k = 9 := h9
          have H9 := Lib.hid h9i
          clear h9i h9
          by_cases h1 : 1 < x
          · clear hbad
            go_wp2
            try rw [Exit.noGoto_ret]
            go_ret3
            exact ⟨0, _, [], 2, rfl, .inr ⟨rfl, rfl, rfl, HN.out⟩, Own.nil _ _ _ _, Below.refl _ _⟩
          · have hx : x = 0 := by omega
            have hk0 : (0 : Int) < k := by have := H9.out; omega
            subst hx
            clear hbad
            go_wp2
            try rw [Exit.noGoto_ret]
            go_ret3
            exact ⟨0, _, [], 2, rfl, .inr ⟨rfl, rfl, rfl, HN.out⟩, Own.nil _ _ _ _, Below.refl _ _⟩
        · have h9b : ((k : Int) == 9) = false := by simp; omega
          have hx : x = 0 := by omega
          have hk0 : (0 : Int) < k := by omega
          subst hx
          go_wp2
          try rw [Exit.noGoto_ret]
          go_ret3
          exact ⟨0, _, [], 2, rfl, .inr ⟨rfl, rfl, rfl, HN.out⟩, Own.nil _ _ _ _, Below.refl _ _⟩
      · have HP := Lib.hid (or_part k acc x hx0 hx1 HD.out.2 (Nat.lt_of_lt_of_le HD.out.2 (Nat.le_trans (Nat.pow_le_pow_right (by omega) hk9) (by decide))) (part_fits k x hx0 hx1 hk9 (by omega)))
        by_cases h128 : 128 ≤ x
        · have h9b : ((k : Int) == 9) = false := by simp; omega
          have hx0 : (x == 0) = false := by simp; omega
          have HD2 := Lib.hid (show dec l = decG (k + 1) (acc + x.toNat % 128 * 128 ^ k) (l.drop (k + 1)) ∧ acc + x.toNat % 128 * 128 ^ k < 128 ^ (k + 1) by
            refine ⟨by rw [HD.out.1, hdr.out, decG, if_neg hbad, if_pos h128], ?_⟩
            have h2 := HD.out.2
            have h3 : x.toNat % 128 * 128 ^ k ≤ 127 * 128 ^ k := Nat.mul_le_mul_right _ (by omega)
            rw [Nat.pow_succ]; omega)
          obtain ⟨g, rfl⟩ : ∃ g, gk = g + 1 := ⟨gk - 1, by omega⟩
          go_wp2
          go_roundg g
          case rel => exact ⟨k + 1, acc + x.toNat % 128 * 128 ^ k, by omega, by go_num, by rw [HP.out], by omega, by omega, HD2, rfl⟩
          case measure => omega
        · have HN := Lib.hid (show dec l = some (acc + x.toNat % 128 * 128 ^ k, l.drop (k + 1)) by
            rw [HD.out.1, hdr.out, decG, if_neg hbad, if_neg h128, show x.toNat % 128 = x.toNat by omega])
          have hcut := HR.out.cut (k + 1) (l.length - (k + 1))
          rw [List.take_of_length_le (by simp), show Option.map (fun x => x.add (k + 1)) (some ad) = some (Addr.mk ad.block (ad.off + (k + 1)) none) by simp [Addr.add]] at hcut
          have HC := Lib.hid hcut
          have HBAD := Lib.hid hbad
          have hdl : (l.drop (k + 1)).length = l.length - (k + 1) := by simp
          have hdl2 : (l.drop (k + 1)).length ≤ l.length := by simp
          have HDL := Lib.hid hdl
          clear hcut hbad hdl
          generalize l.drop (k + 1) = rr at *
          by_cases hcap : c = k + 1
          · have hl1 : l.length = k + 1 := by omega
            have hrr : rr = [] := List.eq_nil_of_length_eq_zero (by rw [HDL.out]; omega)
            subst hrr
            have HCAP := Lib.hid hcap
            have HL1 := Lib.hid hl1
            clear hcap hl1
            have hl1 : k + 1 ≤ l.length := by omega
            have hl2 : l.length ≤ k + 1 := by have := HL1.out; omega
            have hc2 : c ≤ k + 1 := by have := HCAP.out; omega
            by_cases h9 : k = 9
            · have h9b : ((k : Int) == 9) = true := by simp [h9]
              have hx0b : (x == 0) = false := by have := HBAD.out; simp; omega
              have hx1b : x ≤ 1 := by have := HBAD.out; omega
              have H9 := Lib.hid h9
              clear h9
              go_wp2_with fail
              refine (clone_n _ _ _ [] _ (by have := HL1.out; have := HCAP.out; simp <;> omega) (Rd.nil _ _ _) (by omega)).mono ?_
              rintro e w1 ⟨v, rfl, ho, hb⟩
              go_wp2
              try rw [Exit.noGoto_ret]
              go_ret3
              exact ⟨_, v, [], 0, by first | rfl | (rw [HP.out]; rfl), .inl ⟨rfl, HN.out⟩, ho, hb⟩
            · have h9b : ((k : Int) == 9) = false := by simp; omega
              by_cases hx : x = 0
              · have hk0 : (k : Int) ≤ 0 := by have := HBAD.out; omega
                have hx0b : (x == 0) = true := by simp [hx]
                clear hx h9
                go_wp2_with fail
                refine (clone_n _ _ _ [] _ (by have := HL1.out; have := HCAP.out; simp <;> omega) (Rd.nil _ _ _) (by omega)).mono ?_
                rintro e w1 ⟨v, rfl, ho, hb⟩
                go_wp2
                try rw [Exit.noGoto_ret]
                go_ret3
                exact ⟨_, v, [], 0, by first | rfl | (rw [HP.out]; rfl), .inl ⟨rfl, HN.out⟩, ho, hb⟩
              · have hx0b : (x == 0) = false := by simpa using hx
                clear hx h9
                go_wp2_with fail
                refine (clone_n _ _ _ [] _ (by have := HL1.out; have := HCAP.out; simp <;> omega) (Rd.nil _ _ _) (by omega)).mono ?_
                rintro e w1 ⟨v, rfl, ho, hb⟩
                go_wp2
                try rw [Exit.noGoto_ret]
                go_ret3
                exact ⟨_, v, [], 0, by first | rfl | (rw [HP.out]; rfl), .inl ⟨rfl, HN.out⟩, ho, hb⟩
          · have hcap1 : k + 1 < c := by omega
            clear hcap
            have hl1 : k + 1 ≤ l.length := by omega
            by_cases h9 : k = 9
            · have h9b : ((k : Int) == 9) = true := by simp [h9]
              have hx0b : (x == 0) = false := by have := HBAD.out; simp; omega
              have hx1b : x ≤ 1 := by have := HBAD.out; omega
              have H9 := Lib.hid h9
              clear h9
              go_wp2_with fail
              refine (clone_n _ _ _ rr _ (by have := HDL.out; omega) HC.out (by omega)).mono ?_
              rintro e w1 ⟨v, rfl, ho, hb⟩
              go_wp2
              try rw [Exit.noGoto_ret]
              go_ret3
              exact ⟨_, v, rr, 0, by first | rfl | (rw [HP.out]; rfl), .inl ⟨rfl, HN.out⟩, ho, hb⟩
            · have h9b : ((k : Int) == 9) = false := by simp; omega
              by_cases hx : x = 0
              · have hk0 : (k : Int) ≤ 0 := by have := HBAD.out; omega
                have hx0b : (x == 0) = true := by simp [hx]
                clear hx h9
                go_wp2_with fail
                refine (clone_n _ _ _ rr _ (by have := HDL.out; omega) HC.out (by omega)).mono ?_
                rintro e w1 ⟨v, rfl, ho, hb⟩
                go_wp2
                try rw [Exit.noGoto_ret]
                go_ret3
                exact ⟨_, v, rr, 0, by first | rfl | (rw [HP.out]; rfl), .inl ⟨rfl, HN.out⟩, ho, hb⟩
              · have hx0b : (x == 0) = false := by simpa using hx
                clear hx h9
                go_wp2_with fail
                refine (clone_n _ _ _ rr _ (by have := HDL.out; omega) HC.out (by omega)).mono ?_
                rintro e w1 ⟨v, rfl, ho, hb⟩
                go_wp2
                try rw [Exit.noGoto_ret]
                go_ret3
                exact ⟨_, v, rr, 0, by first | rfl | (rw [HP.out]; rfl), .inl ⟨rfl, HN.out⟩, ho, hb⟩
    · have HN := Lib.hid (show dec l = none by rw [HD.out.1, List.drop_of_length_le (by omega)]; rfl)
      go_wp2
      try rw [Exit.noGoto_ret]
      go_ret3
      exact ⟨0, _, [], 2, rfl, .inr ⟨rfl, rfl, rfl, HN.out⟩, Own.nil _ _ _ _, Below.refl _ _⟩
end Go.Proofs.Ytnlflpcioiieaaa
