/-
  hash.Table: its small helpers, walked: odd, home, next.
-/
import Derived.Test.YtmpjjehihimadaaGreatMeter
import Derived.Lib.BitFns
import Derived.Lib.Tables
namespace Go.Proofs.YtmpjjehihimadaaGreat
set_option linter.unusedVariables false
set_option linter.unusedSimpArgs false
open Go.RowKit

def rotF (x : Int) (k : Int) : Int := if k = 0 then bits .or .u64 (IntKind.u64.wrap x) (x / 18446744073709551616) else if k = 23 then bits .or .u64 (IntKind.u64.wrap (x * 8388608)) (x / 2199023255552) else bits .or .u64 (IntKind.u64.wrap (x * 2199023255552)) (x / 8388608)
set_option maxRecDepth 100000 in
theorem hRot (x : Int) (k : Int) (w : World) (hk : k = 0 ∨ k = 23 ∨ k = 41) : Calls Tryz.prog 166 #[.int .u64 x, .int .i64 k] w fun e w' => e = .returned (.int .u64 (rotF x k)) ∧ w' = w := by
  have b0 : bits .and .u64 0 63 = 0 := by decide +kernel
  have b1 : bits .and .u64 23 63 = 23 := by decide +kernel
  have b2 : bits .and .u64 41 63 = 41 := by decide +kernel
  rcases hk with rfl | rfl | rfl
  all_goals
    go_enter Tryz.func166, Tryz.ntmps166
    go_wp2
    go_ret
    exact ⟨rfl, rfl⟩
def oddF (seed k : Int) : Int := bits .or .u64 (rotF (IntKind.u64.wrap (IntKind.u64.wrap (seed * 11400714819323198485) + 15111065706836454659)) k) 1
set_option maxRecDepth 100000 in
theorem hOdd (t : Nat) (seed k : Int) (w : World) (q2 : w.cell? ⟨t, 2, none⟩ = some (.int .u64 seed)) (hk : k = 0 ∨ k = 23 ∨ k = 41) : Calls Tryz.prog 165 #[.pointer (some ⟨t, 0, none⟩), .int .i64 k] w fun e w' => e = .returned (.int .u64 (oddF seed k)) ∧ w' = w := by
  have HK := Lib.hid hk
  clear hk
  go_enter Tryz.func165, Tryz.ntmps165
  go_wp2_with fail
  refine (hRot _ _ _ HK.out).mono ?_
  rintro e w1 ⟨rfl, rfl⟩
  go_wp2
  go_ret
  exact ⟨rfl, rfl⟩
set_option maxRecDepth 100000 in
theorem hLen_7 (w : World) : Calls Tryz.prog 54 #[.int .u64 7] w fun e w' => e = .returned (.int .i64 3) ∧ w' = w := by
  have h8 : Lib.len8 7 = 3 := by decide +kernel
  have key : Calls Tryz.prog 73 #[.int .u64 7] w fun e w' => e = .returned (.int .i64 3) ∧ w' = w := by
    go_enter Tryz.func73, Tryz.ntmps73
    go_wp2
    go_ret
    exact ⟨rfl, rfl⟩
  go_enter Tryz.func54, Tryz.ntmps54
  go_wp2_with fail
  refine key.mono ?_
  rintro e w1 ⟨rfl, rfl⟩
  go_wp2
  go_ret
  exact ⟨rfl, rfl⟩
set_option maxRecDepth 100000 in
theorem hLen_15 (w : World) : Calls Tryz.prog 54 #[.int .u64 15] w fun e w' => e = .returned (.int .i64 4) ∧ w' = w := by
  have h8 : Lib.len8 15 = 4 := by decide +kernel
  have key : Calls Tryz.prog 73 #[.int .u64 15] w fun e w' => e = .returned (.int .i64 4) ∧ w' = w := by
    go_enter Tryz.func73, Tryz.ntmps73
    go_wp2
    go_ret
    exact ⟨rfl, rfl⟩
  go_enter Tryz.func54, Tryz.ntmps54
  go_wp2_with fail
  refine key.mono ?_
  rintro e w1 ⟨rfl, rfl⟩
  go_wp2
  go_ret
  exact ⟨rfl, rfl⟩
set_option maxRecDepth 100000 in
theorem hLen_31 (w : World) : Calls Tryz.prog 54 #[.int .u64 31] w fun e w' => e = .returned (.int .i64 5) ∧ w' = w := by
  have h8 : Lib.len8 31 = 5 := by decide +kernel
  have key : Calls Tryz.prog 73 #[.int .u64 31] w fun e w' => e = .returned (.int .i64 5) ∧ w' = w := by
    go_enter Tryz.func73, Tryz.ntmps73
    go_wp2
    go_ret
    exact ⟨rfl, rfl⟩
  go_enter Tryz.func54, Tryz.ntmps54
  go_wp2_with fail
  refine key.mono ?_
  rintro e w1 ⟨rfl, rfl⟩
  go_wp2
  go_ret
  exact ⟨rfl, rfl⟩
set_option maxRecDepth 100000 in
theorem hLen_63 (w : World) : Calls Tryz.prog 54 #[.int .u64 63] w fun e w' => e = .returned (.int .i64 6) ∧ w' = w := by
  have h8 : Lib.len8 63 = 6 := by decide +kernel
  have key : Calls Tryz.prog 73 #[.int .u64 63] w fun e w' => e = .returned (.int .i64 6) ∧ w' = w := by
    go_enter Tryz.func73, Tryz.ntmps73
    go_wp2
    go_ret
    exact ⟨rfl, rfl⟩
  go_enter Tryz.func54, Tryz.ntmps54
  go_wp2_with fail
  refine key.mono ?_
  rintro e w1 ⟨rfl, rfl⟩
  go_wp2
  go_ret
  exact ⟨rfl, rfl⟩
set_option maxRecDepth 100000 in
theorem hLen_127 (w : World) : Calls Tryz.prog 54 #[.int .u64 127] w fun e w' => e = .returned (.int .i64 7) ∧ w' = w := by
  have h8 : Lib.len8 127 = 7 := by decide +kernel
  have key : Calls Tryz.prog 73 #[.int .u64 127] w fun e w' => e = .returned (.int .i64 7) ∧ w' = w := by
    go_enter Tryz.func73, Tryz.ntmps73
    go_wp2
    go_ret
    exact ⟨rfl, rfl⟩
  go_enter Tryz.func54, Tryz.ntmps54
  go_wp2_with fail
  refine key.mono ?_
  rintro e w1 ⟨rfl, rfl⟩
  go_wp2
  go_ret
  exact ⟨rfl, rfl⟩
set_option maxRecDepth 100000 in
theorem hLen_255 (w : World) : Calls Tryz.prog 54 #[.int .u64 255] w fun e w' => e = .returned (.int .i64 8) ∧ w' = w := by
  have h8 : Lib.len8 255 = 8 := by decide +kernel
  have key : Calls Tryz.prog 73 #[.int .u64 255] w fun e w' => e = .returned (.int .i64 8) ∧ w' = w := by
    go_enter Tryz.func73, Tryz.ntmps73
    go_wp2
    go_ret
    exact ⟨rfl, rfl⟩
  go_enter Tryz.func54, Tryz.ntmps54
  go_wp2_with fail
  refine key.mono ?_
  rintro e w1 ⟨rfl, rfl⟩
  go_wp2
  go_ret
  exact ⟨rfl, rfl⟩
set_option maxRecDepth 100000 in
theorem hLen_511 (w : World) : Calls Tryz.prog 54 #[.int .u64 511] w fun e w' => e = .returned (.int .i64 9) ∧ w' = w := by
  have h8 : Lib.len8 1 = 1 := by decide +kernel
  have key : Calls Tryz.prog 73 #[.int .u64 511] w fun e w' => e = .returned (.int .i64 9) ∧ w' = w := by
    go_enter Tryz.func73, Tryz.ntmps73
    go_wp2
    go_ret
    exact ⟨rfl, rfl⟩
  go_enter Tryz.func54, Tryz.ntmps54
  go_wp2_with fail
  refine key.mono ?_
  rintro e w1 ⟨rfl, rfl⟩
  go_wp2
  go_ret
  exact ⟨rfl, rfl⟩
set_option maxRecDepth 100000 in
theorem hLen_1023 (w : World) : Calls Tryz.prog 54 #[.int .u64 1023] w fun e w' => e = .returned (.int .i64 10) ∧ w' = w := by
  have h8 : Lib.len8 3 = 2 := by decide +kernel
  have key : Calls Tryz.prog 73 #[.int .u64 1023] w fun e w' => e = .returned (.int .i64 10) ∧ w' = w := by
    go_enter Tryz.func73, Tryz.ntmps73
    go_wp2
    go_ret
    exact ⟨rfl, rfl⟩
  go_enter Tryz.func54, Tryz.ntmps54
  go_wp2_with fail
  refine key.mono ?_
  rintro e w1 ⟨rfl, rfl⟩
  go_wp2
  go_ret
  exact ⟨rfl, rfl⟩
set_option maxRecDepth 100000 in
theorem hLen_2047 (w : World) : Calls Tryz.prog 54 #[.int .u64 2047] w fun e w' => e = .returned (.int .i64 11) ∧ w' = w := by
  have h8 : Lib.len8 7 = 3 := by decide +kernel
  have key : Calls Tryz.prog 73 #[.int .u64 2047] w fun e w' => e = .returned (.int .i64 11) ∧ w' = w := by
    go_enter Tryz.func73, Tryz.ntmps73
    go_wp2
    go_ret
    exact ⟨rfl, rfl⟩
  go_enter Tryz.func54, Tryz.ntmps54
  go_wp2_with fail
  refine key.mono ?_
  rintro e w1 ⟨rfl, rfl⟩
  go_wp2
  go_ret
  exact ⟨rfl, rfl⟩
set_option maxRecDepth 100000 in
theorem hLen_4095 (w : World) : Calls Tryz.prog 54 #[.int .u64 4095] w fun e w' => e = .returned (.int .i64 12) ∧ w' = w := by
  have h8 : Lib.len8 15 = 4 := by decide +kernel
  have key : Calls Tryz.prog 73 #[.int .u64 4095] w fun e w' => e = .returned (.int .i64 12) ∧ w' = w := by
    go_enter Tryz.func73, Tryz.ntmps73
    go_wp2
    go_ret
    exact ⟨rfl, rfl⟩
  go_enter Tryz.func54, Tryz.ntmps54
  go_wp2_with fail
  refine key.mono ?_
  rintro e w1 ⟨rfl, rfl⟩
  go_wp2
  go_ret
  exact ⟨rfl, rfl⟩
/-- a table's size: so many places -/
def Sz (s j : Nat) : Prop := s = 2 ^ j ∧ 3 ≤ j ∧ j ≤ 12
theorem hLen (s j : Nat) (w : World) (h : Sz s j) : Calls Tryz.prog 54 #[.int .u64 ((s : Int) - 1)] w fun e w' => e = .returned (.int .i64 (j : Nat)) ∧ w' = w := by
  obtain ⟨rfl, h3, h12⟩ := h
  rcases (show j = 3 ∨ j = 4 ∨ j = 5 ∨ j = 6 ∨ j = 7 ∨ j = 8 ∨ j = 9 ∨ j = 10 ∨ j = 11 ∨ j = 12 by omega) with rfl | rfl | rfl | rfl | rfl | rfl | rfl | rfl | rfl | rfl
  · exact hLen_7 w
  · exact hLen_15 w
  · exact hLen_31 w
  · exact hLen_63 w
  · exact hLen_127 w
  · exact hLen_255 w
  · exact hLen_511 w
  · exact hLen_1023 w
  · exact hLen_2047 w
  · exact hLen_4095 w
end Go.Proofs.YtmpjjehihimadaaGreat
