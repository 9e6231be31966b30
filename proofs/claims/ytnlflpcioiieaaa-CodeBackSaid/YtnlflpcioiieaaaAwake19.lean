/-
  The example of the laws of layer 19 (awake).
-/
import Derived.Test.YtnlflpcioiieaaaKeys
namespace Go.Proofs.Ytnlflpcioiieaaa
set_option linter.unusedVariables false
set_option linter.unusedSimpArgs false
open Go.RowKit

theorem own_cast {k : IntKind} {e : TypeId} {w : World} {base : Nat} {v : Value} {l m : List Int} (h : Own k e w base v l) (hl : l = m) : Own k e w base v m := hl ▸ h
theorem num293 : num 293 = [165, 2] := by rw [num_big (by omega), num_small (by omega)]; rfl
theorem keysR_awake : keysR [5, 6, 300] = ([0, 3, 5, 0, 165, 2], 0) := by
  have e5 : num 5 = [5] := by rw [num_small (by omega)]; rfl
  have e0 : num 0 = [0] := by rw [num_small (by omega)]; rfl
  have e3 : num 3 = [3] := by rw [num_small (by omega)]; rfl
  have h : gaps none [5, 6, 300] = some (num 5 ++ (num 0 ++ (num 293 ++ []))) := by simp [gaps]
  simp only [keysR, h, e5, e0, num293]
  simp [e3]

set_option maxHeartbeats 1000000 in
set_option maxRecDepth 100000 in
theorem awake19_any (w : World) : Calls Try.prog 8 #[] w fun e w' => e = .returned (.bool true) ∧ Below w.heap.size w w' := by
  have HK := Lib.hid keysR_awake
  have hb0 := (Below.refl w.heap.size w).alloc (Nat.le_refl _) (.cells #[.int .u64 5, .int .u64 6, .int .u64 300] 22)
  have R0 := Lib.hid (show Rd .u64 (w.alloc (.cells #[.int .u64 5, .int .u64 6, .int .u64 300] 22)) (some ⟨w.heap.size, 0, none⟩) [5, 6, 300] by
    obtain ⟨A, c, e, _, _, h⟩ := (Own.made (k := .u64) (e := 22) (w := w) (base := w.heap.size) (Nat.le_refl _) [5, 6, 300] (by simp [maxLen])).form
    cases e
    exact h)
  go_enter Try.func8, Try.ntmps8
  go_wp2_with fail
  refine (keys_any _ 3 [5, 6, 300] _ (by intro x hx; simp at hx; rcases hx with rfl | rfl | rfl <;> omega) R0.out (by simp)).mono ?_
  rintro e w1 ⟨v, rfl, ho, hb1⟩
  rw [HK.out] at ho ⊢
  obtain ⟨A1, c1, rfl, _, _, hr1⟩ := ho.form
  have hb1' := below_then hb0 hb1
  have R1 := Lib.hid (hr1.below ((Below.refl w1.heap.size w1).alloc (Nat.le_refl _) (.cells #[.int .u8 0, .int .u8 3, .int .u8 5, .int .u8 0, .int .u8 165, .int .u8 2] 5)))
  have R2 := Lib.hid (show Rd .u8 (w1.alloc (.cells #[.int .u8 0, .int .u8 3, .int .u8 5, .int .u8 0, .int .u8 165, .int .u8 2] 5)) (some ⟨w1.heap.size, 0, none⟩) [0, 3, 5, 0, 165, 2] by
    obtain ⟨A, c, e, _, _, h⟩ := (Own.made (k := .u8) (e := 5) (w := w1) (base := w1.heap.size) (Nat.le_refl _) [0, 3, 5, 0, 165, 2] (by simp [maxLen])).form
    cases e
    exact h)
  clear hr1 ho hb1
  have hsz := hb1'.size
  go_wp2_with fail
  refine (sameBytes_b _ _ _ _ _ _ [0, 3, 5, 0, 165, 2] [0, 3, 5, 0, 165, 2] _ rfl rfl R1.out R2.out (by simp) (by simp)).mono ?_
  rintro e w2 ⟨sb, rfl, HS, q, rfl⟩
  obtain rfl : sb = true := by rw [HS.out]; decide
  go_wp2
  go_ret
  exact ⟨rfl, below_drewN (hb1'.alloc hsz _) q⟩
end Go.Proofs.Ytnlflpcioiieaaa
