/-
  hash.Table: next, home, find, walked: what it finds is a place of the key, or a free one.
-/
import Derived.Test.YtmpjjehihimadaaGreatHash1
namespace Go.Proofs.YtmpjjehihimadaaGreat
set_option linter.unusedVariables false
set_option linter.unusedSimpArgs false
open Go.RowKit

theorem sz_next {s j : Nat} (h : Sz s j) (i : Nat) (hi : i < s) : bits .and .i64 ((i : Int) + 1) ((s : Int) - 1) = (((i + 1) % s : Nat) : Int) := by
  obtain ⟨rfl, h3, h12⟩ := h
  have hp : 2 ^ j ≤ 2 ^ 12 := Nat.pow_le_pow_right (by decide) h12
  have key := bits_mask .i64 63 (by decide) (fun n h0 h1 => by rw [IntKind.wrap_i64]; omega) j (by omega) ((i : Int) + 1) (by omega) (by omega)
  have e1 : (((2 ^ j : Nat) : Int) - 1) = (2 : Int) ^ j - 1 := by simp
  rw [e1, key]
  have e2 : ((2 : Int) ^ j) = ((2 ^ j : Nat) : Int) := by simp
  rw [e2, Int.natCast_emod, Int.natCast_add]
  rfl
theorem sz_pos {s j : Nat} (h : Sz s j) : 8 ≤ s ∧ s ≤ 4096 := by
  obtain ⟨rfl, h3, h12⟩ := h
  exact ⟨Nat.pow_le_pow_right (n := 2) (by decide) h3, Nat.pow_le_pow_right (n := 2) (by decide) h12⟩
set_option maxRecDepth 100000 in
theorem hNext (t g s j i : Nat) (w : World) (q1 : w.cell? ⟨t, 1, none⟩ = some (.slice (some ⟨g, 0, none⟩) s s)) (h : Sz s j) (hi : i < s) : Calls Tryz.prog 160 #[.pointer (some ⟨t, 0, none⟩), .int .i64 (i : Nat)] w fun e w' => e = .returned (.int .i64 ((i + 1) % s : Nat)) ∧ w' = w := by
  have hb := sz_next h i hi
  have hs := sz_pos h
  clear h
  generalize (i + 1) % s = r at *
  go_enter Tryz.func160, Tryz.ntmps160
  go_wp2
  go_ret
  exact ⟨rfl, rfl⟩
theorem u64_wrap (y : Int) : 0 ≤ IntKind.u64.wrap y ∧ IntKind.u64.wrap y < 18446744073709551616 := by
  rw [show IntKind.u64.wrap y = y % 18446744073709551616 from rfl]
  omega
theorem home_lt {x : Int} {s j : Nat} (h : Sz s j) (h0 : 0 ≤ x) (h1 : x < 18446744073709551616) : 0 ≤ x / 2 ^ (64 - j) ∧ x / 2 ^ (64 - j) < (s : Int) := by
  obtain ⟨rfl, h3, h12⟩ := h
  have hp : (0 : Int) < 2 ^ (64 - j) := Int.pow_pos (by decide)
  refine ⟨Int.ediv_nonneg h0 (Int.le_of_lt hp), Int.ediv_lt_of_lt_mul hp ?_⟩
  have e : (((2 ^ j : Nat) : Int)) * 2 ^ (64 - j) = 18446744073709551616 := by
    rw [show (((2 ^ j : Nat) : Int)) = (2 : Int) ^ j by simp, ← Int.pow_add, show j + (64 - j) = 64 by omega]
    rfl
  rw [e]
  exact h1
/-- the place where a key stands, if nothing is in its way -/
def homeF (seed lv pf : Int) (j : Nat) : Int := IntKind.u64.wrap (bits .xor .u64 (IntKind.u64.wrap (IntKind.u64.wrap (pf * oddF seed 0) + IntKind.u64.wrap (IntKind.u64.wrap lv * oddF seed 23))) (IntKind.u64.wrap (IntKind.u64.wrap (pf * oddF seed 0) + IntKind.u64.wrap (IntKind.u64.wrap lv * oddF seed 23)) / 536870912) * oddF seed 41) / 2 ^ (64 - j)
set_option maxRecDepth 100000 in
theorem hHome (t g s j : Nat) (seed lv pf : Int) (w : World) (q1 : w.cell? ⟨t, 1, none⟩ = some (.slice (some ⟨g, 0, none⟩) s s)) (q2 : w.cell? ⟨t, 2, none⟩ = some (.int .u64 seed)) (h : Sz s j) (ht : t < w.heap.size) : Calls Tryz.prog 162 #[.pointer (some ⟨t, 0, none⟩), .agg #[.int .u8 lv, .int .u64 pf]] w fun e w' => ∃ i : Nat, e = .returned (.int .i64 (i : Nat)) ∧ i < s ∧ Hid (homeF seed lv pf j = (i : Int)) ∧ Below w.heap.size w w' := by
  have HS := Lib.hid h
  have hs := sz_pos h
  have HB := Lib.hid ((Below.refl w.heap.size w).alloc (Nat.le_refl _) (.cells #[.int .u8 lv, .int .u64 pf] 218))
  have q1' : (w.alloc (.cells #[.int .u8 lv, .int .u64 pf] 218)).cell? ⟨t, 1, none⟩ = some (.slice (some ⟨g, 0, none⟩) s s) := by rw [World.cell?_alloc_some _ _ _ (by rw [q1]; rfl)]; exact q1
  have q2' : (w.alloc (.cells #[.int .u8 lv, .int .u64 pf] 218)).cell? ⟨t, 2, none⟩ = some (.int .u64 seed) := by rw [World.cell?_alloc_some _ _ _ (by rw [q2]; rfl)]; exact q2
  clear h
  go_enter Tryz.func162, Tryz.ntmps162
  have k0 := blk_cell (blk_new w #[.int .u8 lv, .int .u64 pf] 218) 0 rfl
  have k1 := blk_cell (blk_new w #[.int .u8 lv, .int .u64 pf] 218) 1 rfl
  go_wp2
  generalize w.alloc (.cells #[.int .u8 lv, .int .u64 pf] 218) = w0 at *
  go_quiet (first | (go_at_call 165; refine Calls.quiet_of_same (hOdd t seed _ _ q2' (by decide))))
  have q1'' : (w0.drewN nq).cell? ⟨t, 1, none⟩ = some (.slice (some ⟨g, 0, none⟩) s s) := q1'
  have q2'' : (w0.drewN nq).cell? ⟨t, 2, none⟩ = some (.int .u64 seed) := q2'
  have HBN := Lib.hid (below_drewN HB.out nq)
  generalize w0.drewN nq = w1 at *
  go_wp2_with fail
  refine (hOdd t seed _ _ q2'' (by decide)).mono ?_
  rintro e w2 ⟨rfl, rfl⟩
  go_wp2_with fail
  generalize hx : IntKind.u64.wrap (bits .xor .u64 (IntKind.u64.wrap (IntKind.u64.wrap (pf * oddF seed 0) + IntKind.u64.wrap (IntKind.u64.wrap lv * oddF seed 23))) (IntKind.u64.wrap (IntKind.u64.wrap (pf * oddF seed 0) + IntKind.u64.wrap (IntKind.u64.wrap lv * oddF seed 23)) / 536870912) * oddF seed 41) = x
  have hx0 : 0 ≤ x ∧ x < 18446744073709551616 := by rw [← hx]; exact u64_wrap _
  have HH := Lib.hid (home_lt HS.out hx0.1 hx0.2)
  have HX := Lib.hid (show homeF seed lv pf j = x / 2 ^ (64 - j) from by rw [← hx]; rfl)
  clear hx
  refine (hLen s j _ HS.out).mono ?_
  rintro e w3 ⟨rfl, rfl⟩
  obtain ⟨hs1, hj3, hj12⟩ := HS.out
  rcases (show j = 3 ∨ j = 4 ∨ j = 5 ∨ j = 6 ∨ j = 7 ∨ j = 8 ∨ j = 9 ∨ j = 10 ∨ j = 11 ∨ j = 12 by omega) with rfl | rfl | rfl | rfl | rfl | rfl | rfl | rfl | rfl | rfl
  all_goals
    obtain ⟨hh0, hh1⟩ := HH.out
    obtain ⟨i, hi⟩ := Int.eq_ofNat_of_zero_le hh0
    have HX2 := Lib.hid (HX.out.trans hi)
    simp only [Nat.reduceSub, Int.reducePow] at hi hh1
    rw [hi] at hh1
    clear hs1 HH hh0
    go_wp2
    go_ret
    exact ⟨i, rfl, by omega, HX2.out, HBN.out⟩
end Go.Proofs.YtmpjjehihimadaaGreat
