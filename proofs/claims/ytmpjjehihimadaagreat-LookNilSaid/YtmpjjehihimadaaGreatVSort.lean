/-
  slices.Sort and Compact of a rising list of few numbers of 64 bits: they leave it as it is.
-/
import Derived.Test.YtmpjjehihimadaaGreatBuk1
import Derived.Lib.Tables
import Derived.Lib.BitFns
namespace Go.Proofs.YtmpjjehihimadaaGreat
set_option linter.unusedVariables false
set_option linter.unusedSimpArgs false
open Go.RowKit
attribute [local go_sem ↓] Go.wp_at_zero Go.wp_at_succ

def RiseV (l : List Int) : Prop := ∀ i, i + 1 < l.length → l.getD i 0 < l.getD (i + 1) 0
theorem isNaN64 (x : Int) (w : World) : Calls Tryz.prog 80 #[.int .u64 x] w fun e w' => e = .returned (.bool false) ∧ w' = w := by
  go_enter Tryz.func80, Tryz.ntmps80
  go_wp2
  go_ret
  exact ⟨rfl, rfl⟩
theorem less64 (x y : Int) (w : World) : Calls Tryz.prog 69 #[.int .u64 x, .int .u64 y] w fun e w' => e = .returned (.bool (decide (x < y))) ∧ w' = w := by
  go_enter Tryz.func69, Tryz.ntmps69
  go_wp2_with fail
  refine (isNaN64 x _).mono ?_
  rintro e w1 ⟨rfl, rfl⟩
  go_wp2
  go_ret
  exact ⟨rfl, rfl⟩
theorem riseV_lt {l : List Int} (hR : RiseV l) : ∀ i j, i < j → j < l.length → l.getD i 0 < l.getD j 0 := by
  intro i j hij hj
  induction j with
  | zero => omega
  | succ j ih =>
    have h1 := hR j hj
    rcases Nat.lt_or_ge i j with h | h
    · have := ih h (by omega); omega
    · obtain rfl : i = j := by omega
      exact h1
set_option maxRecDepth 100000 in
set_option maxHeartbeats 2000000 in
theorem insertion64 (A : Option Addr) (c : Nat) (l : List Int) (w : World) (hr : Rd .u64 w A l) (hR : RiseV l) (hn : l.length ≤ 1000000) :
    Calls Tryz.prog 63 #[.slice A l.length c, .int .i64 0, .int .i64 l.length] w fun e w' => e = .returned (.tuple #[]) ∧ Below w.heap.size w w' := by
  have HR := Lib.hid hr
  have HI := Lib.hid hR
  have hn2 : (l.length : Int) ≤ 1000000 := by omega
  clear hr hR
  go_enter Tryz.func63, Tryz.ntmps63
  go_wp2
  go_loopw [6, 7] (fun v6 _ wk => ∃ m i : Nat, m ≤ l.length ∧ i = m + 1 ∧ v6 = .int .i64 (i : Int) ∧ Hid (Below w.heap.size w wk)) (fun v6 _ _ => l.length + 1 - (intOf v6).toNat)
  case atStart => exact ⟨0, 1, by omega, rfl, rfl, Below.refl _ _⟩
  case round =>
    obtain ⟨m, i, hm, hi, rfl, HB⟩ := hrel
    by_cases hlt : m + 1 < l.length
    · obtain ⟨ad, rfl, _, c1⟩ := (HR.out.below HB.out) m (by omega)
      obtain ⟨ad2, e2, _, c2⟩ := (HR.out.below HB.out) (m + 1) hlt
      injection e2 with e2
      subst e2
      have hxy := riseV_lt HI.out m (m + 1) (by omega) hlt
      generalize l.getD m 0 = x at *
      generalize l.getD (m + 1) 0 = y at *
      have hd : decide (y < x) = false := by simp; omega
      have hm1 : (i : Int) < l.length := by omega
      have hm2 : (m : Int) < l.length := by omega
      have hm3 : (i : Int) - 1 = m := by omega
      have hm4 : (0 : Int) < i := by omega
      have hm5 : 0 < i := by omega
      rw [← hi] at c2
      have HII := Lib.hid hi
      clear hxy hi
      go_wp2
      go_loopw [7] (fun v7 wi => v7 = .int .i64 (i : Int) ∧ wi = wr) (fun _ _ => 0)
      case atStart => exact ⟨rfl, rfl⟩
      case round =>
        obtain ⟨rfl, rfl⟩ := hrel
        go_wp2
        go_quiet (first | (go_at_call 69; refine Calls.quiet_of_same (less64 y x _)))
        rw [hd]
        go_wp2
        go_roundw
        case rel => exact ⟨m + 1, i + 1, by omega, by have := HII.out; omega, by go_num, below_drewN HB.out _⟩
        case measure => have := HII.out; simp [intOf]; omega
    · have hm1 : (l.length : Int) ≤ i := by omega
      clear hi
      go_wp2
      go_end0
      exact ⟨rfl, HB.out⟩
theorem len8_fin : ∀ n : Fin 256, (1 ≤ n.val → 1 ≤ Lib.len8 (n.val : Int)) ∧ 0 ≤ Lib.len8 (n.val : Int) ∧ Lib.len8 (n.val : Int) ≤ 8 := by decide +kernel
theorem len8_bd (k : Nat) (h : k < Lib.len8tab.size)   : (1 ≤ k → 1 ≤ ((Lib.len8tab[k]).toNat : Int)) ∧ 0 ≤ ((Lib.len8tab[k]).toNat : Int) ∧ ((Lib.len8tab[k]).toNat : Int) ≤ 8 := by
  have h2 : k < 256 := by rw [Lib.len8tab_size] at h; exact h
  have := len8_fin ⟨k, h2⟩
  simp only [Lib.len8, Int.toNat_natCast, ByteArray.getElem?_lt' _ _ h, Option.getD_some] at this
  exact this
set_option maxRecDepth 100000 in
set_option maxHeartbeats 2000000 in
theorem vLen64 (n : Int) (w : World) (h1 : 0 ≤ n) (h2 : n ≤ 1000000) : Calls Tryz.prog 73 #[.int .u64 n] w fun e w' => ∃ v : Int, e = .returned (.int .i64 v) ∧ (1 ≤ n → 1 ≤ v) ∧ v ≤ 64 ∧ w' = w := by
  go_enter Tryz.func73, Tryz.ntmps73
  go_wp2
  all_goals try (rename_i h; exact absurd ⟨by omega, by rw [Lib.len8tab_size]; omega⟩ h)
  · rename_i h
    have hlt : (n / 65536).toNat < Lib.len8tab.size := by first | (have := h.2; omega) | omega
    have hb := len8_bd (n / 65536).toNat hlt
    go_ret
    refine ⟨_, rfl, ?_, ?_, rfl⟩ <;> (simp only [wrap64]; omega)
  · rename_i h
    have hlt : (n / 256).toNat < Lib.len8tab.size := by first | (have := h.2; omega) | omega
    have hb := len8_bd (n / 256).toNat hlt
    go_ret
    refine ⟨_, rfl, ?_, ?_, rfl⟩ <;> (simp only [wrap64]; omega)
  · rename_i h
    have hlt : (n).toNat < Lib.len8tab.size := by first | (have := h.2; omega) | omega
    have hb := len8_bd (n).toNat hlt
    go_ret
    refine ⟨_, rfl, ?_, ?_, rfl⟩ <;> (simp only [wrap64]; omega)
theorem vBitsLen (n : Int) (w : World) (h1 : 0 ≤ n) (h2 : n ≤ 1000000) : Calls Tryz.prog 54 #[.int .u64 n] w fun e w' => ∃ v : Int, e = .returned (.int .i64 v) ∧ (1 ≤ n → 1 ≤ v) ∧ v ≤ 64 ∧ w' = w := by
  go_enter Tryz.func54, Tryz.ntmps54
  go_wp2_with fail
  refine (vLen64 n _ h1 h2).mono ?_
  rintro e w1 ⟨v, rfl, hv1, hv2, rfl⟩
  go_wp2
  go_ret
  exact ⟨v, rfl, hv1, hv2, rfl⟩
set_option maxRecDepth 100000 in
set_option maxHeartbeats 2000000 in
theorem pdq64 (A : Option Addr) (c : Nat) (l : List Int) (lim : Int) (w : World) (hr : Rd .u64 w A l) (hR : RiseV l) (hn : l.length ≤ 12) :
    Calls Tryz.prog 53 #[.slice A l.length c, .int .i64 0, .int .i64 l.length, .int .i64 lim] w fun e w' => e = .returned (.tuple #[]) ∧ Below w.heap.size w w' := by
  have HR := Lib.hid hr
  have HI := Lib.hid hR
  have hn2 : (l.length : Int) ≤ 1000000 := by omega
  clear hr hR
  go_enter Tryz.func53, Tryz.ntmps53
  go_wp2
  go_loopw [1, 2, 3, 8, 9] (fun v1 v2 v3 v8 v9 wr => v1 = .int .i64 0 ∧ v2 = .int .i64 l.length ∧ v3 = .int .i64 lim ∧ v8 = .bool true ∧ v9 = .bool true ∧ wr = w) (fun _ _ _ _ _ _ => 0)
  case atStart => exact ⟨rfl, rfl, rfl, rfl, rfl, rfl⟩
  case round =>
    obtain ⟨rfl, rfl, rfl, rfl, rfl, rfl⟩ := hrel
    have h12' : (l.length : Int) ≤ 12 := by omega
    go_wp2_with fail
    refine (insertion64 A c l _ HR.out HI.out (by omega)).mono ?_
    rintro e w1 ⟨rfl, hb1⟩
    have HB1 := Lib.hid hb1
    clear hb1
    go_wp2
    refine bodyPost_ret (results_none rfl _ _ _) rfl ?_
    exact ⟨rfl, HB1.out⟩
set_option maxRecDepth 100000 in
set_option maxHeartbeats 2000000 in
theorem sort64 (A : Option Addr) (c : Nat) (l : List Int) (w : World) (hr : Rd .u64 w A l) (hR : RiseV l) (hn : l.length ≤ 12) :
    Calls Tryz.prog 38 #[.slice A l.length c] w fun e w' => e = .returned (.tuple #[]) ∧ Below w.heap.size w w' := by
  have HR := Lib.hid hr
  have HI := Lib.hid hR
  have hn2 : (l.length : Int) ≤ 1000000 := by omega
  have hn3 : (0 : Int) ≤ l.length := by omega
  clear hr hR
  go_enter Tryz.func38, Tryz.ntmps38
  go_wp2_with fail
  refine (vBitsLen _ _ hn3 hn2).mono ?_
  rintro e w1 ⟨v, rfl, hv1, hv2, rfl⟩
  go_wp2_with fail
  refine (pdq64 A c l v _ HR.out HI.out hn).mono ?_
  rintro e w2 ⟨rfl, hb⟩
  go_wp2
  go_end0
  exact ⟨rfl, hb⟩
set_option maxRecDepth 100000 in
set_option maxHeartbeats 2000000 in
theorem compact64 (A : Option Addr) (c : Nat) (l : List Int) (w : World) (hr : Rd .u64 w A l) (hR : RiseV l) (hn : l.length ≤ 1000000) :
    Calls Tryz.prog 40 #[.slice A l.length c] w fun e w' => e = .returned (.slice A l.length c) ∧ Below w.heap.size w w' := by
  have HR := Lib.hid hr
  have HI := Lib.hid hR
  have hn2 : (l.length : Int) ≤ 1000000 := by omega
  clear hr hR
  go_enter Tryz.func40, Tryz.ntmps40
  by_cases h2 : (l.length : Int) < 2
  · go_wp2
    go_ret
    exact ⟨rfl, Below.refl _ _⟩
  · have h2' : (2 : Int) ≤ l.length := by omega
    go_wp2
    go_loopw [3] (fun v3 wk => ∃ m i : Nat, m + 1 ≤ l.length ∧ i = m + 1 ∧ v3 = .int .i64 (i : Int) ∧ Hid (Below w.heap.size w wk)) (fun v3 _ => l.length - (intOf v3).toNat)
    case atStart => exact ⟨0, 1, by omega, rfl, rfl, Below.refl _ _⟩
    case round =>
      obtain ⟨m, i, hm, hi, rfl, HB⟩ := hrel
      by_cases hlt : m + 1 < l.length
      · obtain ⟨ad, rfl, _, c1⟩ := (HR.out.below HB.out) m (by omega)
        obtain ⟨ad2, e2, _, c2⟩ := (HR.out.below HB.out) (m + 1) hlt
        injection e2 with e2
        subst e2
        have hxy := riseV_lt HI.out m (m + 1) (by omega) hlt
        generalize l.getD m 0 = x at *
        generalize l.getD (m + 1) 0 = y at *
        have hd : (y == x) = false := by rw [beq_eq_false_iff_ne]; omega
        have hm1 : (i : Int) < l.length := by omega
        have hm2 : (m : Int) < l.length := by omega
        have hm3 : (i : Int) - 1 = m := by omega
        rw [← hi] at c2
        have HII := Lib.hid hi
        clear hxy hi
        go_wp2
        go_quiet (fail)
        go_wp2
        go_roundw
        case rel => exact ⟨m + 1, i + 1, by omega, by have := HII.out; omega, by go_num, below_drewN HB.out _⟩
        case measure => have := HII.out; simp [intOf]; omega
      · obtain rfl : i = l.length := by omega
        clear hi hlt hm
        go_wp2
        go_ret
        exact ⟨rfl, HB.out⟩
end Go.Proofs.YtmpjjehihimadaaGreat
