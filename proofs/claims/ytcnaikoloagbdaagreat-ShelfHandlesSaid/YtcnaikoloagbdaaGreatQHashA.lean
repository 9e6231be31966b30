/-
  hash.Table: its small helpers, walked: odd, home, next.
  hash.Table: next, home, find, walked: what it finds is a place of the key, or a free one.
  hash.Table.find, walked.
  hash.Table: New, Get, Len, walked.
-/
import Derived.Test.YtcnaikoloagbdaaGreatQRowM
import Derived.Lib.BitFns
import Derived.Lib.Tables
namespace Go.Proofs.YtcnaikoloagbdaaGreat
set_option linter.unusedVariables false
set_option linter.unusedSimpArgs false
open Go.RowKit

def rotF (x : Int) (k : Int) : Int := if k = 0 then bits .or .u64 (IntKind.u64.wrap x) (x / 18446744073709551616) else if k = 23 then bits .or .u64 (IntKind.u64.wrap (x * 8388608)) (x / 2199023255552) else bits .or .u64 (IntKind.u64.wrap (x * 2199023255552)) (x / 8388608)
set_option maxRecDepth 100000 in
theorem hRot (x : Int) (k : Int) (w : World) (hk : k = 0 ∨ k = 23 ∨ k = 41) : Calls Tryz.prog 187 #[.int .u64 x, .int .i64 k] w fun e w' => e = .returned (.int .u64 (rotF x k)) ∧ w' = w := by
  have b0 : bits .and .u64 0 63 = 0 := by decide +kernel
  have b1 : bits .and .u64 23 63 = 23 := by decide +kernel
  have b2 : bits .and .u64 41 63 = 41 := by decide +kernel
  rcases hk with rfl | rfl | rfl
  all_goals
    go_enter Tryz.func187, Tryz.ntmps187
    go_wp2
    go_ret
    exact ⟨rfl, rfl⟩
def oddF (seed k : Int) : Int := bits .or .u64 (rotF (IntKind.u64.wrap (IntKind.u64.wrap (seed * 11400714819323198485) + 15111065706836454659)) k) 1
set_option maxRecDepth 100000 in
theorem hOdd (t : Nat) (seed k : Int) (w : World) (q2 : w.cell? ⟨t, 2, none⟩ = some (.int .u64 seed)) (hk : k = 0 ∨ k = 23 ∨ k = 41) : Calls Tryz.prog 180 #[.pointer (some ⟨t, 0, none⟩), .int .i64 k] w fun e w' => e = .returned (.int .u64 (oddF seed k)) ∧ w' = w := by
  have HK := Lib.hid hk
  clear hk
  go_enter Tryz.func180, Tryz.ntmps180
  go_wp2_with fail
  refine (hRot _ _ _ HK.out).mono ?_
  rintro e w1 ⟨rfl, rfl⟩
  go_wp2
  go_ret
  exact ⟨rfl, rfl⟩
set_option maxRecDepth 100000 in
theorem hLen_7 (w : World) : Calls Tryz.prog 158 #[.int .u64 7] w fun e w' => e = .returned (.int .i64 3) ∧ w' = w := by
  have h8 : Lib.len8 7 = 3 := by decide +kernel
  have key : Calls Tryz.prog 178 #[.int .u64 7] w fun e w' => e = .returned (.int .i64 3) ∧ w' = w := by
    go_enter Tryz.func178, Tryz.ntmps178
    go_wp2
    go_ret
    exact ⟨rfl, rfl⟩
  go_enter Tryz.func158, Tryz.ntmps158
  go_wp2_with fail
  refine key.mono ?_
  rintro e w1 ⟨rfl, rfl⟩
  go_wp2
  go_ret
  exact ⟨rfl, rfl⟩
set_option maxRecDepth 100000 in
theorem hLen_15 (w : World) : Calls Tryz.prog 158 #[.int .u64 15] w fun e w' => e = .returned (.int .i64 4) ∧ w' = w := by
  have h8 : Lib.len8 15 = 4 := by decide +kernel
  have key : Calls Tryz.prog 178 #[.int .u64 15] w fun e w' => e = .returned (.int .i64 4) ∧ w' = w := by
    go_enter Tryz.func178, Tryz.ntmps178
    go_wp2
    go_ret
    exact ⟨rfl, rfl⟩
  go_enter Tryz.func158, Tryz.ntmps158
  go_wp2_with fail
  refine key.mono ?_
  rintro e w1 ⟨rfl, rfl⟩
  go_wp2
  go_ret
  exact ⟨rfl, rfl⟩
set_option maxRecDepth 100000 in
theorem hLen_31 (w : World) : Calls Tryz.prog 158 #[.int .u64 31] w fun e w' => e = .returned (.int .i64 5) ∧ w' = w := by
  have h8 : Lib.len8 31 = 5 := by decide +kernel
  have key : Calls Tryz.prog 178 #[.int .u64 31] w fun e w' => e = .returned (.int .i64 5) ∧ w' = w := by
    go_enter Tryz.func178, Tryz.ntmps178
    go_wp2
    go_ret
    exact ⟨rfl, rfl⟩
  go_enter Tryz.func158, Tryz.ntmps158
  go_wp2_with fail
  refine key.mono ?_
  rintro e w1 ⟨rfl, rfl⟩
  go_wp2
  go_ret
  exact ⟨rfl, rfl⟩
set_option maxRecDepth 100000 in
theorem hLen_63 (w : World) : Calls Tryz.prog 158 #[.int .u64 63] w fun e w' => e = .returned (.int .i64 6) ∧ w' = w := by
  have h8 : Lib.len8 63 = 6 := by decide +kernel
  have key : Calls Tryz.prog 178 #[.int .u64 63] w fun e w' => e = .returned (.int .i64 6) ∧ w' = w := by
    go_enter Tryz.func178, Tryz.ntmps178
    go_wp2
    go_ret
    exact ⟨rfl, rfl⟩
  go_enter Tryz.func158, Tryz.ntmps158
  go_wp2_with fail
  refine key.mono ?_
  rintro e w1 ⟨rfl, rfl⟩
  go_wp2
  go_ret
  exact ⟨rfl, rfl⟩
set_option maxRecDepth 100000 in
theorem hLen_127 (w : World) : Calls Tryz.prog 158 #[.int .u64 127] w fun e w' => e = .returned (.int .i64 7) ∧ w' = w := by
  have h8 : Lib.len8 127 = 7 := by decide +kernel
  have key : Calls Tryz.prog 178 #[.int .u64 127] w fun e w' => e = .returned (.int .i64 7) ∧ w' = w := by
    go_enter Tryz.func178, Tryz.ntmps178
    go_wp2
    go_ret
    exact ⟨rfl, rfl⟩
  go_enter Tryz.func158, Tryz.ntmps158
  go_wp2_with fail
  refine key.mono ?_
  rintro e w1 ⟨rfl, rfl⟩
  go_wp2
  go_ret
  exact ⟨rfl, rfl⟩
set_option maxRecDepth 100000 in
theorem hLen_255 (w : World) : Calls Tryz.prog 158 #[.int .u64 255] w fun e w' => e = .returned (.int .i64 8) ∧ w' = w := by
  have h8 : Lib.len8 255 = 8 := by decide +kernel
  have key : Calls Tryz.prog 178 #[.int .u64 255] w fun e w' => e = .returned (.int .i64 8) ∧ w' = w := by
    go_enter Tryz.func178, Tryz.ntmps178
    go_wp2
    go_ret
    exact ⟨rfl, rfl⟩
  go_enter Tryz.func158, Tryz.ntmps158
  go_wp2_with fail
  refine key.mono ?_
  rintro e w1 ⟨rfl, rfl⟩
  go_wp2
  go_ret
  exact ⟨rfl, rfl⟩
set_option maxRecDepth 100000 in
theorem hLen_511 (w : World) : Calls Tryz.prog 158 #[.int .u64 511] w fun e w' => e = .returned (.int .i64 9) ∧ w' = w := by
  have h8 : Lib.len8 1 = 1 := by decide +kernel
  have key : Calls Tryz.prog 178 #[.int .u64 511] w fun e w' => e = .returned (.int .i64 9) ∧ w' = w := by
    go_enter Tryz.func178, Tryz.ntmps178
    go_wp2
    go_ret
    exact ⟨rfl, rfl⟩
  go_enter Tryz.func158, Tryz.ntmps158
  go_wp2_with fail
  refine key.mono ?_
  rintro e w1 ⟨rfl, rfl⟩
  go_wp2
  go_ret
  exact ⟨rfl, rfl⟩
set_option maxRecDepth 100000 in
theorem hLen_1023 (w : World) : Calls Tryz.prog 158 #[.int .u64 1023] w fun e w' => e = .returned (.int .i64 10) ∧ w' = w := by
  have h8 : Lib.len8 3 = 2 := by decide +kernel
  have key : Calls Tryz.prog 178 #[.int .u64 1023] w fun e w' => e = .returned (.int .i64 10) ∧ w' = w := by
    go_enter Tryz.func178, Tryz.ntmps178
    go_wp2
    go_ret
    exact ⟨rfl, rfl⟩
  go_enter Tryz.func158, Tryz.ntmps158
  go_wp2_with fail
  refine key.mono ?_
  rintro e w1 ⟨rfl, rfl⟩
  go_wp2
  go_ret
  exact ⟨rfl, rfl⟩
set_option maxRecDepth 100000 in
theorem hLen_2047 (w : World) : Calls Tryz.prog 158 #[.int .u64 2047] w fun e w' => e = .returned (.int .i64 11) ∧ w' = w := by
  have h8 : Lib.len8 7 = 3 := by decide +kernel
  have key : Calls Tryz.prog 178 #[.int .u64 2047] w fun e w' => e = .returned (.int .i64 11) ∧ w' = w := by
    go_enter Tryz.func178, Tryz.ntmps178
    go_wp2
    go_ret
    exact ⟨rfl, rfl⟩
  go_enter Tryz.func158, Tryz.ntmps158
  go_wp2_with fail
  refine key.mono ?_
  rintro e w1 ⟨rfl, rfl⟩
  go_wp2
  go_ret
  exact ⟨rfl, rfl⟩
set_option maxRecDepth 100000 in
theorem hLen_4095 (w : World) : Calls Tryz.prog 158 #[.int .u64 4095] w fun e w' => e = .returned (.int .i64 12) ∧ w' = w := by
  have h8 : Lib.len8 15 = 4 := by decide +kernel
  have key : Calls Tryz.prog 178 #[.int .u64 4095] w fun e w' => e = .returned (.int .i64 12) ∧ w' = w := by
    go_enter Tryz.func178, Tryz.ntmps178
    go_wp2
    go_ret
    exact ⟨rfl, rfl⟩
  go_enter Tryz.func158, Tryz.ntmps158
  go_wp2_with fail
  refine key.mono ?_
  rintro e w1 ⟨rfl, rfl⟩
  go_wp2
  go_ret
  exact ⟨rfl, rfl⟩
/-- a table's size: so many places -/
def Sz (s j : Nat) : Prop := s = 2 ^ j ∧ 3 ≤ j ∧ j ≤ 12
theorem hLen (s j : Nat) (w : World) (h : Sz s j) : Calls Tryz.prog 158 #[.int .u64 ((s : Int) - 1)] w fun e w' => e = .returned (.int .i64 (j : Nat)) ∧ w' = w := by
  obtain ⟨rfl, h3, h12⟩ := h
  rcases (show j = 3 ∨ j = 4 ∨ j = 5 ∨ j = 6 ∨ j = 7 ∨ j = 8 ∨ j = 9 ∨ j = 10 ∨ j = 11 ∨ j = 12 by omega) with rfl | rfl | rfl | rfl | rfl | rfl | rfl | rfl | rfl | rfl
  · exact hLen_7 w
  · exact hLen_15 w
  · exact hLen_31 w
  · exact hLen_63 w
  · exact hLen_127 w
  · exact hLen_255 w
  · exact hLen_511 w
  · exact hLen_1023 w
  · exact hLen_2047 w
  · exact hLen_4095 w
end Go.Proofs.YtcnaikoloagbdaaGreat
namespace Go.Proofs.YtcnaikoloagbdaaGreat
set_option linter.unusedVariables false
set_option linter.unusedSimpArgs false
open Go.RowKit

theorem sz_next {s j : Nat} (h : Sz s j) (i : Nat) (hi : i < s) : bits .and .i64 ((i : Int) + 1) ((s : Int) - 1) = (((i + 1) % s : Nat) : Int) := by
  obtain ⟨rfl, h3, h12⟩ := h
  have hp : 2 ^ j ≤ 2 ^ 12 := Nat.pow_le_pow_right (by decide) h12
  have key := bits_mask .i64 63 (by decide) (fun n h0 h1 => by rw [IntKind.wrap_i64]; omega) j (by omega) ((i : Int) + 1) (by omega) (by omega)
  have e1 : (((2 ^ j : Nat) : Int) - 1) = (2 : Int) ^ j - 1 := by simp
  rw [e1, key]
  have e2 : ((2 : Int) ^ j) = ((2 ^ j : Nat) : Int) := by simp
  rw [e2, Int.natCast_emod, Int.natCast_add]
  rfl
theorem sz_pos {s j : Nat} (h : Sz s j) : 8 ≤ s ∧ s ≤ 4096 := by
  obtain ⟨rfl, h3, h12⟩ := h
  exact ⟨Nat.pow_le_pow_right (n := 2) (by decide) h3, Nat.pow_le_pow_right (n := 2) (by decide) h12⟩
set_option maxRecDepth 100000 in
theorem hNext (t g s j i : Nat) (w : World) (q1 : w.cell? ⟨t, 1, none⟩ = some (.slice (some ⟨g, 0, none⟩) s s)) (h : Sz s j) (hi : i < s) : Calls Tryz.prog 167 #[.pointer (some ⟨t, 0, none⟩), .int .i64 (i : Nat)] w fun e w' => e = .returned (.int .i64 ((i + 1) % s : Nat)) ∧ w' = w := by
  have hb := sz_next h i hi
  have hs := sz_pos h
  clear h
  generalize (i + 1) % s = r at *
  go_enter Tryz.func167, Tryz.ntmps167
  go_wp2
  go_ret
  exact ⟨rfl, rfl⟩
theorem u64_wrap (y : Int) : 0 ≤ IntKind.u64.wrap y ∧ IntKind.u64.wrap y < 18446744073709551616 := by
  rw [show IntKind.u64.wrap y = y % 18446744073709551616 from rfl]
  omega
theorem home_lt {x : Int} {s j : Nat} (h : Sz s j) (h0 : 0 ≤ x) (h1 : x < 18446744073709551616) : 0 ≤ x / 2 ^ (64 - j) ∧ x / 2 ^ (64 - j) < (s : Int) := by
  obtain ⟨rfl, h3, h12⟩ := h
  have hp : (0 : Int) < 2 ^ (64 - j) := Int.pow_pos (by decide)
  refine ⟨Int.ediv_nonneg h0 (Int.le_of_lt hp), Int.ediv_lt_of_lt_mul hp ?_⟩
  have e : (((2 ^ j : Nat) : Int)) * 2 ^ (64 - j) = 18446744073709551616 := by
    rw [show (((2 ^ j : Nat) : Int)) = (2 : Int) ^ j by simp, ← Int.pow_add, show j + (64 - j) = 64 by omega]
    rfl
  rw [e]
  exact h1
/-- the place where a key stands, if nothing is in its way -/
def homeF (seed lv pf : Int) (j : Nat) : Int := IntKind.u64.wrap (bits .xor .u64 (IntKind.u64.wrap (IntKind.u64.wrap (pf * oddF seed 0) + IntKind.u64.wrap (IntKind.u64.wrap lv * oddF seed 23))) (IntKind.u64.wrap (IntKind.u64.wrap (pf * oddF seed 0) + IntKind.u64.wrap (IntKind.u64.wrap lv * oddF seed 23)) / 536870912) * oddF seed 41) / 2 ^ (64 - j)
set_option maxRecDepth 100000 in
theorem hHome (t g s j : Nat) (seed lv pf : Int) (w : World) (q1 : w.cell? ⟨t, 1, none⟩ = some (.slice (some ⟨g, 0, none⟩) s s)) (q2 : w.cell? ⟨t, 2, none⟩ = some (.int .u64 seed)) (h : Sz s j) (ht : t < w.heap.size) : Calls Tryz.prog 166 #[.pointer (some ⟨t, 0, none⟩), .agg #[.int .u8 lv, .int .u64 pf]] w fun e w' => ∃ i : Nat, e = .returned (.int .i64 (i : Nat)) ∧ i < s ∧ Hid (homeF seed lv pf j = (i : Int)) ∧ Below w.heap.size w w' := by
  have HS := Lib.hid h
  have hs := sz_pos h
  have HB := Lib.hid ((Below.refl w.heap.size w).alloc (Nat.le_refl _) (.cells #[.int .u8 lv, .int .u64 pf] 201))
  have q1' : (w.alloc (.cells #[.int .u8 lv, .int .u64 pf] 201)).cell? ⟨t, 1, none⟩ = some (.slice (some ⟨g, 0, none⟩) s s) := by rw [World.cell?_alloc_some _ _ _ (by rw [q1]; rfl)]; exact q1
  have q2' : (w.alloc (.cells #[.int .u8 lv, .int .u64 pf] 201)).cell? ⟨t, 2, none⟩ = some (.int .u64 seed) := by rw [World.cell?_alloc_some _ _ _ (by rw [q2]; rfl)]; exact q2
  clear h
  go_enter Tryz.func166, Tryz.ntmps166
  have k0 := blk_cell (blk_new w #[.int .u8 lv, .int .u64 pf] 201) 0 rfl
  have k1 := blk_cell (blk_new w #[.int .u8 lv, .int .u64 pf] 201) 1 rfl
  go_wp2
  generalize w.alloc (.cells #[.int .u8 lv, .int .u64 pf] 201) = w0 at *
  go_quiet (first | (go_at_call 180; refine Calls.quiet_of_same (hOdd t seed _ _ q2' (by decide))))
  have q1'' : (w0.drewN nq).cell? ⟨t, 1, none⟩ = some (.slice (some ⟨g, 0, none⟩) s s) := q1'
  have q2'' : (w0.drewN nq).cell? ⟨t, 2, none⟩ = some (.int .u64 seed) := q2'
  have HBN := Lib.hid (below_drewN HB.out nq)
  generalize w0.drewN nq = w1 at *
  go_wp2_with fail
  refine (hOdd t seed _ _ q2'' (by decide)).mono ?_
  rintro e w2 ⟨rfl, rfl⟩
  go_wp2_with fail
  generalize hx : IntKind.u64.wrap (bits .xor .u64 (IntKind.u64.wrap (IntKind.u64.wrap (pf * oddF seed 0) + IntKind.u64.wrap (IntKind.u64.wrap lv * oddF seed 23))) (IntKind.u64.wrap (IntKind.u64.wrap (pf * oddF seed 0) + IntKind.u64.wrap (IntKind.u64.wrap lv * oddF seed 23)) / 536870912) * oddF seed 41) = x
  have hx0 : 0 ≤ x ∧ x < 18446744073709551616 := by rw [← hx]; exact u64_wrap _
  have HH := Lib.hid (home_lt HS.out hx0.1 hx0.2)
  have HX := Lib.hid (show homeF seed lv pf j = x / 2 ^ (64 - j) from by rw [← hx]; rfl)
  clear hx
  refine (hLen s j _ HS.out).mono ?_
  rintro e w3 ⟨rfl, rfl⟩
  obtain ⟨hs1, hj3, hj12⟩ := HS.out
  rcases (show j = 3 ∨ j = 4 ∨ j = 5 ∨ j = 6 ∨ j = 7 ∨ j = 8 ∨ j = 9 ∨ j = 10 ∨ j = 11 ∨ j = 12 by omega) with rfl | rfl | rfl | rfl | rfl | rfl | rfl | rfl | rfl | rfl
  all_goals
    obtain ⟨hh0, hh1⟩ := HH.out
    obtain ⟨i, hi⟩ := Int.eq_ofNat_of_zero_le hh0
    have HX2 := Lib.hid (HX.out.trans hi)
    simp only [Nat.reduceSub, Int.reducePow] at hi hh1
    rw [hi] at hh1
    clear hs1 HH hh0
    go_wp2
    go_ret
    exact ⟨i, rfl, by omega, HX2.out, HBN.out⟩
end Go.Proofs.YtcnaikoloagbdaaGreat
namespace Go.Proofs.YtcnaikoloagbdaaGreat
set_option linter.unusedVariables false
set_option linter.unusedSimpArgs false
open Go.RowKit

/-- a place of a table -/
structure En where
  lv : Int
  pf : Int
  v : Int
  full : Bool
def EnAt (cs : Array Value) (i : Nat) (e : En) : Prop := cs[i * 4]? = some (.int .u8 e.lv) ∧ cs[i * 4 + 1]? = some (.int .u64 e.pf) ∧ cs[i * 4 + 2]? = some (.int .u64 e.v) ∧ cs[i * 4 + 3]? = some (.bool e.full)
/-- a row of places -/
def Pl (w : World) (g : Nat) (es : List En) : Prop := ∃ cs, w.heap[g]? = some (.cells cs 255 (0, 0)) ∧ ∀ (i : Nat) (h : i < es.length), EnAt cs i es[i]
/-- a table -/
structure Tb (w : World) (t g m : Nat) (es : List En) (seed n : Int) : Prop where
  head : ∃ pr : Int, w.heap[t]? = some (.cells #[.pointer (some ⟨m, 0, none⟩), .slice (some ⟨g, 0, none⟩) es.length es.length, .int .u64 seed, .int .i64 n, .int .i64 pr] 252 (0, 0))
  rows : Pl w g es
theorem Pl.chg {S : Nat → Prop} {w w' : World} {g : Nat} {es : List En} (h : Pl w g es) (hc : Chg S w w') (hn : ¬ S g) : Pl w' g es := by
  obtain ⟨cs, h1, h2⟩ := h
  exact ⟨cs, hc.blk h1 hn, h2⟩
theorem Pl.lt {w : World} {g : Nat} {es : List En} (h : Pl w g es) : g < w.heap.size := by
  obtain ⟨cs, h1, _⟩ := h
  exact blk_lt h1
theorem Pl.at_ {w : World} {g : Nat} {es : List En} (h : Pl w g es) {i : Nat} (hi : i < es.length) : w.cell? ⟨g, i * 4, none⟩ = some (.int .u8 es[i].lv) ∧ w.cell? ⟨g, i * 4 + 1, none⟩ = some (.int .u64 es[i].pf) ∧ w.cell? ⟨g, i * 4 + 2, none⟩ = some (.int .u64 es[i].v) ∧ w.cell? ⟨g, i * 4 + 3, none⟩ = some (.bool es[i].full) ∧ ∀ k, w.frozen? ⟨g, k, none⟩ = false := by
  obtain ⟨cs, h1, h2⟩ := h
  obtain ⟨a, b, c, d⟩ := h2 i hi
  exact ⟨blk_cell h1 _ a, blk_cell h1 _ b, blk_cell h1 _ c, blk_cell h1 _ d, fun k => blk_free h1 k⟩
theorem Tb.ne {w : World} {t g m : Nat} {es : List En} {seed n : Int} (h : Tb w t g m es seed n) : g ≠ t := by
  rintro rfl
  obtain ⟨pr, h1⟩ := h.head
  obtain ⟨cs, h2, _⟩ := h.rows
  rw [h1] at h2
  cases h2
theorem Tb.chg {S : Nat → Prop} {w w' : World} {t g m : Nat} {es : List En} {seed n : Int} (h : Tb w t g m es seed n) (hc : Chg S w w') (h1 : ¬ S t) (h2 : ¬ S g) : Tb w' t g m es seed n := by
  obtain ⟨pr, h3⟩ := h.head
  exact ⟨⟨pr, hc.blk h3 h1⟩, h.rows.chg hc h2⟩
theorem Tb.probes {w : World} {t g m : Nat} {es : List En} {seed n : Int} (h : Tb w t g m es seed n) (x : Int) : Tb (w.setCell ⟨t, 4, none⟩ (.int .i64 x)) t g m es seed n := by
  obtain ⟨pr, h3⟩ := h.head
  exact ⟨⟨x, blk_set h3 4 _⟩, h.rows.chg (S := (· = t)) ((Chg.refl _ _).set _ (.inl rfl)) h.ne⟩
theorem Tb.cells {w : World} {t g m : Nat} {es : List En} {seed n : Int} (h : Tb w t g m es seed n) : w.cell? ⟨t, 0, none⟩ = some (.pointer (some ⟨m, 0, none⟩)) ∧ w.cell? ⟨t, 1, none⟩ = some (.slice (some ⟨g, 0, none⟩) es.length es.length) ∧ w.cell? ⟨t, 2, none⟩ = some (.int .u64 seed) ∧ w.cell? ⟨t, 3, none⟩ = some (.int .i64 n) ∧ (∃ pr : Int, w.cell? ⟨t, 4, none⟩ = some (.int .i64 pr)) ∧ (∀ k, w.frozen? ⟨t, k, none⟩ = false) ∧ t < w.heap.size := by
  obtain ⟨pr, h1⟩ := h.head
  exact ⟨blk_cell h1 0 rfl, blk_cell h1 1 rfl, blk_cell h1 2 rfl, blk_cell h1 3 rfl, ⟨pr, blk_cell h1 4 rfl⟩, fun k => blk_free h1 k, blk_lt h1⟩
theorem ring_lt {s i f : Nat} (hi : i < s) (hf : f < s) (hne : i ≠ f) : (f + s - (i + 1) % s) % s < (f + s - i) % s := by
  rcases Nat.lt_or_ge (i + 1) s with h | h
  · rw [Nat.mod_eq_of_lt h]
    rcases Nat.lt_or_ge i f with h1 | h1
    · rw [show f + s - (i + 1) = (f - (i + 1)) + s by omega, show f + s - i = (f - i) + s by omega, Nat.add_mod_right, Nat.add_mod_right, Nat.mod_eq_of_lt (by omega), Nat.mod_eq_of_lt (by omega)]
      omega
    · rw [Nat.mod_eq_of_lt (by omega), Nat.mod_eq_of_lt (by omega)]
      omega
  · obtain rfl : s = i + 1 := by omega
    rw [Nat.mod_self, Nat.sub_zero, Nat.add_mod_right, Nat.mod_eq_of_lt hf, Nat.mod_eq_of_lt (by omega)]
    omega
/-- here a search ends -/
def Stop (es : List En) (lv pf : Int) (i : Nat) : Prop := ∃ h : i < es.length, es[i].full = false ∨ (es[i].lv = lv ∧ es[i].pf = pf)
/-- the first such place from i0 on -/
def Fnd (es : List En) (lv pf : Int) (i0 i : Nat) : Prop := ∃ n, i = (i0 + n) % es.length ∧ Stop es lv pf i ∧ ∀ k, k < n → ¬ Stop es lv pf ((i0 + k) % es.length)
theorem Fnd.one {es : List En} {lv pf : Int} {i0 i i' : Nat} (h : Fnd es lv pf i0 i) (h' : Fnd es lv pf i0 i') : i = i' := by
  obtain ⟨n, rfl, h1, h2⟩ := h
  obtain ⟨m, rfl, h3, h4⟩ := h'
  rcases Nat.lt_trichotomy n m with h | h | h
  · exact absurd h1 (h4 n h)
  · rw [h]
  · exact absurd h3 (h2 m h)
/-- so far none -/
def Sofar (es : List En) (lv pf : Int) (i0 i : Nat) : Prop := ∃ n, i = (i0 + n) % es.length ∧ ∀ k, k < n → ¬ Stop es lv pf ((i0 + k) % es.length)
theorem Sofar.next {es : List En} {lv pf : Int} {i0 i : Nat} (h : Sofar es lv pf i0 i) (hs : ¬ Stop es lv pf i) : Sofar es lv pf i0 ((i + 1) % es.length) := by
  obtain ⟨n, rfl, h1⟩ := h
  refine ⟨n + 1, by rw [Nat.mod_add_mod]; rfl, fun k hk => ?_⟩
  rcases Nat.lt_or_ge k n with h | h
  · exact h1 k h
  · obtain rfl : k = n := by omega
    exact hs
theorem Sofar.found {es : List En} {lv pf : Int} {i0 i : Nat} (h : Sofar es lv pf i0 i) (hs : Stop es lv pf i) : Fnd es lv pf i0 i := by
  obtain ⟨n, rfl, h1⟩ := h
  exact ⟨n, rfl, hs, h1⟩
set_option maxRecDepth 100000 in
set_option maxHeartbeats 2000000 in
theorem hFind (t g m j : Nat) (es : List En) (seed n lv pf : Int) (w : World) (hT : Tb w t g m es seed n) (hs : Sz es.length j) (f : Nat) (hf : f < es.length) (hff : es[f].full = false) :
    Calls Tryz.prog 154 #[.pointer (some ⟨t, 0, none⟩), .agg #[.int .u8 lv, .int .u64 pf]] w fun e w' => ∃ (i : Nat) (b : Bool), e = .returned (.tuple #[.int .i64 (i : Nat), .bool b]) ∧ Hid (∃ hi : i < es.length, es[i].full = b ∧ (b = true → es[i].lv = lv ∧ es[i].pf = pf)) ∧ Hid (∃ i0 : Nat, homeF seed lv pf j = (i0 : Int) ∧ Fnd es lv pf i0 i) ∧ Hid (Tb w' t g m es seed n) ∧ Hid (Chg (· = t) w w') := by
  have HS := Lib.hid hs
  have HF := Lib.hid hff
  have hsp := sz_pos hs
  obtain ⟨c0, c1, c2, c3, ⟨pr, c4⟩, fz, htl⟩ := hT.cells
  have f4 := fz 4
  have hz : (w.setCell ⟨t, 4, none⟩ (.int .i64 1)).heap.size = w.heap.size := by simp
  have hA := (Below.refl (w.setCell ⟨t, 4, none⟩ (.int .i64 1)).heap.size (w.setCell ⟨t, 4, none⟩ (.int .i64 1))).alloc (Nat.le_refl _) (.cells #[.int .u8 lv, .int .u64 pf] 201)
  have HT0 := Lib.hid ((hT.probes 1).chg (S := fun _ => False) (Chg.of_below hA) (fun h => h) (fun h => h))
  have HC0 := Lib.hid (((Chg.refl (fun k => k = t) w).set (b := t) (i := 4) (.int .i64 1) (.inl rfl)).alloc (.cells #[.int .u8 lv, .int .u64 pf] 201))
  have hk0 := blk_new (w.setCell ⟨t, 4, none⟩ (.int .i64 1)) #[.int .u8 lv, .int .u64 pf] 201
  rw [hz] at hk0
  have HK0 := Lib.hid hk0
  clear hT hs hff fz hA hk0 hz
  go_enter Tryz.func154, Tryz.ntmps154
  go_wp2_with fail
  generalize (w.setCell ⟨t, 4, none⟩ (.int .i64 1)).alloc (.cells #[.int .u8 lv, .int .u64 pf] 201) = w0 at *
  obtain ⟨d0, d1, d2, _, _, _, dt⟩ := HT0.out.cells
  refine (hHome t g es.length j seed lv pf _ d1 d2 HS.out dt).mono ?_
  rintro e w1 ⟨i0, rfl, hi0, HH0, hb1⟩
  have HT1 := Lib.hid (HT0.out.chg (S := fun _ => False) (Chg.of_below hb1) (fun h => h) (fun h => h))
  have HC1 := Lib.hid (HC0.out.then (Chg.of_below hb1))
  have HK1 := Lib.hid (blk_below HK0.out hb1 rfl)
  clear hb1 HT0 HC0 HK0 d0 d1 d2 dt c0 c1 c2 c3 c4 f4
  go_wp2
  go_loopw [6] (fun v6 wr => ∃ i : Nat, v6 = .int .i64 i ∧ i < es.length ∧ Hid (Sofar es lv pf i0 i) ∧ Hid (Tb wr t g m es seed n) ∧ Hid (Chg (· = t) w wr) ∧ Hid (wr.heap[w.heap.size]? = some (.cells #[.int .u8 lv, .int .u64 pf] 201 (0, 0)))) (fun v6 _ => (f + es.length - (intOf v6).toNat) % es.length)
  case atStart => exact ⟨i0, rfl, hi0, ⟨0, by rw [Nat.add_zero, Nat.mod_eq_of_lt hi0], fun k h => absurd h (Nat.not_lt_zero _)⟩, HT1.out, HC1.out, HK1.out⟩
  case round =>
    clear HT1 HC1 HK1
    obtain ⟨i, rfl, hi, HSF, HT, HC, HK⟩ := hrel
    obtain ⟨c0, c1, c2, c3, ⟨pr, c4⟩, fz, htl⟩ := HT.out.cells
    have f4 := fz 4
    obtain ⟨e0, e1, e2, e3, _⟩ := HT.out.rows.at_ hi
    have k0 := blk_cell HK.out 0 rfl
    have k1 := blk_cell HK.out 1 rfl
    obtain ⟨x, hx⟩ : ∃ x, es[i] = x := ⟨_, rfl⟩
    rw [hx] at e0 e1 e2 e3
    obtain ⟨xl, xp, xv, xf⟩ := x
    simp only [] at e0 e1 e2 e3
    have HX := Lib.hid hx
    have hne := HT.out.ne
    clear hx fz
    cases xf
    · have HFN := Lib.hid (HSF.out.found ⟨hi, .inl (by rw [HX.out])⟩)
      go_wp2
      go_quiet (fail)
      go_wp2
      go_quiet (fail)
      go_wp2
      go_ret2
      exact ⟨i, false, rfl, ⟨hi, by rw [HX.out], fun h => (by cases h)⟩, ⟨i0, HH0.out, HFN.out⟩, HT.out.chg (S := fun _ => False) (((Chg.refl _ _).drewN _).drewN _) (fun h => h) (fun h => h), (HC.out.drewN _).drewN _⟩
    · by_cases hl : xl = lv
      · by_cases hp : xp = pf
        · subst hl
          subst hp
          have HFN := Lib.hid (HSF.out.found ⟨hi, .inr (by rw [HX.out]; exact ⟨rfl, rfl⟩)⟩)
          go_wp2
          go_quiet (fail)
          go_wp2
          go_quiet (fail)
          go_wp2
          go_ret2
          exact ⟨i, true, rfl, ⟨hi, by rw [HX.out], fun _ => ⟨by rw [HX.out], by rw [HX.out]⟩⟩, ⟨i0, HH0.out, HFN.out⟩, HT.out.chg (S := fun _ => False) (((Chg.refl _ _).drewN _).drewN _) (fun h => h) (fun h => h), (HC.out.drewN _).drewN _⟩
        · have HSN := Lib.hid (HSF.out.next (fun h => by obtain ⟨_, h⟩ := h; rw [HX.out] at h; rcases h with h | h; cases h; exact hp h.2))
          have hif : i ≠ f := by
            rintro rfl
            have := HF.out
            rw [HX.out] at this
            cases this
          have HRG := Lib.hid (ring_lt hi hf hif)
          go_wp2
          go_quiet (fail)
          have HT2 := Lib.hid (HT.out.chg (S := fun _ => False) ((Chg.refl _ _).drewN nq) (fun h => h) (fun h => h))
          have HC2 := Lib.hid (HC.out.drewN nq)
          have HK2 := Lib.hid (show (wr.drewN nq).heap[w.heap.size]? = some (.cells #[.int .u8 lv, .int .u64 pf] 201 (0, 0)) from HK.out)
          generalize wr.drewN nq = w2 at *
          clear HT HC HK c0 c1 c2 c3 c4 f4 e0 e1 e2 e3 k0 k1
          obtain ⟨c0, c1, c2, c3, ⟨pr2, c4⟩, fz, _⟩ := HT2.out.cells
          have f4 := fz 4
          clear fz
          go_wp2_with fail
          refine (hNext t g es.length j i _ c1 HS.out hi).mono ?_
          rintro e w3 ⟨rfl, rfl⟩
          have hm : (i + 1) % es.length < es.length := Nat.mod_lt _ (by omega)
          obtain ⟨i2, hi2⟩ : ∃ i2, (i + 1) % es.length = i2 := ⟨_, rfl⟩
          replace HSN := Lib.hid (show Sofar es lv pf i0 i2 by rw [← hi2]; exact HSN.out)
          rw [hi2] at HRG hm ⊢
          clear hi2
          go_wp2
          go_roundw
          case rel => exact ⟨i2, rfl, hm, HSN.out, HT2.out.probes _, HC2.out.set _ (.inl rfl), blk_other HK2.out _ (by omega)⟩
          case measure => have := HRG.out; simp [intOf]; omega
      · have HSN := Lib.hid (HSF.out.next (fun h => by obtain ⟨_, h⟩ := h; rw [HX.out] at h; rcases h with h | h; cases h; exact hl h.1))
        have hif : i ≠ f := by
          rintro rfl
          have := HF.out
          rw [HX.out] at this
          cases this
        have HRG := Lib.hid (ring_lt hi hf hif)
        go_wp2
        go_quiet (fail)
        have HT2 := Lib.hid (HT.out.chg (S := fun _ => False) ((Chg.refl _ _).drewN nq) (fun h => h) (fun h => h))
        have HC2 := Lib.hid (HC.out.drewN nq)
        have HK2 := Lib.hid (show (wr.drewN nq).heap[w.heap.size]? = some (.cells #[.int .u8 lv, .int .u64 pf] 201 (0, 0)) from HK.out)
        generalize wr.drewN nq = w2 at *
        clear HT HC HK c0 c1 c2 c3 c4 f4 e0 e1 e2 e3 k0 k1
        obtain ⟨c0, c1, c2, c3, ⟨pr2, c4⟩, fz, _⟩ := HT2.out.cells
        have f4 := fz 4
        clear fz
        go_wp2_with fail
        refine (hNext t g es.length j i _ c1 HS.out hi).mono ?_
        rintro e w3 ⟨rfl, rfl⟩
        have hm : (i + 1) % es.length < es.length := Nat.mod_lt _ (by omega)
        obtain ⟨i2, hi2⟩ : ∃ i2, (i + 1) % es.length = i2 := ⟨_, rfl⟩
        replace HSN := Lib.hid (show Sofar es lv pf i0 i2 by rw [← hi2]; exact HSN.out)
        rw [hi2] at HRG hm ⊢
        clear hi2
        go_wp2
        go_roundw
        case rel => exact ⟨i2, rfl, hm, HSN.out, HT2.out.probes _, HC2.out.set _ (.inl rfl), blk_other HK2.out _ (by omega)⟩
        case measure => have := HRG.out; simp [intOf]; omega
end Go.Proofs.YtcnaikoloagbdaaGreat
namespace Go.Proofs.YtcnaikoloagbdaaGreat
set_option linter.unusedVariables false
set_option linter.unusedSimpArgs false
open Go.RowKit

theorem Tb.ne_mt {w : World} {t g m m2 : Nat} {es : List En} {seed n : Int} (h : Tb w t g m es seed n) (hm : Mt w m2) : m2 ≠ t ∧ m2 ≠ g := by
  obtain ⟨a, b, c, d, e, h0⟩ := hm
  obtain ⟨pr, h1⟩ := h.head
  obtain ⟨cs, h2, _⟩ := h.rows
  constructor
  · rintro rfl; rw [h1] at h0; cases h0
  · rintro rfl; rw [h2] at h0; cases h0
/-- a key is found (b), by the table's own search -/
def Fn (es : List En) (seed lv pf : Int) (b : Bool) : Prop := ∃ (j i0 i : Nat) (hi : i < es.length), Sz es.length j ∧ homeF seed lv pf j = (i0 : Int) ∧ Fnd es lv pf i0 i ∧ es[i].full = b
theorem Sz.one {s j j' : Nat} (h : Sz s j) (h' : Sz s j') : j = j' := by
  obtain ⟨h1, _, _⟩ := h
  obtain ⟨h2, _, _⟩ := h'
  rcases Nat.lt_trichotomy j j' with h | h | h
  · have := Nat.pow_lt_pow_right (a := 2) (by decide) h; omega
  · exact h
  · have := Nat.pow_lt_pow_right (a := 2) (by decide) h; omega
theorem Fn.one {es : List En} {seed lv pf : Int} {b b' : Bool} (h : Fn es seed lv pf b) (h' : Fn es seed lv pf b') : b = b' := by
  obtain ⟨j, i0, i, hi, h1, h2, h3, rfl⟩ := h
  obtain ⟨j', i0', i', hi', h1', h2', h3', rfl⟩ := h'
  obtain rfl := h1.one h1'
  obtain rfl : i0 = i0' := by omega
  obtain rfl := h3.one h3'
  rfl
/-- there is a free place -/
def Free (es : List En) : Prop := ∃ (f : Nat) (hf : f < es.length), es[f].full = false
set_option maxRecDepth 100000 in
set_option maxHeartbeats 2000000 in
theorem hGet (t g m j : Nat) (es : List En) (seed n lv pf : Int) (w : World) (hT : Tb w t g m es seed n) (hM : Mt w m) (hs : Sz es.length j) (hf : Free es) :
    Calls Tryz.prog 124 #[.pointer (some ⟨t, 0, none⟩), .agg #[.int .u8 lv, .int .u64 pf]] w fun e w' => ∃ (v : Int) (b : Bool), e = .returned (.tuple #[.int .u64 v, .bool b]) ∧ Hid ((b = false ∧ v = 0) ∨ (b = true ∧ ∃ (i : Nat) (hi : i < es.length), es[i].full = true ∧ es[i].lv = lv ∧ es[i].pf = pf ∧ es[i].v = v)) ∧ Hid (Fn es seed lv pf b) ∧ Hid (Tb w' t g m es seed n) ∧ Hid (Mt w' m) ∧ Hid (Chg (fun k => k = t ∨ k = m) w w') := by
  have HS := Lib.hid hs
  have HF := Lib.hid hf
  have hA := (Below.refl w.heap.size w).alloc (Nat.le_refl _) (.cells #[.int .u8 lv, .int .u64 pf] 201)
  have HT0 := Lib.hid (hT.chg (S := fun _ => False) (Chg.of_below hA) (fun h => h) (fun h => h))
  have HM0 := Lib.hid (hM.below hA)
  have HC0 := Lib.hid (Chg.of_below (S := fun k => k = t ∨ k = m) hA)
  have HK0 := Lib.hid (blk_new w #[.int .u8 lv, .int .u64 pf] 201)
  have hne := hT.ne_mt hM
  have htl := hT.cells.2.2.2.2.2.2
  have hml : m < w.heap.size := by obtain ⟨a, b, c, d, e, h0⟩ := hM; exact blk_lt h0
  clear hT hM hs hf hA
  generalize hw0 : w.alloc (.cells #[.int .u8 lv, .int .u64 pf] 201) = w0 at *
  obtain ⟨c0, c1, c2, c3, _, _, _⟩ := HT0.out.cells
  go_enter Tryz.func124, Tryz.ntmps124
  rw [← hw0] at c0 c1 c2 c3 HT0 HM0 HC0 HK0
  clear hw0
  go_wp2_with fail
  generalize w.alloc (.cells #[.int .u8 lv, .int .u64 pf] 201) = w0 at *
  refine (mtCall m _ HM0.out).mono ?_
  rintro e w1 ⟨rfl, HM1, hc1⟩
  have HT1 := Lib.hid (HT0.out.chg hc1.out (fun h => hne.1 h.symm) (fun h => hne.2 h.symm))
  have HC1 := Lib.hid (HC0.out.then (hc1.out.mono (fun b _ h => .inr h)))
  have HK1 := Lib.hid (hc1.out.blk HK0.out (by omega))
  have k0 := blk_cell HK1.out 0 rfl
  have k1 := blk_cell HK1.out 1 rfl
  clear hc1 HT0 HM0 HC0 HK0 c0 c1 c2 c3
  go_wp2_with fail
  obtain ⟨f, hf, hff⟩ := HF.out
  refine (hFind t g m j es seed n lv pf _ HT1.out HS.out f hf hff).mono ?_
  rintro e w2 ⟨i, b, rfl, HI, HFD, HT2, hc2⟩
  have HFN := Lib.hid (show Fn es seed lv pf b from by obtain ⟨hi, h1, _⟩ := HI.out; obtain ⟨i0, h2, h3⟩ := HFD.out; exact ⟨j, i0, i, hi, HS.out, h2, h3, h1⟩)
  have HM2 := Lib.hid (HM1.out.chg hc2.out (fun h => hne.1 h))
  have HC2 := Lib.hid (HC1.out.then (hc2.out.mono (fun b _ h => .inl h)))
  clear HT1 HM1 HC1 HK1 k0 k1 hc2 hff
  cases b
  · go_wp2
    go_ret2
    exact ⟨0, false, rfl, .inl ⟨rfl, rfl⟩, HFN.out, HT2.out, HM2.out, HC2.out⟩
  · obtain ⟨hi, hfu, hkey⟩ := HI.out
    obtain ⟨c0, c1, c2, c3, _, _, _⟩ := HT2.out.cells
    obtain ⟨e0, e1, e2, e3, _⟩ := HT2.out.rows.at_ hi
    have HX := Lib.hid (show es[i].full = true ∧ es[i].lv = lv ∧ es[i].pf = pf from ⟨hfu, (hkey rfl).1, (hkey rfl).2⟩)
    obtain ⟨v, hv⟩ : ∃ v, es[i].v = v := ⟨_, rfl⟩
    rw [hv] at e2
    have HV := Lib.hid hv
    clear hfu hkey hv e0 e1 e3
    go_wp2
    go_ret2
    exact ⟨v, true, rfl, .inr ⟨rfl, i, hi, HX.out.1, HX.out.2.1, HX.out.2.2, HV.out⟩, HFN.out, HT2.out, HM2.out, HC2.out⟩
end Go.Proofs.YtcnaikoloagbdaaGreat
