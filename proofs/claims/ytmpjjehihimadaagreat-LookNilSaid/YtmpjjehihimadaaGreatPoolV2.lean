/-
  pool.Pool of a veb's nodes: Peek, walked.
-/
import Derived.Test.YtmpjjehihimadaaGreatPoolV1
namespace Go.Proofs.YtmpjjehihimadaaGreat
set_option linter.unusedVariables false
set_option linter.unusedSimpArgs false
open Go.RowKit

set_option maxRecDepth 100000 in
set_option maxHeartbeats 1000000 in
theorem pvPeek {base : Nat} (p m : Nat) (v : Value) (ls : List Ve) (limit : Int) (w : World) (h : PoV w base p m v ls limit) (i : Int) (hb : base ≤ w.heap.size) : Calls Tryz.prog 148 #[.pointer (some ⟨p, 0, none⟩), .int .i64 i] w fun e w' => ∃ x : Ve, e = .returned (.tuple #[.agg #[.int .u64 x.min, .int .u64 x.max, .int .i64 x.sum, .int .u64 x.bits], .bool (decide (0 ≤ i ∧ i < ls.length))]) ∧ Hid ((0 ≤ i ∧ i < ls.length) → ∃ hi : i.toNat < ls.length, x = ls[i.toNat]) ∧ Hid (¬ (0 ≤ i ∧ i < ls.length) → x = ⟨0, 0, 0, 0⟩) ∧ Hid (Below w.heap.size w w') := by
  have H := Lib.hid h
  have hA := (Below.refl w.heap.size w).alloc (Nat.le_refl _) (.cells #[.int .u64 0, .int .u64 0, .int .i64 0, .int .u64 0] 112)
  clear h
  go_enter Tryz.func148, Tryz.ntmps148
  go_wp2_with fail
  refine (pvLive p m v ls limit _ (H.out.below hA) i).mono ?_
  rintro e w1 ⟨rfl, rfl⟩
  have HA := Lib.hid hA
  have q4 := blk_new w #[.int .u64 0, .int .u64 0, .int .i64 0, .int .u64 0] 112
  have s0 := blk_cell q4 0 rfl
  have s1 := blk_cell q4 1 rfl
  have s2 := blk_cell q4 2 rfl
  have s3 := blk_cell q4 3 rfl
  have H1 := Lib.hid (H.out.below hA)
  clear hA q4
  by_cases h0 : 0 ≤ i ∧ i < ls.length
  · rw [decide_eq_true h0]
    obtain ⟨n, rfl⟩ := Int.eq_ofNat_of_zero_le h0.1
    have hn : n < ls.length := by omega
    obtain ⟨A, c, rfl, hat⟩ := H1.out.at_
    obtain ⟨g, rfl, hbg, hg, e0, e1, e2, e3, e9, _⟩ := hat n hn
    obtain ⟨_, c1, _⟩ := H1.out.cells
    have HI := Lib.hid h0
    have HX := Lib.hid (show ∃ x, ls[n] = x from ⟨_, rfl⟩)
    obtain ⟨x, hx⟩ := HX.out
    rw [hx] at e0 e1 e2 e3
    obtain ⟨xmin, xmax, xsum, xbits⟩ := x
    simp only [] at e0 e1 e2 e3
    have HX := Lib.hid hx
    clear hat hx h0
    go_wp2
    have k0 := blk_cell (blk_new w #[.int .u64 xmin, .int .u64 xmax, .int .i64 xsum, .int .u64 xbits] 112) 0 rfl
    have k1 := blk_cell (blk_new w #[.int .u64 xmin, .int .u64 xmax, .int .i64 xsum, .int .u64 xbits] 112) 1 rfl
    have k2 := blk_cell (blk_new w #[.int .u64 xmin, .int .u64 xmax, .int .i64 xsum, .int .u64 xbits] 112) 2 rfl
    have k3 := blk_cell (blk_new w #[.int .u64 xmin, .int .u64 xmax, .int .i64 xsum, .int .u64 xbits] 112) 3 rfl
    refine bodyPost_ret (v := .tuple #[.agg #[.int .u64 xmin, .int .u64 xmax, .int .i64 xsum, .int .u64 xbits], .bool true]) (by simp [results, Tryz.results148, go_sem, k0, k1, k2, k3]) rfl ⟨⟨xmin, xmax, xsum, xbits⟩, by rw [decide_eq_true HI.out], fun _ => ⟨hn, HX.out.symm⟩, fun h => absurd HI.out h, (Below.refl _ w).alloc (Nat.le_refl _) _⟩
  · rw [decide_eq_false h0]
    have HI := Lib.hid h0
    clear h0
    go_wp2
    have hb2 : Below w.heap.size w ((w.alloc (.cells #[.int .u64 0, .int .u64 0, .int .i64 0, .int .u64 0] 112)).alloc (.cells #[.int .u64 0, .int .u64 0, .int .i64 0, .int .u64 0] 112)) := ((Below.refl _ w).alloc (Nat.le_refl _) _).alloc (by simp) _
    have k0 := blk_cell (blk_old (blk_new w #[.int .u64 0, .int .u64 0, .int .i64 0, .int .u64 0] 112) (.cells #[.int .u64 0, .int .u64 0, .int .i64 0, .int .u64 0] 112)) 0 rfl
    have k1 := blk_cell (blk_old (blk_new w #[.int .u64 0, .int .u64 0, .int .i64 0, .int .u64 0] 112) (.cells #[.int .u64 0, .int .u64 0, .int .i64 0, .int .u64 0] 112)) 1 rfl
    have k2 := blk_cell (blk_old (blk_new w #[.int .u64 0, .int .u64 0, .int .i64 0, .int .u64 0] 112) (.cells #[.int .u64 0, .int .u64 0, .int .i64 0, .int .u64 0] 112)) 2 rfl
    have k3 := blk_cell (blk_old (blk_new w #[.int .u64 0, .int .u64 0, .int .i64 0, .int .u64 0] 112) (.cells #[.int .u64 0, .int .u64 0, .int .i64 0, .int .u64 0] 112)) 3 rfl
    refine bodyPost_ret (v := .tuple #[.agg #[.int .u64 0, .int .u64 0, .int .i64 0, .int .u64 0], .bool false]) (by simp [results, Tryz.results148, go_sem, k0, k1, k2, k3]) rfl ⟨⟨0, 0, 0, 0⟩, by rw [decide_eq_false HI.out], fun h => absurd h HI.out, fun _ => rfl, hb2⟩
end Go.Proofs.YtmpjjehihimadaaGreat
