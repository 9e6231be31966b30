/-
  pool.Pool of a veb's nodes: Put, walked.
-/
import Derived.Test.YtmpjjehihimadaaGreatPoolV3
namespace Go.Proofs.YtmpjjehihimadaaGreat
set_option linter.unusedVariables false
set_option linter.unusedSimpArgs false
open Go.RowKit

theorem PoV.put {w : World} {base p m g c : Nat} {ls : List Ve} {limit : Int} (h : PoV w base p m (.slice (some ⟨g, 0, none⟩) ls.length c) ls limit) (i : Nat) (hi : i < ls.length) (x : Ve) : PoV ((((w.setCell ⟨g, i * 5, none⟩ (.int .u64 x.min)).setCell ⟨g, i * 5 + 1, none⟩ (.int .u64 x.max)).setCell ⟨g, i * 5 + 2, none⟩ (.int .i64 x.sum)).setCell ⟨g, i * 5 + 3, none⟩ (.int .u64 x.bits)) base p m (.slice (some ⟨g, 0, none⟩) ls.length c) (ls.set i x) limit := by
  have hz : (ls.set i x).length = ls.length := List.length_set
  have hgp := h.ne_own g rfl
  refine ⟨?_, ?_⟩
  · rw [hz]
    exact (blk_other (blk_other (blk_other (blk_other h.head _ (Ne.symm hgp)) _ (Ne.symm hgp)) _ (Ne.symm hgp)) _ (Ne.symm hgp))
  · rw [hz]
    have hm : i * 5 + 5 ≤ ls.length * 5 := by have := Nat.mul_le_mul_right 5 (show i + 1 ≤ ls.length from hi); omega
    have hr := row_set (row_set (row_set (row_set (h.row) (i * 5) (.int .u64 x.min) (by omega)) (i * 5 + 1) (.int .u64 x.max) (by omega)) (i * 5 + 2) (.int .i64 x.sum) (by omega)) (i * 5 + 3) (.int .u64 x.bits) (by omega)
    have hrows : ∀ r ∈ ls.map cellsV, r.length = 5 := fun r hr => by obtain ⟨y, _, rfl⟩ := List.mem_map.1 hr; rfl
    have key : (ls.set i x).flatMap cellsV = sets (ls.flatMap cellsV) (i * 5) [.int .u64 x.min, .int .u64 x.max, .int .i64 x.sum, .int .u64 x.bits] := by
      rw [List.flatMap_def, List.flatMap_def, flat_sets 5 _ (by simp) _ i hrows (by simpa using hi), List.map_set, List.getElem_map]
      rfl
    rw [key]
    exact hr
set_option maxRecDepth 100000 in
set_option maxHeartbeats 1000000 in
theorem pvPut {base : Nat} (p m : Nat) (v : Value) (ls : List Ve) (limit : Int) (w : World) (h : PoV w base p m v ls limit) (i : Int) (xmin : Int) (xmax : Int) (xsum : Int) (xbits : Int) (hb : base ≤ w.heap.size) : Calls Tryz.prog 128 #[.pointer (some ⟨p, 0, none⟩), .int .i64 i, .agg #[.int .u64 xmin, .int .u64 xmax, .int .i64 xsum, .int .u64 xbits]] w fun e w' => (∃ r, e = .returned r) ∧ Hid (PoV w' base p m v (putAt ls i ⟨xmin, xmax, xsum, xbits⟩) limit) ∧ Hid (Chg (fun g => v.ownBlock = some g) w w') := by
  have hA := (Below.refl w.heap.size w).alloc (Nat.le_refl _) (.cells #[.int .u64 xmin, .int .u64 xmax, .int .i64 xsum, .int .u64 xbits] 112)
  have H0 := Lib.hid (h.below hA)
  have HC0 := Lib.hid (Chg.of_below (S := fun g => v.ownBlock = some g) hA)
  have HK0 := Lib.hid (blk_new w #[.int .u64 xmin, .int .u64 xmax, .int .i64 xsum, .int .u64 xbits] 112)
  have hvl := h.own_lt
  clear h hA
  go_enter Tryz.func128, Tryz.ntmps128
  go_wp2_with fail
  generalize w.alloc (.cells #[.int .u64 xmin, .int .u64 xmax, .int .i64 xsum, .int .u64 xbits] 112) = w0 at *
  refine (pvLive p m v ls limit _ H0.out i).mono ?_
  rintro e w1 ⟨rfl, rfl⟩
  by_cases h0 : 0 ≤ i ∧ i < ls.length
  · rw [decide_eq_true h0]
    obtain ⟨n, rfl⟩ := Int.eq_ofNat_of_zero_le h0.1
    have hn : n < ls.length := by omega
    obtain ⟨A, c, rfl, hat⟩ := H0.out.at_
    obtain ⟨g, rfl, hbg, hg, e0, e1, e2, e3, e9, fr⟩ := hat n hn
    obtain ⟨_, c1, _⟩ := H0.out.cells
    have r0 := fr (n * 5)
    have r1 := fr (n * 5 + 1)
    have r2 := fr (n * 5 + 2)
    have r3 := fr (n * 5 + 3)
    have s0 := blk_cell HK0.out 0 rfl
    have s1 := blk_cell HK0.out 1 rfl
    have s2 := blk_cell HK0.out 2 rfl
    have s3 := blk_cell HK0.out 3 rfl
    have hgz := hvl g rfl
    clear hat fr h0
    go_wp2
    go_region
    have HP4 := Lib.hid (H0.out.put n hn ⟨xmin, xmax, xsum, xbits⟩)
    go_wp2
    go_ret
    have hp5 := HP4.out.chg (S := fun _ => False) (Chg.refl _ _).drew (fun h => h) (fun _ _ h => h)
    rw [putAt_nat] at hp5
    exact ⟨⟨_, rfl⟩, hp5, (((((HC0.out.set (b := g) (.int .u64 xmin) (.inl rfl)).set (b := g) (.int .u64 xmax) (.inl rfl)).set (b := g) (.int .i64 xsum) (.inl rfl)).set (b := g) (.int .u64 xbits) (.inl rfl))).drew⟩
  · rw [decide_eq_false h0]
    have HE := Lib.hid (putAt_none ls i ⟨xmin, xmax, xsum, xbits⟩ h0)
    clear h0
    go_wp2
    go_ret
    exact ⟨⟨_, rfl⟩, (by show PoV _ _ _ _ _ _ _; rw [HE.out]; exact H0.out), HC0.out⟩
end Go.Proofs.YtmpjjehihimadaaGreat
