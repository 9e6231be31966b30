/-
  pool.Pool of a veb's nodes: Alloc, walked.
-/
import Derived.Test.YtmpjjehihimadaaGreatPoolV4
namespace Go.Proofs.YtmpjjehihimadaaGreat
set_option linter.unusedVariables false
set_option linter.unusedSimpArgs false
open Go.RowKit

theorem infoV : (Tryz.prog.info? 214).map (fun i => (i.zero, i.size, i.bytes)) = some (some (.agg #[.int .u64 0, .int .u64 0, .int .i64 0, .int .u64 0, .bool false]), 5, 40) := by kernel_rfl
theorem PoV.live {w : World} {base p m : Nat} {v : Value} {ls : List Ve} {limit : Int} (h : PoV w base p m v ls limit) (q : Int) : (w.setCell ⟨p, 3, none⟩ (.int .i64 q)).heap[p]? = some (.cells #[.pointer (some ⟨m, 0, none⟩), v, .slice none 0 0, .int .i64 q, .int .i64 limit] 154 (0, 0)) ∧ (w.setCell ⟨p, 3, none⟩ (.int .i64 q)).ownsRow base 214 5 v ls.length (ls.flatMap cellsV) :=
  ⟨blk_set h.head 3 _, rowG_chg h.row ((Chg.refl (fun k => k = p) w).set (b := p) (i := 3) (.int .i64 q) (.inl rfl)) (fun g hg e => h.ne_own g hg e)⟩
set_option maxRecDepth 100000 in
set_option maxHeartbeats 2000000 in
theorem pvAlloc {base : Nat} (p m : Nat) (v : Value) (ls : List Ve) (limit : Int) (w : World) (h : PoV w base p m v ls limit) (xmin : Int) (xmax : Int) (xsum : Int) (xbits : Int) (hb : base ≤ w.heap.size) (hroom : (ls.length : Int) + 1 ≤ limit) (h1 : limit ≤ 1048576) (hl : ls.length ≤ 1000) : Calls Tryz.prog 119 #[.pointer (some ⟨p, 0, none⟩), .agg #[.int .u64 xmin, .int .u64 xmax, .int .i64 xsum, .int .u64 xbits]] w fun e w' => ∃ v', e = .returned (.tuple #[.int .i64 (ls.length : Nat), .bool true]) ∧ Hid (PoV w' base p m v' (ls ++ [⟨xmin, xmax, xsum, xbits⟩]) limit) ∧ Hid (v'.ownBlock = v.ownBlock ∨ ∃ g, v'.ownBlock = some g ∧ w.heap.size ≤ g) ∧ Hid (Chg (fun k => k = p ∨ v.ownBlock = some k) w w') := by
  obtain ⟨i0, hi, hz0, hz1, hz2⟩ := info_parts infoV
  have hA := (Below.refl w.heap.size w).alloc (Nat.le_refl _) (.cells #[.int .u64 xmin, .int .u64 xmax, .int .i64 xsum, .int .u64 xbits] 112)
  have H0 := Lib.hid (h.below hA)
  have HC0 := Lib.hid (Chg.of_below (S := fun k => k = p ∨ v.ownBlock = some k) hA)
  have HK0 := Lib.hid (blk_new w #[.int .u64 xmin, .int .u64 xmax, .int .i64 xsum, .int .u64 xbits] 112)
  have hvl := h.own_lt
  have hpl := h.cells.2.2.2.2.2.2
  clear h hA
  go_enter Tryz.func119, Tryz.ntmps119
  go_wp2_with fail
  generalize w.alloc (.cells #[.int .u64 xmin, .int .u64 xmax, .int .i64 xsum, .int .u64 xbits] 112) = w0 at *
  refine (pvRoom p m v ls limit _ H0.out 1 (by omega) (by omega) h1 hl).mono ?_
  rintro e w1 ⟨rfl, HB1⟩
  have H1 := Lib.hid (H0.out.below HB1.out)
  have HK1 := Lib.hid (blk_below HK0.out HB1.out rfl)
  have HC1 := Lib.hid (HC0.out.then (Chg.of_below HB1.out))
  obtain ⟨c0, c1, c2, c3, c4, fz, _⟩ := H1.out.cells
  have f3 := fz 3
  have s0 := blk_cell HK1.out 0 rfl
  have s1 := blk_cell HK1.out 1 rfl
  have s2 := blk_cell HK1.out 2 rfl
  have s3 := blk_cell HK1.out 3 rfl
  have hpb := H1.out.ne_own
  have hL := H1.out.live ((ls.length : Int) + 1)
  have hz1' : (w1.setCell ⟨p, 3, none⟩ (.int .i64 ((ls.length : Int) + 1))).heap.size = w1.heap.size := by simp
  have HH2 := Lib.hid (blk_old hL.1 (.cells #[.int .u64 xmin, .int .u64 xmax, .int .i64 xsum, .int .u64 xbits, .bool true] 214))
  have HR2 := Lib.hid (rowG_chg (S := fun _ => False) hL.2 ((Chg.refl _ _).alloc (.cells #[.int .u64 xmin, .int .u64 xmax, .int .i64 xsum, .int .u64 xbits, .bool true] 214)) (fun _ _ h => h))
  have hN2 := blk_new (w1.setCell ⟨p, 3, none⟩ (.int .i64 ((ls.length : Int) + 1))) #[.int .u64 xmin, .int .u64 xmax, .int .i64 xsum, .int .u64 xbits, .bool true] 214
  rw [hz1'] at hN2
  have HN2 := Lib.hid hN2
  have HC2 := Lib.hid ((HC1.out.set (b := p) (i := 3) (.int .i64 ((ls.length : Int) + 1)) (.inl (.inl rfl))).alloc (.cells #[.int .u64 xmin, .int .u64 xmax, .int .i64 xsum, .int .u64 xbits, .bool true] 214))
  have HRES := Lib.hid (show ∀ (v' : Value) (w3 w4 : World), Chg (fun k => k = p ∨ v.ownBlock = some k) w w3 → w3.heap[p]? = some (.cells #[.pointer (some ⟨m, 0, none⟩), v, .slice none 0 0, .int .i64 ((ls.length : Int) + 1), .int .i64 limit] 154 (0, 0)) → w4.ownsRow base 214 5 v' (ls.length + 1) (ls.flatMap cellsV ++ [.int .u64 xmin, .int .u64 xmax, .int .i64 xsum, .int .u64 xbits, .bool true]) → w3.grownBy w4 v.ownBlock → (v'.ownBlock = v.ownBlock ∨ v'.ownBlock = some w3.heap.size) →
      PoV (w4.setCell ⟨p, 1, none⟩ v') base p m v' (ls ++ [⟨xmin, xmax, xsum, xbits⟩]) limit ∧ (v'.ownBlock = v.ownBlock ∨ ∃ g, v'.ownBlock = some g ∧ w.heap.size ≤ g) ∧ Chg (fun k => k = p ∨ v.ownBlock = some k) w (w4.setCell ⟨p, 1, none⟩ v') from fun v' w3 w4 hC h3 hr hg hv => by
    have hp4 := (hg.block p (blk_lt h3) (fun e => hpb p e.symm rfl)).trans h3
    have hne : ∀ g, v'.ownBlock = some g → ¬ (g = p) := fun g hg' => by
      rcases hv with h | h
      · exact hpb g (h.symm.trans hg')
      · rw [h] at hg'; cases hg'; have := blk_lt h3; omega
    refine ⟨⟨?_, ?_⟩, ?_, ?_⟩
    · rw [List.length_append]
      exact blk_set hp4 1 v'
    · rw [List.length_append, List.flatMap_append]
      exact rowG_chg hr ((Chg.refl (fun k => k = p) _).set _ (.inl rfl)) hne
    · rcases hv with h | h
      · exact .inl h
      · exact .inr ⟨_, h, hC.size⟩
    · exact ((hC.trans (Chg.of_grown hg (S := fun k => k = p ∨ v.ownBlock = some k) (fun b h => .inr h)) (fun _ _ h => h)).set _ (.inl (.inl rfl))))
  have HF := Lib.hid (show ∀ (w3 w4 : World), w3.grownBy w4 v.ownBlock → w3.heap[p]? = some (.cells #[.pointer (some ⟨m, 0, none⟩), v, .slice none 0 0, .int .i64 ((ls.length : Int) + 1), .int .i64 limit] 154 (0, 0)) → w4.heap[p]? = some (.cells #[.pointer (some ⟨m, 0, none⟩), v, .slice none 0 0, .int .i64 ((ls.length : Int) + 1), .int .i64 limit] 154 (0, 0)) from fun w3 w4 hg h3 => (hg.block p (blk_lt h3) (fun e => hpb p e.symm rfl)).trans h3)
  clear hN2 fz hpb hL hz1'
  go_wp2
  generalize (w1.setCell ⟨p, 3, none⟩ (.int .i64 ((ls.length : Int) + 1))).alloc (.cells #[.int .u64 xmin, .int .u64 xmax, .int .i64 xsum, .int .u64 xbits, .bool true] 214) = w2 at *
  have d0 := blk_cell HH2.out 0 rfl
  have d1 := blk_cell HH2.out 1 rfl
  have d3 := blk_cell HH2.out 3 rfl
  have d1' := blk_cell (blk_old HH2.out (.cells #[.int .u64 xmin, .int .u64 xmax, .int .i64 xsum, .int .u64 xbits, .bool true] 214)) 1 (v := v) rfl
  have n0 := blk_cell HN2.out 0 rfl
  have n1 := blk_cell HN2.out 1 rfl
  have n2 := blk_cell HN2.out 2 rfl
  have n3 := blk_cell HN2.out 3 rfl
  have nb := blk_cell HN2.out 4 rfl
  have HR3 := Lib.hid (fun o => rowG_chg (S := fun _ => False) HR2.out ((Chg.refl _ w2).alloc o) (fun _ _ h => h))
  have HONE := Lib.hid (show ∀ u ∈ ([.int .u64 xmin, .int .u64 xmax, .int .i64 xsum, .int .u64 xbits, .bool true] : List Value), u.oneCell' = true by intro u hu; simp at hu; rcases hu with rfl | rfl | rfl | rfl | rfl <;> rfl)
  have HQ1 := Lib.hid (show (ls.length + 1) * 40 ≤ 140737488355328 by omega)
  have HQ2 := Lib.hid (show ls.length + 1 ≤ maxLen by unfold maxLen; omega)
  have HBS := Lib.hid (show base ≤ w2.heap.size + 1 by have := HC2.out.size; omega)
  go_region_law (first | ((with_reducible refine gate_sbuiltin (b := .append) rfl ?_); refine step_pushR base v ls.length (ls.flatMap cellsV) [.int .u64 xmin, .int .u64 xmax, .int .i64 xsum, .int .u64 xbits, .bool true] _ _ _ rfl rfl Tryz.underlying152 hi hz0 hz1 hz2 rfl (by decide) rfl rfl (blk_new _ _ _) rfl HONE.out (HR3.out _) (by simpa using HBS.out) HQ1.out HQ2.out ?_; intro v4 w4 ho4 hg4 hv4; obtain ⟨g', cap', rfl⟩ := row_succ ho4; have h5 := HF.out _ _ hg4 (blk_old HH2.out _); have f4 := blk_free h5 1; have e4 := blk_cell h5 1 (v := v) rfl; clear h5; have h4 := HRES.out _ _ _ (HC2.out.alloc _).drew (blk_old HH2.out _) ho4 hg4 hv4; have HP5 := Lib.hid h4.1; have HV5 := Lib.hid h4.2.1; have HC5 := Lib.hid h4.2.2; clear h4 ho4 hg4 hv4))
  all_goals
    go_wp2
    go_ret2
    exact ⟨_, by first | rfl | (simp; omega), HP5.out, HV5.out, HC5.out⟩
end Go.Proofs.YtmpjjehihimadaaGreat
