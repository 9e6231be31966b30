/-
  veb.VEB: New, key, cluster, ends, single, fresh, walked.
-/
import Derived.Test.YtmpjjehihimadaaGreatVeb1
import Derived.Test.YtmpjjehihimadaaGreatHashV
namespace Go.Proofs.YtmpjjehihimadaaGreat
set_option linter.unusedVariables false
set_option linter.unusedSimpArgs false
open Go.RowKit

set_option maxRecDepth 100000 in
theorem vKey (w : World) : Calls Tryz.prog 143 #[.int .i64 0, .int .i64 64, .int .u64 0] w fun e w' => e = .returned (.agg #[.int .u8 64, .int .u64 0]) ∧ Hid (Below w.heap.size w w') := by
  go_enter Tryz.func143, Tryz.ntmps143
  go_wp2
  have hn := blk_new w #[.int .u8 64, .int .u64 0] 218
  have k0 := blk_cell hn 0 rfl
  have k1 := blk_cell hn 1 rfl
  refine bodyPost_ret (v := .agg #[.int .u8 64, .int .u64 0]) (by simp [results, Tryz.results143, go_sem, k0, k1]; decide +kernel) rfl ⟨rfl, (Below.refl _ w).alloc (Nat.le_refl _) _⟩
set_option maxRecDepth 100000 in
theorem vSingle (a b c q : Int) (w : World) : Calls Tryz.prog 130 #[.agg #[.int .u64 a, .int .u64 b, .int .i64 c, .int .u64 q]] w fun e w' => e = .returned (.bool (decide (a = b))) ∧ Hid (Below w.heap.size w w') := by
  go_enter Tryz.func130, Tryz.ntmps130
  go_wp2
  go_ret
  exact ⟨by first | rfl | exact ret_bool (by simp) | exact ret_bool (by rw [Bool.eq_iff_iff]; simp), (Below.refl _ w).alloc (Nat.le_refl _) _⟩
set_option maxRecDepth 100000 in
theorem vFresh (k wide : Int) (hw : wide = 64 ∨ wide = 32) (w : World) : Calls Tryz.prog 120 #[.int .u64 k, .int .i64 wide] w fun e w' => e = .returned (.agg #[.int .u64 k, .int .u64 k, .int .i64 (-1), .int .u64 0]) ∧ Hid (Below w.heap.size w w') := by
  have hn := blk_new w #[.int .u64 k, .int .u64 k, .int .i64 (-1), .int .u64 0] 112
  have k0 := blk_cell hn 0 rfl
  have k1 := blk_cell hn 1 rfl
  have k2 := blk_cell hn 2 rfl
  have k3 := blk_cell hn 3 rfl
  rcases hw with rfl | rfl
  all_goals
    go_enter Tryz.func120, Tryz.ntmps120
    go_wp2
    refine bodyPost_ret (v := .agg #[.int .u64 k, .int .u64 k, .int .i64 (-1), .int .u64 0]) (by simp [results, Tryz.results120, go_sem, k0, k1, k2, k3]) rfl ⟨rfl, (Below.refl _ w).alloc (Nat.le_refl _) _⟩
set_option maxRecDepth 100000 in
theorem vEnds (x : Ve) (wide : Int) (hw : wide = 64 ∨ wide = 32) (w : World) : Calls Tryz.prog 144 #[.agg #[.int .u64 x.min, .int .u64 x.max, .int .i64 x.sum, .int .u64 x.bits], .int .i64 wide] w fun e w' => e = .returned (.tuple #[.int .u64 x.min, .int .u64 x.max]) ∧ Hid (Below w.heap.size w w') := by
  have hn := blk_new w #[.int .u64 x.min, .int .u64 x.max, .int .i64 x.sum, .int .u64 x.bits] 112
  rcases hw with rfl | rfl
  all_goals
    go_enter Tryz.func144, Tryz.ntmps144
    go_wp2
    go_quiet (fail)
    go_wp2
    go_ret2
    exact ⟨rfl, below_drewN ((Below.refl _ w).alloc (Nat.le_refl _) _) _⟩
set_option maxRecDepth 100000 in
set_option maxHeartbeats 1000000 in
theorem vCluster (d : VD) (w : World) (h : VP w d) (b : Bool) (hF : ∀ ok, Fn d.es d.seed 64 0 ok → ok = b) (hV : ∀ x ∈ d.es, x.full = true → x.v = 1) : Calls Tryz.prog 136 #[.pointer (some ⟨d.t, 0, none⟩), .int .i64 0, .int .i64 64, .int .u64 0] w fun e w' => e = .returned (.tuple #[.int .i64 (if b = true then 1 else 0), .bool b]) ∧ Hid (VP w' d) ∧ Hid (Chg d.red w w') := by
  have H0 := Lib.hid h
  have HV := Lib.hid hV
  have HF := Lib.hid hF
  obtain ⟨c0, c1, c2, c3, c4⟩ := h.cells
  clear h hF hV
  go_enter Tryz.func136, Tryz.ntmps136
  go_wp2
  have HTD := Lib.hid H0.out.drewn
  obtain ⟨j, hj⟩ := H0.out.ti.size
  have HJ := Lib.hid hj
  have HFR := Lib.hid H0.out.ti.free
  clear hj
  go_region_law (first | ((with_reducible refine gate_scall (f := 143) rfl ?_); refine step_goes rfl Tryz.func143 (by kernel_rfl) rfl #[.int .i64 0, .int .i64 64, .int .u64 0] rfl (by simp only [List.map_toArray, List.map_cons, List.map_nil]; rfl) (vKey _) ?_; rintro e w1 ⟨rfl, HB1⟩; have H1 := Lib.hid (HTD.out.below HB1.out); have q2 := H1.out.cells.2.2.1; refine ⟨_, rfl, ?_⟩) | ((with_reducible refine gate_scall (f := 152) rfl ?_); refine step_goes rfl Tryz.func152 (by kernel_rfl) rfl #[.pointer (some ⟨d.h, 0, none⟩), .agg #[.int .u8 64, .int .u64 0]] rfl (by simp only [List.map_toArray, List.map_cons, List.map_nil]; rfl) (hGet d.h d.g d.m j d.es d.seed d.tn _ _ _ H1.out.tb H1.out.mt HJ.out HFR.out) ?_; rintro e w2 ⟨v, ok, rfl, HVV, HFN, HT2, HM2, HC2⟩; refine ⟨_, rfl, ?_⟩))
  all_goals
    have HX2 := Lib.hid (H1.out.reads HT2.out HM2.out (HC2.out.mono (fun _ _ e => e)))
    have HCC := Lib.hid ((((Chg.refl d.red w).drew).then (Chg.of_below HB1.out)).then (HC2.out.mono (T := d.red) (fun _ _ e => e)))
    obtain rfl : ok = b := HF.out _ HFN.out
    obtain rfl : v = (if ok = true then 1 else 0) := by
      rcases HVV.out with ⟨rfl, rfl⟩ | ⟨rfl, i, hi, h1, _, _, h4⟩
      · rfl
      · rw [← h4]; exact HV.out _ (List.getElem_mem hi) h1
    clear HTD H1 HT2 HM2 HC2 q2 c0 c1 c2 c3 c4 H0 HVV HFN HB1 HF
    cases ok
    all_goals
      go_wp2
      go_ret2
      exact ⟨rfl, HX2.out, HCC.out⟩
set_option maxRecDepth 100000 in
theorem vNew (seed limit : Int) (w : World) (h0 : 0 ≤ limit) (h1 : limit ≤ 1048576) : Calls Tryz.prog 44 #[.int .u64 seed, .int .i64 limit] w fun e w' => ∃ d : VD, e = .returned (.tuple #[.pointer (some ⟨d.t, 0, none⟩), .int .i64 0]) ∧ Hid (VP w' d) ∧ Hid (d.ls = [] ∧ d.limit = limit ∧ d.seed = seed ∧ d.n = 0 ∧ d.tn = 0 ∧ ∀ x ∈ d.es, x = e0) ∧ Hid (∀ q, d.own q → w.heap.size ≤ q) ∧ Hid (Below w.heap.size w w') := by
  go_enter Tryz.func44, Tryz.ntmps44
  go_wp2_with fail
  refine (mtNew _).mono ?_
  rintro e w1 ⟨rfl, hw1⟩
  have HM1 := Lib.hid (show Mt w1 w.heap.size from ⟨_, _, _, _, _, by rw [hw1]; exact blk_new w _ _⟩)
  have HB1 := Lib.hid (show Below w.heap.size w w1 by rw [hw1]; exact (Below.refl _ w).alloc (Nat.le_refl _) _)
  have hz1 : w.heap.size < w1.heap.size := by rw [hw1]; simp
  clear hw1
  go_wp2_with fail
  refine (pvNew w.heap.size limit _ h0 h1).mono ?_
  rintro e w2 ⟨p, rfl, hp, HP2, hb2⟩
  have HB2 := Lib.hid hb2
  have hz2 := hb2.size
  clear hb2
  go_wp2_with fail
  refine (hNew w.heap.size seed _).mono ?_
  rintro e w3 ⟨t, g, es, rfl, ht, hg, HT, HI, HE, HB3⟩
  have HB3' := Lib.hid HB3
  have hz3 := HB3.size
  clear HB3
  have hA := (Below.refl w3.heap.size w3).alloc (Nat.le_refl _) (.cells #[.pointer (some ⟨w.heap.size, 0, none⟩), .pointer (some ⟨p, 0, none⟩), .pointer (some ⟨t, 0, none⟩), .int .i64 (-1), .int .i64 0] 116)
  have HX := Lib.hid (show VP (w3.alloc (.cells #[.pointer (some ⟨w.heap.size, 0, none⟩), .pointer (some ⟨p, 0, none⟩), .pointer (some ⟨t, 0, none⟩), .int .i64 (-1), .int .i64 0] 116)) ⟨w3.heap.size, p, t, g, w.heap.size, es, seed, 0, .slice none 0 0, [], limit, -1, 0⟩ from
    ⟨blk_new _ _ _, ⟨blk_below (blk_below HP2.out.head HB3'.out rfl) hA rfl, rfl, .inl ⟨rfl, rfl⟩⟩, HT.out.chg (S := fun _ => False) (Chg.of_below hA) (fun h => h) (fun h => h), ((HM1.out.below HB2.out).below HB3'.out).below hA, HI.out, ⟨h0, h1⟩, by simp⟩)
  have HO := Lib.hid (((HB1.out.trans (HB2.out.mono (by omega))).trans (HB3'.out.mono (by omega))).trans (hA.mono (by omega)))
  clear hA
  go_wp2
  go_ret2
  refine ⟨⟨w3.heap.size, p, t, g, w.heap.size, es, seed, 0, .slice none 0 0, [], limit, -1, 0⟩, rfl, HX.out, ⟨rfl, rfl, rfl, rfl, rfl, HE.out⟩, ?_, HO.out⟩
  rintro q (e | e | e | e | e | e)
  all_goals first | (simp only at e; omega) | cases e
end Go.Proofs.YtmpjjehihimadaaGreat
