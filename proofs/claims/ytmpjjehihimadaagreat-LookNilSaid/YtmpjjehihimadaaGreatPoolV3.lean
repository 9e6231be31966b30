/-
  pool.Pool of a veb's nodes: At, walked.
-/
import Derived.Test.YtmpjjehihimadaaGreatPoolV2
namespace Go.Proofs.YtmpjjehihimadaaGreat
set_option linter.unusedVariables false
set_option linter.unusedSimpArgs false
open Go.RowKit

theorem putV {S : Nat → Prop} {w w' : World} (h : Chg S w w') {b : Nat} (x0 x1 x2 x3 : Value) (hb : S b ∨ w.heap.size ≤ b) : Chg S w ((((w'.setCell ⟨b, 0, none⟩ x0).setCell ⟨b, 1, none⟩ x1).setCell ⟨b, 2, none⟩ x2).setCell ⟨b, 3, none⟩ x3) := ((((h.set x0 hb).set x1 hb).set x2 hb).set x3 hb)
set_option maxRecDepth 100000 in
set_option maxHeartbeats 1000000 in
theorem pvAt {base : Nat} (p m : Nat) (v : Value) (ls : List Ve) (limit : Int) (w : World) (h : PoV w base p m v ls limit) (i : Int) (hM : Mt w m) (hb : base ≤ w.heap.size) : Calls Tryz.prog 139 #[.pointer (some ⟨p, 0, none⟩), .int .i64 i] w fun e w' => ∃ (x : Ve) (b : Bool), e = .returned (.tuple #[.agg #[.int .u64 x.min, .int .u64 x.max, .int .i64 x.sum, .int .u64 x.bits], .bool b]) ∧ Hid (b = decide (0 ≤ i ∧ i < ls.length)) ∧ Hid (b = true → ∃ hi : i.toNat < ls.length, x = ls[i.toNat]) ∧ Hid (b = false → x = ⟨0, 0, 0, 0⟩) ∧ Hid (PoV w' base p m v ls limit) ∧ Hid (Mt w' m) ∧ Hid (Chg (fun k => k = m) w w') := by
  have hA := (Below.refl w.heap.size w).alloc (Nat.le_refl _) (.cells #[.int .u64 0, .int .u64 0, .int .i64 0, .int .u64 0] 112)
  have H0 := Lib.hid (h.below hA)
  have HM0 := Lib.hid (hM.below hA)
  have HC0 := Lib.hid (Chg.of_below (S := fun k => k = m) hA)
  have hk := blk_new w #[.int .u64 0, .int .u64 0, .int .i64 0, .int .u64 0] 112
  have HK0 := Lib.hid hk
  have hne := h.ne_mt hM
  have hpl := h.cells.2.2.2.2.2.2
  have hvl := h.own_lt
  have hml : m < w.heap.size := by obtain ⟨a, b, c, d, e, h0⟩ := hM; exact blk_lt h0
  clear h hM hk hA
  go_enter Tryz.func139, Tryz.ntmps139
  go_wp2_with fail
  generalize hw0 : w.alloc (.cells #[.int .u64 0, .int .u64 0, .int .i64 0, .int .u64 0] 112) = w0 at *
  refine (pvPeek p m v ls limit _ H0.out i (by rw [← hw0]; simp; omega)).mono ?_
  have hz0 : w.heap.size < w0.heap.size := by rw [← hw0]; simp
  clear hw0
  rintro e w1 ⟨x, rfl, HX, HZ, HB1⟩
  obtain ⟨b, hbb⟩ : ∃ b, decide (0 ≤ i ∧ i < (ls.length : Int)) = b := ⟨_, rfl⟩
  have HBB := Lib.hid hbb
  rw [hbb]
  clear hbb
  obtain ⟨xmin, xmax, xsum, xbits⟩ := x
  have hB2 := (Below.refl w1.heap.size w1).alloc (Nat.le_refl _) (.cells #[.int .u64 xmin, .int .u64 xmax, .int .i64 xsum, .int .u64 xbits] 112)
  have H2 := Lib.hid ((H0.out.below HB1.out).below hB2)
  have HM2 := Lib.hid ((HM0.out.below HB1.out).below hB2)
  have HC2 := Lib.hid ((HC0.out.then (Chg.of_below HB1.out)).then (Chg.of_below hB2))
  have HK2 := Lib.hid (blk_below (blk_below HK0.out HB1.out rfl) hB2 rfl)
  have HN2 := Lib.hid (blk_new w1 #[.int .u64 xmin, .int .u64 xmax, .int .i64 xsum, .int .u64 xbits] 112)
  obtain ⟨c0, _⟩ := H2.out.cells
  clear hB2 H0 HM0 HC0 HK0
  cases b
  · have f0 := blk_free HK2.out 0
    have f1 := blk_free HK2.out 1
    have f2 := blk_free HK2.out 2
    have f3 := blk_free HK2.out 3
    have s0 := blk_cell HK2.out 0 rfl
    have s1 := blk_cell HK2.out 1 rfl
    have s2 := blk_cell HK2.out 2 rfl
    have s3 := blk_cell HK2.out 3 rfl
    have n0 := blk_cell HN2.out 0 rfl
    have n1 := blk_cell HN2.out 1 rfl
    have n2 := blk_cell HN2.out 2 rfl
    have n3 := blk_cell HN2.out 3 rfl
    have HP3 := Lib.hid (H2.out.chg (S := (· = w.heap.size)) (putV (Chg.refl _ _) (.int .u64 xmin) (.int .u64 xmax) (.int .i64 xsum) (.int .u64 xbits) (.inl rfl)) (by omega) (fun g hg => by have := hvl g hg; omega))
    have HM3 := Lib.hid (HM2.out.chg (S := (· = w.heap.size)) (putV (Chg.refl _ _) (.int .u64 xmin) (.int .u64 xmax) (.int .i64 xsum) (.int .u64 xbits) (.inl rfl)) (by omega))
    have HC3 := Lib.hid (putV HC2.out (.int .u64 xmin) (.int .u64 xmax) (.int .i64 xsum) (.int .u64 xbits) (b := w.heap.size) (.inr (Nat.le_refl _)))
    go_wp2
    have h3 := (blk_set (blk_set (blk_set (blk_set HK2.out 0 (.int .u64 xmin)) 1 (.int .u64 xmax)) 2 (.int .i64 xsum)) 3 (.int .u64 xbits))
    have k0 := blk_cell h3 0 rfl
    have k1 := blk_cell h3 1 rfl
    have k2 := blk_cell h3 2 rfl
    have k3 := blk_cell h3 3 rfl
    refine bodyPost_ret (v := .tuple #[.agg #[.int .u64 xmin, .int .u64 xmax, .int .i64 xsum, .int .u64 xbits], .bool false]) (by simp [results, Tryz.results139, go_sem, k0, k1, k2, k3]) rfl ⟨⟨xmin, xmax, xsum, xbits⟩, false, rfl, HBB.out.symm, fun h => (by cases h), fun _ => HZ.out (of_decide_eq_false HBB.out), HP3.out, HM3.out, HC3.out⟩
  · go_wp2_with fail
    refine (mtRead m _ HM2.out).mono ?_
    rintro e w3 ⟨rfl, HMr, HCr⟩
    have hw1 : m < w1.heap.size := by have h1 := HB1.out.size; omega
    have H3 := Lib.hid (H2.out.chg HCr.out hne.1 hne.2)
    have HC3' := Lib.hid (HC2.out.then HCr.out)
    have HK3 := Lib.hid (HCr.out.blk HK2.out (by omega))
    have HN3 := Lib.hid (HCr.out.blk HN2.out (by omega))
    have HI := Lib.hid (show 0 ≤ i ∧ i < (ls.length : Int) from of_decide_eq_true HBB.out)
    have f0 := blk_free HK3.out 0
    have f1 := blk_free HK3.out 1
    have f2 := blk_free HK3.out 2
    have f3 := blk_free HK3.out 3
    have s0 := blk_cell HK3.out 0 rfl
    have s1 := blk_cell HK3.out 1 rfl
    have s2 := blk_cell HK3.out 2 rfl
    have s3 := blk_cell HK3.out 3 rfl
    have n0 := blk_cell HN3.out 0 rfl
    have n1 := blk_cell HN3.out 1 rfl
    have n2 := blk_cell HN3.out 2 rfl
    have n3 := blk_cell HN3.out 3 rfl
    have HP4 := Lib.hid (H3.out.chg (S := (· = w.heap.size)) (putV (Chg.refl _ _) (.int .u64 xmin) (.int .u64 xmax) (.int .i64 xsum) (.int .u64 xbits) (.inl rfl)) (by omega) (fun g hg => by have := hvl g hg; omega))
    have HM4 := Lib.hid (HMr.out.chg (S := (· = w.heap.size)) (putV (Chg.refl _ _) (.int .u64 xmin) (.int .u64 xmax) (.int .i64 xsum) (.int .u64 xbits) (.inl rfl)) (by omega))
    have HC4 := Lib.hid (putV HC3'.out (.int .u64 xmin) (.int .u64 xmax) (.int .i64 xsum) (.int .u64 xbits) (b := w.heap.size) (.inr (Nat.le_refl _)))
    clear HCr H2 HM2 HC2 HK2 HN2
    go_wp2
    have h3 := (blk_set (blk_set (blk_set (blk_set HK3.out 0 (.int .u64 xmin)) 1 (.int .u64 xmax)) 2 (.int .i64 xsum)) 3 (.int .u64 xbits))
    have k0 := blk_cell h3 0 rfl
    have k1 := blk_cell h3 1 rfl
    have k2 := blk_cell h3 2 rfl
    have k3 := blk_cell h3 3 rfl
    refine bodyPost_ret (v := .tuple #[.agg #[.int .u64 xmin, .int .u64 xmax, .int .i64 xsum, .int .u64 xbits], .bool true]) (by simp [results, Tryz.results139, go_sem, k0, k1, k2, k3]) rfl ⟨⟨xmin, xmax, xsum, xbits⟩, true, rfl, HBB.out.symm, fun _ => HX.out HI.out, fun h => (by cases h), HP4.out, HM4.out, HC4.out⟩
end Go.Proofs.YtmpjjehihimadaaGreat
