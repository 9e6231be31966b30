/-
  roar's lay in the place of a box, walked for the document's example.
-/
import Derived.Test.YtpmkcjpifedbkaaGreatRoar5
namespace Go.Proofs.YtpmkcjpifedbkaaGreat
set_option linter.unusedVariables false
set_option linter.unusedSimpArgs false
open Go.RowKit
attribute [local go_sem ↓] Go.wp_at_zero Go.wp_at_succ

theorem rise59 : Rise [5, 9] := ⟨by decide, trivial⟩
set_option maxRecDepth 100000 in
set_option maxHeartbeats 4000000 in
theorem lay1 (base t m E cap b b' : Nat) (A A' : Option Addr) (c c' : Nat) (w : World) (hR : R1 w t m E cap b A [5] c 2) (hO : OwE w base (.slice (some ⟨E, 0, none⟩) 1 cap) b) (hcap : 1 ≤ cap) (hB : Bx w b' A' [5, 9] c') (hbt : base ≤ t) (hbE : base ≤ E) (hbw : base ≤ w.heap.size) :
    Calls Tryz.prog 30 #[.pointer (some ⟨t, 0, none⟩), .int .i64 0, .bool true, .int .u64 0, .pointer (some ⟨b', 0, none⟩)] w fun e w' => ∃ E' cap', e = .returned (.int .i64 0) ∧ R1 w' t m E' cap' b' A' [5, 9] c' 3 ∧ Below base w w' := by
  have HR := Lib.hid hR
  have HB := Lib.hid hB
  have HO := Lib.hid hO
  have q1 := blk_cell hR.1.1 1 rfl
  have htl := blk_lt hR.1.1
  obtain ⟨cur, e1, e2, e3⟩ := hR.2.1
  have y1 := blk_cell e1 1 e3
  clear hR hB hO e1 e2 e3
  go_enter Tryz.func30, Tryz.ntmps30
  go_wp2_with fail
  refine (cost0 b A [5] c _ HR.out.2.2 trivial (by simp)).mono ?_
  rintro e w1 ⟨rfl, hb1⟩
  go_wp2_with fail
  refine (boxLen b' A' c' [5, 9] _ (HB.out.below hb1).1 (HB.out.below hb1).rd rise59 (by simp)).mono ?_
  rintro e w2 ⟨rfl, hb2⟩
  have hb02 := below_then hb1 hb2
  go_wp2_with fail
  refine (cost0 b' A' [5, 9] c' _ (HB.out.below hb02) rise59 (by simp)).mono ?_
  rintro e w3 ⟨rfl, hb3⟩
  have hb03 := below_then hb02 hb3
  have HR3 := Lib.hid (HR.out.below hb03)
  have q31 := blk_cell HR3.out.1.1 1 rfl
  have q32 := blk_cell HR3.out.1.1 2 rfl
  have q33 := blk_cell HR3.out.1.1 3 rfl
  go_wp2_with fail
  go_quiet (fail)
  have hb4 := below_drewN (Below.refl w3.heap.size w3) nq
  generalize w3.drewN nq = w4 at *
  have hb04 := below_then hb03 hb4
  go_wp2_with fail
  refine (boxLen b' A' c' [5, 9] _ (HB.out.below hb04).1 (HB.out.below hb04).rd rise59 (by simp)).mono ?_
  rintro e w5 ⟨rfl, hb5⟩
  have hb05 := below_then hb04 hb5
  have hb06 := hb05.alloc hb05.size (.cells #[.int .u64 0, .pointer (some ⟨b', 0, none⟩)] 47)
  have HR6 := Lib.hid (HR.out.below hb06)
  have HB6 := Lib.hid (HB.out.below hb06)
  have HO6 := Lib.hid (HO.out.grown (grown_of_below (row := none) hb06) (.inr rfl))
  have HR5 := Lib.hid (HR.out.below hb05)
  have q51 := blk_cell HR5.out.1.1 1 rfl
  have htl5 := blk_lt HR5.out.1.1
  have hs6 := Nat.le_trans hbw hb06.size
  clear q31 q32 q33 q1 y1
  go_wp2_with fail
  refine (repl1 base _ b' b E cap _ (heap_alloc_new _ _) HO6.out hcap hs6).mono ?_
  rintro e w7 ⟨v, rfl, HO7, hg7⟩
  obtain ⟨E2, cap2, rfl, hE2, hcap2, hen⟩ := HO7.form
  have hEt := HR6.out.2.1.not_ro HR6.out.1
  have HR7 := Lib.hid (show Ro w7 t m (.slice (some ⟨E, 0, none⟩) 1 cap) 2 from ⟨by rw [hg7.block t (blk_lt HR6.out.1.1) (fun e => hEt (by injection e with e; exact e.symm))]; exact HR6.out.1.1, met_grown HR6.out.1.2 hg7 (fun e => HR6.out.2.1.not_met HR6.out.1.2 e.symm)⟩)
  have HB7 := Lib.hid (HB6.out.kept hg7 (fun j e cs T h' => by obtain ⟨cur, z1, _⟩ := HR6.out.2.1; rw [typ_of z1 j e cs T h']; decide))
  have HE7 := Lib.hid hen
  have HB07 := Lib.hid (Below.trans (hb06.mono hbw) (show Below base _ w7 from ⟨hg7.os, hg7.tape, hg7.output, hg7.size, fun k hk => hg7.block k (by omega) (fun e => by injection e with e; omega)⟩))
  have q70 := blk_cell HR7.out.1 1 rfl
  have q71 := blk_cell HR7.out.1 2 rfl
  have f71 := blk_free HR7.out.1 1
  have f72 := blk_free HR7.out.1 2
  clear hen HO7 hg7 hb06 q51
  go_wp2
  go_ret
  refine ⟨E2, cap2, rfl, ?_, ?_⟩
  · exact R1.stored HR7.out HE7.out HB7.out 0 _
  · exact ((HB07.out.setCell (p := ⟨t, 1, none⟩) hbt _).setCell (p := ⟨t, 2, none⟩) hbt _)
end Go.Proofs.YtpmkcjpifedbkaaGreat
