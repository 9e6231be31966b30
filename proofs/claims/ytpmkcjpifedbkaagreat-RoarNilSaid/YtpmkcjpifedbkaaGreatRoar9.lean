/-
  The document's example for package roar answers true.
-/
import Derived.Test.YtpmkcjpifedbkaaGreatRoar8
namespace Go.Proofs.YtpmkcjpifedbkaaGreat
set_option linter.unusedVariables false
set_option linter.unusedSimpArgs false
open Go.RowKit
attribute [local go_sem ↓] Go.wp_at_zero Go.wp_at_succ

set_option maxRecDepth 100000 in
set_option maxHeartbeats 1000000 in
theorem roarLen2 (t m E cap b : Nat) (A : Option Addr) (c : Nat) (used : Int) (w : World) (hR : R1 w t m E cap b A [5, 9] c used) :
    Calls Tryz.prog 14 #[.pointer (some ⟨t, 0, none⟩)] w fun e w' => e = .returned (.int .i64 2) ∧ Below w.heap.size w w' := by
  have HR := Lib.hid hR
  have q1 := blk_cell hR.1.1 1 rfl
  clear hR
  go_enter Tryz.func14, Tryz.ntmps14
  go_wp2
  go_loopw [3, 5, 13] (fun v3 _ v13 wr => ((v13 = .int .i64 0 ∧ v3 = .int .i64 0) ∨ (v13 = .int .i64 1 ∧ v3 = .int .i64 2)) ∧ Below w.heap.size w wr) (fun _ _ v13 _ => 1 - (intOf v13).toNat)
  case atStart => exact ⟨.inl ⟨rfl, rfl⟩, Below.refl _ _⟩
  case round =>
    obtain ⟨⟨rfl, rfl⟩ | ⟨rfl, rfl⟩, hb⟩ := hrel
    · have HR1 := Lib.hid (HR.out.below hb)
      obtain ⟨cur, e1, e2, e3⟩ := HR1.out.2.1
      have y0 := blk_cell e1 0 e2
      have y1 := blk_cell e1 1 e3
      clear e1 e2 e3
      have HR2 := Lib.hid (HR1.out.below ((Below.refl wr.heap.size wr).alloc (Nat.le_refl _) (.cells #[.int .u64 0, .pointer (some ⟨b, 0, none⟩)] 47)))
      have HB2 := Lib.hid (hb.alloc hb.size (.cells #[.int .u64 0, .pointer (some ⟨b, 0, none⟩)] 47))
      go_wp2_with fail
      refine (boxLen b A c [5, 9] _ HR2.out.2.2.1 HR2.out.2.2.rd rise59 (by decide)).mono ?_
      rintro e w3 ⟨rfl, hb3⟩
      have HB3 := Lib.hid (HB2.out.trans (hb3.mono HB2.out.size))
      clear hb3
      go_wp2
      go_roundw
      case rel => exact ⟨.inr ⟨rfl, rfl⟩, HB3.out⟩
      case measure => simp [intOf]
    · go_wp2
      go_ret
      exact ⟨rfl, hb⟩
theorem next6 : nextR [5, 9] 6 = (9, true) := by decide
theorem prev8 : prevR [5, 9] 8 = (5, true) := by decide
set_option maxRecDepth 100000 in
set_option maxHeartbeats 4000000 in
theorem awake17 (W : World) : Calls Tryz.prog 4 #[] W fun e W' => e = .returned (.bool true) ∧ Below W.heap.size W W' := by
  go_enter Tryz.func4, Tryz.ntmps4
  go_wp2_with fail
  refine (new4000 _).mono ?_
  rintro e w1 ⟨t, m, rfl, ht, hm, hR1, hb1⟩
  have hs1 := hb1.size
  go_wp2_with fail
  refine (insert5 W.heap.size t m _ hR1 ht hm hs1).mono ?_
  rintro e w2 ⟨E, cap, b, A, c, rfl, hR2, hO2, hcap, hE, hb2⟩
  have hb02 := hb1.trans hb2
  have hs2 := hb02.size
  go_wp2_with fail
  refine (insert9 W.heap.size t m E cap b A c _ hR2 hO2 hcap ht hm hE hs2).mono ?_
  rintro e w3 ⟨E3, cap3, b3, A3, c3, rfl, hR3, hb3⟩
  have hb03 := hb02.trans hb3
  have hs3 := hb03.size
  go_wp2_with fail
  refine (insertEx t m E3 cap3 b3 A3 c3 3 _ hR3).mono ?_
  rintro e w4 ⟨rfl, hR4, hg4⟩
  have hb04 := hb03.trans (below_of_grown hg4 hm hs3)
  have hs4 := hb04.size
  go_wp2_with fail
  refine (roarNextOne t m E3 cap3 b3 A3 [5, 9] c3 3 6 9 _ hR4 rise59 (by decide) (by decide) (by decide) next6 (by decide) (by decide)).mono ?_
  rintro e w5 ⟨rfl, hR5, hg5⟩
  have hb05 := hb04.trans (below_of_grown hg5 hm hs4)
  have hs5 := hb05.size
  go_wp2_with fail
  refine (roarPrevOne t m E3 cap3 b3 A3 [5, 9] c3 3 8 5 _ hR5 rise59 (by decide) (by decide) (by decide) prev8 (by decide) (by decide)).mono ?_
  rintro e w6 ⟨rfl, hR6, hg6⟩
  have hb06 := hb05.trans (below_of_grown hg6 hm hs5)
  have hs6 := hb06.size
  go_wp2_with fail
  refine (roarLen2 t m E3 cap3 b3 A3 c3 3 _ hR6).mono ?_
  rintro e w7 ⟨rfl, hb7⟩
  have HB := Lib.hid (hb06.trans (hb7.mono hs6))
  clear hb7
  go_wp2
  go_ret
  exact ⟨rfl, HB.out⟩
end Go.Proofs.YtpmkcjpifedbkaaGreat
