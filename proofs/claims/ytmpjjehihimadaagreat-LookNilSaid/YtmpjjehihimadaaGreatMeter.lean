/-
  count.Meter, walked: whatever it has counted.
-/
import Derived.Test.YtmpjjehihimadaaGreatChg
import Derived.StillTailTactics
namespace Go.Proofs.YtmpjjehihimadaaGreat
set_option linter.unusedVariables false
set_option linter.unusedSimpArgs false
open Go.RowKit
attribute [local go_sem] gmax2_int gmin2_int gmax_two gmin_two

/-- a meter -/
def Mt (w : World) (m : Nat) : Prop := ∃ a b c d e : Int, w.heap[m]? = some (.cells #[.int .i64 a, .int .i64 b, .int .i64 c, .int .i64 d, .int .i64 e] 151 (0, 0))
theorem Mt.below {w w' : World} {m : Nat} (h : Mt w m) (hb : Below w.heap.size w w') : Mt w' m := by
  obtain ⟨a, b, c, d, e, h⟩ := h
  exact ⟨a, b, c, d, e, (hb.block m (blk_lt h)).trans h⟩
theorem Mt.chg {S : Nat → Prop} {w w' : World} {m : Nat} (h : Mt w m) (hc : Chg S w w') (hn : ¬ S m) : Mt w' m := by
  obtain ⟨a, b, c, d, e, h⟩ := h
  exact ⟨a, b, c, d, e, hc.blk h hn⟩
theorem mtNew (w : World) : Calls Tryz.prog 57 #[] w fun e w' => e = .returned (.pointer (some ⟨w.heap.size, 0, none⟩)) ∧ w' = w.alloc (.cells #[.int .i64 0, .int .i64 0, .int .i64 0, .int .i64 0, .int .i64 0] 151) := by
  go_enter Tryz.func57, Tryz.ntmps57
  go_wp2
  go_ret
  exact ⟨rfl, rfl⟩
set_option maxRecDepth 100000 in
theorem mtStart (m : Nat) (w : World) (h : Mt w m) : Calls Tryz.prog 134 #[.pointer (some ⟨m, 0, none⟩)] w fun e w' => e = .returned (.tuple #[]) ∧ Hid (Mt w' m) ∧ Hid (Chg (· = m) w w') := by
  obtain ⟨a, b, c, d, e, h⟩ := h
  have q2 := blk_cell h 2 rfl
  have q4 := blk_cell h 4 rfl
  have f2 := blk_free h 2
  have f4 := blk_free h 4
  have H := Lib.hid h
  clear h
  go_enter Tryz.func134, Tryz.ntmps134
  go_wp2
  go_end0
  exact ⟨rfl, ⟨_, _, _, _, _, blk_set (blk_set H.out 2 _) 4 _⟩, ((Chg.refl (fun k => k = m) w).set _ (.inl rfl)).set _ (.inl rfl)⟩
set_option maxRecDepth 100000 in
theorem mtStep (m : Nat) (w : World) (h : Mt w m) : Calls Tryz.prog 163 #[.pointer (some ⟨m, 0, none⟩)] w fun e w' => e = .returned (.tuple #[]) ∧ Hid (Mt w' m) ∧ Hid (Chg (· = m) w w') := by
  obtain ⟨a, b, c, d, e, h⟩ := h
  have q2 := blk_cell h 2 rfl
  have q3 := blk_cell h 3 rfl
  have f2 := blk_free h 2
  have f3 := blk_free h 3
  have H := Lib.hid h
  clear h
  go_enter Tryz.func163, Tryz.ntmps163
  go_wp2
  go_region
  all_goals
    go_wp2
    all_goals
      go_end0
      exact ⟨rfl, ⟨_, _, _, _, _, blk_set (blk_set H.out 2 _) 3 _⟩, (((Chg.refl (fun k => k = m) w).set _ (.inl rfl)).set _ (.inl rfl)).drew⟩
set_option maxRecDepth 100000 in
theorem mtCall (m : Nat) (w : World) (h : Mt w m) : Calls Tryz.prog 99 #[.pointer (some ⟨m, 0, none⟩)] w fun e w' => e = .returned (.tuple #[]) ∧ Hid (Mt w' m) ∧ Hid (Chg (· = m) w w') := by
  obtain ⟨a, b, c, d, e, h⟩ := h
  have q2 := blk_cell h 1 rfl
  have f2 := blk_free h 1
  have H := Lib.hid h
  clear h
  go_enter Tryz.func99, Tryz.ntmps99
  have HM := Lib.hid (fun x => show Mt (w.setCell ⟨m, 1, none⟩ (.int .i64 x)) m from ⟨_, _, _, _, _, blk_set H.out 1 _⟩)
  have HC := Lib.hid (fun x => show Chg (· = m) w (w.setCell ⟨m, 1, none⟩ (.int .i64 x)) from (Chg.refl (fun k => k = m) w).set _ (.inl rfl))
  go_wp2_with fail
  refine (mtStep m _ (HM.out _)).mono ?_
  rintro e w1 ⟨rfl, H1, H2⟩
  have HC2 := Lib.hid ((HC.out _).then H2.out)
  go_wp2
  go_end0
  exact ⟨rfl, H1.out, HC2.out⟩
set_option maxRecDepth 100000 in
theorem mtRead (m : Nat) (w : World) (h : Mt w m) : Calls Tryz.prog 153 #[.pointer (some ⟨m, 0, none⟩)] w fun e w' => e = .returned (.tuple #[]) ∧ Hid (Mt w' m) ∧ Hid (Chg (· = m) w w') := by
  obtain ⟨a, b, c, d, e, h⟩ := h
  have q2 := blk_cell h 0 rfl
  have f2 := blk_free h 0
  have H := Lib.hid h
  clear h
  go_enter Tryz.func153, Tryz.ntmps153
  have HM := Lib.hid (fun x => show Mt (w.setCell ⟨m, 0, none⟩ (.int .i64 x)) m from ⟨_, _, _, _, _, blk_set H.out 0 _⟩)
  have HC := Lib.hid (fun x => show Chg (· = m) w (w.setCell ⟨m, 0, none⟩ (.int .i64 x)) from (Chg.refl (fun k => k = m) w).set _ (.inl rfl))
  go_wp2_with fail
  refine (mtStep m _ (HM.out _)).mono ?_
  rintro e w1 ⟨rfl, H1, H2⟩
  have HC2 := Lib.hid ((HC.out _).then H2.out)
  go_wp2
  go_end0
  exact ⟨rfl, H1.out, HC2.out⟩
end Go.Proofs.YtmpjjehihimadaaGreat
