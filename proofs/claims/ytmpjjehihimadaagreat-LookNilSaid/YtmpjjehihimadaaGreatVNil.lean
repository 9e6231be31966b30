/-
  Nil sets and cursors of package look: their answers; nothing comes of a nil cursor's rest; walked.
-/
import Derived.RangeFuncNested
import Derived.RangeFuncBound
import Derived.RangeFuncCalls
import Derived.RangeFuncLeaves
import Derived.RangeFuncFrom
import Derived.Shelf.Abstract
import Derived.Shelf.RegionOpen
import Derived.WalkKit
import Derived.OwnWalkIn
import Derived.TacticsInMore
import Derived.LoopNIn
import Derived.LoopIn
import Derived.Test.YtmpjjehihimadaaGreatVLook
namespace Go.Proofs.YtmpjjehihimadaaGreat
set_option linter.unusedVariables false
set_option linter.unusedSimpArgs false
open Go.RowKit Go.Shelf
attribute [local go_sem] Oper.semAt_some

theorem cell_of_box_l {W : World} {B : Nat} {v : Value} {t : TypeId} (h : W.heap[B]? = some (.cells #[v] t (0, 0))) : W.cell? ⟨B, 0, none⟩ = some v := by simp [World.cell?, h]
theorem cell_new_l (W : World) (v : Value) (t : TypeId) : (W.alloc (.cells #[v] t)).cell? ⟨W.heap.size, 0, none⟩ = some v := by
  exact cell_of_box_l (World.alloc_heap_new W _)
theorem cell_alloc_l {W : World} {a : Addr} {v : Value} (o : Obj) (h : W.cell? a = some v) : (W.alloc o).cell? a = some v := cell_kept h (World.grownBy_alloc W o none) (fun r e => by cases e)
set_option maxRecDepth 100000 in
theorem nilMay (w : World) : Calls Tryz.prog 19 #[.pointer none] w fun e w' => e = .returned (.int .i64 3) ∧ w' = w := by
  go_enter Tryz.func19, Tryz.ntmps19
  go_wp2
  go_ret
  exact ⟨rfl, rfl⟩
set_option maxRecDepth 100000 in
theorem nilNext (w : World) : Calls Tryz.prog 7 #[.pointer none] w fun e w' => e = .returned (.tuple #[.int .u64 0, .int .i64 3]) ∧ w' = w := by
  go_enter Tryz.func7, Tryz.ntmps7
  go_wp2_with fail
  refine (nilMay _).mono ?_
  rintro e w1 ⟨rfl, rfl⟩
  go_wp2
  go_ret2
  exact ⟨rfl, rfl⟩
set_option maxRecDepth 100000 in
theorem nilPrev (w : World) : Calls Tryz.prog 8 #[.pointer none] w fun e w' => e = .returned (.tuple #[.int .u64 0, .int .i64 3]) ∧ w' = w := by
  go_enter Tryz.func8, Tryz.ntmps8
  go_wp2_with fail
  refine (nilMay _).mono ?_
  rintro e w1 ⟨rfl, rfl⟩
  go_wp2
  go_ret2
  exact ⟨rfl, rfl⟩
set_option maxRecDepth 100000 in
theorem nilSeek (k : Int) (w : World) : Calls Tryz.prog 9 #[.pointer none, .int .u64 k] w fun e w' => e = .returned (.tuple #[.int .u64 0, .int .i64 3]) ∧ w' = w := by
  go_enter Tryz.func9, Tryz.ntmps9
  go_wp2_with fail
  refine (nilMay _).mono ?_
  rintro e w1 ⟨rfl, rfl⟩
  go_wp2
  go_ret2
  exact ⟨rfl, rfl⟩
set_option maxRecDepth 100000 in
theorem nilStale (w : World) : Calls Tryz.prog 16 #[.pointer none] w fun e w' => e = .returned (.bool true) ∧ Hid (Below w.heap.size w w') := by
  go_enter Tryz.func16, Tryz.ntmps16
  go_wp2
  go_quiet (fail)
  go_wp2
  go_ret
  exact ⟨rfl, below_drewN (Below.refl _ _) _⟩
set_option maxRecDepth 100000 in
theorem nilKeep (w : World) : Calls Tryz.prog 5 #[.nilIface] w fun e w' => e = .returned (.pointer none) ∧ w' = w := by
  go_enter Tryz.func5, Tryz.ntmps5
  go_wp2
  go_ret
  exact ⟨rfl, rfl⟩
set_option maxRecDepth 100000 in
theorem nilOpen (k m : Int) (w : World) : Calls Tryz.prog 6 #[.pointer none, .int .u64 k, .int .u64 m] w fun e w' => e = .returned (.tuple #[.pointer none, .int .i64 3]) ∧ w' = w := by
  go_enter Tryz.func6, Tryz.ntmps6
  go_wp2
  go_ret2
  exact ⟨rfl, rfl⟩
set_option maxRecDepth 100000 in
theorem nilWipe (k m : Int) (w : World) : Calls Tryz.prog 10 #[.pointer none, .int .u64 k, .int .u64 m] w fun e w' => e = .returned (.tuple #[.int .i64 0, .int .i64 3]) ∧ w' = w := by
  go_enter Tryz.func10, Tryz.ntmps10
  go_wp2
  go_ret2
  exact ⟨rfl, rfl⟩
set_option maxRecDepth 100000 in
theorem nilInsert (k : Int) (w : World) : Calls Tryz.prog 13 #[.pointer none, .int .u64 k] w fun e w' => e = .returned (.int .i64 3) ∧ w' = w := by
  go_enter Tryz.func13, Tryz.ntmps13
  go_wp2
  go_ret
  exact ⟨rfl, rfl⟩
set_option maxRecDepth 100000 in
theorem nilDelete (k : Int) (w : World) : Calls Tryz.prog 14 #[.pointer none, .int .u64 k] w fun e w' => e = .returned (.int .i64 3) ∧ w' = w := by
  go_enter Tryz.func14, Tryz.ntmps14
  go_wp2
  go_ret
  exact ⟨rfl, rfl⟩
set_option maxRecDepth 100000 in
theorem nilVersion (w : World) : Calls Tryz.prog 15 #[.pointer none] w fun e w' => e = .returned (.int .u64 0) ∧ w' = w := by
  go_enter Tryz.func15, Tryz.ntmps15
  go_wp2
  go_ret
  exact ⟨rfl, rfl⟩
set_option maxRecDepth 100000 in
theorem nilSwap (w : World) : Calls Tryz.prog 12 #[.pointer none, .nilIface] w fun e w' => (∃ r, e = .returned r) ∧ Hid (Below w.heap.size w w') := by
  go_enter Tryz.func12, Tryz.ntmps12
  go_wp2
  refine bodyPost_ret (results_none rfl _ _ _) rfl ?_
  exact ⟨⟨_, rfl⟩, Below.refl _ _⟩
set_option maxRecDepth 100000 in
theorem nilClear (w : World) : Calls Tryz.prog 11 #[.pointer none] w fun e w' => (∃ r, e = .returned r) ∧ Hid (Below w.heap.size w w') := by
  go_enter Tryz.func11, Tryz.ntmps11
  go_wp2
  go_end0
  exact ⟨⟨_, rfl⟩, Below.refl _ _⟩
set_option maxRecDepth 100000 in
theorem nilAll_in (F : Fence) (n : Nat) (h : F.fn 24) (hro : F.round = none) (w : World) :
    CallsIn F n Tryz.prog 24 #[.pointer none] w fun e w' => e = .returned (.func (.func 30) #[] #[.pointer (some ⟨w.heap.size, 0, none⟩)]) ∧ w' = w.alloc (.cells #[.pointer none] 26) := by
  refine callsIn_of_wp Tryz.func24 rfl h ?_ hro
  simp only [Tryz.ntmps24, List.size_toArray, List.length_cons, List.length_nil, Nat.reduceAdd, Nat.reduceSub, Array.replicate_succ, Array.replicate_zero, List.push_toArray, List.append_toArray, List.nil_append, List.cons_append]
  gi_wp2
  go_ret
  exact ⟨rfl, rfl⟩
set_option maxRecDepth 100000 in
set_option maxHeartbeats 1000000 in
theorem nilAll_stops (n : Nat) (B n₀ : Nat) (w : World) (hB : w.cell? ⟨B, 0, none⟩ = some (.pointer none)) (hlt : B < w.heap.size) :
    SeqStopsK (α := Int) Fence.wide n Tryz.prog 30 #[.pointer (some ⟨B, 0, none⟩)] (fun x => #[.int .u64 x]) (Below n₀) (fun xs => xs = []) (fun _ => False) 0 w := fun l J Jx W hW hJ hJx hY h0 => by
  have hc : W.cell? ⟨B, 0, none⟩ = some (.pointer none) := (hW.cell (p := ⟨B, 0, none⟩) hlt).trans hB
  have H0 := Lib.hid h0
  clear hJ hJx hY h0 hW hB
  refine callsIn_wide.2 ?_
  go_enter Tryz.func30, Tryz.ntmps30
  go_wp2_with fail
  refine (nilNext _).mono ?_
  rintro e w1 ⟨rfl, rfl⟩
  go_wp2
  go_loopw [3, 4] (fun _ v4 wr => v4 = .int .i64 3 ∧ Hid (J [] wr)) (fun _ _ _ => 0)
  case atStart => exact ⟨rfl, H0.out⟩
  case round =>
    obtain ⟨rfl, HJ⟩ := hrel
    clear H0
    go_wp2
    go_end0
    exact ⟨⟨_, rfl⟩, .inl ⟨[], rfl, HJ.out⟩⟩
set_option maxRecDepth 100000 in
set_option maxHeartbeats 2000000 in
theorem nil_all_in (n : Nat) (hn : 3 ≤ n) (w : World) :
    CallsIn Fence.wide n Tryz.prog 17 #[.pointer none, .int .i64 9] w fun e W' => e = .returned (.slice none 0 0) ∧ Below w.heap.size w W' := by
  have hn1 : 1 ≤ n := by omega
  refine callsIn_of_wp_marks Tryz.func17 rfl trivial ?_ rfl
  simp only [Tryz.ntmps17, List.size_toArray, List.length_cons, List.length_nil, Nat.reduceAdd, Nat.reduceSub, Array.replicate_succ, Array.replicate_zero, List.push_toArray, List.append_toArray, List.nil_append, List.cons_append]
  have hfn : Fence.wide.fn 24 := trivial
  gi_wp2_with (gi_at_call 24; refine (nilAll_in Fence.wide (n - 1) trivial rfl _).mono ?_; rintro e w' ⟨rfl, rfl⟩)
  have hb := cell_new_l ((w.alloc (.cells #[.int .i64 9] 3)).alloc (.cells #[.slice none 0 0] 38)) (.pointer none) 26
  have ho := cell_new_l (w.alloc (.cells #[.int .i64 9] 3)) (.slice none 0 0) 38
  simp only [World.size_alloc] at hb ho
  have hB0 : Below w.heap.size w (((w.alloc (.cells #[.int .i64 9] 3)).alloc (.cells #[.slice none 0 0] 38)).alloc (.cells #[.pointer none] 26)) := (((Below.refl _ w).alloc (Nat.le_refl _) _).alloc (by simp) _).alloc (by simp; omega) _
  refine wpIn_rangeFunc_ownF rfl hn1 (gf := 30) (lb := #[.pointer (some ⟨w.heap.size + 1 + 1, 0, none⟩)]) rfl trivial (enters_of Tryz.func30 (by kernel_rfl) rfl)
    (nilAll_stops (n - 1) (w.heap.size + 1 + 1) w.heap.size _ hb (by simp)) belowK_t (belowK_b (by simp; omega)) (Below.refl _ _) (fun _ => rfl)
    (fun pre W => W.cell? ⟨w.heap.size + 1, 0, none⟩ = some (.slice none 0 0) ∧ Below w.heap.size w W)
    (fun _ _ _ => False)
    (OwnFrom.and (Own.from (fun s A B row hs hg hr => cell_kept hs hg hr) _) (ownFrom_below (Nat.le_refl _) (by simp; omega)))
    (fun _ _ _ _ _ hs _ _ => hs)
    ⟨cell_alloc_l _ ho, hB0⟩
    (fun x => { tmps := #[.pointer none, .int .i64 9, undef, .pointer (some ⟨w.heap.size, 0, none⟩), .slice none 0 0, .pointer (some ⟨w.heap.size + 1, 0, none⟩), .int .u64 x, .pointer none, .func (.func 30) #[] #[.pointer (some ⟨w.heap.size + 1 + 1, 0, none⟩)], .int .u64 x, undef, undef, undef, undef, undef, undef, undef, undef, undef], defers := [] }) ?assign ?body ?done ?stop
  case assign =>
    intro l x W K hK
    gi_wp2
    exact hK
  case body =>
    intro l pre x W _ h
    exact absurd h (Nat.not_lt_zero _)
  case done =>
    rintro D ys W hD rfl ⟨hc, hB⟩ hK
    gi_wp2
    refine ⟨by simp, .inl ⟨_, _, rfl, run_takeDeferred hK, ?_⟩⟩
    exact ⟨_, results_tmp rfl _ _ _, rfl, hB.trans (belowK_b (w := w) (Nat.le_refl _) W D _ _ (by simp at hD; omega) hK rfl rfl)⟩
  case stop =>
    rintro D c pre W _ _ h _
    exact h.elim
theorem nil_all (w : World) : Calls Tryz.prog 17 #[.pointer none, .int .i64 9] w fun e W' => e = .returned (.slice none 0 0) ∧ Below w.heap.size w W' :=
  callsIn_wide.1 (nil_all_in 5 (by omega) w)
end Go.Proofs.YtmpjjehihimadaaGreat
