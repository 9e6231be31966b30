/-
  Nothing comes of a nil Roar: the range over its function, walked.
-/
import Derived.RangeFuncNested
import Derived.RangeFuncBound
import Derived.RangeFuncCalls
import Derived.RangeFuncLeaves
import Derived.RangeFuncFrom
import Derived.Shelf.Abstract
import Derived.Shelf.RegionOpen
import Derived.WalkKit
import Derived.OwnWalkIn
import Derived.TacticsInMore
import Derived.LoopNIn
import Derived.LoopIn
import Derived.Test.YtpmkcjpifedbkaaGreatProg
namespace Go.Proofs.YtpmkcjpifedbkaaGreat
set_option linter.unusedVariables false
set_option linter.unusedSimpArgs false
open Go.RowKit Go.Shelf
attribute [local go_sem] Oper.semAt_some

theorem cell_of_box_l {W : World} {B : Nat} {v : Value} {t : TypeId} (h : W.heap[B]? = some (.cells #[v] t (0, 0))) : W.cell? ⟨B, 0, none⟩ = some v := by simp [World.cell?, h]
theorem cell_new_l (W : World) (v : Value) (t : TypeId) : (W.alloc (.cells #[v] t)).cell? ⟨W.heap.size, 0, none⟩ = some v := by
  exact cell_of_box_l (World.alloc_heap_new W _)
theorem cell_alloc_l {W : World} {a : Addr} {v : Value} (o : Obj) (h : W.cell? a = some v) : (W.alloc o).cell? a = some v := cell_kept h (World.grownBy_alloc W o none) (fun r e => by cases e)
set_option maxRecDepth 100000 in
theorem nilAll_in (F : Fence) (n : Nat) (h : F.fn 34) (hro : F.round = none) (w : World) :
    CallsIn F n Tryz.prog 34 #[.pointer none] w fun e w' => e = .returned (.func (.func 47) #[] #[.pointer (some ⟨w.heap.size, 0, none⟩)]) ∧ w' = w.alloc (.cells #[.pointer none] 24) := by
  refine callsIn_of_wp Tryz.func34 rfl h ?_ hro
  simp only [Tryz.ntmps34, List.size_toArray, List.length_cons, List.length_nil, Nat.reduceAdd, Nat.reduceSub, Array.replicate_succ, Array.replicate_zero, List.push_toArray, List.append_toArray, List.nil_append, List.cons_append]
  gi_wp2
  go_ret
  exact ⟨rfl, rfl⟩
set_option maxRecDepth 100000 in
theorem nilAll_stops (F : Fence) (n : Nat) (h : F.fn 47) (hro : F.round = none) (B n₀ : Nat) (w : World) (hB : w.cell? ⟨B, 0, none⟩ = some (.pointer none)) (hlt : B < w.heap.size) :
    SeqStopsK (α := Int) F n Tryz.prog 47 #[.pointer (some ⟨B, 0, none⟩)] (fun x => #[.int .u64 x]) (Below n₀) (fun xs => xs = []) (fun _ => False) 0 w := fun l J Jx W hW hJ hJx hY h0 => by
  have hc : W.cell? ⟨B, 0, none⟩ = some (.pointer none) := (hW.cell (p := ⟨B, 0, none⟩) hlt).trans hB
  refine callsIn_of_wp Tryz.func47 rfl h ?_ hro
  simp only [Tryz.ntmps47, List.size_toArray, List.length_cons, List.length_nil, Nat.reduceAdd, Nat.reduceSub, Array.replicate_succ, Array.replicate_zero, List.push_toArray, List.append_toArray, List.nil_append, List.cons_append]
  gi_wp2
  refine bodyPost_ret (results_none rfl _ _ _) rfl ?_
  exact ⟨⟨_, rfl⟩, h0⟩
set_option maxRecDepth 100000 in
set_option maxHeartbeats 2000000 in
theorem nil_all_in (F : Fence) (n : Nat) (h1 : F.fn 17) (h2 : F.fn 34) (h3 : F.fn 47) (hro : F.round = none) (hn : 3 ≤ n) (w : World) :
    CallsIn F n Tryz.prog 17 #[.pointer none, .int .i64 9] w fun e W' => e = .returned (.slice none 0 0) ∧ Below w.heap.size w W' := by
  have hn1 : 1 ≤ n := by omega
  refine callsIn_of_wp_marks Tryz.func17 rfl h1 ?_ hro
  simp only [Tryz.ntmps17, List.size_toArray, List.length_cons, List.length_nil, Nat.reduceAdd, Nat.reduceSub, Array.replicate_succ, Array.replicate_zero, List.push_toArray, List.append_toArray, List.nil_append, List.cons_append]
  gi_wp2_with (gi_at_call 34; refine (nilAll_in F (n - 1) h2 hro _).mono ?_; rintro e w' ⟨rfl, rfl⟩)
  have hb := cell_new_l ((w.alloc (.cells #[.int .i64 9] 3)).alloc (.cells #[.slice none 0 0] 34)) (.pointer none) 24
  have ho := cell_new_l (w.alloc (.cells #[.int .i64 9] 3)) (.slice none 0 0) 34
  simp only [World.size_alloc] at hb ho
  have hB0 : Below w.heap.size w (((w.alloc (.cells #[.int .i64 9] 3)).alloc (.cells #[.slice none 0 0] 34)).alloc (.cells #[.pointer none] 24)) := (((Below.refl _ w).alloc (Nat.le_refl _) _).alloc (by simp) _).alloc (by simp; omega) _
  refine wpIn_rangeFunc_ownF hro hn1 (gf := 47) (lb := #[.pointer (some ⟨w.heap.size + 1 + 1, 0, none⟩)]) rfl h3 (enters_of Tryz.func47 (by kernel_rfl) rfl)
    (nilAll_stops F (n - 1) h3 hro (w.heap.size + 1 + 1) w.heap.size _ hb (by simp)) belowK_t (belowK_b (by simp; omega)) (Below.refl _ _) (fun _ => rfl)
    (fun pre W => W.cell? ⟨w.heap.size + 1, 0, none⟩ = some (.slice none 0 0) ∧ Below w.heap.size w W)
    (fun _ _ _ => False)
    (OwnFrom.and (Own.from (fun s A B row hs hg hr => cell_kept hs hg hr) _) (ownFrom_below (Nat.le_refl _) (by simp; omega)))
    (fun _ _ _ _ _ hs _ _ => hs)
    ⟨cell_alloc_l _ ho, hB0⟩
    (fun x => { tmps := #[.pointer none, .int .i64 9, undef, .pointer (some ⟨w.heap.size, 0, none⟩), .slice none 0 0, .pointer (some ⟨w.heap.size + 1, 0, none⟩), .int .u64 x, .pointer none, .func (.func 47) #[] #[.pointer (some ⟨w.heap.size + 1 + 1, 0, none⟩)], .int .u64 x, undef, undef, undef, undef, undef, undef, undef, undef, undef], defers := [] }) ?assign ?body ?done ?stop
  case assign =>
    intro l x W K hK
    gi_wp2
    exact hK
  case body =>
    intro l pre x W _ h
    exact absurd h (Nat.not_lt_zero _)
  case done =>
    rintro D ys W hD rfl ⟨hc, hB⟩ hK
    gi_wp2
    refine ⟨by simp, .inl ⟨_, _, rfl, run_takeDeferred hK, ?_⟩⟩
    exact ⟨_, results_tmp rfl _ _ _, rfl, hB.trans (belowK_b (w := w) (Nat.le_refl _) W D _ _ (by simp at hD; omega) hK rfl rfl)⟩
  case stop =>
    rintro D c pre W _ _ h _
    exact h.elim
theorem nil_all (w : World) : Calls Tryz.prog 17 #[.pointer none, .int .i64 9] w fun e W' => e = .returned (.slice none 0 0) ∧ Below w.heap.size w W' :=
  callsIn_wide.1 (nil_all_in Fence.wide 5 trivial trivial trivial rfl (by omega) w)
end Go.Proofs.YtpmkcjpifedbkaaGreat
