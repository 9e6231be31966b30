/-
  veb.VEB: has, Has, need, walked.
-/
import Derived.Test.YtmpjjehihimadaaGreatVeb2
namespace Go.Proofs.YtmpjjehihimadaaGreat
set_option linter.unusedVariables false
set_option linter.unusedSimpArgs false
open Go.RowKit

section
variable {P : Program} {ops : Array Oper} {o : Oper} {a : Act} {Q : Exit → Act → World → Prop} {w : World}
/-- a step that calls, in a region that draws, whatever its guard -/
theorem step_goesW {K : Act → World → Prop} {E : Prop} {f : FuncId} {fn : Func} {xs : Array Operand} {ts : Array TypeId} (hw : Region.wanted o (yielded ops a.tmps) = true) (hf : P.funcs[f]? = some fn) (hname : (fn.name == "runtime.NumGoroutine") = false) (hb : fn.body.isSome = true) (args : Array Value)
    (hop : o.op = .call { callee := .value (.func f), args := xs, argTypes := ts }) (hargs : xs.map a.eval = args) {R : Ending → World → Prop} (hc : Calls P f args w R)
    (h : ∀ e w', R e w' → ∃ v, e = .returned v ∧ K (a.put o.dst v) w') : if Region.wanted o (yielded ops a.tmps) = true then Oper.wp P o a w K Q else E := by
  rw [if_pos hw]
  have he := enters_fn hf hname hb args w
  have hrun : (execOp a.eval o).run P w = .ok (.enter f args) w := by
    unfold execOp
    simp [hop, resolve, Deferred.ofValue, invoke, Act.eval, hargs, he]
  unfold Oper.wp
  rw [hrun, Oper.upon_enter]
  refine hc.mono fun e w'' hh => ?_
  obtain ⟨v, rfl, hk⟩ := h e w'' hh
  exact hk
end
set_option maxRecDepth 100000 in
/-- a key beyond a node's greatest one -/
theorem vHasNo (t : Nat) (i : Int) (x : Ve) (wide k : Int) (hw : wide = 64 ∨ wide = 32) (h1 : x.max < k) (h2 : x.min ≤ x.max) (w : World) : Calls Tryz.prog 117 #[.pointer (some ⟨t, 0, none⟩), .int .i64 i, .agg #[.int .u64 x.min, .int .u64 x.max, .int .i64 x.sum, .int .u64 x.bits], .int .i64 wide, .int .u64 k] w fun e w' => e = .returned (.bool false) ∧ Hid (Below w.heap.size w w') := by
  have hn := blk_new w #[.int .u64 x.min, .int .u64 x.max, .int .i64 x.sum, .int .u64 x.bits] 112
  have n0 := blk_cell hn 0 rfl
  have n1 := blk_cell hn 1 rfl
  have n2 := blk_cell hn 2 rfl
  have e0 : (k == x.min) = false := by simp; omega
  have e1 : (k == x.max) = false := by simp; omega
  have e2 : (k < x.min) = False := eq_false (by omega)
  rcases hw with rfl | rfl
  all_goals
    go_enter Tryz.func117, Tryz.ntmps117
    go_wp2
    go_ret
    exact ⟨rfl, (Below.refl _ w).alloc (Nat.le_refl _) _⟩
set_option maxRecDepth 100000 in
set_option maxHeartbeats 10000000 in
/-- Has of a key that the first node hasn't -/
theorem vHasM (d : VD) (k : Int) (x : Ve) (w : World) (h : VP w d) (hr : d.root = 0) (hn : 0 < d.n) (hl : 0 < d.ls.length) (hx : d.ls[0] = x)
    (R : ∀ V, VP V d → Calls Tryz.prog 117 #[.pointer (some ⟨d.t, 0, none⟩), .int .i64 0, .agg #[.int .u64 x.min, .int .u64 x.max, .int .i64 x.sum, .int .u64 x.bits], .int .i64 64, .int .u64 k] V fun e V' => e = .returned (.bool false) ∧ Hid (VP V' d) ∧ Hid (Chg d.red V V')) :
    Calls Tryz.prog 102 #[.pointer (some ⟨d.t, 0, none⟩), .int .u64 k] w fun e w' => e = .returned (.bool false) ∧ Hid (VP w' d) ∧ Hid (Chg d.red w w') := by
  have H := Lib.hid h
  have HR := Lib.hid R
  have HN := Lib.hid (decide_eq_true hn)
  have H3 := Lib.hid (show ∀ V, VP V d → V.cell? ⟨d.t, 3, none⟩ = some (.int .i64 0) from fun V hV => by have := hV.cells.2.2.2.1; rwa [hr] at this)
  have HRD := Lib.hid (show ∀ V, VP V d → _ from fun V hV => vRead d V hV 0 hl x hx)
  clear h R hn hr
  go_enter Tryz.func102, Tryz.ntmps102
  go_wp2
  have HD := Lib.hid H.out.drewn
  have q2 := H3.out _ HD.out
  go_region_held3 (fun w' => w'.cell? ⟨d.t, 3, none⟩ = some (.int .i64 0)) (first | exact q2 | exact q3 | exact q4 | exact q5) (first | (go_at_call 116; refine (vStart d _ HD.out).mono ?_; rintro e w1 ⟨rfl, H1, HC1⟩; rw [HN.out]; have q3 := H3.out _ H1.out) | (go_at_call 118; refine (HRD.out _ H1.out).mono ?_; rintro e w2 ⟨rfl, H2, HC2⟩; have q4 := H3.out _ H2.out) | (go_at_call 117; refine (HR.out _ H2.out).mono ?_; rintro e w3 ⟨rfl, H4, HC4⟩; have q5 := H3.out _ H4.out))
  have HCC := Lib.hid ((((Chg.refl d.red w).drew.then HC1.out).then HC2.out).then HC4.out)
  go_wp2
  go_ret
  exact ⟨rfl, H4.out, HCC.out⟩
set_option maxRecDepth 100000 in
set_option maxHeartbeats 1000000 in
/-- Has of a tree with no key -/
theorem vHas0 (d : VD) (k : Int) (w : World) (h : VP w d) (hn : d.n = 0) :
    Calls Tryz.prog 102 #[.pointer (some ⟨d.t, 0, none⟩), .int .u64 k] w fun e w' => e = .returned (.bool false) ∧ Hid (VP w' d) ∧ Hid (Chg d.red w w') := by
  have H := Lib.hid h
  have HN := Lib.hid (decide_eq_false (show ¬ 0 < d.n by omega))
  clear h hn
  go_enter Tryz.func102, Tryz.ntmps102
  go_wp2
  have HD := Lib.hid H.out.drewn
  refine wp_region_any (by kernel_rfl) ?_
  change wpAny _ _ _ _ _ _ _ (World.drew _)
  refine wpAny_take (i := 0) (v := ?_) rfl (by kernel_rfl) (by kernel_rfl) (by kernel_rfl) (fun _ _ _ h => h) (Or.inl ⟨by rfl, ?_⟩) ?_
  rotate_left 1
  · intro w'; go_simp; first | done | (with_reducible rfl)
  refine wpAny_ready (rs := [1]) (by kernel_rfl) (by simp) ?_
  refine AllReady.cons rfl (fun K hK => ?_) AllReady.nil
  (with_reducible refine gate_scall (f := 116) rfl ?_)
  refine step_goes rfl Tryz.func116 (by kernel_rfl) rfl #[.pointer (some ⟨d.t, 0, none⟩)] rfl (by simp only [List.map_toArray, List.map_cons, List.map_nil]; rfl) (vStart d _ HD.out) ?_
  rintro e w1 ⟨rfl, H1, HC1⟩
  rw [HN.out]
  refine ⟨_, rfl, ?_⟩
  refine hK _ _ ?_
  clear hK K
  refine wpAny_take (i := 2) (v := ?_) rfl (by kernel_rfl) (by kernel_rfl) (by kernel_rfl) (fun _ _ _ h => h) (Or.inl ⟨by rfl, ?_⟩) ?_
  rotate_left 1
  · intro w'; go_simp; first | done | (with_reducible rfl)
  refine wpAny_take (i := 3) (v := undef) rfl (by kernel_rfl) (by kernel_rfl) (by kernel_rfl) (fun _ _ _ h => h) (Or.inr ⟨by kernel_rfl, rfl⟩) ?_
  refine wpAny_take (i := 4) (v := undef) rfl (by kernel_rfl) (by kernel_rfl) (by kernel_rfl) (fun _ _ _ h => h) (Or.inr ⟨by kernel_rfl, rfl⟩) ?_
  refine wpAny_take (i := 5) (v := undef) rfl (by kernel_rfl) (by kernel_rfl) (by kernel_rfl) (fun _ _ _ h => h) (Or.inr ⟨by kernel_rfl, rfl⟩) ?_
  refine wpAny_take (i := 6) (v := undef) rfl (by kernel_rfl) (by kernel_rfl) (by kernel_rfl) (fun _ _ _ h => h) (Or.inr ⟨by kernel_rfl, rfl⟩) ?_
  refine wpAny_take (i := 7) (v := undef) rfl (by kernel_rfl) (by kernel_rfl) (by kernel_rfl) (fun _ _ _ h => h) (Or.inr ⟨by kernel_rfl, rfl⟩) ?_
  refine wpAny_take (i := 8) (v := undef) rfl (by kernel_rfl) (by kernel_rfl) (by kernel_rfl) (fun _ _ _ h => h) (Or.inr ⟨by kernel_rfl, rfl⟩) ?_
  refine wpAny_take (i := 9) (v := undef) rfl (by kernel_rfl) (by kernel_rfl) (by kernel_rfl) (fun _ _ _ h => h) (Or.inr ⟨by kernel_rfl, rfl⟩) ?_
  refine wpAny_take (i := 10) (v := undef) rfl (by kernel_rfl) (by kernel_rfl) (by kernel_rfl) (fun _ _ _ h => h) (Or.inr ⟨by kernel_rfl, rfl⟩) ?_
  refine wpAny_take (i := 11) (v := undef) rfl (by kernel_rfl) (by kernel_rfl) (by kernel_rfl) (fun _ _ _ h => h) (Or.inr ⟨by kernel_rfl, rfl⟩) ?_
  refine wpAny_take (i := 12) (v := undef) rfl (by kernel_rfl) (by kernel_rfl) (by kernel_rfl) (fun _ _ _ h => h) (Or.inr ⟨by kernel_rfl, rfl⟩) ?_
  refine wpAny_take (i := 13) (v := undef) rfl (by kernel_rfl) (by kernel_rfl) (by kernel_rfl) (fun _ _ _ h => h) (Or.inr ⟨by kernel_rfl, rfl⟩) ?_
  refine wpAny_take (i := 14) (v := undef) rfl (by kernel_rfl) (by kernel_rfl) (by kernel_rfl) (fun _ _ _ h => h) (Or.inr ⟨by kernel_rfl, rfl⟩) ?_
  refine wpAny_take (i := 15) (v := undef) rfl (by kernel_rfl) (by kernel_rfl) (by kernel_rfl) (fun _ _ _ h => h) (Or.inr ⟨by kernel_rfl, rfl⟩) ?_
  refine wpAny_take (i := 16) (v := ?_) rfl (by kernel_rfl) (by kernel_rfl) (by kernel_rfl) (fun _ _ _ h => h) (Or.inl ⟨by rfl, ?_⟩) ?_
  rotate_left 1
  · intro w'; go_simp; first | done | (with_reducible rfl)
  refine wpAny_take (i := 17) (v := ?_) rfl (by kernel_rfl) (by kernel_rfl) (by kernel_rfl) (fun _ _ _ h => h) (Or.inl ⟨by rfl, ?_⟩) ?_
  rotate_left 1
  · intro w'; go_simp; first | done | (with_reducible rfl)
  refine wpAny_done (by kernel_rfl) ?_ _
  go_simp
  have HCC := Lib.hid ((Chg.refl d.red w).drew.then HC1.out)
  go_wp2
  go_ret
  exact ⟨rfl, H1.out, HCC.out⟩
end Go.Proofs.YtmpjjehihimadaaGreat
