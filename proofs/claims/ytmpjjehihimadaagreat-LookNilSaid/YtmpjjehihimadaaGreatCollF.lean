/-
  slices.Collect of uint64, of any iterator that keeps its word; walked.
-/
import Derived.Test.YtmpjjehihimadaaGreatSeqW
import Derived.Test.YtmpjjehihimadaaGreatRow
import Derived.Deep.DrawnRows
import Derived.OwnWalkIn
namespace Go.Proofs.YtmpjjehihimadaaGreat
set_option linter.unusedVariables false
set_option linter.unusedSimpArgs false
open Go.RowKit Go.Shelf
attribute [local go_sem] Oper.semAt_some
attribute [local go_sem ↓] Go.wp_at_zero Go.wp_at_succ
theorem u64_info : (Tryz.prog.info? 22).map (fun i => (i.zero, i.size, i.bytes)) = some (some (.int .u64 0), 1, 8) := by kernel_rfl
theorem Own.kept {k : IntKind} {e : TypeId} {w w' : World} {base : Nat} {v : Value} {l : List Int} {row : Option Nat} (h : Own k e w base v l) (hg : w.grownBy w' row) (hne : row = none ∨ row ≠ v.ownBlock) : Own k e w' base v l := by
  obtain ⟨h1, h2⟩ := h
  refine ⟨h1, ?_⟩
  rcases h2 with h2 | ⟨g, cap, cur, rfl, hg', hh, hr⟩
  · exact .inl h2
  · refine .inr ⟨g, cap, cur, rfl, hg', (hg.block g (blk_lt hh) (fun e => ?_)).trans hh, hr⟩
    rcases hne with h | h
    · rw [h] at e; cases e
    · exact h (by rw [← e]; rfl)
theorem Own.cells {k : IntKind} {e : TypeId} {w : World} {base : Nat} {v : Value} {l : List Int} (h : Own k e w base v l) : ∀ g, v.ownBlock = some g → ∃ cs, w.heap[g]? = some (.cells cs e (0, 0)) := rowG_ty h
theorem Own.chg {S : Nat → Prop} {k : IntKind} {e : TypeId} {w w' : World} {base : Nat} {v : Value} {l : List Int} (h : Own k e w base v l) (hc : Chg S w w') (hn : ∀ g, v.ownBlock = some g → ¬ S g) : Own k e w' base v l := rowG_chg h hc hn
theorem Own.asRow {k : IntKind} {e : TypeId} {w : World} {base : Nat} {v : Value} {l : List Int} (h : Own k e w base v l) : w.ownsRow base e 1 v l.length (l.map (Value.int k)) := h
theorem one_cell (W : World) (u : Value) (t : TypeId) : ∀ j x, [u][j]? = some x → (W.alloc (.cells #[u] t)).cell? ((⟨W.heap.size, 0, none⟩ : Addr).add j) = some x := fun j x hj => by
  rcases j with _ | j
  · rw [add_mk]
    simp at hj
    subst hj
    exact blk_cell (blk_new W _ _) 0 rfl
  · simp at hj
theorem one_one (k : IntKind) (x : Int) : ∀ u ∈ [Value.int k x], u.oneCell' = true := fun u hu => by simp at hu; subst hu; rfl
theorem ownFrom_Own {β : Type} (B0 : Nat) (B : Nat) (t e : TypeId) (k : IntKind) (base : Nat) (f : β → List Int) : OwnFrom B0 (fun (s : β) (W : World) => ∃ v, W.heap[B]? = some (.cells #[v] t (0, 0)) ∧ Own k e W base v (f s)) := fun s X Y row hs hg hr => by
  obtain ⟨v, h1, h2⟩ := hs
  refine ⟨v, ownFrom_blk B0 B (fun _ : Unit => #[v]) t () X Y row h1 hg hr, h2.kept hg ?_⟩
  rcases row with _ | r
  · exact .inl rfl
  · refine .inr (fun e' => ?_)
    obtain ⟨_, o, ho, hc⟩ := hr r rfl
    obtain ⟨cs, hcs⟩ := h2.cells r e'.symm
    rw [hcs] at ho
    cases ho
    cases hc
theorem stab_Own {β : Type} {F : Nat → Prop} {B0 : Nat} {B : Nat} (t e : TypeId) (k : IntKind) (base : Nat) (f : β → List Int) (hB : ¬ F B) (hF : ∀ b, F b → b < base) : Stab B0 F (fun (s : β) (W : World) => ∃ v, W.heap[B]? = some (.cells #[v] t (0, 0)) ∧ Own k e W base v (f s)) :=
  ⟨ownFrom_Own _ _ _ _ _ _ _, fun s X Y hs hc => by
    obtain ⟨v, h1, h2⟩ := hs
    exact ⟨v, hc.blk h1 hB, h2.chg hc (fun g hg hf => by have := (h2.block g hg).1; have := hF g hf; omega)⟩⟩
/-- append to a row of the call's own, in a fence: where the row lies then -/
theorem listIn_append {Fe : Fence} {n : Nat} {P : Program} (w : World) {ops : Array Oper} {rest : List Oper} {o : Oper} {a : Act} {Q : Exit → Act → World → Prop}
    (hg : o.guard = none) (s x : Operand) (t : TypeId) (hop : o.op = Op.call { callee := Callee.builtin Builtin.append, args := #[s, x], argTypes := #[t, t] })
    (base : Nat) (e : TypeId) (i : TypeInfo) (z : Value) (size bytes : Nat) (h1 : P.underlying t = some (.slice e)) (h2 : P.info? e = some i) (h3 : i.zero = some z) (h4 : i.size = size) (h5 : i.bytes = bytes) (h6 : z.cells.size = size) (h7 : 0 < size)
    (v : Value) (k : Nat) (xs : List Value) (hs : a.eval s = v) (hown : w.ownsRow base e size v k xs) (ad : Addr) (m c : Nat) (news : List Value) (hx : a.eval x = .slice (some ad) m c) (hn : news.length = m * size)
    (hc : ∀ j u, news[j]? = some u → w.cell? (ad.add j) = some u) (h1c : ∀ u ∈ news, u.oneCell' = true) (b1 : k + m ≤ maxLen) (b2 : (k + m) * bytes ≤ 140737488355328) (b3 : base ≤ w.heap.size)
    (hK : ∀ v' w', w'.ownsRow base e size v' (k + m) (xs ++ news) → w.grownBy w' v.ownBlock → (v'.ownBlock = v.ownBlock ∨ v'.ownBlock = some w.heap.size) → wpListIn Fe n P ops Q rest (a.put o.dst v') w') :
    wpListIn Fe n P ops Q (o :: rest) a w := by
  refine wpListIn_plain hg fun K hK' => ?_
  obtain ⟨v', w', hrun, r1, r2, _, r4⟩ := run_append_own_at (P := P) w base t o.type e i z size bytes h1 h2 h3 h4 h5 h6 h7 v k xs hown ad m c news hn hc h1c b1 b2 b3
  unfold Oper.wpIn
  refine ⟨?_, ?_⟩
  · simp [Oper.about, hop, resolve, Target.leads, Sem.run_pure]
  · rw [Oper.semAt_plain Fe _ _ (by rw [hop]; intro c hc'; cases hc')]
    simp [execOp, hop, resolve, invoke, builtin, hs, hx, hrun, Result.andThen]
    exact hK' _ _ (hK v' w' r1 r2 r4)
theorem stab_OwnC {F : Nat → Prop} {B0 : Nat} {B : Nat} (t e : TypeId) (k : IntKind) (base : Nat) (C : Nat → Prop) (hB : ¬ F B) (hF : ∀ b, F b → b < base) : Stab B0 F (fun (s : List Int) (W : World) => ∃ v, (W.heap[B]? = some (.cells #[v] t (0, 0)) ∧ Own k e W base v s) ∧ ∀ q, C q ↔ (q = B ∨ v.ownBlock = some q)) :=
  by
  constructor
  · intro s X Y row hs hg hr
    obtain ⟨v, ⟨h1, h2⟩, h3⟩ := hs
    refine ⟨v, ⟨ownFrom_blk B0 B (fun _ : Unit => #[v]) t () X Y row h1 hg hr, h2.kept hg ?_⟩, h3⟩
    rcases row with _ | r
    · exact .inl rfl
    · refine .inr (fun e' => ?_)
      obtain ⟨_, o, ho, hc⟩ := hr r rfl
      obtain ⟨cs, hcs⟩ := h2.cells r e'.symm
      rw [hcs] at ho
      cases ho
      cases hc
  · intro s X Y hs hc
    obtain ⟨v, ⟨h1, h2⟩, h3⟩ := hs
    exact ⟨v, ⟨hc.blk h1 hB, h2.chg hc (fun g hg hf => by have := (h2.block g hg).1; have := hF g hf; omega)⟩, h3⟩
theorem stab_OwnW {F : Nat → Prop} {B0 B1 : Nat} {B : Nat} (t e : TypeId) (k : IntKind) (base : Nat) (C : Nat → Prop) (hB : ¬ F B) (hF : ∀ b, F b → b < base) : Stab B0 (fun b => F b ∨ (B1 ≤ b ∧ ¬ C b)) (fun (s : List Int) (W : World) => ∃ v, (W.heap[B]? = some (.cells #[v] t (0, 0)) ∧ Own k e W base v s) ∧ ∀ q, C q ↔ (q = B ∨ v.ownBlock = some q)) :=
  ⟨(stab_OwnC (F := F) t e k base C hB hF).own, fun s X Y hs hc => by
    obtain ⟨v, ⟨h1, h2⟩, h3⟩ := hs
    exact ⟨v, ⟨hc.blk h1 (fun h => h.elim hB (fun h => h.2 ((h3 B).2 (.inl rfl)))), h2.chg hc (fun g hg hf => by
      rcases hf with hf | hf
      · have := (h2.block g hg).1; have := hF g hf; omega
      · exact hf.2 ((h3 g).2 (.inr hg)))⟩, h3⟩⟩
/-- keys as they are yielded -/
def k1 (x : Int) : Array Value := #[.int .u64 x]
attribute [local go_sem] k1
set_option maxRecDepth 100000 in
set_option maxHeartbeats 4000000 in
theorem appendW (v : Value) {St : World → Prop} {F R : Nat → Prop} {S : List Int → Prop} {N : Nat} (hN : N ≤ 100000) (hit : ItW Tryz.prog v k1 St F R S N) (w : World) (hSt : St w) (hR : ∀ b, R b → b < w.heap.size) :
    Calls Tryz.prog 56 #[.slice none 0 0, v] w fun e w' => ∃ r xs, e = .returned r ∧ S xs ∧ Own .u64 22 w' w.heap.size r xs ∧ St w' ∧ Chg F w w' := by
  obtain ⟨i0, hi, hz0, hz1, hz2⟩ := info_parts u64_info
  obtain ⟨⟨gf, lb, rfl, heg, hseq⟩, hstay, hsub⟩ := hit
  have HST := Lib.hid hSt
  have HSTAY := Lib.hid hstay
  have HRW := Lib.hid hR
  have HF := Lib.hid (show ∀ b, F b → b < w.heap.size from fun b h => hR b (hsub b h))
  have hnF : ¬ F w.heap.size := fun h => by have := HF.out _ h; omega
  clear hSt
  refine (callsIn_wide (n := 9)).1 ?_
  refine callsIn_of_wp_marks Tryz.func56 rfl trivial ?_ rfl
  simp only [Tryz.ntmps56, List.size_toArray, List.length_cons, List.length_nil, Nat.reduceAdd, Nat.reduceSub, Array.replicate_succ, Array.replicate_zero, List.push_toArray, List.append_toArray, List.nil_append, List.cons_append]
  gi_wp2
  obtain ⟨W0, hW0⟩ : ∃ W0, W0 = w.alloc (.cells #[.slice none 0 0] 38) := ⟨_, rfl⟩
  rw [← hW0]
  have s0 : W0.heap.size = w.heap.size + 1 := by rw [hW0]; simp
  have HB0 := Lib.hid (show Below w.heap.size w W0 by rw [hW0]; exact (Below.refl _ w).alloc (Nat.le_refl _) _)
  have HS0 := Lib.hid (show W0.heap[w.heap.size]? = some (.cells #[.slice none 0 0] 38 (0, 0)) by rw [hW0]; exact blk_new w _ _)
  clear hW0
  refine range_W (R := R) (by decide) (gf := gf) (lb := lb) rfl heg hseq hstay (fun b h => by have := hR b h; omega) hsub (hstay _ _ HST.out (fun b h => HB0.out.block b (hR b h))) (fun _ => rfl)
    (fun C pre V => (∃ v, (V.heap[w.heap.size]? = some (.cells #[v] 38 (0, 0)) ∧ Own .u64 22 V (w.heap.size + 1) v pre) ∧ ∀ q, C q ↔ (q = w.heap.size ∨ v.ownBlock = some q)) ∧ Chg F w V)
    (fun _ _ => False)
    (fun C => (stab_OwnW 38 22 .u64 (w.heap.size + 1) C hnF (fun b h => by have := HF.out b h; omega)).and (stab_chg (by omega) (fun b h => h.imp id (fun h => by omega))))
    (stab_pure _ _ _)
    (fun q => q = w.heap.size) (fun q hq => by omega)
    ⟨⟨_, ⟨HS0.out, Own.nil _ _ _ _⟩, fun q => ⟨fun e => .inl e, fun e => by rcases e with e | e; exact e; cases e⟩⟩, Chg.of_below HB0.out⟩
    (fun x a' V => a' = { tmps := #[.slice none 0 0, .func (.func gf) #[] lb, .pointer (some ⟨w.heap.size, 0, none⟩), undef, .slice none 0 0, .int .u64 x, .func (.func gf) #[] lb, .int .u64 x, undef, undef, undef, undef, undef], defers := [] })
    (fun x a' _ _ _ _ h _ _ => h) ?assign ?body ?done (fun _ _ _ _ h => h.elim)
  case assign =>
    clear hstay hsub hseq hR heg
    intro l2 C pre x V K hI hK
    gi_wp2
    exact hK _ _ (KeepsFrom.refl _ _) (Below.refl _ _) hI rfl
  case body =>
    clear hstay hsub hseq hR heg
    rintro l2 C pre x a' V hl2 hM2 hCb ⟨⟨v, ⟨hv, ho⟩, hCv⟩, hcV⟩ hst rfl hlen
    have HCVB := Lib.hid hCv
    have HO := Lib.hid ho
    have HV := Lib.hid hv
    have HCV := Lib.hid hcV
    have HSTV := Lib.hid hst
    have g1 : pre.length + 1 ≤ maxLen := by unfold maxLen; omega
    have g2 : (pre.length + 1) * 8 ≤ 140737488355328 := by omega
    have G1 := Lib.hid g1
    have G2 := Lib.hid g2
    have G3 := Lib.hid (show w.heap.size + 1 ≤ (V.alloc (.cells #[.int .u64 x] 22)).heap.size by simp; omega)
    have c0 := blk_cell hv 0 (v := v) rfl
    have HBX := Lib.hid (show ∀ w1, (V.alloc (.cells #[.int .u64 x] 22)).grownBy w1 v.ownBlock → w1.heap[w.heap.size]? = some (.cells #[v] 38 (0, 0)) from fun w1 hg => (hg.block _ (by have := blk_lt hv; simp; omega) (fun e => by have := (ho.block _ e.symm).1; omega)).trans (blk_old hv _))
    clear hv ho hcV g1 g2 hst hCv
    gi_wp2_with (gi_at_builtin; refine listIn_append _ rfl _ _ 38 rfl (w.heap.size + 1) 22 i0 (.int .u64 0) 1 8 Tryz.underlying38 hi hz0 hz1 hz2 rfl (by decide) _ _ _ rfl (HO.out.below ((Below.refl _ _).alloc (Nat.le_refl _) _)).asRow ⟨V.heap.size, 0, none⟩ 1 1 [.int .u64 x] rfl rfl (one_cell V _ _) (one_one _ _) G1.out G2.out G3.out ?_; intro v' w1 hown' hgrow hown2; have HV2 := Lib.hid hown2; clear hown2; obtain ⟨g', cap', rfl⟩ := ownsRow_succ hown'; have hb1 := HBX.out _ hgrow; have c1 := blk_cell hb1 0 (v := v) rfl; have f1 := blk_free hb1 0; have HN := Lib.hid hown'; have HG := Lib.hid hgrow; have HB1 := Lib.hid hb1; clear hown' hgrow hb1)
    have HG2 : (V.alloc (.cells #[.int .u64 x] 22)).grownBy w1 v.ownBlock := HG.out
    have hvb := fun g hg => (HO.out.block g hg).1
    have hV1 : V.heap.size ≤ w1.heap.size := by have := HG2.size; simp at this; omega
    have HON : Own .u64 22 w1 (w.heap.size + 1) (.slice (some ⟨g', 0, none⟩) (pre.length + 1) cap') (pre ++ [x]) := by
      have h := HN.out
      unfold Own
      rw [List.length_append, List.map_append]
      exact h
    have hgb := HON.block g' rfl
    have hS1 : Below w.heap.size V w1 := ((Below.refl _ V).alloc (by omega) _).grown HG2 (by simp; omega) (fun g hg => by have := hvb g hg; omega)
    have hS2 : Below w.heap.size V (w1.setCell ⟨w.heap.size, 0, none⟩ (.slice (some ⟨g', 0, none⟩) (pre.length + 1) cap')) := hS1.setCell (p := ⟨w.heap.size, 0, none⟩) (Nat.le_refl _) _
    refine ⟨?_, HSTAY.out _ _ HSTV.out (fun b h => hS2.block b (HRW.out b h)), (fun q => q = w.heap.size ∨ q = g'), ⟨⟨_, ⟨blk_set HB1.out 0 _, ?_⟩, fun q => ⟨fun e => e.imp id (fun e => by rw [e]; rfl), fun e => e.imp id (fun e => by simp only [Value.ownBlock, Option.some.injEq] at e; exact e.symm)⟩⟩, ?_⟩, ?_, ?_⟩
    · refine (KeepsOthers.trans (KeepsOthers.alloc V _) (KeepsOthers.trans (KeepsOthers.of_grownBy HG2 (fun j o ej hj => ?_)) (KeepsOthers.setCell _ _ _))).from _
      obtain ⟨cs, hcs⟩ := HO.out.cells j ej
      rw [blk_old hcs _] at hj
      cases hj
      rfl
    · exact HON.chg (S := (· = w.heap.size)) ((Chg.refl _ _).set _ (.inl rfl)) (fun g hg e => by have e' : g = w.heap.size := e; simp only [Value.ownBlock, Option.some.injEq] at hg; omega)
    · exact HCV.out.trans (Chg.of_belowB (S := fun b => w.heap.size ≤ b) hS2 HCV.out.size (fun k h1 _ => h1)) (fun b hb h => by omega)
    · intro k hk
      rw [World.size_setCell]
      rcases hk with hk | hk
      · exact ⟨.inl ((HCVB.out k).2 (.inl hk)), by omega⟩
      · refine ⟨?_, by omega⟩
        subst hk
        rcases HV2.out with h | h
        · exact .inl ((HCVB.out k).2 (.inr (show v.ownBlock = some k from h.symm)))
        · simp only [Value.ownBlock, World.size_alloc, Option.some.injEq] at h; exact .inr (by omega)
    · intro k hk1 hk2
      have n1 : k ≠ w.heap.size := fun e => hk2 ((HCVB.out k).2 (.inl e))
      have n2 : v.ownBlock ≠ some k := fun e => hk2 ((HCVB.out k).2 (.inr e))
      rw [Below.heap_setCell w1 ⟨w.heap.size, 0, none⟩ _ k n1, HG2.block k (by simp; omega) (fun e => n2 e.symm)]
      exact (World.grownBy_alloc V _ none).block k hk1 (by intro e; cases e)
  case done =>
    clear hstay hsub hseq hR heg
    rintro D C xs V hD hxs ⟨⟨v, ⟨hv, ho⟩, _⟩, hcV⟩ hst hM _ hK
    have c0 := blk_cell hv 0 (v := v) rfl
    have HO := Lib.hid ho
    have HCV := Lib.hid hcV
    have HXS := Lib.hid hxs
    have HSTV := Lib.hid hst
    clear hv ho hcV hxs hst
    gi_wp2
    refine ⟨by simp, .inl ⟨_, _, rfl, run_takeDeferred hK, ?_⟩⟩
    refine ⟨_, results_tmp rfl _ _ _, _, xs, rfl, HXS.out, (HO.out.kept (grownBy_putObj' V D _) (.inr (fun e => ?_))).mono (by omega), HSTAY.out _ _ HSTV.out (same_put HRW.out (by omega)), chg_putObj HCV.out (by omega)⟩
    obtain ⟨cs, hcs⟩ := HO.out.cells D e.symm
    rw [hK] at hcs
    cases hcs
set_option maxRecDepth 100000 in
set_option maxHeartbeats 1000000 in
theorem collectW (v : Value) {St : World → Prop} {F R : Nat → Prop} {S : List Int → Prop} {N : Nat} (hN : N ≤ 100000) (hit : ItW Tryz.prog v k1 St F R S N) (w : World) (hSt : St w) (hR : ∀ b, R b → b < w.heap.size) :
    Calls Tryz.prog 42 #[v] w fun e w' => ∃ r xs, e = .returned r ∧ S xs ∧ Own .u64 22 w' w.heap.size r xs ∧ St w' ∧ Chg F w w' := by
  have HC := Lib.hid (appendW v hN hit w hSt hR)
  clear hit hSt hR hN
  go_enter Tryz.func42, Tryz.ntmps42
  go_wp2_with fail
  refine HC.out.mono ?_
  rintro e w1 ⟨r, xs, rfl, hs, ho, hst, hc⟩
  have HS := Lib.hid hs
  have HO := Lib.hid ho
  have HST := Lib.hid hst
  have HCC := Lib.hid hc
  clear hs ho hst hc HC
  go_wp2
  go_ret
  exact ⟨_, xs, rfl, HS.out, HO.out, HST.out, HCC.out⟩
theorem collectF (v : Value) {St : World → Prop} {F R : Nat → Prop} {S : List Int → Prop} {N : Nat} (hN : N ≤ 100000) (hit : It Tryz.prog v k1 St F R S N) (w : World) (hSt : St w) (hR : ∀ b, R b → b < w.heap.size) :
    Calls Tryz.prog 42 #[v] w fun e w' => ∃ r xs, e = .returned r ∧ S xs ∧ Own .u64 22 w' w.heap.size r xs ∧ St w' ∧ Chg F w w' := collectW v hN hit.toW w hSt hR
end Go.Proofs.YtmpjjehihimadaaGreat
