/-
  append of a slice of pairs to a slice of pairs of the call's own; s[:y] of a slice of pairs.
-/
import Derived.Test.YtnlflpcioiieaaaPair
import Derived.Test.YtnlflpcioiieaaaCut
namespace Go.Proofs.Ytnlflpcioiieaaa
set_option linter.unusedVariables false
set_option linter.unusedSimpArgs false
open Go.RowKit

theorem cellsP_read {w : World} {ad : Addr} {m : List (Int × Int)} (hr : RdP w (some ad) m) : ∀ j u, (cellsP m)[j]? = some u → w.cell? (ad.add j) = some u := by
  intro j u hu
  have hj : j < m.length * 2 := by
    rw [← cellsP_len]
    rcases Nat.lt_or_ge j (cellsP m).length with h | h
    · exact h
    · rw [List.getElem?_eq_none h] at hu; cases hu
  have hi : j / 2 < m.length := by omega
  obtain ⟨ad', e, _, h1, h2⟩ := hr (j / 2) hi
  cases e
  obtain ⟨g1, g2⟩ := cellsP_at m (j / 2) hi
  rcases Nat.mod_two_eq_zero_or_one j with h | h
  · have e : j / 2 * 2 = j := by omega
    rw [e] at h1 g1
    rw [h1, ← hu, g1]
  · have e : j / 2 * 2 + 1 = j := by omega
    rw [e] at h2 g2
    rw [h2, ← hu, g2]
theorem cellsP_one (m : List (Int × Int)) : ∀ u ∈ cellsP m, u.oneCell' = true := by
  induction m with
  | nil => intro u hu; cases hu
  | cons x m ih =>
    intro u hu
    simp only [cellsP, List.mem_cons] at hu
    rcases hu with rfl | rfl | hu
    · rfl
    · rfl
    · exact ih u hu
section
variable {P : Program} {ops : Array Oper} {rest : List Oper} {o : Oper} {a : Act} {Q : Exit → Act → World → Prop} {w W0 : World}
theorem run_pushAllP {t ty : TypeId} {i : TypeInfo} {z : Value} (base : Nat) (v : Value) (l m : List (Int × Int)) (A : Option Addr) (c : Nat)
    (ht : P.underlying t = some (.slice 43)) (hi : P.info? 43 = some i) (hz : i.zero = some z) (hs1 : i.size = 2) (hby : i.bytes = 16) (hzs : z.cells.size = 2)
    (hr : RdP w A m) (hown : OwnP w base v l) (hbase : base ≤ w.heap.size) (hbytes : (l.length + m.length) * 16 ≤ 140737488355328) (hlen : l.length + m.length ≤ maxLen) :
    ∃ v' w', (Builtin.append_ #[t, t] ty #[v, .slice A m.length c]).run P w = .ok v' w' ∧ OwnP w' base v' (l ++ m) ∧ w.grownBy w' v.ownBlock ∧ (v'.ownBlock = v.ownBlock ∨ v'.ownBlock = some w.heap.size) := by
  rcases A with _ | ad
  · have hm : m = [] := by
      rcases m with _ | ⟨m0, m⟩
      · rfl
      · obtain ⟨ad, e1, _⟩ := hr 0 (by simp)
        cases e1
    subst hm
    refine ⟨v, w, ?_, by simpa using hown, World.grownBy.refl w _, .inl rfl⟩
    rcases hown.2 with ⟨rfl, hn⟩ | ⟨g, cap, cur, rfl, hg, hh, hnc, hcap, hsz, htk⟩
    · simp [Builtin.append_, run_underlying ht, sizeOf, typeInfo, hi, Builtin.lenOf, Builtin.firstCells]
    · simp [Builtin.append_, run_underlying ht, sizeOf, typeInfo, hi, Builtin.lenOf, Builtin.firstCells, hnc, storeCells]
  · obtain ⟨v', w', hrun, h2, h3, _, h5⟩ := run_append_own_at (P := P) w base t ty 43 i z 2 16 ht hi hz hs1 hby hzs (by omega) v l.length _ hown ad m.length c (cellsP m) (cellsP_len m) (cellsP_read hr) (cellsP_one m) hlen hbytes hbase
    refine ⟨v', w', hrun, ?_, h3, h5⟩
    unfold OwnP
    rw [cellsP_app, List.length_append]
    exact h2
theorem wpList_pushAllP {t : TypeId} {i : TypeInfo} {z : Value} (base : Nat) (v : Value) (l m : List (Int × Int)) (A : Option Addr) (c : Nat) (s y : Operand)
    (hgd : o.guard = none) (ho : o.op = .call { callee := .builtin .append, args := #[s, y], argTypes := #[t, t] })
    (ht : P.underlying t = some (.slice 43)) (hi : P.info? 43 = some i) (hz : i.zero = some z) (hs1 : i.size = 2) (hby : i.bytes = 16) (hzs : z.cells.size = 2)
    (hs : a.eval s = v) (hy : a.eval y = .slice A m.length c) (hr : RdP w A m) (hown : OwnP w base v l) (hbase : base ≤ w.heap.size) (hbytes : (l.length + m.length) * 16 ≤ 140737488355328) (hlen : l.length + m.length ≤ maxLen)
    (h : ∀ v' w', OwnP w' base v' (l ++ m) → w.grownBy w' v.ownBlock → (v'.ownBlock = v.ownBlock ∨ v'.ownBlock = some w.heap.size) → wpList P ops Q rest (a.put o.dst v') w') : wpList P ops Q (o :: rest) a w := by
  refine wpList_plain hgd fun K hK => ?_
  obtain ⟨v', w', hrun, h2, h3, h4⟩ := run_pushAllP (P := P) (ty := o.type) base v l m A c ht hi hz hs1 hby hzs hr hown hbase hbytes hlen
  unfold Oper.wp execOp
  simp only [ho, resolve, invoke, builtin, Sem.run_bind, Sem.run_pure, Result.andThen_ok, List.map_toArray, List.map_cons, List.map_nil, hs, hy, hrun]
  exact hK _ _ (h v' w' h2 h3 h4)
theorem run_uptoP {e t : TypeId} {i : TypeInfo} (ht : P.underlying t = some (.slice e)) (hi : P.info? e = some i) (hs1 : i.size = 2) (A : Option Addr) (n c y : Nat) (hy : y ≤ n) (hc : n ≤ c) :
    (Instr.sliceAt t (.slice A n c) none (some (.int .i64 y)) none).run P w = .ok (.slice A y c) w := by
  have h1 : (y : Int) ≤ c := by omega
  simp [Instr.sliceAt, Instr.slice, Instr.sliceBounds, run_underlying ht, sizeOf, typeInfo, hi, hs1, run_sliceBound, h1]
  intro _
  cases A with
  | none => rfl
  | some a => simp [Addr.add]
theorem wpList_uptoP {e t : TypeId} {i : TypeInfo} (A : Option Addr) (n c y : Nat) (s x : Operand)
    (hgd : o.guard = none) (ho : o.op = .slice t s none (some x) none)
    (ht : P.underlying t = some (.slice e)) (hi : P.info? e = some i) (hs1 : i.size = 2)
    (hs : a.eval s = .slice A n c) {yi : Int} (hx : a.eval x = .int .i64 yi) (hyi : yi = y) (hy : y ≤ n) (hc : n ≤ c)
    (h : wpList P ops Q rest (a.put o.dst (.slice A y c)) w) : wpList P ops Q (o :: rest) a w := by
  subst hyi
  refine wpList_plain hgd fun K hK => ?_
  have hrun := run_uptoP (w := w) ht hi hs1 A n c y hy hc
  unfold Oper.wp execOp
  simp only [ho, Sem.run_bind, Sem.run_pure, Result.andThen_ok, Option.map_some, Option.map_none, hs, hx, hrun]
  exact hK _ _ h
/-- append of one integer, of one pair, at a step of a region that draws its order -/
theorem step_push {K : Act → World → Prop} {E : Prop} {k : IntKind} {e t : TypeId} {i : TypeInfo} {z : Value} {by_ : Nat} (base : Nat) (v : Value) (l : List Int) (x : Int) (s y : Operand) (B : Nat)
    (hgd : o.guard = none) (ho : o.op = .call { callee := .builtin .append, args := #[s, y], argTypes := #[t, t] })
    (ht : P.underlying t = some (.slice e)) (hi : P.info? e = some i) (hz : i.zero = some z) (hs1 : i.size = 1) (hby : i.bytes = by_) (hzs : z.cells.size = 1)
    (hs : a.eval s = v) (hy : a.eval y = .slice (some ⟨B, 0, none⟩) 1 1) (hB : w.heap[B]? = some (.cells #[.int k x] e (0, 0)))
    (hown : Own k e w base v l) (hbase : base ≤ w.heap.size) (hbytes : (l.length + 1) * by_ ≤ 140737488355328) (hlen : l.length + 1 ≤ maxLen)
    (h : ∀ v' w', Own k e w' base v' (l ++ [x]) → w.grownBy w' v.ownBlock → (v'.ownBlock = v.ownBlock ∨ v'.ownBlock = some w.heap.size) → K (a.put o.dst v') w') :
    if Region.wanted o (yielded ops a.tmps) = true then Oper.wp P o a w K Q else E := by
  have hw : Region.wanted o (yielded ops a.tmps) = true := by simp [Region.wanted, hgd]
  rw [if_pos hw]
  obtain ⟨v', w', hrun, h2, h3, _, h5⟩ := run_append_own_at (P := P) w base t o.type e i z 1 by_ ht hi hz hs1 hby hzs (by omega) v l.length _ hown ⟨B, 0, none⟩ 1 1 [.int k x] rfl (by
    intro j u hu
    rw [add_mk, cell_of_row w B j _ e (0, 0) hB]
    rw [← hu]
    rcases j with _ | j <;> rfl) (by intro u hu; simp at hu; subst hu; rfl) hlen hbytes hbase
  unfold Oper.wp execOp
  simp only [ho, resolve, invoke, builtin, Sem.run_bind, Sem.run_pure, Result.andThen_ok, List.map_toArray, List.map_cons, List.map_nil, hs, hy, hrun]
  exact h v' w' (by simpa [Own] using h2) h3 h5
theorem step_pushP {K : Act → World → Prop} {E : Prop} {t : TypeId} {i : TypeInfo} {z : Value} (base : Nat) (v : Value) (l : List (Int × Int)) (x : Int × Int) (s y : Operand) (B : Nat)
    (hgd : o.guard = none) (ho : o.op = .call { callee := .builtin .append, args := #[s, y], argTypes := #[t, t] })
    (ht : P.underlying t = some (.slice 43)) (hi : P.info? 43 = some i) (hz : i.zero = some z) (hs1 : i.size = 2) (hby : i.bytes = 16) (hzs : z.cells.size = 2)
    (hs : a.eval s = v) (hy : a.eval y = .slice (some ⟨B, 0, none⟩) 1 1) (hB : w.heap[B]? = some (.cells #[.int .u64 x.1, .int .u64 x.2] 43 (0, 0)))
    (hown : OwnP w base v l) (hbase : base ≤ w.heap.size) (hbytes : (l.length + 1) * 16 ≤ 140737488355328) (hlen : l.length + 1 ≤ maxLen)
    (h : ∀ v' w', OwnP w' base v' (l ++ [x]) → w.grownBy w' v.ownBlock → (v'.ownBlock = v.ownBlock ∨ v'.ownBlock = some w.heap.size) → K (a.put o.dst v') w') :
    if Region.wanted o (yielded ops a.tmps) = true then Oper.wp P o a w K Q else E := by
  have hw : Region.wanted o (yielded ops a.tmps) = true := by simp [Region.wanted, hgd]
  rw [if_pos hw]
  obtain ⟨v', w', hrun, h2, h3, _, h5⟩ := run_append_own_at (P := P) w base t o.type 43 i z 2 16 ht hi hz hs1 hby hzs (by omega) v l.length _ hown ⟨B, 0, none⟩ 1 1 [.int .u64 x.1, .int .u64 x.2] rfl (by
    intro j u hu
    rw [add_mk, cell_of_row w B j _ _ (0, 0) hB]
    rw [← hu]
    rcases j with _ | _ | j <;> rfl) (by intro u hu; simp at hu; rcases hu with rfl | rfl <;> rfl) hlen hbytes hbase
  unfold Oper.wp execOp
  simp only [ho, resolve, invoke, builtin, Sem.run_bind, Sem.run_pure, Result.andThen_ok, List.map_toArray, List.map_cons, List.map_nil, hs, hy, hrun]
  refine h v' w' ?_ h3 h5
  unfold OwnP
  rw [cellsP_app, List.length_append]
  exact h2
/-- the same, with what a round of CodeBack's loop needs of the old world -/
theorem step_pushK {K : Act → World → Prop} {E : Prop} {e t : TypeId} {i : TypeInfo} {z : Value} {by_ : Nat} (base : Nat) (v : Value) (l : List Int) (x : Int) (s y : Operand) (B : Nat)
    (hgd : o.guard = none) (ho : o.op = .call { callee := .builtin .append, args := #[s, y], argTypes := #[t, t] })
    (ht : P.underlying t = some (.slice e)) (hi : P.info? e = some i) (hz : i.zero = some z) (hs1 : i.size = 1) (hby : i.bytes = by_) (hzs : z.cells.size = 1) (hne : e ≠ 43)
    (hs : a.eval s = v) (hy : a.eval y = .slice (some ⟨B, 0, none⟩) 1 1) (hB : w.heap[B]? = some (.cells #[.int .u64 x] e (0, 0)))
    (hown : Own .u64 e w base v l) (hbase : base ≤ w.heap.size) (hbytes : (l.length + 1) * by_ ≤ 140737488355328) (hlen : l.length + 1 ≤ maxLen)
    (h : ∀ v' w', Own .u64 e w' base v' (l ++ [x]) → (∀ v2 l2, OwnP w base v2 l2 → OwnP w' base v2 l2) → (∀ (b : Nat) (cs : Array Value), w.heap[b]? = some (.cells cs 43 (0, 0)) → w'.heap[b]? = some (.cells cs 43 (0, 0))) → (∀ w0, Below base w0 w → Below base w0 w') → K (a.put o.dst v') w') :
    if Region.wanted o (yielded ops a.tmps) = true then Oper.wp P o a w K Q else E :=
  step_push base v l x s y B hgd ho ht hi hz hs1 hby hzs hs hy hB hown hbase hbytes hlen fun v' w' h1 h2 _ =>
    h v' w' h1 (fun v2 l2 hp => hp.push_far hown h2 hne) (fun b cs hh => grown_block hown h2 hh hne) (fun w0 hb => hb.grown h2 hbase (fun g hg => (hown.block g hg).1))
theorem step_pushQ {K : Act → World → Prop} {E : Prop} {t e2 : TypeId} {i : TypeInfo} {z : Value} (base : Nat) (v : Value) (l : List (Int × Int)) (x : Int × Int) (s y : Operand) (B : Nat)
    (hgd : o.guard = none) (ho : o.op = .call { callee := .builtin .append, args := #[s, y], argTypes := #[t, t] })
    (ht : P.underlying t = some (.slice 43)) (hi : P.info? 43 = some i) (hz : i.zero = some z) (hs1 : i.size = 2) (hby : i.bytes = 16) (hzs : z.cells.size = 2) (hne : 43 ≠ e2)
    (hs : a.eval s = v) (hy : a.eval y = .slice (some ⟨B, 0, none⟩) 1 1) (hB : w.heap[B]? = some (.cells #[.int .u64 x.1, .int .u64 x.2] 43 (0, 0)))
    (hown : OwnP w base v l) (hbase : base ≤ w.heap.size) (hbytes : (l.length + 1) * 16 ≤ 140737488355328) (hlen : l.length + 1 ≤ maxLen)
    (h : ∀ v' w', OwnP w' base v' (l ++ [x]) → (∀ v2 l2, Own .u64 e2 w base v2 l2 → Own .u64 e2 w' base v2 l2) → (∀ (b : Nat) (o : Obj), v.ownBlock ≠ some b → w.heap[b]? = some o → w'.heap[b]? = some o) → (∀ w0, Below base w0 w → Below base w0 w') → K (a.put o.dst v') w') :
    if Region.wanted o (yielded ops a.tmps) = true then Oper.wp P o a w K Q else E :=
  step_pushP base v l x s y B hgd ho ht hi hz hs1 hby hzs hs hy hB hown hbase hbytes hlen fun v' w' h1 h2 _ =>
    h v' w' h1 (fun v2 l2 hp => hp.push_farP hown h2 hne) (fun b o hb hh => by rw [h2.block b (blk_lt hh) (fun q => hb q.symm)]; exact hh) (fun w0 hb => hb.grown h2 hbase (fun g hg => (hown.block g hg).1))
end
theorem OwnP.made {w : World} {base : Nat} (hb : base ≤ w.heap.size) : OwnP (w.alloc (.cells #[] 43)) base (.slice (some ⟨w.heap.size, 0, none⟩) 0 0) [] :=
  ⟨rfl, .inr ⟨_, _, _, rfl, hb, heap_alloc_new w _, Nat.le_refl _, by simp [maxLen], by simp, by simp [cellsP]⟩⟩
end Go.Proofs.Ytnlflpcioiieaaa
