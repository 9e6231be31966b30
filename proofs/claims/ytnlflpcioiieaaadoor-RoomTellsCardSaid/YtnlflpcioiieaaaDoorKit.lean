/-
  Words for memory, of no program: a slice of integers that reads as a list (Rd), a slice of the call's own (Own), append of one and of many.
-/
import Derived.Test.YtnlflpcioiieaaaDoorProg
import Derived.WalkKit
import Derived.WalkSpells
import Derived.WalkLawsBesides
import Derived.Deep.QuietTactic
import Derived.BigQuiet
import Derived.Deep.RegionHeld3
import Derived.Lib.Hide
import Derived.Maps.AppendAt
import Derived.Deep.AppendLies
import Derived.LoopTactic
namespace Go.Proofs.YtnlflpcioiieaaaDoor
set_option linter.unusedVariables false
set_option linter.unusedSimpArgs false
open Go.RowKit

theorem bcell {W w1 : World} (hb : Below W.heap.size W w1) : (∀ b o, b < W.heap.size → w1.cell? ⟨b, o, none⟩ = W.cell? ⟨b, o, none⟩) ∧ (∀ b o, b < W.heap.size → w1.frozen? ⟨b, o, none⟩ = W.frozen? ⟨b, o, none⟩) :=
  ⟨fun b o h => hb.cell (p := ⟨b, o, none⟩) h, fun b o h => hb.frozen (p := ⟨b, o, none⟩) h⟩
theorem gmax2_int (k k' : IntKind) (x y : Int) : Builtin.max2 (.int k x) (.int k' y) = pure (.int k (if x < y then y else x)) := by simp only [Builtin.max2, gt_iff_lt]
theorem gmin2_int (k k' : IntKind) (x y : Int) : Builtin.min2 (.int k x) (.int k' y) = pure (.int k (if y < x then y else x)) := by simp only [Builtin.min2]
theorem gmax_two (ats : Array TypeId) (ty : TypeId) (a b : Value) : Builtin.max_ ats ty #[a, b] = (Builtin.max2 a b >>= fun s => pure s) := by simp only [Builtin.max_, List.foldlM_cons, List.foldlM_nil]
theorem gmin_two (ats : Array TypeId) (ty : TypeId) (a b : Value) : Builtin.min_ ats ty #[a, b] = (Builtin.min2 a b >>= fun s => pure s) := by simp only [Builtin.min_, List.foldlM_cons, List.foldlM_nil]
theorem below_drewN {B : Nat} {w w' : World} (h : Below B w w') (n : Nat) : Below B w (w'.drewN n) := h.trans ⟨rfl, rfl, rfl, Nat.le_refl _, fun _ _ => rfl⟩
theorem block_of_add (a : Addr) (n : Nat) : (a.add n).block = a.block := by unfold Addr.add; split <;> rfl
theorem add_of_add (a : Addr) (i j : Nat) : (a.add i).add j = a.add (i + j) := by
  unfold Addr.add
  by_cases hi : i = 0 <;> by_cases hj : j = 0 <;> simp [hi, hj, Nat.add_assoc]
theorem add_mk (g i : Nat) : (Addr.mk g 0 none).add i = ⟨g, i, none⟩ := by
  unfold Addr.add; split
  · rename_i h; subst h; rfl
  · simp
theorem ret_int {k : IntKind} {a b : Int} (h : a = b) : Ending.returned (.int k a) = Ending.returned (.int k b) := by rw [h]
theorem ret_bool {a b : Bool} (h : a = b) : Ending.returned (.bool a) = Ending.returned (.bool b) := by rw [h]

/-- a slice of integers that reads so -/
def Rd (k : IntKind) (w : World) (A : Option Addr) (l : List Int) : Prop := ∀ i : Nat, i < l.length → ∃ ad, A = some ad ∧ ad.block < w.heap.size ∧ w.cell? (ad.add i) = some (.int k (l.getD i 0))
theorem Rd.below {k : IntKind} {w w' : World} {A : Option Addr} {l : List Int} (h : Rd k w A l) (hb : Below w.heap.size w w') : Rd k w' A l := fun i hi => by
  obtain ⟨ad, e, h1, h2⟩ := h i hi
  exact ⟨ad, e, by have := hb.size; omega, (hb.cell (p := ad.add i) (by rw [block_of_add]; exact h1)).trans h2⟩
theorem Rd.nil (k : IntKind) (w : World) (A : Option Addr) : Rd k w A [] := fun i hi => absurd hi (by simp)
theorem Rd.cut {k : IntKind} {w : World} {A : Option Addr} {l : List Int} (h : Rd k w A l) (j m : Nat) : Rd k w (A.map (·.add j)) ((l.drop j).take m) := fun i hi => by
  simp only [List.length_take, List.length_drop] at hi
  obtain ⟨ad, e, h1, h2⟩ := h (j + i) (by omega)
  refine ⟨ad.add j, by rw [e]; rfl, by rw [block_of_add]; exact h1, ?_⟩
  rw [add_of_add, h2]
  simp [List.getD_eq_getElem?_getD, List.getElem?_take, List.getElem?_drop, show i < m by omega]
theorem Rd.take {k : IntKind} {w : World} {A : Option Addr} {l : List Int} (h : Rd k w A l) (m : Nat) : Rd k w A (l.take m) := fun i hi => by
  simp only [List.length_take] at hi
  obtain ⟨ad, e, h1, h2⟩ := h i (by omega)
  refine ⟨ad, e, h1, ?_⟩
  rw [h2]
  simp [List.getD_eq_getElem?_getD, List.getElem?_take, show i < m by omega]

/-- a slice of the call's own (from block 'base' on) that holds so -/
def Own (k : IntKind) (e : TypeId) (w : World) (base : Nat) (v : Value) (l : List Int) : Prop := w.ownsRow base e 1 v l.length (l.map (Value.int k))
theorem Own.form {k : IntKind} {e : TypeId} {w : World} {base : Nat} {v : Value} {l : List Int} (h : Own k e w base v l) : ∃ A c, v = .slice A l.length c ∧ l.length ≤ c ∧ c ≤ maxLen ∧ Rd k w A l := by
  rcases h.2 with ⟨rfl, hn⟩ | ⟨g, cap, cur, rfl, hg, hh, hnc, hcap, hsz, htk⟩
  · refine ⟨none, 0, by rw [hn], by omega, by simp [maxLen], fun i hi => by omega⟩
  · refine ⟨some ⟨g, 0, none⟩, cap, rfl, hnc, hcap, fun i hi => ⟨_, rfl, ?_, ?_⟩⟩
    · rcases Nat.lt_or_ge g w.heap.size with h1 | h1
      · exact h1
      · rw [Array.getElem?_eq_none h1] at hh; cases hh
    · rw [add_mk, cell_of_row w g i cur e (0, 0) hh]
      have h1 : (cur.toList.take (l.length * 1))[i]? = some (.int k (l.getD i 0)) := by
        rw [htk, List.getElem?_map, List.getD_eq_getElem?_getD, List.getElem?_eq_getElem hi]; rfl
      rw [List.getElem?_take, if_pos (by omega)] at h1
      simpa using h1
theorem Own.below {k : IntKind} {e : TypeId} {w w' : World} {base : Nat} {v : Value} {l : List Int} (h : Own k e w base v l) (hb : Below w.heap.size w w') : Own k e w' base v l := by
  obtain ⟨h1, h2⟩ := h
  refine ⟨h1, ?_⟩
  rcases h2 with h2 | ⟨g, cap, cur, rfl, hg, hh, hr⟩
  · exact .inl h2
  · refine .inr ⟨g, cap, cur, rfl, hg, ?_, hr⟩
    rw [hb.block g (by
      rcases Nat.lt_or_ge g w.heap.size with h1 | h1
      · exact h1
      · rw [Array.getElem?_eq_none h1] at hh; cases hh)]
    exact hh
theorem Own.mono {k : IntKind} {e : TypeId} {w : World} {base base' : Nat} {v : Value} {l : List Int} (h : Own k e w base v l) (hB : base' ≤ base) : Own k e w base' v l := by
  obtain ⟨h1, h2⟩ := h
  refine ⟨h1, ?_⟩
  rcases h2 with h2 | ⟨g, cap, cur, rfl, hg, hr⟩
  · exact .inl h2
  · exact .inr ⟨g, cap, cur, rfl, by omega, hr⟩
theorem Own.nil (k : IntKind) (e : TypeId) (w : World) (base : Nat) : Own k e w base (.slice none 0 0) [] := ⟨rfl, .inl ⟨rfl, rfl⟩⟩
theorem Own.block {k : IntKind} {e : TypeId} {w : World} {base : Nat} {v : Value} {l : List Int} (h : Own k e w base v l) : ∀ g, v.ownBlock = some g → base ≤ g ∧ g < w.heap.size := by
  rcases h.2 with ⟨rfl, hn⟩ | ⟨g, cap, cur, rfl, hg, hh, hnc, hcap, hsz, htk⟩
  · intro g hg; simp [Value.ownBlock] at hg
  · intro g' hg'
    simp [Value.ownBlock] at hg'
    subst hg'
    refine ⟨hg, ?_⟩
    rcases Nat.lt_or_ge g w.heap.size with h1 | h1
    · exact h1
    · rw [Array.getElem?_eq_none h1] at hh; cases hh
/-- a new block of the call's, laid out -/
theorem Own.made {k : IntKind} {e : TypeId} {w : World} {base : Nat} (hb : base ≤ w.heap.size) (l : List Int) (hl : l.length ≤ maxLen) : Own k e (w.alloc (.cells (l.map (Value.int k)).toArray e)) base (.slice (some ⟨w.heap.size, 0, none⟩) l.length l.length) l :=
  ⟨by simp, .inr ⟨_, _, _, rfl, hb, heap_alloc_new w _, Nat.le_refl _, hl, by simp, by simp [List.take_of_length_le]⟩⟩

section
variable {P : Program} {ops : Array Oper} {rest : List Oper} {o : Oper} {a : Act} {Q : Exit → Act → World → Prop} {w : World}
/-- append of one integer to a slice of the call's own -/
theorem wpList_push {k : IntKind} {e t : TypeId} {i : TypeInfo} {z : Value} {by_ : Nat} (base : Nat) (v : Value) (l : List Int) (x : Int) (s y : Operand) (B : Nat)
    (hgd : o.guard = none) (ho : o.op = .call { callee := .builtin .append, args := #[s, y], argTypes := #[t, t] })
    (ht : P.underlying t = some (.slice e)) (hi : P.info? e = some i) (hz : i.zero = some z) (hs1 : i.size = 1) (hby : i.bytes = by_) (hzs : z.cells.size = 1)
    (hs : a.eval s = v) (hy : a.eval y = .slice (some ⟨B, 0, none⟩) 1 1) (hB : w.heap[B]? = some (.cells #[.int k x] e (0, 0)))
    (hown : Own k e w base v l) (hbase : base ≤ w.heap.size) (hbytes : (l.length + 1) * by_ ≤ 140737488355328) (hlen : l.length + 1 ≤ maxLen)
    (h : ∀ v' w', Own k e w' base v' (l ++ [x]) → w.grownBy w' v.ownBlock → (v'.ownBlock = v.ownBlock ∨ v'.ownBlock = some w.heap.size) → wpList P ops Q rest (a.put o.dst v') w') : wpList P ops Q (o :: rest) a w := by
  refine wpList_append_own_at w hgd s y t ho base e i z 1 by_ ht hi hz hs1 hby hzs (by omega) v l.length _ hs hown ⟨B, 0, none⟩ 1 1 [.int k x] hy rfl ?_ ?_ hlen hbytes hbase ?_
  · intro j u hu
    have hj : j = 0 := by
      rcases j with _ | j
      · rfl
      · simp at hu
    subst hj
    simp at hu
    subst hu
    rw [add_mk, cell_of_row w B 0 _ e (0, 0) hB]
    rfl
  · intro u hu
    simp at hu
    subst hu
    rfl
  · intro v' w' h1 h2 _ h4
    refine h v' w' ?_ h2 h4
    simpa [Own] using h1
/-- append of a slice that reads as a list to a slice of the call's own -/
theorem wpList_pushAll {k : IntKind} {e t : TypeId} {i : TypeInfo} {z : Value} {by_ : Nat} (base : Nat) (v : Value) (l m : List Int) (A : Option Addr) (c : Nat) (s y : Operand)
    (hgd : o.guard = none) (ho : o.op = .call { callee := .builtin .append, args := #[s, y], argTypes := #[t, t] })
    (ht : P.underlying t = some (.slice e)) (hi : P.info? e = some i) (hz : i.zero = some z) (hs1 : i.size = 1) (hby : i.bytes = by_) (hzs : z.cells.size = 1)
    (hs : a.eval s = v) (hy : a.eval y = .slice A m.length c) (hr : Rd k w A m)
    (hown : Own k e w base v l) (hbase : base ≤ w.heap.size) (hbytes : (l.length + m.length) * by_ ≤ 140737488355328) (hlen : l.length + m.length ≤ maxLen)
    (h : ∀ v' w', Own k e w' base v' (l ++ m) → w.grownBy w' v.ownBlock → (v'.ownBlock = v.ownBlock ∨ v'.ownBlock = some w.heap.size) → wpList P ops Q rest (a.put o.dst v') w') : wpList P ops Q (o :: rest) a w := by
  rcases A with _ | ad
  · -- nothing to append: the value as it was
    have hm : m = [] := by
      rcases m with _ | ⟨m0, m⟩
      · rfl
      · obtain ⟨ad, e1, _⟩ := hr 0 (by simp)
        cases e1
    subst hm
    refine wpList_plain hgd fun K hK => ?_
    have hrun : (Builtin.append_ #[t, t] o.type #[v, .slice none 0 c]).run P w = .ok v w := by
      rcases hown.2 with ⟨rfl, hn⟩ | ⟨g, cap, cur, rfl, hg, hh, hnc, hcap, hsz, htk⟩
      · simp [Builtin.append_, run_underlying ht, sizeOf, typeInfo, hi, Builtin.lenOf, Builtin.firstCells]
      · simp [Builtin.append_, run_underlying ht, sizeOf, typeInfo, hi, Builtin.lenOf, Builtin.firstCells, hnc, storeCells]
    unfold Oper.wp execOp
    simp only [ho, resolve, invoke, builtin, Sem.run_bind, Sem.run_pure, Result.andThen_ok, List.map_toArray, List.map_cons, List.map_nil, hs, hy, List.length_nil, hrun]
    exact hK _ _ (h v w (by simpa using hown) (World.grownBy.refl w _) (.inl rfl))
  · refine wpList_append_own_at w hgd s y t ho base e i z 1 by_ ht hi hz hs1 hby hzs (by omega) v l.length _ hs hown ad m.length c (m.map (Value.int k)) hy (by simp) ?_ ?_ hlen hbytes hbase ?_
    · intro j u hu
      have hj : j < m.length := by
        rcases Nat.lt_or_ge j m.length with h1 | h1
        · exact h1
        · rw [List.getElem?_eq_none (by simpa using h1)] at hu; cases hu
      obtain ⟨ad', e1, _, hc⟩ := hr j hj
      cases e1
      rw [hc, ← hu, List.getElem?_map, List.getD_eq_getElem?_getD, List.getElem?_eq_getElem hj]
      rfl
    · intro u hu
      obtain ⟨x, _, rfl⟩ := List.mem_map.1 hu
      rfl
    · intro v' w' h1 h2 _ h4
      refine h v' w' ?_ h2 h4
      simpa [Own] using h1
end
theorem below_grown {B : Nat} {w0 w w' : World} {k : IntKind} {e : TypeId} {v : Value} {l : List Int} (h : Below B w0 w) (ho : Own k e w B v l) (hg : w.grownBy w' v.ownBlock) (hB : B ≤ w.heap.size) : Below B w0 w' :=
  h.grown hg hB (fun g hgk => (ho.block g hgk).1)
end Go.Proofs.YtnlflpcioiieaaaDoor
