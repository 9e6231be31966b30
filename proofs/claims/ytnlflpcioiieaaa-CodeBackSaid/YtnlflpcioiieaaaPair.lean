/-
  Slices of pairs: one that reads as a list (RdP), one of the call's own (OwnP), append of one.
-/
import Derived.Test.YtnlflpcioiieaaaKit
namespace Go.Proofs.Ytnlflpcioiieaaa
set_option linter.unusedVariables false
set_option linter.unusedSimpArgs false
open Go.RowKit

/-- a slice of pairs that reads so -/
def RdP (w : World) (A : Option Addr) (l : List (Int × Int)) : Prop := ∀ i : Nat, i < l.length → ∃ ad, A = some ad ∧ ad.block < w.heap.size ∧ w.cell? (ad.add (i * 2)) = some (.int .u64 (l.getD i (0, 0)).1) ∧ w.cell? (ad.add (i * 2 + 1)) = some (.int .u64 (l.getD i (0, 0)).2)
theorem RdP.below {w w' : World} {A : Option Addr} {l : List (Int × Int)} (h : RdP w A l) (hb : Below w.heap.size w w') : RdP w' A l := fun i hi => by
  obtain ⟨ad, e, h1, h2, h3⟩ := h i hi
  exact ⟨ad, e, by have := hb.size; omega, (hb.cell (p := ad.add (i * 2)) (by rw [block_of_add]; exact h1)).trans h2, (hb.cell (p := ad.add (i * 2 + 1)) (by rw [block_of_add]; exact h1)).trans h3⟩
theorem RdP.nil (w : World) (A : Option Addr) : RdP w A [] := fun i hi => absurd hi (by simp)
theorem RdP.take {w : World} {A : Option Addr} {l : List (Int × Int)} (h : RdP w A l) (m : Nat) : RdP w A (l.take m) := fun i hi => by
  simp only [List.length_take] at hi
  obtain ⟨ad, e, h1, h2, h3⟩ := h i (by omega)
  have : (l.take m).getD i (0, 0) = l.getD i (0, 0) := by simp [List.getD_eq_getElem?_getD, List.getElem?_take, show i < m by omega]
  exact ⟨ad, e, h1, by rw [this]; exact h2, by rw [this]; exact h3⟩
/-- the cells of pairs -/
def cellsP : List (Int × Int) → List Value
  | [] => []
  | x :: l => .int .u64 x.1 :: .int .u64 x.2 :: cellsP l
theorem cellsP_len (l : List (Int × Int)) : (cellsP l).length = l.length * 2 := by
  induction l with
  | nil => rfl
  | cons x l ih => simp only [cellsP, List.length_cons, ih]; omega
theorem cellsP_app (l m : List (Int × Int)) : cellsP (l ++ m) = cellsP l ++ cellsP m := by
  induction l with
  | nil => rfl
  | cons x l ih => simp [cellsP, ih]
theorem cellsP_at (l : List (Int × Int)) : ∀ i : Nat, i < l.length → (cellsP l)[i * 2]? = some (.int .u64 (l.getD i (0, 0)).1) ∧ (cellsP l)[i * 2 + 1]? = some (.int .u64 (l.getD i (0, 0)).2) := by
  induction l with
  | nil => intro i hi; simp at hi
  | cons x l ih =>
    intro i hi
    rcases i with _ | i
    · exact ⟨rfl, rfl⟩
    · have := ih i (by simpa using hi)
      rw [show (i + 1) * 2 = i * 2 + 1 + 1 by omega, show i * 2 + 1 + 1 + 1 = (i * 2 + 1) + 1 + 1 by omega]
      simpa [cellsP] using this
/-- a slice of pairs of the call's own (from block 'base' on) -/
def OwnP (w : World) (base : Nat) (v : Value) (l : List (Int × Int)) : Prop := w.ownsRow base 43 2 v l.length (cellsP l)
theorem OwnP.form {w : World} {base : Nat} {v : Value} {l : List (Int × Int)} (h : OwnP w base v l) : ∃ A c, v = .slice A l.length c ∧ l.length ≤ c ∧ c ≤ maxLen ∧ RdP w A l := by
  rcases h.2 with ⟨rfl, hn⟩ | ⟨g, cap, cur, rfl, hg, hh, hnc, hcap, hsz, htk⟩
  · refine ⟨none, 0, by rw [hn], by omega, by simp [maxLen], fun i hi => by omega⟩
  · refine ⟨some ⟨g, 0, none⟩, cap, rfl, hnc, hcap, fun i hi => ⟨_, rfl, ?_, ?_, ?_⟩⟩
    · rcases Nat.lt_or_ge g w.heap.size with h1 | h1
      · exact h1
      · rw [Array.getElem?_eq_none h1] at hh; cases hh
    · rw [add_mk, cell_of_row w g _ cur _ (0, 0) hh]
      have h1 := (cellsP_at l i hi).1
      rw [← htk, List.getElem?_take, if_pos (by omega)] at h1
      simpa using h1
    · rw [add_mk, cell_of_row w g _ cur _ (0, 0) hh]
      have h1 := (cellsP_at l i hi).2
      rw [← htk, List.getElem?_take, if_pos (by omega)] at h1
      simpa using h1
theorem OwnP.nil (w : World) (base : Nat) : OwnP w base (.slice none 0 0) [] := ⟨rfl, .inl ⟨rfl, rfl⟩⟩
theorem OwnP.block {w : World} {base : Nat} {v : Value} {l : List (Int × Int)} (h : OwnP w base v l) : ∀ g, v.ownBlock = some g → base ≤ g ∧ g < w.heap.size := by
  rcases h.2 with ⟨rfl, hn⟩ | ⟨g, cap, cur, rfl, hg, hh, hnc, hcap, hsz, htk⟩
  · intro g hg; simp [Value.ownBlock] at hg
  · intro g' hg'
    simp [Value.ownBlock] at hg'
    subst hg'
    exact ⟨hg, blk_lt hh⟩
/-- goes on behind what touches no block of pairs -/
theorem OwnP.kept {w w' : World} {base : Nat} {v : Value} {l : List (Int × Int)} {row : Option Nat} (h : OwnP w base v l) (hg : w.grownBy w' row) (hne : ∀ g, row = some g → ∀ cs, w.heap[g]? ≠ some (.cells cs 43 (0, 0))) : OwnP w' base v l := by
  obtain ⟨h1, h2⟩ := h
  refine ⟨h1, ?_⟩
  rcases h2 with h2 | ⟨g, cap, cur, rfl, hgb, hh, hr⟩
  · exact .inl h2
  · refine .inr ⟨g, cap, cur, rfl, hgb, ?_, hr⟩
    rw [hg.block g (blk_lt hh) (fun e => hne g e.symm cur hh)]
    exact hh
theorem OwnP.below {w w' : World} {base : Nat} {v : Value} {l : List (Int × Int)} (h : OwnP w base v l) (hb : Below w.heap.size w w') : OwnP w' base v l :=
  h.kept (row := none) ⟨hb.os, hb.tape, hb.output, hb.size, fun i hi _ => hb.block i hi⟩ (fun g hg => by cases hg)
/-- a block of another type is no row of pairs that is appended to -/
theorem grown_blockP {w w' : World} {base : Nat} {v : Value} {l : List (Int × Int)} (ho : OwnP w base v l) (hg : w.grownBy w' v.ownBlock) {b : Nat} {cs : Array Value} {t : TypeId} (hh : w.heap[b]? = some (.cells cs t (0, 0))) (hne : 43 ≠ t) :
    w'.heap[b]? = some (.cells cs t (0, 0)) := by
  rw [hg.block b (blk_lt hh) ?_, hh]
  intro hb
  rcases ho.2 with ⟨rfl, hn⟩ | ⟨g, cap, cur, rfl, hg', hh', _⟩
  · simp [Value.ownBlock] at hb
  · simp [Value.ownBlock] at hb
    subst hb
    rw [hh] at hh'
    cases hh'
    exact hne rfl
/-- a store into a block that isn't the row's -/
theorem OwnP.set {w : World} {base : Nat} {v : Value} {l : List (Int × Int)} (h : OwnP w base v l) (b i : Nat) (u : Value) (hne : v.ownBlock ≠ some b) : OwnP (w.setCell ⟨b, i, none⟩ u) base v l := by
  obtain ⟨h1, h2⟩ := h
  refine ⟨h1, ?_⟩
  rcases h2 with h2 | ⟨g, cap, cur, rfl, hgb, hh, hr⟩
  · exact .inl h2
  · refine .inr ⟨g, cap, cur, rfl, hgb, ?_, hr⟩
    rw [Below.heap_setCell w ⟨b, i, none⟩ u g (by rintro rfl; exact hne rfl)]
    exact hh
theorem OwnP.not_new {w : World} {base : Nat} {v : Value} {l : List (Int × Int)} (h : OwnP w base v l) (b : Nat) (hb : w.heap.size ≤ b) : v.ownBlock ≠ some b := fun e => by
  have := (h.block b e).2
  omega
theorem OwnP.alloc {w : World} {base : Nat} {v : Value} {l : List (Int × Int)} (h : OwnP w base v l) (o : Obj) : OwnP (w.alloc o) base v l :=
  h.below ((Below.refl _ _).alloc (Nat.le_refl _) o)
theorem OwnP.lt {w : World} {base : Nat} {v : Value} {l : List (Int × Int)} (h : OwnP w base v l) {b : Nat} {cs : Array Value} {t : TypeId} (hh : w.heap[b]? = some (.cells cs t (0, 0))) (ht : 43 ≠ t) : v.ownBlock ≠ some b := fun e => by
  rcases h.2 with ⟨rfl, hn⟩ | ⟨g, cap, cur, rfl, hg', hh', _⟩
  · simp [Value.ownBlock] at e
  · simp [Value.ownBlock] at e
    subst e
    rw [hh] at hh'
    cases hh'
    exact ht rfl
theorem alloc_at {w : World} {o : Obj} {k : Nat} (h : k = w.heap.size) : (w.alloc o).heap[k]? = some o := by subst h; exact heap_alloc_new _ _
theorem blk_alloc {w : World} {b : Nat} {o : Obj} (hh : w.heap[b]? = some o) (x : Obj) : (w.alloc x).heap[b]? = some o := blk_below hh ((Below.refl _ _).alloc (Nat.le_refl _) x) rfl
theorem blk_other {w : World} {b b' : Nat} {o : Obj} (hh : w.heap[b]? = some o) (i : Nat) (v : Value) (hne : b ≠ b') : (w.setCell ⟨b', i, none⟩ v).heap[b]? = some o := by
  rw [Below.heap_setCell w ⟨b', i, none⟩ v b hne]; exact hh
theorem pair_addr (ad : Addr) (k : Nat) : ad.add (k + 1) = ⟨(ad.add k).block, (ad.add k).off + 1, none⟩ := by
  rw [← add_of_add]
  generalize ad.add k = a
  simp [Addr.add]
/-- a row of integers that is appended to is no row of pairs, nor the other way round -/
theorem OwnP.push_far {w w' : World} {base base2 : Nat} {v v2 : Value} {l : List (Int × Int)} {k : IntKind} {e : TypeId} {l2 : List Int} (ho : OwnP w base v l) (hn : Own k e w base2 v2 l2) (hg : w.grownBy w' v2.ownBlock) (hne : e ≠ 43) : OwnP w' base v l :=
  ho.kept hg (fun g hg' cs hh => by
    rcases hn.2 with ⟨rfl, _⟩ | ⟨g', cap, cur, rfl, _, hh', _⟩
    · simp [Value.ownBlock] at hg'
    · simp [Value.ownBlock] at hg'
      subst hg'
      rw [hh] at hh'
      cases hh'
      exact hne rfl)
theorem Own.push_farP {w w' : World} {base base2 : Nat} {v v2 : Value} {l : List (Int × Int)} {k : IntKind} {e : TypeId} {l2 : List Int} (hn : Own k e w base v l2) (ho : OwnP w base2 v2 l) (hg : w.grownBy w' v2.ownBlock) (hne : 43 ≠ e) : Own k e w' base v l2 := by
  obtain ⟨h1, h2⟩ := hn
  refine ⟨h1, ?_⟩
  rcases h2 with h2 | ⟨g, cap, cur, rfl, hgb, hh, hr⟩
  · exact .inl h2
  · exact .inr ⟨g, cap, cur, rfl, hgb, grown_blockP ho hg hh hne, hr⟩
theorem pair_info : (Try.prog.info? 43).map (fun i => (i.zero, i.size, i.bytes)) = some (some (.agg #[.int .u64 0, .int .u64 0]), 2, 16) := by kernel_rfl

section
variable {P : Program} {ops : Array Oper} {rest : List Oper} {o : Oper} {a : Act} {Q : Exit → Act → World → Prop} {w : World}
/-- append of one pair to a slice of the call's own -/
theorem wpList_pushP {t : TypeId} {i : TypeInfo} {z : Value} (base : Nat) (v : Value) (l : List (Int × Int)) (x : Int × Int) (s y : Operand) (B : Nat)
    (hgd : o.guard = none) (ho : o.op = .call { callee := .builtin .append, args := #[s, y], argTypes := #[t, t] })
    (ht : P.underlying t = some (.slice 43)) (hi : P.info? 43 = some i) (hz : i.zero = some z) (hs1 : i.size = 2) (hby : i.bytes = 16) (hzs : z.cells.size = 2)
    (hs : a.eval s = v) (hy : a.eval y = .slice (some ⟨B, 0, none⟩) 1 1) (hB : w.heap[B]? = some (.cells #[.int .u64 x.1, .int .u64 x.2] 43 (0, 0)))
    (hown : OwnP w base v l) (hbase : base ≤ w.heap.size) (hbytes : (l.length + 1) * 16 ≤ 140737488355328) (hlen : l.length + 1 ≤ maxLen)
    (h : ∀ v' w', OwnP w' base v' (l ++ [x]) → w.grownBy w' v.ownBlock → (v'.ownBlock = v.ownBlock ∨ v'.ownBlock = some w.heap.size) → wpList P ops Q rest (a.put o.dst v') w') : wpList P ops Q (o :: rest) a w := by
  refine wpList_append_own_at w hgd s y t ho base 43 i z 2 16 ht hi hz hs1 hby hzs (by omega) v l.length _ hs hown ⟨B, 0, none⟩ 1 1 [.int .u64 x.1, .int .u64 x.2] hy rfl ?_ ?_ hlen hbytes hbase ?_
  · intro j u hu
    rw [add_mk, cell_of_row w B j _ _ (0, 0) hB]
    rw [← hu]
    rcases j with _ | _ | j <;> rfl
  · intro u hu
    simp at hu
    rcases hu with rfl | rfl <;> rfl
  · intro v' w' h1 h2 _ h4
    refine h v' w' ?_ h2 h4
    unfold OwnP
    rw [cellsP_app, List.length_append]
    exact h1
end
end Go.Proofs.Ytnlflpcioiieaaa
