/-
  Words for memory, of no program: what changes in some blocks alone (Chg).
-/
import Derived.Test.YtmpjjehihimadaaGreatKit
namespace Go.Proofs.YtmpjjehihimadaaGreat
set_option linter.unusedVariables false
set_option linter.unusedSimpArgs false
open Go.RowKit

/-- of the blocks that there were, these alone changed -/
structure Chg (S : Nat → Prop) (w w' : World) : Prop where
  os : w'.os = w.os
  tape : w'.tape = w.tape
  output : w'.output = w.output
  size : w.heap.size ≤ w'.heap.size
  block : ∀ k, k < w.heap.size → ¬ S k → w'.heap[k]? = w.heap[k]?
section
variable {S T : Nat → Prop} {w w' w'' : World}
theorem Chg.refl (S : Nat → Prop) (w : World) : Chg S w w := ⟨rfl, rfl, rfl, Nat.le_refl _, fun _ _ _ => rfl⟩
theorem Chg.trans (h : Chg S w w') (k : Chg T w' w'') (hT : ∀ b, b < w.heap.size → T b → S b) : Chg S w w'' :=
  ⟨k.os.trans h.os, k.tape.trans h.tape, k.output.trans h.output, Nat.le_trans h.size k.size, fun b hb hS => (k.block b (Nat.lt_of_lt_of_le hb h.size) (fun ht => hS (hT b hb ht))).trans (h.block b hb hS)⟩
theorem Chg.then (h : Chg S w w') (k : Chg S w' w'') : Chg S w w'' := h.trans k (fun _ _ hs => hs)
theorem Chg.mono (h : Chg S w w') (hT : ∀ b, b < w.heap.size → S b → T b) : Chg T w w' := ⟨h.os, h.tape, h.output, h.size, fun b hb hS => h.block b hb (fun ht => hS (hT b hb ht))⟩
theorem Chg.alloc (h : Chg S w w') (o : Obj) : Chg S w (w'.alloc o) :=
  ⟨h.os, h.tape, h.output, by simpa using Nat.le_succ_of_le h.size, fun j hj hne => (heap_alloc_old w' o (Nat.lt_of_lt_of_le hj h.size)).trans (h.block j hj hne)⟩
theorem Chg.drew (h : Chg S w w') : Chg S w w'.drew := ⟨h.os, h.tape, h.output, h.size, h.block⟩
theorem Chg.drewN (h : Chg S w w') (n : Nat) : Chg S w (w'.drewN n) := ⟨h.os, h.tape, h.output, h.size, h.block⟩
theorem Chg.set (h : Chg S w w') {b i : Nat} (u : Value) (hb : S b ∨ w.heap.size ≤ b) : Chg S w (w'.setCell ⟨b, i, none⟩ u) :=
  ⟨h.os, h.tape, h.output, by simpa using h.size, fun k hk hne => by
    rw [Below.heap_setCell w' ⟨b, i, none⟩ u k (fun e => by
      have e' : k = b := e
      subst e'
      rcases hb with hb | hb
      · exact hne hb
      · omega)]
    exact h.block k hk hne⟩
theorem Chg.of_below (h : Below w.heap.size w w') : Chg S w w' := ⟨h.os, h.tape, h.output, h.size, fun k hk _ => h.block k hk⟩
theorem Chg.of_belowB {B : Nat} (h : Below B w w') (hB : B ≤ w.heap.size) (hS : ∀ k, B ≤ k → k < w.heap.size → S k) : Chg S w w' :=
  ⟨h.os, h.tape, h.output, h.size, fun k hk hs => h.block k (by rcases Nat.lt_or_ge k B with h1 | h1; exact h1; exact absurd (hS k h1 hk) hs)⟩
theorem Chg.of_grown {row : Option Nat} (h : w.grownBy w' row) (hS : ∀ b, row = some b → S b) : Chg S w w' := ⟨h.os, h.tape, h.output, h.size, fun k hk hs => h.block k hk (fun e => hs (hS k e.symm))⟩
theorem Chg.blk (h : Chg S w w') {b : Nat} {o : Obj} (hb : w.heap[b]? = some o) (hn : ¬ S b) : w'.heap[b]? = some o := (h.block b (blk_lt hb) hn).trans hb
theorem Chg.below {B : Nat} (h : Chg S w w') (hB : B ≤ w.heap.size) (hS : ∀ b, b < B → ¬ S b) : Below B w w' := ⟨h.os, h.tape, h.output, h.size, fun k hk => h.block k (Nat.lt_of_lt_of_le hk hB) (hS k hk)⟩
theorem below_of_none (h : Chg (fun _ => False) w w') : Below w.heap.size w w' := h.below (Nat.le_refl _) (fun _ _ h => h)
end
theorem blk_new (w : World) (cs : Array Value) (t : TypeId) : (w.alloc (.cells cs t)).heap[w.heap.size]? = some (.cells cs t (0, 0)) := heap_alloc_new w _
theorem blk_old {w : World} {b : Nat} {o : Obj} (h : w.heap[b]? = some o) (o' : Obj) : (w.alloc o').heap[b]? = some o := (heap_alloc_old w o' (blk_lt h)).trans h
theorem blk_other {w : World} {b : Nat} {o : Obj} (h : w.heap[b]? = some o) {c i : Nat} (u : Value) (hne : b ≠ c) : (w.setCell ⟨c, i, none⟩ u).heap[b]? = some o := by rw [Below.heap_setCell w ⟨c, i, none⟩ u b hne]; exact h
/-- 64 bits -/
def U64 (l : List Int) : Prop := ∀ x ∈ l, 0 ≤ x ∧ x ≤ 18446744073709551615
theorem U64.nil : U64 [] := fun x hx => absurd hx (by simp)
theorem U64.snoc {l : List Int} (h : U64 l) {x : Int} (hx : 0 ≤ x ∧ x ≤ 18446744073709551615) : U64 (l ++ [x]) := fun y hy => by
  rcases List.mem_append.1 hy with e | e
  · exact h y e
  · rw [List.mem_singleton] at e; subst e; exact hx
theorem U64.at_ {l : List Int} (h : U64 l) {k : Nat} (hk : k < l.length) : 0 ≤ l.getD k 0 ∧ l.getD k 0 ≤ 18446744073709551615 :=
  h _ (by rw [List.getD_eq_getElem?_getD, List.getElem?_eq_getElem hk]; exact List.getElem_mem hk)
end Go.Proofs.YtmpjjehihimadaaGreat
