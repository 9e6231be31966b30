/-
  s[y:] of a slice of integers, without a look at the capacity.
-/
import Derived.Test.YtnlflpcioiieaaaKit
namespace Go.Proofs.Ytnlflpcioiieaaa
set_option linter.unusedVariables false
set_option linter.unusedSimpArgs false
open Go.RowKit

section
variable {P : Program} {ops : Array Oper} {rest : List Oper} {o : Oper} {a : Act} {Q : Exit → Act → World → Prop} {w W0 : World}
theorem run_cut {e t : TypeId} {i : TypeInfo} (ht : P.underlying t = some (.slice e)) (hi : P.info? e = some i) (hs1 : i.size = 1) (A : Option Addr) (n c y : Nat) (hy : y ≤ n) (hc : n ≤ c) :
    (Instr.sliceAt t (.slice A n c) (some (.int .i64 y)) none none).run P w = .ok (.slice (if c = y then A else A.map (·.add y)) (n - y) (c - y)) w := by
  have h1 : (y : Int) ≤ n := by omega
  simp [Instr.sliceAt, Instr.slice, Instr.sliceBounds, run_underlying ht, sizeOf, typeInfo, hi, hs1, run_sliceBound, h1]
theorem wpList_cut {k : IntKind} {e t : TypeId} {i : TypeInfo} (A : Option Addr) (n c y : Nat) (l : List Int) (s x : Operand)
    (hgd : o.guard = none) (ho : o.op = .slice t s (some x) none none)
    (ht : P.underlying t = some (.slice e)) (hi : P.info? e = some i) (hs1 : i.size = 1)
    (hs : a.eval s = .slice A n c) {yi : Int} (hx : a.eval x = .int .i64 yi) (hyi : yi = y) (hy : y ≤ n) (hc : n ≤ c) (hl : l.length = n) (hr : Rd k W0 A l)
    (h : ∀ A' c' s', Hid (s' = l.drop y) → s'.length ≤ c' → Hid (Rd k W0 A' s') → wpList P ops Q rest (a.put o.dst (.slice A' s'.length c')) w) : wpList P ops Q (o :: rest) a w := by
  subst hyi
  refine wpList_plain hgd fun K hK => ?_
  have hrun := run_cut (w := w) ht hi hs1 A n c y hy hc
  have hd : (l.drop y).length = n - y := by rw [List.length_drop, hl]
  unfold Oper.wp execOp
  simp only [ho, Sem.run_bind, Sem.run_pure, Result.andThen_ok, Option.map_some, Option.map_none, hs, hx, hrun]
  rw [← hd]
  refine hK _ _ (h _ _ (l.drop y) rfl (by omega) ?_)
  show Rd k W0 _ _
  split
  · rw [List.drop_of_length_le (by omega)]
    exact Rd.nil _ _ _
  · have := hr.cut y (l.length - y)
    rwa [List.take_of_length_le (by simp)] at this
theorem run_upto {e t : TypeId} {i : TypeInfo} (ht : P.underlying t = some (.slice e)) (hi : P.info? e = some i) (hs1 : i.size = 1) (A : Option Addr) (n c y : Nat) (hy : y ≤ n) (hc : n ≤ c) :
    (Instr.sliceAt t (.slice A n c) none (some (.int .i64 y)) none).run P w = .ok (.slice A y c) w := by
  have h1 : (y : Int) ≤ c := by omega
  have h2 : (if c = 0 then A else A.map (·.add 0)) = A := by
    split
    · rfl
    · cases A with
      | none => rfl
      | some a => simp [Addr.add]
  simp only [Option.map] at h2
  simp [Instr.sliceAt, Instr.slice, Instr.sliceBounds, run_underlying ht, sizeOf, typeInfo, hi, hs1, run_sliceBound, h1]
  intro _
  cases A with
  | none => rfl
  | some a => simp [Addr.add]
theorem wpList_upto {k : IntKind} {e t : TypeId} {i : TypeInfo} (A : Option Addr) (n c y : Nat) (l : List Int) (s x : Operand)
    (hgd : o.guard = none) (ho : o.op = .slice t s none (some x) none)
    (ht : P.underlying t = some (.slice e)) (hi : P.info? e = some i) (hs1 : i.size = 1)
    (hs : a.eval s = .slice A n c) {yi : Int} (hx : a.eval x = .int .i64 yi) (hyi : yi = y) (hy : y ≤ n) (hc : n ≤ c) (hl : l.length = n) (hr : Rd k W0 A l)
    (h : ∀ A' c' s', Hid (s' = l.take y) → s'.length ≤ c' → Hid (Rd k W0 A' s') → wpList P ops Q rest (a.put o.dst (.slice A' s'.length c')) w) : wpList P ops Q (o :: rest) a w := by
  subst hyi
  refine wpList_plain hgd fun K hK => ?_
  have hrun := run_upto (w := w) ht hi hs1 A n c y hy hc
  have hd : (l.take y).length = y := by rw [List.length_take, hl]; omega
  unfold Oper.wp execOp
  simp only [ho, Sem.run_bind, Sem.run_pure, Result.andThen_ok, Option.map_some, Option.map_none, hs, hx, hrun]
  have h' := h A c (l.take y) rfl (by omega) (hr.take y)
  rw [hd] at h'
  exact hK _ _ h'
end
end Go.Proofs.Ytnlflpcioiieaaa
