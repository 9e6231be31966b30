/-
  An argument opened: a slice of pairs as a list.
-/
import Derived.Test.YtnlflpcioiieaaaOpen
import Derived.Test.YtnlflpcioiieaaaPair
import Derived.Deep.SlicePairs
namespace Go.Proofs.Ytnlflpcioiieaaa
set_option linter.unusedVariables false
set_option linter.unusedSimpArgs false
open Go.ChangeShapes Go.WideShapes Go.ChangeAt Go.RowKit

/-- the integer of a value -/
def intV : Value → Int
  | .int _ n => n
  | _ => 0
section
variable {H : Type} {enc : TypeId × Value → H} {P : Program} {W : World} {t e : TypeId} {v : Value} {d : DataW H} {ps : List MemPlace} {ts : List TypeId} {ds : List (DataW H)} {j : Nat} {base : Nat}
theorem open_pairs {f0 f1 : Field} (hsz : (DataW.weightsEach P ts ds).all (· ≤ reachBytes) = true) (ht : ts[j]? = some t) (hd : ds[j]? = some d) (hu : P.underlying t = some (.slice e)) (he : P.underlying e = some (.struct #[f0, f1]))
    (h0 : P.underlying f0.type = some (.int .u64)) (h1 : f1.type = f0.type) (o0 : f0.offset = 0) (o1 : f1.offset = 1) (ce : P.cellsOf e = 2) (c0 : P.cellsOf f0.type = 1) (hB : P.bytesOf e = 16)
    (hv : Value.okWide P W .any base t v) (h : DataW.Trod enc P W 0 (fun _ => true) true t v d ps) :
    ∃ A c l, v = .slice A l.length c ∧ l.length * 16 ≤ 140737488351232 ∧ l.length ≤ c ∧ RdP W A l ∧ (∀ x ∈ l, (Lit.int .u64 x.1).wf = true ∧ (Lit.int .u64 x.2).wf = true) := by
  obtain ⟨a, len, cap, rfl⟩ := okWide_slice hu hv
  obtain ⟨fuel, hf⟩ := h
  rcases Deep.open_slice_pairs hu he ce o0 o1 c0 (by rw [h1]; exact c0) hf with ⟨hcs, _⟩ | ⟨x, l', c, m, n, V0, V1, D0, D1, P0, P1, hcs, _, hl, hm, hmm, hx, hel⟩
  · simp [Value.cells] at hcs
    obtain ⟨rfl, rfl, rfl⟩ := hcs
    exact ⟨none, 0, [], rfl, by simp, by simp, RdP.nil _ _, by simp⟩
  · simp [Value.cells] at hcs
    obtain ⟨rfl, rfl, rfl⟩ := hcs
    obtain ⟨hx, _⟩ := Prod.mk.inj hx
    subst hx
    have z := sized_slice hsz ht hd hu
    rw [hB] at z
    have hmc : m = cap := by simpa using hmm
    have hzl : ((List.range len).map fun i => DataW.agg [D0 i, D1 i]).length + ((List.range (m - len)).map fun j => DataW.agg [D0 (len + j), D1 (len + j)]).length = cap := by simp; omega
    rw [hzl] at z
    have each : ∀ i, i < len → W.cell? (x.add (i * 2)) = some (.int .u64 (intV (V0 i))) ∧ W.cell? (x.add (i * 2 + 1)) = some (.int .u64 (intV (V1 i))) ∧ (Lit.int .u64 (intV (V0 i))).wf = true ∧ (Lit.int .u64 (intV (V1 i))).wf = true := by
      intro i hi
      obtain ⟨g1, g2, g3, g4⟩ := hel i (by omega)
      rw [h1] at g4
      obtain ⟨m0, e0, _, w0⟩ := DataW.trod_int h0 g3
      obtain ⟨m1, e1, _, w1⟩ := DataW.trod_int h0 g4
      simp only [List.cons.injEq, and_true] at e0 e1
      rw [e0] at g1 ⊢
      rw [e1] at g2 ⊢
      exact ⟨g1, g2, w0, w1⟩
    have hlen : ((List.range len).map fun i => (intV (V0 i), intV (V1 i))).length = len := by simp
    refine ⟨some x, cap, (List.range len).map fun i => (intV (V0 i), intV (V1 i)), by rw [hlen], by rw [hlen]; exact Nat.le_trans (Nat.mul_le_mul_right _ hl) z, by omega, fun i hi => ?_, fun y hy => ?_⟩
    · rw [hlen] at hi
      obtain ⟨g1, g2, _, _⟩ := each i hi
      have hg : ((List.range len).map fun i => (intV (V0 i), intV (V1 i))).getD i (0, 0) = (intV (V0 i), intV (V1 i)) := by
        simp [List.getD_eq_getElem?_getD, List.getElem?_map, List.getElem?_range hi]
      rw [hg]
      refine ⟨x, rfl, ?_, g1, g2⟩
      have := World.block_lt_of_cell? W _ g1
      rwa [block_of_add] at this
    · obtain ⟨i, hi, rfl⟩ := List.mem_map.1 hy
      obtain ⟨_, _, g3, g4⟩ := each i (List.mem_range.1 hi)
      exact ⟨g3, g4⟩
end
end Go.Proofs.Ytnlflpcioiieaaa
