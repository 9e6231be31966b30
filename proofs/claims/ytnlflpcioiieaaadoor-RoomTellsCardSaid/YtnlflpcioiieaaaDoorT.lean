/-
  What the rows' condition gives: the table of package room lies in its variable; and a world for the witness.
-/
import Derived.Test.YtnlflpcioiieaaaDoorA
import Derived.ProofKit
import Derived.OpenShut
import Derived.Deep.DeepHandedRow
import Derived.Lib.LaidTab
import Derived.LaidMore
import Derived.LaidByTextLater
namespace Go.Proofs.YtnlflpcioiieaaaDoor
set_option linter.unusedVariables false
set_option linter.unusedSimpArgs false
open Go.ChangeShapes Go.WideShapes Go.ChangeAt Go.RowKit

theorem own : ownKnob Tryd.prog.godebug = none := by kernel_rfl
theorem gTab : Tryd.prog.globalNamed "stepstone/room.bounds" = some 0 := by kernel_rfl
theorem gTabType : (Tryd.prog.globals[0]?).map (·.type) = some 39 := by kernel_rfl
theorem cellsB : Tryd.prog.cellsOf 36 = 6 := by kernel_rfl
theorem cells3 : Tryd.prog.cellsOf 3 = 1 := by kernel_rfl

theorem cell_of_take {cs : List Value} {j : Nat} {v : Value} (h : (cs.drop j).take 1 = [v]) : cs[j]? = some v := by
  have := congrArg (fun l : List Value => l[0]?) h
  simpa [List.getElem?_take, List.getElem?_drop] using this

section
variable {H : Type} {enc : TypeId × Value → H} {P : Program} {w : World} {base : Nat} {sp : Nat → Bool} {held : Bool} {fuel : Nat} {t : TypeId} {cs : List Value} {ds : List (DataW H)} {p : List MemPlace}
theorem field_int {fs : Array Field} {k : IntKind} (ht : P.underlying t = some (.struct fs)) (h : DataW.trod enc P w base sp held fuel t cs = some (.agg ds, p)) (j o : Nat) (e : TypeId) (hf0 : (fs[j]?).map (fun f => (f.type, f.offset)) = some (e, o))
    (hft : P.underlying e = some (.int k)) (hc : P.cellsOf e = 1) (n : Int) (hd : ds[j]? = some (.lit (.int k n))) : cs[o]? = some (.int k n) := by
  obtain ⟨f, hf, hfe⟩ := Option.map_eq_some_iff.1 hf0
  simp only [Prod.mk.injEq] at hfe
  obtain ⟨rfl, rfl⟩ := hfe
  obtain ⟨xs, m, rfl, hx, hl, hn, he⟩ := DataW.trod_struct ht h
  simp only [Prod.mk.injEq, DataW.agg.injEq] at hx
  have h1 := he j f hf
  rw [hc] at h1
  have hj : j < xs.length := by
    have := (Array.getElem?_eq_some_iff.1 hf).1
    omega
  rw [List.getElem?_eq_getElem hj] at h1
  obtain ⟨n', e1, e2, _⟩ := DataW.trod_int hft h1
  have : xs[j].1 = .lit (.int k n) := by
    rw [hx.1, List.getElem?_map, List.getElem?_eq_getElem hj] at hd
    simpa using hd
  rw [e2] at this
  simp only [DataW.lit.injEq, Lit.int.injEq, true_and] at this
  rw [← this]
  exact cell_of_take e1
theorem array_elem {n : Nat} {e : TypeId} {c : Nat} (ht : P.underlying t = some (.array n e)) (hc : P.cellsOf e = c) (h : DataW.trod enc P w base sp held fuel t cs = some (.agg ds, p)) (i : Nat) (hi : i < n) :
    ∃ m x q, ds[i]? = some x ∧ DataW.trod enc P w base sp held m e ((cs.drop (i * c)).take c) = some (x, q) := by
  obtain ⟨xs, m, rfl, hx, hl, hn, he⟩ := DataW.trod_array ht h
  simp only [Prod.mk.injEq, DataW.agg.injEq] at hx
  have h1 := he i hi
  rw [hc] at h1
  have hj : i < xs.length := by omega
  rw [List.getElem?_eq_getElem hj] at h1
  exact ⟨m, xs[i].1, xs[i].2, by rw [hx.1, List.getElem?_map, List.getElem?_eq_getElem hj]; rfl, h1⟩
end

theorem part_get {cs : List Value} {i c o : Nat} {v : Value} (ho : o < c) (h : ((cs.drop (i * c)).take c)[o]? = some v) : cs[i * c + o]? = some v := by
  rw [List.getElem?_take, if_pos ho, List.getElem?_drop] at h
  exact h

/-- WHAT THE ROW's LIST GIVES -/
theorem tabled {W : World} (h : laidMetH Tryd.prog Rows.roomRisesRow.laid W) : Tabled W := by
  rw [MakeChecks.laidMetH_plain _ _ _ (by kernel_rfl)] at h
  obtain ⟨ps, ⟨g0, t0, cs0, f0, p0, q0, hg0, ht0, hv0, hd0, _, _⟩, _, _⟩ := h
  obtain rfl := Option.some.inj (gTab.symm.trans hg0)
  obtain rfl := Option.some.inj (gTabType.symm.trans ht0)
  have row : ∀ (i : Nat) (hi : i < 6), ∃ m ds q, (([[0, 0, 0, 0, 0, 0], [5, 1, 9, 21, 1, 5], [66, 0, 1, 9, 1, 65], [4, 68, 11, 12, 12, 66], [11, 0, 11, 12, 1, 11], [2, 0, 66, 66, 1, 2]] : List (List Int)).getD i []).map (fun z => (DataW.lit (.int .i64 z) : DataW Unit)) = ds ∧
      DataW.trod (fun _ => ()) Tryd.prog W 0 (fun _ => true) false m 36 ((cs0.toList.drop (i * 6)).take 6) = some (.agg ds, q) := by
    intro i hi
    obtain ⟨m, x, q, hx, hm⟩ := array_elem Tryd.underlying39 cellsB hd0 i hi
    have : i = 0 ∨ i = 1 ∨ i = 2 ∨ i = 3 ∨ i = 4 ∨ i = 5 := by omega
    rcases this with rfl | rfl | rfl | rfl | rfl | rfl
    all_goals (simp only [List.getElem?_cons_zero, List.getElem?_cons_succ, Option.some.injEq] at hx; subst hx; exact ⟨m, _, q, rfl, hm⟩)
  have cell : ∀ (i : Nat) (hi : i < 6) (j : Nat) (hj : j < 6), W.cell? ⟨0, i * 6 + j, none⟩ = some (.int .i64 ((([[0, 0, 0, 0, 0, 0], [5, 1, 9, 21, 1, 5], [66, 0, 1, 9, 1, 65], [4, 68, 11, 12, 12, 66], [11, 0, 11, 12, 1, 11], [2, 0, 66, 66, 1, 2]] : List (List Int)).getD i []).getD j 0)) := by
    intro i hi j hj
    obtain ⟨m, ds, q, hds, hm⟩ := row i hi
    have hc := World.var?_cell gTab hv0 (i * 6 + j)
    have key : cs0.toList[i * 6 + j]? = some (.int .i64 ((([[0, 0, 0, 0, 0, 0], [5, 1, 9, 21, 1, 5], [66, 0, 1, 9, 1, 65], [4, 68, 11, 12, 12, 66], [11, 0, 11, 12, 1, 11], [2, 0, 66, 66, 1, 2]] : List (List Int)).getD i []).getD j 0)) := by
      have hi' : i = 0 ∨ i = 1 ∨ i = 2 ∨ i = 3 ∨ i = 4 ∨ i = 5 := by omega
      have hj' : j = 0 ∨ j = 1 ∨ j = 2 ∨ j = 3 ∨ j = 4 ∨ j = 5 := by omega
      subst hds
      refine part_get hj ?_
      rcases hj' with rfl | rfl | rfl | rfl | rfl | rfl
      · refine field_int Tryd.underlying36 hm 0 0 3 rfl Tryd.underlying3 cells3 _ ?_
        rcases hi' with rfl | rfl | rfl | rfl | rfl | rfl <;> rfl
      · refine field_int Tryd.underlying36 hm 1 1 3 rfl Tryd.underlying3 cells3 _ ?_
        rcases hi' with rfl | rfl | rfl | rfl | rfl | rfl <;> rfl
      · refine field_int Tryd.underlying36 hm 2 2 3 rfl Tryd.underlying3 cells3 _ ?_
        rcases hi' with rfl | rfl | rfl | rfl | rfl | rfl <;> rfl
      · refine field_int Tryd.underlying36 hm 3 3 3 rfl Tryd.underlying3 cells3 _ ?_
        rcases hi' with rfl | rfl | rfl | rfl | rfl | rfl <;> rfl
      · refine field_int Tryd.underlying36 hm 4 4 3 rfl Tryd.underlying3 cells3 _ ?_
        rcases hi' with rfl | rfl | rfl | rfl | rfl | rfl <;> rfl
      · refine field_int Tryd.underlying36 hm 5 5 3 rfl Tryd.underlying3 cells3 _ ?_
        rcases hi' with rfl | rfl | rfl | rfl | rfl | rfl <;> rfl
    rw [← Array.getElem?_toList] at hc
    rw [hc]; exact key
  have size : 0 < W.heap.size := by
    have := World.block_lt_of_cell? W _ (cell 0 (by omega) 0 (by omega))
    exact this
  have five : ∀ t : Nat, 1 ≤ t → t ≤ 5 → t = 1 ∨ t = 2 ∨ t = 3 ∨ t = 4 ∨ t = 5 := by omega
  refine ⟨size, ?_, ?_, ?_, ?_, ?_, ?_⟩
  · intro t h1 h5
    rcases five t h1 h5 with rfl | rfl | rfl | rfl | rfl
    · exact cell 1 (by omega) 0 (by omega)
    · exact cell 2 (by omega) 0 (by omega)
    · exact cell 3 (by omega) 0 (by omega)
    · exact cell 4 (by omega) 0 (by omega)
    · exact cell 5 (by omega) 0 (by omega)
  · intro t h1 h5
    rcases five t h1 h5 with rfl | rfl | rfl | rfl | rfl
    · exact cell 1 (by omega) 1 (by omega)
    · exact cell 2 (by omega) 1 (by omega)
    · exact cell 3 (by omega) 1 (by omega)
    · exact cell 4 (by omega) 1 (by omega)
    · exact cell 5 (by omega) 1 (by omega)
  · intro t h1 h5
    rcases five t h1 h5 with rfl | rfl | rfl | rfl | rfl
    · exact cell 1 (by omega) 2 (by omega)
    · exact cell 2 (by omega) 2 (by omega)
    · exact cell 3 (by omega) 2 (by omega)
    · exact cell 4 (by omega) 2 (by omega)
    · exact cell 5 (by omega) 2 (by omega)
  · intro t h1 h5
    rcases five t h1 h5 with rfl | rfl | rfl | rfl | rfl
    · exact cell 1 (by omega) 3 (by omega)
    · exact cell 2 (by omega) 3 (by omega)
    · exact cell 3 (by omega) 3 (by omega)
    · exact cell 4 (by omega) 3 (by omega)
    · exact cell 5 (by omega) 3 (by omega)
  · intro t h1 h5
    rcases five t h1 h5 with rfl | rfl | rfl | rfl | rfl
    · exact cell 1 (by omega) 4 (by omega)
    · exact cell 2 (by omega) 4 (by omega)
    · exact cell 3 (by omega) 4 (by omega)
    · exact cell 4 (by omega) 4 (by omega)
    · exact cell 5 (by omega) 4 (by omega)
  · intro t h1 h5
    rcases five t h1 h5 with rfl | rfl | rfl | rfl | rfl
    · exact cell 1 (by omega) 5 (by omega)
    · exact cell 2 (by omega) 5 (by omega)
    · exact cell 3 (by omega) 5 (by omega)
    · exact cell 4 (by omega) 5 (by omega)
    · exact cell 5 (by omega) 5 (by omega)

/-- A WORLD FOR THE WITNESS: the settled one, the table (block 0) as its initialiser lays it. -/
noncomputable def laidWorld (os : Os) : World := World.doorLaid Tryd.prog 19 os
end Go.Proofs.YtnlflpcioiieaaaDoor
