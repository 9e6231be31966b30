/-
  What the rows' condition gives: the library's table lies in its variable; and a world for the witness.
-/
import Derived.Test.YtbjekoljipjldaaGreatDoorQWords
import Derived.Test.YtbjekoljipjldaaGreatDoorRows
import Derived.ProofKit
import Derived.OpenShut
import Derived.Deep.DeepHandedRow
import Derived.Lib.LaidTab
import Derived.LaidMore
import Derived.LaidByTextLater
namespace Go.Proofs.YtbjekoljipjldaaGreatDoor
set_option linter.unusedVariables false
set_option linter.unusedSimpArgs false
open Go.ChangeShapes Go.WideShapes Go.ChangeAt Go.RowKit

theorem own : ownKnob Tryz.prog.godebug = none := by kernel_rfl
theorem tab64 {W : World} (h : laidMetH Tryz.prog [("math/bits.deBruijn64tab", Rows.laid_math_bits_deBruijn64tab)] W) : Tab64 W := by
  rw [MakeChecks.laidMetH_plain _ _ _ (by kernel_rfl)] at h
  have h2 : laidMet Tryz.prog (("math/bits.deBruijn64tab", Lib.tabData .u8 (Lib.deBruijn64tab.map (fun n : Nat => (n : Int)))) :: []) W := h
  have t := Lib.tabIs_of_head (g := 0) (t := 159) (e := 5) (n := 64) (by kernel_rfl) (by kernel_rfl) Tryz.underlying159 Tryz.underlying5 (by kernel_rfl) (by kernel_rfl) h2
  intro j hj
  have hl : Lib.deBruijn64tab.length = 64 := by kernel_rfl
  have := t.cell (g := 0) (by kernel_rfl) j (by rw [List.length_map, hl]; exact hj)
  rw [this]
  congr 2
  rw [List.getD_eq_getElem?_getD, List.getElem?_map, List.getD_eq_getElem?_getD]
  cases Lib.deBruijn64tab[j]? <;> rfl
/-- A WORLD FOR THE WITNESS: the settled one, the table as its initialiser lays it. -/
noncomputable def laidWorld (os : Os) : World := World.doorLaid Tryz.prog 200 os
end Go.Proofs.YtbjekoljipjldaaGreatDoor
