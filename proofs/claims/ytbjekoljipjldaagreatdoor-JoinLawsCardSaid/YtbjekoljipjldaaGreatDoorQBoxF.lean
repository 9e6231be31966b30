/-
  box.Box: Optimise, whatever way it is kept.
-/
import Derived.Test.YtbjekoljipjldaaGreatDoorQBoxE1
import Derived.Test.YtbjekoljipjldaaGreatDoorQBoxE2
import Derived.Test.YtbjekoljipjldaaGreatDoorQBoxE3
namespace Go.Proofs.YtbjekoljipjldaaGreatDoor
set_option linter.unusedVariables false
set_option linter.unusedSimpArgs false
open Go.RowKit

theorem boxOptimise {base : Nat} (b : Nat) (k : Int) (p : Nat → Bool) (w : World) (h : Box w base b k p) (hT : Tab64 w) (hbs : base ≤ w.heap.size) :
    Calls Tryz.prog 34 #[.pointer (some ⟨b, 0, none⟩)] w fun e w' => ∃ r : Bool, e = .returned (.bool r) ∧ Hid (∃ k', Box w' base b k' p) ∧ Hid (Below base w w') := by
  have hX := h
  obtain ⟨x, h0, hbb, h⟩ := h
  rcases h with ⟨rfl, A, c, rfl, h2, h3⟩ | ⟨rfl, m, s, d, ws, rfl, h2, h3, h4, h5, h6⟩ | ⟨rfl, A, c, R, rfl, h2, h3, h4⟩
  · exact bx1Optimise b p A c w hX h0 h3.rd hT hbs
  · exact bx2Optimise b p m s d ws w hX h0 h5 h6 hT hbs
  · exact bx3Optimise b p A c R w hX h0 h2.rd h3 h4 hT hbs
end Go.Proofs.YtbjekoljipjldaaGreatDoor
