/-
  The row's closed facts, each a lemma of its own: the kernel gives its memory back behind each.
-/
import Derived.Test.YtmpjjehihimadaaGreatRows
import Derived.ProofKit
import Derived.JoinedOf
namespace Go.Proofs.YtmpjjehihimadaaGreat.lookNil
open Go.RowKit

theorem and_t {a b : Bool} (h : a = true) (k : b = true) : (a && b) = true := by rw [h, k]; rfl
set_option maxRecDepth 100000 in
set_option maxHeartbeats 16000000 in
theorem closed : joinedFacts Tryz.prog 3 Tryz.f3 Rows.lookNilSpec Rows.lookNilRow = true := by
  unfold joinedFacts
  repeat' (with_reducible refine and_t ?_ ?_)
  all_goals as_aux_lemma => kernel_rfl
#print axioms closed
end Go.Proofs.YtmpjjehihimadaaGreat.lookNil
