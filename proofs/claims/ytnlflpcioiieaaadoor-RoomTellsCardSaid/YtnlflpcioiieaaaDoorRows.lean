/-
  NARROWER THAN 'FOR EVERY INPUT', by the rows' own cells (each row's printed sentence says how): RoomRises: laid · RoomTells: laid.
  DERIVED. THE GIVEN ROWS OF THIS SEAT. 2 by the template 'for every input the law returns true; each argument reads behind the call as it read before'; 0 by the template 'total and deterministic' (their statements: YtnlflpcioiieaaaDoorTotals.lean).
  GIVEN WITH THE SEED: the statements are not yours to turn. If you find one false, say at which input.
  Laid BY PROGRAM, IN A SANDBOX (cutbox-rows.mjs): the forced cells as the released guide's own fill.sh prints them over the translation 3cf4e7132ebecbb2… (all of the seat's roots in one cut). By AI agents, Wed Nov 11 2026. No macro, syntax, notation, axiom, sorry.
-/
import Derived.Test.YtnlflpcioiieaaaDoorChecked
import GoSem.Claim
import GoSem.ClaimJoined
import GoSem.ClaimMapViews
import Derived.JoinedTies
import Derived.KernelRfl
namespace Go.Proofs.YtnlflpcioiieaaaDoor
/- THE CELL 'sum', in the pinned program and in every row, IS THE sha256 OF THE DUMP (.gsa) THAT YtnlflpcioiieaaaDoorProg.lean LOADS. Nothing in Lean hashes anything: it is a label: what it is worth is what the hold of that sum in a sandbox is worth. -/
noncomputable def Tryd.pinned : Pinned := { name := "ytnlflpcioiieaaadoor", sum := "3cf4e7132ebecbb2f9b6ab31d4baa032bc3535d3194c74edf0450b832fb867ac", checked := Tryd.checked }
namespace Rows
def none {H : Type} : Left H := { results := [], args := [] }

/- WHAT THE LISTED PACKAGE-LEVEL VARIABLES READ AS WHEN THE CALL BEGINS. Each datum BY PROGRAM (the guide's laid-datum.mjs) off the statement by which the dump's own 'gosem.cut.vars' lays the variable. In a bare row this is a premise. The card (YtnlflpcioiieaaaDoorCards.lean) ties it to the program's text. -/
def laid_stepstone_room_bounds {H : Type} : DataW H := .agg [.agg [.lit (.int .i64 0), .lit (.int .i64 0), .lit (.int .i64 0), .lit (.int .i64 0), .lit (.int .i64 0), .lit (.int .i64 0)], .agg [.lit (.int .i64 5), .lit (.int .i64 1), .lit (.int .i64 9), .lit (.int .i64 21), .lit (.int .i64 1), .lit (.int .i64 5)], .agg [.lit (.int .i64 66), .lit (.int .i64 0), .lit (.int .i64 1), .lit (.int .i64 9), .lit (.int .i64 1), .lit (.int .i64 65)], .agg [.lit (.int .i64 4), .lit (.int .i64 68), .lit (.int .i64 11), .lit (.int .i64 12), .lit (.int .i64 12), .lit (.int .i64 66)], .agg [.lit (.int .i64 11), .lit (.int .i64 0), .lit (.int .i64 11), .lit (.int .i64 12), .lit (.int .i64 1), .lit (.int .i64 11)], .agg [.lit (.int .i64 2), .lit (.int .i64 0), .lit (.int .i64 66), .lit (.int .i64 66), .lit (.int .i64 1), .lit (.int .i64 2)]]

/-- 'stepstonelaw21.RoomRises': WHATEVER THE INPUT: true; the input reads as it did. -/
def roomRisesSpec : ChangeSpec := { name := "roomRises", fn := fun _ => fun
  | [d1, d2, d3, d4] => { results := [.lit (.bool true)], args := [d1, d2, d3, d4] }
  | _ => none }
def roomRisesRow : OpenClaim := { program := "ytnlflpcioiieaaadoor", sum := "3cf4e7132ebecbb2f9b6ab31d4baa032bc3535d3194c74edf0450b832fb867ac", func := "stepstone/stepstonelaw21.RoomRises", spec := "roomRises", named := ["stepstone/room.bounds"], apart := false, laid := [("stepstone/room.bounds", laid_stepstone_room_bounds)] }
def RoomRisesSaid : Prop := roomRisesRow.holds Tryd.pinned (OpenSpec.ofChange roomRisesSpec)

/-- ITS FALSE NEIGHBOUR: 'it returns false'. Refute it at one input. -/
def roomRisesWrong : ChangeSpec := { name := "roomRises", fn := fun _ => fun
  | [d1, d2, d3, d4] => { results := [.lit (.bool false)], args := [d1, d2, d3, d4] }
  | _ => none }
def RoomRisesWrongFalsely : Prop := roomRisesRow.holds Tryd.pinned (OpenSpec.ofChange roomRisesWrong)

/-- 'stepstonelaw21.RoomTells': WHATEVER THE INPUT: true; the input reads as it did. -/
def roomTellsSpec : ChangeSpec := { name := "roomTells", fn := fun _ => fun
  | [d1, d2, d3, d4] => { results := [.lit (.bool true)], args := [d1, d2, d3, d4] }
  | _ => none }
def roomTellsRow : OpenClaim := { program := "ytnlflpcioiieaaadoor", sum := "3cf4e7132ebecbb2f9b6ab31d4baa032bc3535d3194c74edf0450b832fb867ac", func := "stepstone/stepstonelaw21.RoomTells", spec := "roomTells", named := ["stepstone/room.bounds"], apart := false, laid := [("stepstone/room.bounds", laid_stepstone_room_bounds)] }
def RoomTellsSaid : Prop := roomTellsRow.holds Tryd.pinned (OpenSpec.ofChange roomTellsSpec)

/-- ITS FALSE NEIGHBOUR: 'it returns false'. Refute it at one input. -/
def roomTellsWrong : ChangeSpec := { name := "roomTells", fn := fun _ => fun
  | [d1, d2, d3, d4] => { results := [.lit (.bool false)], args := [d1, d2, d3, d4] }
  | _ => none }
def RoomTellsWrongFalsely : Prop := roomTellsRow.holds Tryd.pinned (OpenSpec.ofChange roomTellsWrong)

/- THE SECOND FORM. 'bulk': how many values and letters a reading holds, each counted each time it is reached (what is shared counts as often as it is met; a slice's spare places count too). A statement '..UptoSaid' is the law's where the arguments, and the package variables that the reading takes, are together of bulk at most 1048576: NARROWER than '..Said'. Prove '..Said' where nothing that the law and all that it calls make is longer than what came in: it says more and counts as full. Else prove '..UptoSaid'. A law counts once. -/
mutual
def uptoBulk {H : Type} : DataW H → Nat
  | .lit (.string bytes) => bytes.length + 1
  | .lit _ => 1
  | .nil => 1
  | .ptr d => uptoBulk d + 1
  | .slice elems spare => uptoBulkAll elems + uptoBulkAll spare + 1
  | .agg parts => uptoBulkAll parts + 1
  | .iface _ d => uptoBulk d + 1
  | .map entries => uptoBulkEntries entries + 1
  | .held _ => 1
def uptoBulkAll {H : Type} : List (DataW H) → Nat
  | [] => 0
  | d :: r => uptoBulk d + uptoBulkAll r
def uptoBulkEntries {H : Type} : List (Lit × DataW H) → Nat
  | [] => 0
  | x :: r => uptoBulkEntry x + uptoBulkEntries r
def uptoBulkEntry {H : Type} : Lit × DataW H → Nat
  | (.string bytes, d) => bytes.length + uptoBulk d + 1
  | (_, d) => uptoBulk d + 1
 end
def uptoSmall : (H : Type) → List (DataW H) → Bool := fun _ ds => decide (uptoBulkAll ds ≤ 1048576)
def OpenSpec.upto (s : _root_.Go.ChangeSpec) : _root_.Go.OpenSpec := { _root_.Go.OpenSpec.ofChange s with cond := some uptoSmall }

/-- 'stepstonelaw21.RoomRises', WHERE WHAT IT READS IS OF BULK AT MOST 1048576: true; the input reads as it did. -/
def roomRisesUptoRow : OpenClaim := { program := "ytnlflpcioiieaaadoor", sum := "3cf4e7132ebecbb2f9b6ab31d4baa032bc3535d3194c74edf0450b832fb867ac", func := "stepstone/stepstonelaw21.RoomRises", spec := "roomRises", named := ["stepstone/room.bounds"], apart := false, laid := [("stepstone/room.bounds", laid_stepstone_room_bounds)], narrowed := true }
def RoomRisesUptoSaid : Prop := roomRisesUptoRow.holds Tryd.pinned (OpenSpec.upto roomRisesSpec)

/-- 'stepstonelaw21.RoomTells', WHERE WHAT IT READS IS OF BULK AT MOST 1048576: true; the input reads as it did. -/
def roomTellsUptoRow : OpenClaim := { program := "ytnlflpcioiieaaadoor", sum := "3cf4e7132ebecbb2f9b6ab31d4baa032bc3535d3194c74edf0450b832fb867ac", func := "stepstone/stepstonelaw21.RoomTells", spec := "roomTells", named := ["stepstone/room.bounds"], apart := false, laid := [("stepstone/room.bounds", laid_stepstone_room_bounds)], narrowed := true }
def RoomTellsUptoSaid : Prop := roomTellsUptoRow.holds Tryd.pinned (OpenSpec.upto roomTellsSpec)

end Rows
end Go.Proofs.YtnlflpcioiieaaaDoor
