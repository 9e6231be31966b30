/-
  No cell of these rows narrows 'for every input' (looked for: loops, veiled, ifaces, maps, wideKeys, modest, calm, conditions, laid).
  DERIVED. THE GIVEN ROWS OF THIS SEAT. 5 by the template 'for every input the law returns true; each argument reads behind the call as it read before'; 0 by the template 'total and deterministic' (their statements: YtnlflpcioiieaaaTotals.lean).
  GIVEN WITH THE SEED: the statements are not yours to turn. If you find one false, say at which input.
  Laid BY PROGRAM, IN A SANDBOX (cutbox-rows.mjs): the forced cells as the released guide's own fill.sh prints them over the translation 70487a7e30e79e63… (all of the seat's roots in one cut). By AI agents, Wed Nov 11 2026. No macro, syntax, notation, axiom, sorry.
-/
import Derived.Test.YtnlflpcioiieaaaChecked
import GoSem.Claim
import GoSem.ClaimJoined
import GoSem.ClaimMapViews
import Derived.JoinedTies
import Derived.KernelRfl
namespace Go.Proofs.Ytnlflpcioiieaaa
/- THE CELL 'sum', in the pinned program and in every row, IS THE sha256 OF THE DUMP (.gsa) THAT YtnlflpcioiieaaaProg.lean LOADS. Nothing in Lean hashes anything: it is a label: what it is worth is what the hold of that sum in a sandbox is worth. -/
noncomputable def Try.pinned : Pinned := { name := "ytnlflpcioiieaaa", sum := "70487a7e30e79e630e7637ca83ab50698e8e485ce478b45ba6ca267d74373244", checked := Try.checked }
namespace Rows
def none {H : Type} : Left H := { results := [], args := [] }

/-- 'stepstonelaw19.CodeNumbers': WHATEVER THE INPUT: true; the input reads as it did. -/
def codeNumbersSpec : ChangeSpec := { name := "codeNumbers", fn := fun _ => fun
  | [d1, d2, d3, d4] => { results := [.lit (.bool true)], args := [d1, d2, d3, d4] }
  | _ => none }
def codeNumbersRow : OpenClaim := { program := "ytnlflpcioiieaaa", sum := "70487a7e30e79e630e7637ca83ab50698e8e485ce478b45ba6ca267d74373244", func := "stepstone/stepstonelaw19.CodeNumbers", spec := "codeNumbers", recurses := true, apart := false }
def CodeNumbersSaid : Prop := codeNumbersRow.holds Try.pinned (OpenSpec.ofChange codeNumbersSpec)

/-- ITS FALSE NEIGHBOUR: 'it returns false'. Refute it at one input. -/
def codeNumbersWrong : ChangeSpec := { name := "codeNumbers", fn := fun _ => fun
  | [d1, d2, d3, d4] => { results := [.lit (.bool false)], args := [d1, d2, d3, d4] }
  | _ => none }
def CodeNumbersWrongFalsely : Prop := codeNumbersRow.holds Try.pinned (OpenSpec.ofChange codeNumbersWrong)

/-- 'stepstonelaw19.CodeLimits': WHATEVER THE INPUT: true; the input reads as it did. -/
def codeLimitsSpec : ChangeSpec := { name := "codeLimits", fn := fun _ => fun
  | [d1, d2] => { results := [.lit (.bool true)], args := [d1, d2] }
  | _ => none }
def codeLimitsRow : OpenClaim := { program := "ytnlflpcioiieaaa", sum := "70487a7e30e79e630e7637ca83ab50698e8e485ce478b45ba6ca267d74373244", func := "stepstone/stepstonelaw19.CodeLimits", spec := "codeLimits", recurses := true, apart := false }
def CodeLimitsSaid : Prop := codeLimitsRow.holds Try.pinned (OpenSpec.ofChange codeLimitsSpec)

/-- ITS FALSE NEIGHBOUR: 'it returns false'. Refute it at one input. -/
def codeLimitsWrong : ChangeSpec := { name := "codeLimits", fn := fun _ => fun
  | [d1, d2] => { results := [.lit (.bool false)], args := [d1, d2] }
  | _ => none }
def CodeLimitsWrongFalsely : Prop := codeLimitsRow.holds Try.pinned (OpenSpec.ofChange codeLimitsWrong)

/-- 'stepstonelaw19.CodeBack': WHATEVER THE INPUT: true; the input reads as it did. -/
def codeBackSpec : ChangeSpec := { name := "codeBack", fn := fun _ => fun
  | [d1, d2] => { results := [.lit (.bool true)], args := [d1, d2] }
  | _ => none }
def codeBackRow : OpenClaim := { program := "ytnlflpcioiieaaa", sum := "70487a7e30e79e630e7637ca83ab50698e8e485ce478b45ba6ca267d74373244", func := "stepstone/stepstonelaw19.CodeBack", spec := "codeBack", recurses := true, apart := false }
def CodeBackSaid : Prop := codeBackRow.holds Try.pinned (OpenSpec.ofChange codeBackSpec)

/-- ITS FALSE NEIGHBOUR: 'it returns false'. Refute it at one input. -/
def codeBackWrong : ChangeSpec := { name := "codeBack", fn := fun _ => fun
  | [d1, d2] => { results := [.lit (.bool false)], args := [d1, d2] }
  | _ => none }
def CodeBackWrongFalsely : Prop := codeBackRow.holds Try.pinned (OpenSpec.ofChange codeBackWrong)

/-- 'stepstonelaw19.CodeCanonical': WHATEVER THE INPUT: true; the input reads as it did. -/
def codeCanonicalSpec : ChangeSpec := { name := "codeCanonical", fn := fun _ => fun
  | [d] => { results := [.lit (.bool true)], args := [d] }
  | _ => none }
def codeCanonicalRow : OpenClaim := { program := "ytnlflpcioiieaaa", sum := "70487a7e30e79e630e7637ca83ab50698e8e485ce478b45ba6ca267d74373244", func := "stepstone/stepstonelaw19.CodeCanonical", spec := "codeCanonical", recurses := true, apart := false }
def CodeCanonicalSaid : Prop := codeCanonicalRow.holds Try.pinned (OpenSpec.ofChange codeCanonicalSpec)

/-- ITS FALSE NEIGHBOUR: 'it returns false'. Refute it at one input. -/
def codeCanonicalWrong : ChangeSpec := { name := "codeCanonical", fn := fun _ => fun
  | [d] => { results := [.lit (.bool false)], args := [d] }
  | _ => none }
def CodeCanonicalWrongFalsely : Prop := codeCanonicalRow.holds Try.pinned (OpenSpec.ofChange codeCanonicalWrong)

/-- 'stepstonelaw19.CodePrefixes': WHATEVER THE INPUT: true; the input reads as it did. -/
def codePrefixesSpec : ChangeSpec := { name := "codePrefixes", fn := fun _ => fun
  | [d1, d2, d3, d4] => { results := [.lit (.bool true)], args := [d1, d2, d3, d4] }
  | _ => none }
def codePrefixesRow : OpenClaim := { program := "ytnlflpcioiieaaa", sum := "70487a7e30e79e630e7637ca83ab50698e8e485ce478b45ba6ca267d74373244", func := "stepstone/stepstonelaw19.CodePrefixes", spec := "codePrefixes", apart := false }
def CodePrefixesSaid : Prop := codePrefixesRow.holds Try.pinned (OpenSpec.ofChange codePrefixesSpec)

/-- ITS FALSE NEIGHBOUR: 'it returns false'. Refute it at one input. -/
def codePrefixesWrong : ChangeSpec := { name := "codePrefixes", fn := fun _ => fun
  | [d1, d2, d3, d4] => { results := [.lit (.bool false)], args := [d1, d2, d3, d4] }
  | _ => none }
def CodePrefixesWrongFalsely : Prop := codePrefixesRow.holds Try.pinned (OpenSpec.ofChange codePrefixesWrong)

/- THE SECOND FORM. 'bulk': how many values and letters a reading holds, each counted each time it is reached (what is shared counts as often as it is met; a slice's spare places count too). A statement '..UptoSaid' is the law's where the arguments, and the package variables that the reading takes, are together of bulk at most 1048576: NARROWER than '..Said'. Prove '..Said' where nothing that the law and all that it calls make is longer than what came in: it says more and counts as full. Else prove '..UptoSaid'. A law counts once. -/
mutual
def uptoBulk {H : Type} : DataW H → Nat
  | .lit (.string bytes) => bytes.length + 1
  | .lit _ => 1
  | .nil => 1
  | .ptr d => uptoBulk d + 1
  | .slice elems spare => uptoBulkAll elems + uptoBulkAll spare + 1
  | .agg parts => uptoBulkAll parts + 1
  | .iface _ d => uptoBulk d + 1
  | .map entries => uptoBulkEntries entries + 1
  | .held _ => 1
def uptoBulkAll {H : Type} : List (DataW H) → Nat
  | [] => 0
  | d :: r => uptoBulk d + uptoBulkAll r
def uptoBulkEntries {H : Type} : List (Lit × DataW H) → Nat
  | [] => 0
  | x :: r => uptoBulkEntry x + uptoBulkEntries r
def uptoBulkEntry {H : Type} : Lit × DataW H → Nat
  | (.string bytes, d) => bytes.length + uptoBulk d + 1
  | (_, d) => uptoBulk d + 1
 end
def uptoSmall : (H : Type) → List (DataW H) → Bool := fun _ ds => decide (uptoBulkAll ds ≤ 1048576)
def OpenSpec.upto (s : _root_.Go.ChangeSpec) : _root_.Go.OpenSpec := { _root_.Go.OpenSpec.ofChange s with cond := some uptoSmall }

/-- 'stepstonelaw19.CodeNumbers', WHERE WHAT IT READS IS OF BULK AT MOST 1048576: true; the input reads as it did. -/
def codeNumbersUptoRow : OpenClaim := { program := "ytnlflpcioiieaaa", sum := "70487a7e30e79e630e7637ca83ab50698e8e485ce478b45ba6ca267d74373244", func := "stepstone/stepstonelaw19.CodeNumbers", spec := "codeNumbers", recurses := true, apart := false, narrowed := true }
def CodeNumbersUptoSaid : Prop := codeNumbersUptoRow.holds Try.pinned (OpenSpec.upto codeNumbersSpec)

/-- 'stepstonelaw19.CodeLimits', WHERE WHAT IT READS IS OF BULK AT MOST 1048576: true; the input reads as it did. -/
def codeLimitsUptoRow : OpenClaim := { program := "ytnlflpcioiieaaa", sum := "70487a7e30e79e630e7637ca83ab50698e8e485ce478b45ba6ca267d74373244", func := "stepstone/stepstonelaw19.CodeLimits", spec := "codeLimits", recurses := true, apart := false, narrowed := true }
def CodeLimitsUptoSaid : Prop := codeLimitsUptoRow.holds Try.pinned (OpenSpec.upto codeLimitsSpec)

/-- 'stepstonelaw19.CodeBack', WHERE WHAT IT READS IS OF BULK AT MOST 1048576: true; the input reads as it did. -/
def codeBackUptoRow : OpenClaim := { program := "ytnlflpcioiieaaa", sum := "70487a7e30e79e630e7637ca83ab50698e8e485ce478b45ba6ca267d74373244", func := "stepstone/stepstonelaw19.CodeBack", spec := "codeBack", recurses := true, apart := false, narrowed := true }
def CodeBackUptoSaid : Prop := codeBackUptoRow.holds Try.pinned (OpenSpec.upto codeBackSpec)

/-- 'stepstonelaw19.CodeCanonical', WHERE WHAT IT READS IS OF BULK AT MOST 1048576: true; the input reads as it did. -/
def codeCanonicalUptoRow : OpenClaim := { program := "ytnlflpcioiieaaa", sum := "70487a7e30e79e630e7637ca83ab50698e8e485ce478b45ba6ca267d74373244", func := "stepstone/stepstonelaw19.CodeCanonical", spec := "codeCanonical", recurses := true, apart := false, narrowed := true }
def CodeCanonicalUptoSaid : Prop := codeCanonicalUptoRow.holds Try.pinned (OpenSpec.upto codeCanonicalSpec)

/-- 'stepstonelaw19.CodePrefixes', WHERE WHAT IT READS IS OF BULK AT MOST 1048576: true; the input reads as it did. -/
def codePrefixesUptoRow : OpenClaim := { program := "ytnlflpcioiieaaa", sum := "70487a7e30e79e630e7637ca83ab50698e8e485ce478b45ba6ca267d74373244", func := "stepstone/stepstonelaw19.CodePrefixes", spec := "codePrefixes", apart := false, narrowed := true }
def CodePrefixesUptoSaid : Prop := codePrefixesUptoRow.holds Try.pinned (OpenSpec.upto codePrefixesSpec)

end Rows
end Go.Proofs.Ytnlflpcioiieaaa
