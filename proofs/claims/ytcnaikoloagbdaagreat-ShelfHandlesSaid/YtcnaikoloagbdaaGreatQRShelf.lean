/-
  ShelfHandles: the law's walk for every h and of.
  ShelfHandles answers true, for every input. Conditions: none beyond the given statement's own.
-/
import Derived.Test.YtcnaikoloagbdaaGreatQLawHa
import Derived.Test.YtcnaikoloagbdaaGreatQLawHb
import Derived.Test.YtcnaikoloagbdaaGreatQLawHn
import Derived.Test.YtcnaikoloagbdaaGreatRows
import Derived.Test.YtcnaikoloagbdaaGreatQRFacts
import Derived.Test.YtcnaikoloagbdaaGreatQPost
import Derived.Test.YtcnaikoloagbdaaGreatQOpen
namespace Go.Proofs.YtcnaikoloagbdaaGreat
set_option linter.unusedVariables false
open Go.RowKit Go.Shelf

theorem walk_shelfHandles (a0 a1 a2 a3 : Int) (A4 : Option Addr) (c4 : Nat) (a4 : List Int) (W : World) (w0 : (Lit.int .i64 a0).wf = true) (w1 : (Lit.int .i64 a1).wf = true) (w2 : (Lit.int .u64 a2).wf = true) (w3 : (Lit.int .u64 a3).wf = true)
    (s4 : a4.length * 1 ≤ 140737488351232) (l4 : a4.length ≤ c4) (y4 : Rd .u8 W A4 a4) (w4 : ∀ x ∈ a4, (Lit.int .u8 x).wf = true) :
    Calls Tryz.prog 3 #[.int .i64 a0, .int .i64 a1, .int .u64 a2, .int .u64 a3, .slice A4 a4.length c4] W fun e W' => e = .returned (.bool true) ∧ Below W.heap.size W W' := by
  have hl : a4.length ≤ 281474976710656 := by omega
  by_cases h0 : a0 = 0
  · subst h0
    by_cases o0 : a1 = 0
    · subst o0; exact law_aa a2 a3 A4 c4 a4 W y4 hl
    · by_cases o1 : a1 = 1
      · subst o1; exact law_ab a2 a3 A4 c4 a4 W y4 hl
      · exact law_an a1 o0 o1 a2 a3 A4 c4 a4 W y4 hl
  · by_cases h1 : a0 = 1
    · subst h1
      by_cases o0 : a1 = 0
      · subst o0; exact law_ba a2 a3 A4 c4 a4 W y4 hl
      · by_cases o1 : a1 = 1
        · subst o1; exact law_bb a2 a3 A4 c4 a4 W y4 hl
        · exact law_bn a1 o0 o1 a2 a3 A4 c4 a4 W y4 hl
    · by_cases o0 : a1 = 0
      · subst o0; exact law_na a0 h0 h1 a2 a3 A4 c4 a4 W y4 hl
      · by_cases o1 : a1 = 1
        · subst o1; exact law_nb a0 h0 h1 a2 a3 A4 c4 a4 W y4 hl
        · exact law_nn a0 h0 h1 a1 o0 o1 a2 a3 A4 c4 a4 W y4 hl
end Go.Proofs.YtcnaikoloagbdaaGreat
namespace Go.Proofs.YtcnaikoloagbdaaGreat.shelfHandles
set_option linter.unusedVariables false
set_option linter.unusedSimpArgs false
open Go.ChangeShapes Go.WideShapes Go.ChangeAt Go.RowKit

theorem own : ownKnob Tryz.prog.godebug = none := by kernel_rfl
set_option maxRecDepth 100000 in
theorem contract (H : Type) (enc : TypeId × Value → H) (W : World) (base : Nat) (args : Array Value) (ds gs : List (DataW H)) (before : List MemPlace)
    (hval0 : ∀ (j : Nat) t v, Tryz.f3.params[j]? = some t → args[j]? = some v → Value.okWide Tryz.prog W .any base t v)
    (hW : DataW.Whole enc Tryz.prog Tryz.f3.params.toList Rows.shelfHandlesSpec.vars false W args.toList ds gs before)
    (hsz0 : (DataW.weightsEach Tryz.prog (Tryz.f3.params.toList ++ Rows.shelfHandlesSpec.plain.varTypes Tryz.prog) (ds ++ gs)).all (· ≤ reachBytes) = true) :
    Calls Tryz.prog 3 args W fun e W' => ∃ v, e = .returned v ∧ Rows.shelfHandlesSpec.post enc Tryz.prog Tryz.f3 false true false false W args v W' := by
  have hsz := hsz0
  have hval := hval0
  have hW' := hW
  obtain ⟨p, q, hA0, hV, rfl, hfz, hnd⟩ := hW
  have hA : DataW.TrodAll enc Tryz.prog W 0 (fun _ => true) true Tryz.f3.params.toList args.toList ds p := hA0
  rw [Tryz.params3] at hA hval hsz
  obtain ⟨v0, vs0, d0, ds0, p0, q0, hargs, rfl, rfl, h0, r0⟩ := trodAll_cons hA
  obtain ⟨v1, vs1, d1, ds1, p1, q1, rfl, rfl, rfl, h1, r1⟩ := trodAll_cons r0
  obtain ⟨v2, vs2, d2, ds2, p2, q2, rfl, rfl, rfl, h2, r2⟩ := trodAll_cons r1
  obtain ⟨v3, vs3, d3, ds3, p3, q3, rfl, rfl, rfl, h3, r3⟩ := trodAll_cons r2
  obtain ⟨v4, vs4, d4, ds4, p4, q4, rfl, rfl, rfl, h4, r4⟩ := trodAll_cons r3
  obtain ⟨rfl, rfl, rfl⟩ := trodAll_nil r4
  obtain rfl : args = #[v0, v1, v2, v3, v4] := by cases args; simp_all
  obtain ⟨rfl, rfl⟩ := trodVars_none hV
  obtain ⟨a0, rfl, rfl, rfl, w0⟩ := open_int Tryz.underlying3 (hval 0 3 v0 rfl rfl) h0
  obtain ⟨a1, rfl, rfl, rfl, w1⟩ := open_int Tryz.underlying3 (hval 1 3 v1 rfl rfl) h1
  obtain ⟨a2, rfl, rfl, rfl, w2⟩ := open_int Tryz.underlying22 (hval 2 22 v2 rfl rfl) h2
  obtain ⟨a3, rfl, rfl, rfl, w3⟩ := open_int Tryz.underlying22 (hval 3 22 v3 rfl rfl) h3
  obtain ⟨A4, c4, a4, rfl, s4, l4, y4, w4⟩ := open_list (k := .u8) (B := 1) (j := 4) (t := 23) hsz rfl rfl Tryz.underlying23 Tryz.underlying5 (by kernel_rfl) (by kernel_rfl) (hval 4 23 v4 rfl rfl) h4
  simp only [List.append_nil] at hW'
  refine (walk_shelfHandles a0 a1 a2 a3 A4 c4 a4 W w0 w1 w2 w3 s4 l4 y4 w4).mono fun e W' ⟨he, hb⟩ => ?_
  subst he
  exact ⟨_, rfl, law_post laidOut Tryz.underlying4 (by kernel_rfl) rfl rfl hW' rfl hb⟩

set_option maxRecDepth 100000 in
theorem lifted (os : Os) (started : os.Started) (H : Type) (enc : TypeId × Value → H) :
    ReturnsInHanded {} Tryz.checked os 3 .any (Rows.shelfHandlesSpec.pre6 enc Tryz.prog Tryz.f3 Rows.shelfHandlesRow.domain false) (Rows.shelfHandlesSpec.post enc Tryz.prog Tryz.f3 false true false false) := by
  refine returnsInHanded_of_change_sized (C := Tryz.checked) own started (by kernel_rfl) Tryz.func3
    (ChangeSpec.witness6 (enc := enc) (C := Tryz.checked) false ⟨#[], #[.int .i64 0, .int .i64 0, .int .u64 0, .int .u64 0, .slice none 0 0], []⟩ 8 (by kernel_rfl) (by kernel_rfl) (by kernel_rfl) (by kernel_rfl)) ?_
  intro W base args ds gs before hval0 hW hcnd hsz0 _
  exact contract H enc W base args ds gs before hval0 hW hsz0
theorem named : Tryz.pinned.checked.prog.funcNamed Rows.shelfHandlesRow.func = some 3 := by kernel_rfl
theorem instOf : Tryz.f3.isInstance Tryz.pinned.checked.prog Rows.shelfHandlesRow.origin Rows.shelfHandlesRow.targs := of_decide_eq_true (by kernel_rfl)
theorem wrapOf : Tryz.f3.isWrapper Tryz.pinned.checked.prog Rows.shelfHandlesRow.wrapper Rows.shelfHandlesRow.mainSum := by unfold Func.isWrapper; rw [if_neg (of_decide_eq_false (by kernel_rfl))]; exact ⟨rfl, rfl⟩
theorem said : Rows.ShelfHandlesSaid :=
  OpenClaim.holds_of_wide 3 Tryz.f3 rfl rfl rfl rfl rfl rfl rfl ⟨rfl, rfl, rfl, rfl, rfl⟩ rfl rfl rfl rfl rfl named Tryz.func3 closed instOf wrapOf
    (fun os started H enc _ => lifted os started H enc)
#print axioms said
end Go.Proofs.YtcnaikoloagbdaaGreat.shelfHandles
