/-
  veb.VEB: need, has of a key in a cluster, walked.
-/
import Derived.Test.YtmpjjehihimadaaGreatVeb3
namespace Go.Proofs.YtmpjjehihimadaaGreat
set_option linter.unusedVariables false
set_option linter.unusedSimpArgs false
open Go.RowKit

/-- a tree of no key; of the key 1; of 1 and 5; of 1, 5 and 9 -/
def V0 (d : VD) : Prop := d.ls = [] ∧ d.n = 0 ∧ d.tn = 0 ∧ ∀ x ∈ d.es, x = e0
def V1 (d : VD) : Prop := d.ls = [⟨1, 1, -1, 0⟩] ∧ d.root = 0 ∧ d.tn = 0 ∧ ∀ x ∈ d.es, x = e0
def V2 (d : VD) : Prop := d.ls = [⟨1, 5, -1, 0⟩] ∧ d.root = 0 ∧ d.tn = 0 ∧ ∀ x ∈ d.es, x = e0
def V3 (d : VD) : Prop := d.ls = [⟨1, 9, 2, 0⟩, ⟨5, 5, -1, 0⟩, ⟨0, 0, -1, 0⟩] ∧ d.root = 0 ∧ Fn d.es d.seed 64 0 true ∧ ∀ x ∈ d.es, x.full = true → x.v = 1
theorem V3.at0 {d : VD} (h : V3 d) : ∃ h0 : 0 < d.ls.length, d.ls[0] = ⟨1, 9, 2, 0⟩ := by
  have h1 := h.1
  simp [h1]
theorem V3.at1 {d : VD} (h : V3 d) : ∃ h0 : 1 < d.ls.length, d.ls[1] = ⟨5, 5, -1, 0⟩ := by
  have h1 := h.1
  simp [h1]
theorem V3.at2 {d : VD} (h : V3 d) : ∃ h0 : 2 < d.ls.length, d.ls[2] = ⟨0, 0, -1, 0⟩ := by
  have h1 := h.1
  simp [h1]
theorem V2.at0 {d : VD} (h : V2 d) : ∃ h0 : 0 < d.ls.length, d.ls[0] = ⟨1, 5, -1, 0⟩ := by
  have h1 := h.1
  simp [h1]
theorem V1.at0 {d : VD} (h : V1 d) : ∃ h0 : 0 < d.ls.length, d.ls[0] = ⟨1, 1, -1, 0⟩ := by
  have h1 := h.1
  simp [h1]
theorem noFn {es : List En} {seed : Int} (h : ∀ x ∈ es, x = e0) : ∀ ok, Fn es seed 64 0 ok → ok = false := fun ok hf => fn_free h hf
theorem noVal {es : List En} (h : ∀ x ∈ es, x = e0) : ∀ x ∈ es, x.full = true → x.v = 1 := fun x hx hf => by rw [h x hx] at hf; cases hf
set_option maxRecDepth 100000 in
set_option maxHeartbeats 1000000 in
/-- a node with one key needs none -/
theorem vNeedS (d : VD) (w : World) (h : VP w d) (j : Nat) (hj : j < d.ls.length) (a c q : Int) (hx : d.ls[j] = ⟨a, a, c, q⟩) (wide k : Int) (hw : wide = 64 ∨ wide = 32) : Calls Tryz.prog 122 #[.pointer (some ⟨d.t, 0, none⟩), .int .i64 j, .int .i64 wide, .int .u64 k] w fun e w' => e = .returned (.int .i64 0) ∧ Hid (Below w.heap.size w w') := by
  have H := Lib.hid h
  have HX := Lib.hid hx
  clear h hx
  rcases hw with rfl | rfl
  all_goals
    go_enter Tryz.func122, Tryz.ntmps122
    go_wp2_with fail
    refine (vSee d _ H.out j hj _ HX.out).mono ?_
    rintro e w1 ⟨rfl, HB1⟩
    go_wp2_with fail
    refine (vSingle a a c q _).mono ?_
    rintro e w2 ⟨rfl, HB2⟩
    rw [decide_eq_true (rfl : a = a)]
    go_wp2
    go_ret
    exact ⟨rfl, below_then (below_then HB1.out ((Below.refl _ _).alloc (Nat.le_refl _) _)) HB2.out⟩
end Go.Proofs.YtmpjjehihimadaaGreat
