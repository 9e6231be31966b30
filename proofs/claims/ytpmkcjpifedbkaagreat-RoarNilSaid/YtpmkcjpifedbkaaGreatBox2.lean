/-
  box.Add and box.Copy on boxes that are few, walked.
-/
import Derived.Test.YtpmkcjpifedbkaaGreatBox
namespace Go.Proofs.YtpmkcjpifedbkaaGreat
set_option linter.unusedVariables false
set_option linter.unusedSimpArgs false
open Go.RowKit

theorem Own.rd {k : IntKind} {e : TypeId} {w : World} {base : Nat} {A : Option Addr} {n c : Nat} {l : List Int} (h : Own k e w base (.slice A n c) l) : Rd k w A l := by
  obtain ⟨A', c', e1, _, _, h2⟩ := h.form
  injection e1 with a1 a2 a3
  subst a1
  exact h2
theorem grown_of_below {w w' : World} {row : Option Nat} (h : Below w.heap.size w w') : w.grownBy w' row := ⟨h.os, h.tape, h.output, h.size, fun k hk _ => h.block k hk⟩
theorem grown_set {w w' : World} {b i : Nat} {u : Value} (h : w.grownBy w' (some b)) : w.grownBy (w'.setCell ⟨b, i, none⟩ u) (some b) :=
  ⟨h.os, h.tape, h.output, by simpa using h.size, fun k hk hne => by
    rw [Below.heap_setCell w' ⟨b, i, none⟩ u k (fun e => hne (by rw [e]))]
    exact h.block k hk hne⟩
set_option maxRecDepth 100000 in
set_option maxHeartbeats 1000000 in
theorem boxAdd (b : Nat) (A : Option Addr) (c : Nat) (l : List Int) (v : Int) (w : World) (hb : Few w b A l c) (hr : Rd .u16 w A l) (hR : Rise l) (hlen : l.length < 4096) (hin : isIn l v = false) :
    Calls Tryz.prog 29 #[.pointer (some ⟨b, 0, none⟩), .int .u16 v] w fun e w' => ∃ (A' : Option Addr) (c' : Nat), e = .returned (.bool true) ∧ Few w' b A' (addR l v) c' ∧ Own .u16 50 w' 0 (.slice A' (addR l v).length c') (addR l v) ∧ w.grownBy w' (some b) := by
  have HR := Lib.hid hr
  have HRI := Lib.hid hR
  have HF := Lib.hid hb
  have HI := Lib.hid hin
  have q0 := blk_cell hb 0 rfl
  have hm := fun w => fewMeth_list (.slice A l.length c) w
  have hl1 : (l.length : Int) < 4096 := by omega
  clear hr hR hb hin
  go_enter Tryz.func29, Tryz.ntmps29
  go_wp2_with fail
  refine (boxHas b A c l v _ HF.out HR.out HRI.out (by omega)).mono ?_
  rintro e w1 ⟨r, rfl, HV, hb1⟩
  obtain rfl : r = false := by rw [HV.out, HI.out]
  go_wp2_with fail
  refine (boxLen b A c l _ (HF.out.below hb1) (HR.out.below hb1) HRI.out (by omega)).mono ?_
  rintro e w2 ⟨rfl, hb2⟩
  have hb12 := below_then hb1 hb2
  have q2 := (hb12.cell (p := ⟨b, 0, none⟩) (blk_lt HF.out)).trans q0
  go_wp2_with fail
  refine (fewList A c l _ (HR.out.below hb12) HRI.out (by omega)).mono ?_
  rintro e w3 ⟨V3, rfl, ho3, hb3⟩
  obtain ⟨A3, c3, rfl, hc3, _, rr3⟩ := ho3.form
  have hb13 := below_then hb12 hb3
  clear ho3
  go_wp2_with fail
  refine (arrAdd A3 c3 l v _ rr3 HRI.out hc3 (by omega)).mono ?_
  rintro e w4 ⟨V4, bb, rfl, HB4, ho4, hb4⟩
  obtain ⟨A4, c4, rfl, hc4, _, rr4⟩ := ho4.form
  have hb14 := below_then hb13 hb4
  have HF4 := Lib.hid (HF.out.below hb14)
  have q4 := (hb14.cell (p := ⟨b, 0, none⟩) (blk_lt HF.out)).trans q0
  have f4 := blk_free HF4.out 0
  have HO4 := Lib.hid ho4
  have HG := Lib.hid (grown_of_below (row := some b) hb14)
  clear ho4 rr4 rr3
  go_wp2
  go_ret
  exact ⟨A4, c4, rfl, blk_set HF4.out 0 _, (own_set HO4.out HF4.out (by decide) 0 _).mono (Nat.zero_le _), grown_set HG.out⟩
theorem assertMany (x : Value) (w : World) : (Instr.typeAssert (.iface 78 (.agg #[x])) 68 82 true).run Tryz.prog w = .ok (.tuple #[.agg #[.pointer none], .bool false]) w := by kernel_rfl
theorem assertLong (x : Value) (w : World) : (Instr.typeAssert (.iface 78 (.agg #[x])) 68 89 true).run Tryz.prog w = .ok (.tuple #[.agg #[.slice none 0 0], .bool false]) w := by kernel_rfl
set_option maxRecDepth 100000 in
set_option maxHeartbeats 1000000 in
theorem boxCopy (b : Nat) (A : Option Addr) (c : Nat) (l : List Int) (w : World) (hb : Few w b A l c) (hr : Rd .u16 w A l) (hR : Rise l) (hlen : l.length ≤ 900000) :
    Calls Tryz.prog 39 #[.pointer (some ⟨b, 0, none⟩)] w fun e w' => ∃ (b' : Nat) (A' : Option Addr) (c' : Nat), e = .returned (.pointer (some ⟨b', 0, none⟩)) ∧ w.heap.size ≤ b' ∧ Few w' b' A' l c' ∧ Own .u16 50 w' 0 (.slice A' l.length c') l ∧ Below w.heap.size w w' := by
  have HR := Lib.hid hr
  have HRI := Lib.hid hR
  have HF := Lib.hid hb
  have q0 := blk_cell hb 0 rfl
  have hm := fun w => fewMeth_list (.slice A l.length c) w
  clear hr hR hb
  have hm1 := fun w => assertMany (.slice A l.length c) w
  have hm2 := fun w => assertLong (.slice A l.length c) w
  go_enter Tryz.func39, Tryz.ntmps39
  go_wp2_with fail
  refine (fewList A c l _ HR.out HRI.out (by omega)).mono ?_
  rintro e w3 ⟨V3, rfl, ho3, hb3⟩
  obtain ⟨A3, c3, rfl, hc3, _, rr3⟩ := ho3.form
  have RR := Lib.hid ho3
  have HB := Lib.hid hb3
  clear ho3 rr3 hb3
  go_wp2
  go_ret
  exact ⟨w3.heap.size, A3, c3, rfl, HB.out.size, heap_alloc_new _ _, (RR.out.below ((Below.refl _ _).alloc (Nat.le_refl _) _)).mono (Nat.zero_le _), HB.out.alloc HB.out.size _⟩
end Go.Proofs.YtpmkcjpifedbkaaGreat
