/-
  stepstoneref11's Find and Add walked; what they answer, in plain Lean.
-/
import Derived.Test.YtnlflpcioiieaaaKeys
import Derived.Test.YtnlflpcioiieaaaTake
import Derived.Test.YtnlflpcioiieaaaCut
namespace Go.Proofs.Ytnlflpcioiieaaa
set_option linter.unusedVariables false
set_option linter.unusedSimpArgs false
open Go.RowKit

/-- how many lead that are less -/
def lowr : List Int → Int → Nat
  | [], _ => 0
  | x :: l, k => if x < k then lowr l k + 1 else 0
theorem lowr_le (l : List Int) (k : Int) : lowr l k ≤ l.length := by
  induction l with
  | nil => exact Nat.le_refl _
  | cons x l ih => simp only [lowr, List.length_cons]; split <;> omega
def isIn (l : List Int) (k : Int) : Bool := decide (lowr l k < l.length) && (l.getD (lowr l k) 0 == k)
def addR (l : List Int) (k : Int) : List Int := if isIn l k then l else l.take (lowr l k) ++ [k] ++ l.drop (lowr l k)
theorem lowr_go {l : List Int} {k : Int} {i : Nat} (h : i < l.length) (hx : l.getD i 0 < k) (hk : lowr l k = i + lowr (l.drop i) k) : lowr l k = (i + 1) + lowr (l.drop (i + 1)) k := by
  rw [hk, drop_getD h]
  simp only [lowr]
  rw [if_pos hx]
  omega
theorem lowr_stop {l : List Int} {k : Int} {i : Nat} (h : i < l.length) (hx : ¬ l.getD i 0 < k) (hk : lowr l k = i + lowr (l.drop i) k) : lowr l k = i := by
  rw [hk, drop_getD h]
  simp only [lowr]
  rw [if_neg hx]
  omega
/-- rising -/
def Rise : List Int → Prop
  | [] => True
  | [_] => True
  | x :: y :: l => x < y ∧ Rise (y :: l)
theorem Rise.tail {x : Int} {l : List Int} (h : Rise (x :: l)) : Rise l := by
  cases l with
  | nil => trivial
  | cons y l => exact h.2
theorem addR_cons_lt {x k : Int} {l : List Int} (h : x < k) : addR (x :: l) k = x :: addR l k := by
  have h1 : lowr (x :: l) k = lowr l k + 1 := by simp only [lowr, if_pos h]
  unfold addR isIn
  rw [h1]
  simp only [List.length_cons, Nat.add_lt_add_iff_right, List.getD_cons_succ, List.take_succ_cons, List.drop_succ_cons, List.cons_append]
  split <;> rfl
theorem addR_cons_ge {x k : Int} {l : List Int} (h : ¬ x < k) : addR (x :: l) k = if x = k then x :: l else k :: x :: l := by
  have h1 : lowr (x :: l) k = 0 := by simp only [lowr, if_neg h]
  unfold addR isIn
  rw [h1]
  by_cases he : x = k
  · simp [he]
  · simp [he]
theorem addR_rise (l : List Int) (k : Int) (h : Rise l) : Rise (addR l k) ∧ ∀ x, (∀ y, l.head? = some y → x < y) → x < k → ∀ z, (addR l k).head? = some z → x < z := by
  induction l with
  | nil =>
    have : addR [] k = [k] := by simp [addR, isIn, lowr]
    rw [this]
    exact ⟨trivial, fun x _ hx z hz => by simp at hz; omega⟩
  | cons a l ih =>
    obtain ⟨h1, h2⟩ := ih h.tail
    by_cases hlt : a < k
    · rw [addR_cons_lt hlt]
      refine ⟨?_, fun x hx _ z hz => by simp at hz; subst hz; exact hx _ rfl⟩
      have h3 := h2 a (fun y hy => by
        cases l with
        | nil => simp at hy
        | cons b l => simp at hy; subst hy; exact h.1) hlt
      cases hl : addR l k with
      | nil => trivial
      | cons b m => rw [hl] at h1 h3; exact ⟨h3 b rfl, h1⟩
    · rw [addR_cons_ge hlt]
      split
      · exact ⟨h, fun x hx _ z hz => by simp at hz; subst hz; exact hx _ rfl⟩
      · exact ⟨⟨by omega, h⟩, fun x _ hx z hz => by simp at hz; omega⟩
theorem addR_len (l : List Int) (k : Int) : (addR l k).length ≤ l.length + 1 := by
  have := lowr_le l k
  unfold addR
  split
  · omega
  · simp; omega
theorem addR_u64 {l : List Int} {k : Int} (h : U64 l) (hk : 0 ≤ k ∧ k ≤ 18446744073709551615) : U64 (addR l k) := by
  unfold addR
  split
  · exact h
  · intro x hx
    simp only [List.append_assoc, List.mem_append, List.mem_singleton] at hx
    rcases hx with hx | hx | hx
    · exact h x (List.mem_of_mem_take hx)
    · subst hx; exact hk
    · exact h x (List.mem_of_mem_drop hx)

set_option maxHeartbeats 400000 in
set_option maxRecDepth 100000 in
theorem find_any (A : Option Addr) (c : Nat) (l : List Int) (k : Int) (w : World) (hr : Rd .u64 w A l) (hlen : l.length ≤ 1000000) :
    Calls Try.prog 29 #[.slice A l.length c, .int .u64 k] w fun e w' => ∃ (i : Nat) (r : Bool), e = .returned (.tuple #[.int .i64 i, .bool r]) ∧ Hid (i = lowr l k ∧ r = isIn l k) ∧ i ≤ l.length ∧ Below w.heap.size w w' := by
  have HR := Lib.hid hr
  clear hr
  go_enter Try.func29, Try.ntmps29
  go_wp2
  go_loopw [6] (fun v6 wr => ∃ i : Nat, i ≤ l.length ∧ v6 = .int .i64 i ∧ Hid (lowr l k = i + lowr (l.drop i) k) ∧ wr = w) (fun v6 _ => l.length - (intOf v6).toNat)
  case atStart => exact ⟨0, Nat.zero_le _, rfl, by show _ = _; simp, rfl⟩
  case round =>
    obtain ⟨i, hi, rfl, HL, rfl⟩ := hrel
    by_cases hlt : i < l.length
    · obtain ⟨ad, rfl, had, hcl⟩ := HR.out i hlt
      by_cases hx : l.getD i 0 < k
      · have HL2 := Lib.hid (lowr_go hlt hx HL.out)
        generalize l.getD i 0 = x at *
        go_wp2
        go_roundw
        case rel => exact ⟨i + 1, by omega, by go_num, HL2, by first | rfl | trivial⟩
        case measure => simp [intOf]; omega
      · have HL2 := Lib.hid (lowr_stop hlt hx HL.out)
        have HI := Lib.hid (show isIn l k = (l.getD i 0 == k) by unfold isIn; rw [HL2.out]; simp [hlt])
        generalize l.getD i 0 = x at *
        go_wp2
        first
          | (go_ret2; exact ⟨i, _, rfl, ⟨HL2.out.symm, HI.out.symm⟩, hi, Below.refl _ _⟩)
          | (go_region
             all_goals
               go_wp2
               go_ret2
               exact ⟨i, _, rfl, ⟨HL2.out.symm, HI.out.symm⟩, hi, (Below.refl _ _).drew⟩)
    · obtain rfl : i = l.length := by omega
      have HI := Lib.hid (show lowr l k = l.length ∧ isIn l k = false by
        have := HL.out
        rw [List.drop_length] at this
        have h : lowr l k = l.length := by simpa [lowr] using this
        exact ⟨h, by unfold isIn; rw [h]; simp⟩)
      go_wp2
      first
        | (go_ret2; exact ⟨l.length, _, rfl, ⟨HI.out.1.symm, HI.out.2.symm⟩, hi, Below.refl _ _⟩)
        | (go_region
           all_goals
             go_wp2
             go_ret2
             exact ⟨l.length, _, rfl, ⟨HI.out.1.symm, HI.out.2.symm⟩, hi, (Below.refl _ _).drew⟩)
set_option maxHeartbeats 400000 in
set_option maxRecDepth 100000 in
theorem add_any (A : Option Addr) (c : Nat) (l : List Int) (k : Int) (w : World) (hr : Rd .u64 w A l) (hlen : l.length ≤ 1000) (hc : l.length ≤ c) :
    Calls Try.prog 19 #[.slice A l.length c, .int .u64 k] w fun e w' => ∃ (B : Option Addr) (m : List Int) (d : Nat), e = .returned (.slice B m.length d) ∧ Hid (m = addR l k) ∧ m.length ≤ d ∧ Rd .u64 w' B m ∧ Below w.heap.size w w' := by
  have HR := Lib.hid hr
  obtain ⟨i0, hi, hz0, hz1, hz2⟩ := info_parts words_info
  clear hr
  go_enter Try.func19, Try.ntmps19
  go_wp2_with fail
  refine (find_any A c l k _ HR.out (by omega)).mono ?_
  rintro e w1 ⟨i, r, rfl, HF, hil, hb1⟩
  have HR1 := Lib.hid (HR.out.below hb1)
  have HB1 := Lib.hid hb1
  clear hb1
  cases r
  · have BB : ∀ x y : Nat, x ≤ 3000 → y ≤ 3000 → (x + y) * 8 ≤ 140737488355328 ∧ x + y ≤ maxLen := fun x y h1 h2 => ⟨by omega, by unfold maxLen; omega⟩
    have BT : ∀ s : List Int, Hid (s = l.take i) → s.length ≤ 1000 := fun s h => by rw [h.out, List.length_take]; omega
    have BD : ∀ s : List Int, Hid (s = l.drop i) → s.length ≤ 1000 := fun s h => by rw [h.out, List.length_drop]; omega
    have B1 : ∀ (s : List Int) (x : Int), s.length ≤ 1000 → (s ++ [x]).length ≤ 3000 := fun s x h => by rw [List.length_append]; simp; omega
    have B0 : ∀ s : List Int, s.length ≤ 1000 → s.length ≤ 3000 := fun s h => by omega
    have hown := Own.made (k := .u64) (e := 22) (w := w1) (base := w.heap.size) HB1.out.size [] (by simp)
    have hba := HB1.out.alloc HB1.out.size (.cells #[] 22)
    have hsa := hba.size
    have HBA := Lib.hid hba
    have HRA := Lib.hid (HR1.out.below ((Below.refl _ _).alloc (Nat.le_refl _) (.cells #[] 22)))
    have e0 : ([] : List Int) ++ l.take i = l.take i := rfl
    have AP : ∀ x : List Int, ([] : List Int) ++ x = x := fun x => rfl
    clear hba
    have h13 : 1 ≤ 3000 := by omega
    have HRW := HR
    go_wp2_with (first
      | (refine wpList_upto (k := .u64) (W0 := w) _ _ _ i l _ _ rfl rfl Try.underlying24 hi hz1 rfl rfl rfl hil hc rfl HRW.out ?_; intro A2 c2 s2 HS2 hcs2 HRs2)
      | (at_builtin; refine wpList_pushAll w.heap.size _ [] s2 _ _ _ _ rfl rfl Try.underlying24 hi hz0 hz1 hz2 rfl rfl rfl (HRs2.out.below HBA.out) hown hsa (BB 0 s2.length (Nat.zero_le _) (B0 s2 (BT s2 HS2))).1 (BB 0 s2.length (Nat.zero_le _) (B0 s2 (BT s2 HS2))).2 ?_; intro v3 w3 ho3 hg3 _; rw [AP s2] at ho3; have HB3 := Lib.hid ((HBA.out.grown hg3 hsa (fun g hg => (hown.block g hg).1)).alloc (Nat.le_trans hsa hg3.size) (.cells #[.int .u64 k] 22)); have hoA := Lib.hid (ho3.below ((Below.refl w3.heap.size w3).alloc (Nat.le_refl _) (.cells #[.int .u64 k] 22))))
      | (at_builtin; refine wpList_push w.heap.size _ s2 k _ _ _ rfl rfl Try.underlying24 hi hz0 hz1 hz2 rfl rfl rfl (heap_alloc_new _ _) hoA.out HB3.out.size (BB s2.length 1 (B0 s2 (BT s2 HS2)) h13).1 (BB s2.length 1 (B0 s2 (BT s2 HS2)) h13).2 ?_; intro v4 w4 ho4 hg4 _; have HB4 := Lib.hid (HB3.out.grown hg4 HB3.out.size (fun g hg => (hoA.out.block g hg).1)))
      | (refine wpList_cut (k := .u64) (W0 := w) _ _ _ i l _ _ rfl rfl Try.underlying24 hi hz1 rfl rfl rfl hil hc rfl HRW.out ?_; intro A5 c5 s5 HS5 hcs5 HRs5)
      | (at_builtin; refine wpList_pushAll w.heap.size _ (s2 ++ [k]) s5 _ _ _ _ rfl rfl Try.underlying24 hi hz0 hz1 hz2 rfl rfl rfl (HRs5.out.below HB4.out) ho4 HB4.out.size (BB _ s5.length (B1 s2 k (BT s2 HS2)) (B0 s5 (BD s5 HS5))).1 (BB _ s5.length (B1 s2 k (BT s2 HS2)) (B0 s5 (BD s5 HS5))).2 ?_; intro v6 w6 ho6 hg6 _; have HB6 := Lib.hid (HB4.out.grown hg6 HB4.out.size (fun g hg => (ho4.block g hg).1))))
    have HL := Lib.hid (show s2 ++ [k] ++ s5 = addR l k by
      rw [HS2.out, HS5.out, HF.out.1]
      unfold addR
      rw [← HF.out.2]
      rfl)
    rw [HL.out] at ho6
    obtain ⟨B, d, rfl, hd, _, hr6⟩ := ho6.form
    try go_wp2
    go_ret
    exact ⟨B, addR l k, d, rfl, rfl, hd, hr6, HB6.out⟩
  · go_wp2
    go_ret
    exact ⟨A, l, c, rfl, (by show _ = _; unfold addR; rw [← HF.out.2]; rfl), hc, HR1.out, HB1.out⟩
end Go.Proofs.Ytnlflpcioiieaaa
