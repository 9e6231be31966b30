/-
  stepstoneref01's copies of a beginning: Ints, Words, Bytes (those that this seat's program has).
-/
import Derived.Test.YtnlflpcioiieaaaKit
namespace Go.Proofs.Ytnlflpcioiieaaa
set_option linter.unusedVariables false
set_option linter.unusedSimpArgs false
open Go.RowKit
theorem words_info : (Try.prog.info? 22).map (fun i => (i.zero, i.size, i.bytes)) = some (some (.int .u64 0), 1, 8) := by kernel_rfl
theorem words_any (A : Option Addr) (c : Nat) (l : List Int) (m : Int) (w : World) (hlen : l.length * 8 ≤ 140737488351232) (hr : Rd .u64 w A l) (hm0 : 0 ≤ m) :
    Calls Try.prog 10 #[.slice A l.length c, .int .i64 m] w fun e w' => ∃ v, e = .returned v ∧ Own .u64 22 w' w.heap.size v (l.take m.toNat) ∧ Below w.heap.size w w' := by
  obtain ⟨i0, hi, hz0, hz1, hz2⟩ := info_parts words_info
  have HR : Hid (Rd .u64 w A l) := hr
  clear hr
  go_enter Try.func10, Try.ntmps10
  go_wp2
  go_loopw [5, 6, 7, 10] (fun v5 v6 v7 v10 wr => ∃ k : Nat, k ≤ l.length ∧ v10 = .int .i64 k ∧ Hid (Own .u64 22 wr w.heap.size v5 (l.take (min k m.toNat))) ∧ Below w.heap.size w wr) (fun _ _ _ v10 _ => l.length - (intOf v10).toNat)
  case atStart => exact ⟨0, Nat.zero_le _, rfl, (by show Own _ _ _ _ _ _; simpa using Own.nil _ _ _ _), Below.refl _ _⟩
  case round =>
    obtain ⟨k, hk, rfl, HO, hb⟩ := hrel
    by_cases hlt : k < l.length
    · obtain ⟨ad, rfl, had, hcl⟩ := HR.out k hlt
      have hcl' := (hb.cell (p := ad.add k) (by rw [block_of_add]; exact had)).trans hcl
      clear hcl
      by_cases hkm : (k : Int) < m
      · have H1 := Lib.hid (show l.take (min (k + 1) m.toNat) = l.take (min k m.toNat) ++ [l.getD k 0] by
          rw [show min (k + 1) m.toNat = k + 1 by omega, show min k m.toNat = k by omega, List.take_succ_eq_append_getElem hlt]
          simp [List.getD_eq_getElem?_getD, List.getElem?_eq_getElem hlt])
        have hl2 : (l.take (min k m.toNat)).length ≤ l.length := by simp; omega
        have hsz := hb.size
        generalize l.getD k 0 = x at *
        go_wp2_with (at_builtin; refine wpList_push w.heap.size _ _ x _ _ _ rfl rfl Try.underlying24 hi hz0 hz1 hz2 rfl rfl rfl (heap_alloc_new _ _) (HO.out.below ((Below.refl _ _).alloc (Nat.le_refl _) _)) ?g1 ?g2 ?g3 ?_; (case g1 => simp; omega); (case g2 => omega); (case g3 => unfold maxLen; omega); intro v1 w1 ho1 hg1 _)
        go_roundw
        case rel => exact ⟨k + 1, by omega, by go_num, by rw [H1.out]; exact ho1, (hb.alloc hsz _).grown hg1 (by simp; omega) (fun g hgk => (HO.out.block g hgk).1)⟩
        case measure => simp [intOf]; omega
      · have H1 := Lib.hid (show l.take (min (k + 1) m.toNat) = l.take (min k m.toNat) by rw [show min (k + 1) m.toNat = min k m.toNat by omega])
        go_wp2
        go_roundw
        case rel => exact ⟨k + 1, by omega, by go_num, by rw [H1.out]; exact HO.out, hb⟩
        case measure => simp [intOf]; omega
    · go_wp2
      go_ret
      exact ⟨_, rfl, by have := HO.out; rwa [show l.take (min k m.toNat) = l.take m.toNat by rw [show k = l.length by omega]; exact List.take_eq_take_iff.2 (by omega)] at this, hb⟩
theorem words_b (A : Option Addr) (c : Nat) (l : List Int) (m : Int) (w : World) (hlen : l.length * 8 ≤ 140737488351232) (hr : Rd .u64 w A l) (hm0 : 0 ≤ m) :
    Calls Try.prog 10 #[.slice A l.length c, .int .i64 m] w fun e w' => ∃ (B : Option Addr) (d : Nat) (l' : List Int), e = .returned (.slice B l'.length d) ∧ Hid (l' = l.take m.toNat) ∧ l'.length ≤ m.toNat ∧ l'.length ≤ d ∧ Own .u64 22 w' w.heap.size (.slice B l'.length d) l' ∧ Rd .u64 w' B l' ∧ Below w.heap.size w w' := by
  refine (words_any A c l m w hlen hr hm0).mono ?_
  rintro e w' ⟨v, rfl, ho, hb⟩
  obtain ⟨B, d, rfl, hd, _, hr'⟩ := ho.form
  exact ⟨B, d, _, rfl, rfl, by simp; omega, hd, ho, hr', hb⟩
theorem bytes_info : (Try.prog.info? 5).map (fun i => (i.zero, i.size, i.bytes)) = some (some (.int .u8 0), 1, 1) := by kernel_rfl
theorem bytes_any (A : Option Addr) (c : Nat) (l : List Int) (m : Int) (w : World) (hlen : l.length * 1 ≤ 140737488351232) (hr : Rd .u8 w A l) (hm0 : 0 ≤ m) :
    Calls Try.prog 9 #[.slice A l.length c, .int .i64 m] w fun e w' => ∃ v, e = .returned v ∧ Own .u8 5 w' w.heap.size v (l.take m.toNat) ∧ Below w.heap.size w w' := by
  obtain ⟨i0, hi, hz0, hz1, hz2⟩ := info_parts bytes_info
  have HR : Hid (Rd .u8 w A l) := hr
  clear hr
  go_enter Try.func9, Try.ntmps9
  go_wp2
  go_loopw [5, 6, 7, 10] (fun v5 v6 v7 v10 wr => ∃ k : Nat, k ≤ l.length ∧ v10 = .int .i64 k ∧ Hid (Own .u8 5 wr w.heap.size v5 (l.take (min k m.toNat))) ∧ Below w.heap.size w wr) (fun _ _ _ v10 _ => l.length - (intOf v10).toNat)
  case atStart => exact ⟨0, Nat.zero_le _, rfl, (by show Own _ _ _ _ _ _; simpa using Own.nil _ _ _ _), Below.refl _ _⟩
  case round =>
    obtain ⟨k, hk, rfl, HO, hb⟩ := hrel
    by_cases hlt : k < l.length
    · obtain ⟨ad, rfl, had, hcl⟩ := HR.out k hlt
      have hcl' := (hb.cell (p := ad.add k) (by rw [block_of_add]; exact had)).trans hcl
      clear hcl
      by_cases hkm : (k : Int) < m
      · have H1 := Lib.hid (show l.take (min (k + 1) m.toNat) = l.take (min k m.toNat) ++ [l.getD k 0] by
          rw [show min (k + 1) m.toNat = k + 1 by omega, show min k m.toNat = k by omega, List.take_succ_eq_append_getElem hlt]
          simp [List.getD_eq_getElem?_getD, List.getElem?_eq_getElem hlt])
        have hl2 : (l.take (min k m.toNat)).length ≤ l.length := by simp; omega
        have hsz := hb.size
        generalize l.getD k 0 = x at *
        go_wp2_with (at_builtin; refine wpList_push w.heap.size _ _ x _ _ _ rfl rfl Try.underlying23 hi hz0 hz1 hz2 rfl rfl rfl (heap_alloc_new _ _) (HO.out.below ((Below.refl _ _).alloc (Nat.le_refl _) _)) ?g1 ?g2 ?g3 ?_; (case g1 => simp; omega); (case g2 => omega); (case g3 => unfold maxLen; omega); intro v1 w1 ho1 hg1 _)
        go_roundw
        case rel => exact ⟨k + 1, by omega, by go_num, by rw [H1.out]; exact ho1, (hb.alloc hsz _).grown hg1 (by simp; omega) (fun g hgk => (HO.out.block g hgk).1)⟩
        case measure => simp [intOf]; omega
      · have H1 := Lib.hid (show l.take (min (k + 1) m.toNat) = l.take (min k m.toNat) by rw [show min (k + 1) m.toNat = min k m.toNat by omega])
        go_wp2
        go_roundw
        case rel => exact ⟨k + 1, by omega, by go_num, by rw [H1.out]; exact HO.out, hb⟩
        case measure => simp [intOf]; omega
    · go_wp2
      go_ret
      exact ⟨_, rfl, by have := HO.out; rwa [show l.take (min k m.toNat) = l.take m.toNat by rw [show k = l.length by omega]; exact List.take_eq_take_iff.2 (by omega)] at this, hb⟩
theorem bytes_b (A : Option Addr) (c : Nat) (l : List Int) (m : Int) (w : World) (hlen : l.length * 1 ≤ 140737488351232) (hr : Rd .u8 w A l) (hm0 : 0 ≤ m) :
    Calls Try.prog 9 #[.slice A l.length c, .int .i64 m] w fun e w' => ∃ (B : Option Addr) (d : Nat) (l' : List Int), e = .returned (.slice B l'.length d) ∧ Hid (l' = l.take m.toNat) ∧ l'.length ≤ m.toNat ∧ l'.length ≤ d ∧ Own .u8 5 w' w.heap.size (.slice B l'.length d) l' ∧ Rd .u8 w' B l' ∧ Below w.heap.size w w' := by
  refine (bytes_any A c l m w hlen hr hm0).mono ?_
  rintro e w' ⟨v, rfl, ho, hb⟩
  obtain ⟨B, d, rfl, hd, _, hr'⟩ := ho.form
  exact ⟨B, d, _, rfl, rfl, by simp; omega, hd, ho, hr', hb⟩
end Go.Proofs.Ytnlflpcioiieaaa
