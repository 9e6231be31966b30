/-
  stepstoneref19.Same walked.
-/
import Derived.Test.YtnlflpcioiieaaaPair
namespace Go.Proofs.Ytnlflpcioiieaaa
set_option linter.unusedVariables false
set_option linter.unusedSimpArgs false
open Go.RowKit

theorem alike_step {a b : List (Int × Int)} {i : Nat} (hi : i < a.length) (hlen : a.length = b.length) (h : a.take i = b.take i) (he : a.getD i (0, 0) = b.getD i (0, 0)) : a.take (i + 1) = b.take (i + 1) := by
  rw [List.getD_eq_getElem?_getD, List.getD_eq_getElem?_getD, List.getElem?_eq_getElem hi, List.getElem?_eq_getElem (by omega)] at he
  simp only [Option.getD_some] at he
  rw [List.take_succ_eq_append_getElem hi, List.take_succ_eq_append_getElem (by omega), h, he]
set_option maxHeartbeats 400000 in
set_option maxRecDepth 100000 in
theorem refSame_any (A B : Option Addr) (c d : Nat) (a b : List (Int × Int)) (w : World) (hra : RdP w A a) (hrb : RdP w B b) (hla : a.length ≤ 1000000) :
    Calls Try.prog 22 #[.slice A a.length c, .slice B b.length d] w fun e w' => ∃ r : Bool, e = .returned (.bool r) ∧ Hid (r = decide (a = b)) ∧ Below w.heap.size w w' := by
  have HA := Lib.hid hra
  have HB := Lib.hid hrb
  clear hra hrb
  go_enter Try.func22, Try.ntmps22
  by_cases hl : a.length = b.length
  · have HL := Lib.hid hl
    have hlb : ((a.length : Int) == (b.length : Int)) = true := by simp [hl]
    have hlb2 : ((a.length : Int) != (b.length : Int)) = false := by simp [hl]
    clear hl
    go_wp2
    go_loopw [5, 13] (fun v5 v13 wr => ∃ i : Nat, i ≤ a.length ∧ v13 = .int .i64 i ∧ Hid (a.take i = b.take i) ∧ Below w.heap.size w wr) (fun _ v13 _ => a.length - (intOf v13).toNat)
    case atStart => exact ⟨0, Nat.zero_le _, rfl, by show _ = _; simp, Below.refl _ _⟩
    case round =>
      obtain ⟨i, hi, rfl, HT, hb⟩ := hrel
      by_cases hlt : i < a.length
      · have hltb : (i : Int) < b.length := by have := HL.out; omega
        obtain ⟨ad, rfl, had, hk, hv⟩ := HA.out i hlt
        obtain ⟨bd, rfl, hbd, hk2, hv2⟩ := HB.out i (by have := HL.out; omega)
        replace hk := (hb.cell (p := ad.add (i * 2)) (by rw [block_of_add]; exact had)).trans hk
        replace hv := (hb.cell (p := ad.add (i * 2 + 1)) (by rw [block_of_add]; exact had)).trans hv
        replace hk2 := (hb.cell (p := bd.add (i * 2)) (by rw [block_of_add]; exact hbd)).trans hk2
        replace hv2 := (hb.cell (p := bd.add (i * 2 + 1)) (by rw [block_of_add]; exact hbd)).trans hv2
        rw [pair_addr] at hv hv2
        have HS := Lib.hid (alike_step hlt HL.out HT.out)
        have HN := Lib.hid (show a.getD i (0, 0) ≠ b.getD i (0, 0) → a ≠ b from fun h e => h (by rw [e]))
        generalize a.getD i (0, 0) = x at *
        generalize b.getD i (0, 0) = y at *
        obtain ⟨x0, x1⟩ := x
        obtain ⟨y0, y1⟩ := y
        by_cases h0 : x0 = y0
        · by_cases h1 : x1 = y1
          · have HS2 := Lib.hid (HS.out (by rw [h0, h1]))
            go_wp2
            go_region
            all_goals
              go_wp2
              go_roundw
              case rel => exact ⟨i + 1, by omega, by go_num, HS2, hb.drew⟩
              case measure => simp [intOf]; omega
          · have HN2 := Lib.hid (HN.out (fun e => h1 (by injection e)))
            go_wp2
            go_region
            all_goals
              go_wp2
              go_ret
              exact ⟨_, rfl, (by show _ = _; simp [HN2.out]), hb.drew⟩
        · have HN2 := Lib.hid (HN.out (fun e => h0 (by injection e)))
          go_wp2
          go_region
          all_goals
            go_wp2
            go_ret
            exact ⟨_, rfl, (by show _ = _; simp [HN2.out]), hb.drew⟩
      · obtain rfl : i = a.length := by omega
        have HE := Lib.hid (show a = b by
          have := HT.out
          rw [List.take_length, List.take_of_length_le (by rw [HL.out]; exact Nat.le_refl _)] at this
          exact this)
        go_wp2
        go_ret
        exact ⟨_, rfl, (by show _ = _; simp [HE.out]), hb⟩
  · have hlb : ((a.length : Int) == (b.length : Int)) = false := by simp; omega
    have hlb2 : ((a.length : Int) != (b.length : Int)) = true := by simp; omega
    have HL := Lib.hid (show a ≠ b from fun h => hl (by rw [h]))
    clear hl
    go_wp2
    go_ret
    exact ⟨_, rfl, (by show _ = _; simp [HL.out]), Below.refl _ _⟩
end Go.Proofs.Ytnlflpcioiieaaa
