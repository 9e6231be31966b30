/-
  slices.Concat at uint16 and the functions of package array that look, walked.
-/
import Derived.Test.YtpmkcjpifedbkaaGreatArr
namespace Go.Proofs.YtpmkcjpifedbkaaGreat
set_option linter.unusedVariables false
set_option linter.unusedSimpArgs false
open Go.RowKit

set_option maxHeartbeats 1000000 in
set_option maxRecDepth 100000 in
theorem concat3 (B : Nat) (A0 A1 A2 : Option Addr) (c0 c1 c2 : Nat) (l0 l1 l2 : List Int) (w : World) (hB : w.heap[B]? = some (.cells #[.slice A0 l0.length c0, .slice A1 l1.length c1, .slice A2 l2.length c2] 71 (0, 0)))
    (h0 : Rd .u16 w A0 l0) (h1 : Rd .u16 w A1 l1) (h2 : Rd .u16 w A2 l2) (hl : l0.length + l1.length + l2.length ≤ 1000000) :
    Calls Tryz.prog 55 #[.slice (some ⟨B, 0, none⟩) 3 3] w fun e w' => ∃ v, e = .returned v ∧ Own .u16 50 w' w.heap.size v (l0 ++ l1 ++ l2) ∧ Below w.heap.size w w' := by
  obtain ⟨i0, hi, hz0, hz1, hz2⟩ := info_parts u16_info
  have H0 := Lib.hid h0
  have H1 := Lib.hid h1
  have H2 := Lib.hid h2
  have HB := Lib.hid hB
  have q0 := blk_cell hB 0 rfl
  have q1 := blk_cell hB 1 rfl
  have q2 := blk_cell hB 2 rfl
  have BB : ∀ a b : Nat, a + b ≤ 1000000 → (a + b) * 2 ≤ 140737488355328 ∧ a + b ≤ maxLen := fun a b h => ⟨by omega, by unfold maxLen; omega⟩
  clear h0 h1 h2 hB
  go_enter Tryz.func55, Tryz.ntmps55
  go_wp2
  go_loopw [3, 11] (fun v3 v11 wr => ∃ k s : Nat, k ≤ 3 ∧ v11 = .int .i64 k ∧ v3 = .int .i64 s ∧ Hid (s = if k = 0 then 0 else if k = 1 then l0.length else if k = 2 then l0.length + l1.length else l0.length + l1.length + l2.length) ∧ wr = w) (fun _ v11 _ => 3 - (intOf v11).toNat)
  case atStart => exact ⟨0, 0, by omega, rfl, rfl, rfl, rfl⟩
  case round =>
    obtain ⟨k, s, hk, rfl, rfl, HS, rfl⟩ := hrel
    rcases k with _ | _ | _ | _ | k
    · obtain rfl : s = 0 := HS.out
      clear HS
      go_wp2
      go_roundw
      case rel => exact ⟨1, l0.length, by omega, rfl, by simp, rfl, trivial⟩
      case measure => simp [intOf]
    · obtain rfl : s = l0.length := HS.out
      clear HS
      go_wp2
      go_roundw
      case rel => exact ⟨2, l0.length + l1.length, by omega, rfl, by simp, rfl, trivial⟩
      case measure => simp [intOf]
    · have hs : s = l0.length + l1.length := HS.out
      have hs2 : IntKind.i64.wrap ((s : Int) + (l2.length : Int)) = (s : Int) + (l2.length : Int) := by rw [IntKind.wrap_i64]; omega
      have hs3 : ¬ (s : Int) + (l2.length : Int) < 0 := by omega
      have hs4 : s + l2.length = l0.length + l1.length + l2.length := by omega
      have hs5 : s ≤ 1000000 := by omega
      have HS4 := Lib.hid hs4
      clear hs hs4 HS
      go_wp2
      go_roundw
      case rel => exact ⟨3, s + l2.length, by omega, rfl, by simp, HS4.out, trivial⟩
      case measure => simp [intOf]
    · have hs : s ≤ 1000000 := by have : s = l0.length + l1.length + l2.length := HS.out; omega
      clear HS
      rename World => w
      go_wp2_with fail
      refine (grow16 s _ hs).mono ?_
      rintro e w1 ⟨v6, rfl, ho1, hb1⟩
      have HO1 := Lib.hid ho1
      have q0' := (hb1.cell (p := ⟨B, 0, none⟩) (blk_lt HB.out)).trans q0
      have q1' := (hb1.cell (p := ⟨B, 1, none⟩) (blk_lt HB.out)).trans q1
      have q2' := (hb1.cell (p := ⟨B, 2, none⟩) (blk_lt HB.out)).trans q2
      have HB1 := Lib.hid hb1
      have hbw := blk_lt HB.out
      clear ho1 hb1 q0 q1 q2
      go_wp2_with fail
      go_loopw [6, 27] (fun v6 v27 wr => ∃ (k : Nat) (p : List Int), k ≤ 3 ∧ v27 = .int .i64 k ∧ Hid (p = if k = 0 then [] else if k = 1 then l0 else if k = 2 then l0 ++ l1 else l0 ++ l1 ++ l2) ∧ Hid (Own .u16 50 wr w.heap.size v6 p) ∧ Below w.heap.size w wr) (fun _ v27 _ => 3 - (intOf v27).toNat)
      case atStart => exact ⟨0, [], by omega, rfl, rfl, HO1, HB1.out⟩
      case round =>
        obtain ⟨k, p, hk, rfl, HP, HO, hb⟩ := hrel
        rename World => wx
        have hsz := hb.size
        have r0 := (hb.cell (p := ⟨B, 0, none⟩) hbw).trans (blk_cell HB.out 0 rfl)
        have r1 := (hb.cell (p := ⟨B, 1, none⟩) hbw).trans (blk_cell HB.out 1 rfl)
        have r2 := (hb.cell (p := ⟨B, 2, none⟩) hbw).trans (blk_cell HB.out 2 rfl)
        rcases k with _ | _ | _ | _ | k
        · obtain rfl : p = [] := HP.out
          have b1 := BB 0 l0.length (by omega)
          go_wp2_with (at_builtin; refine wpList_pushAll w.heap.size _ [] l0 A0 c0 _ _ rfl rfl Tryz.underlying71 hi hz0 hz1 hz2 rfl rfl rfl (H0.out.below hb) HO.out hsz b1.1 b1.2 ?_; intro v2 w2 ho2 hg2 _)
          try go_wp2
          go_roundw
          case rel => exact ⟨1, l0, by omega, rfl, rfl, ho2, hb.grown hg2 hsz (fun g hg => (HO.out.block g hg).1)⟩
          case measure => simp [intOf]
        · obtain rfl : p = l0 := HP.out
          have b1 := BB p.length l1.length (by omega)
          go_wp2_with (at_builtin; refine wpList_pushAll w.heap.size _ p l1 A1 c1 _ _ rfl rfl Tryz.underlying71 hi hz0 hz1 hz2 rfl rfl rfl (H1.out.below hb) HO.out hsz b1.1 b1.2 ?_; intro v2 w2 ho2 hg2 _)
          try go_wp2
          go_roundw
          case rel => exact ⟨2, p ++ l1, by omega, rfl, rfl, ho2, hb.grown hg2 hsz (fun g hg => (HO.out.block g hg).1)⟩
          case measure => simp [intOf]
        · have hp : p = l0 ++ l1 := HP.out
          have b1 := BB p.length l2.length (by rw [hp]; simp; omega)
          have HE := Lib.hid (show p ++ l2 = l0 ++ l1 ++ l2 by rw [hp])
          clear hp HP
          go_wp2_with (at_builtin; refine wpList_pushAll w.heap.size _ p l2 A2 c2 _ _ rfl rfl Tryz.underlying71 hi hz0 hz1 hz2 rfl rfl rfl (H2.out.below hb) HO.out hsz b1.1 b1.2 ?_; intro v2 w2 ho2 hg2 _)
          try go_wp2
          go_roundw
          case rel => exact ⟨3, p ++ l2, by omega, rfl, HE.out, ho2, hb.grown hg2 hsz (fun g hg => (HO.out.block g hg).1)⟩
          case measure => simp [intOf]
        · have HE := Lib.hid (show p = l0 ++ l1 ++ l2 from HP.out)
          clear HP
          go_wp2
          go_ret
          exact ⟨_, rfl, by rw [← HE.out]; exact HO.out, hb⟩
        · omega
    · omega
end Go.Proofs.YtpmkcjpifedbkaaGreat
