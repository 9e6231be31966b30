/-
  stepstoneref19.Read walked.
-/
import Derived.Test.YtnlflpcioiieaaaCode2
import Derived.IntWalk
namespace Go.Proofs.Ytnlflpcioiieaaa
set_option linter.unusedVariables false
set_option linter.unusedSimpArgs false
open Go.RowKit

theorem ret_ui {a b : Int} {a' b' : Nat} (h : a = a') (k : b = b') : Ending.returned (.tuple #[.int .u64 a, .int .i64 b]) = Ending.returned (.tuple #[.int .u64 (a' : Int), .int .i64 (b' : Int)]) := by rw [h, k]
set_option maxHeartbeats 400000 in
set_option maxRecDepth 100000 in
theorem refRead_any (A : Option Addr) (c : Nat) (l : List Int) (w : World) (hB : Bytes l) (hr : Rd .u8 w A l) (hlen : l.length ≤ 140737488351232) (hc : l.length ≤ c) :
    Calls Try.prog 15 #[.slice A l.length c] w fun e w' => e = .returned (.tuple #[.int .u64 ((refRead l).1 : Nat), .int .i64 ((refRead l).2 : Nat)]) ∧ Below w.heap.size w w' := by
  have HR := Lib.hid hr
  have HB := Lib.hid hB
  clear hr hB
  go_enter Try.func15, Try.ntmps15
  go_wp2
  go_loopw [4] (fun v4 wr => ∃ k : Nat, k ≤ l.length ∧ v4 = .int .i64 k ∧ Hid (lead l = k + lead (l.drop k)) ∧ wr = w) (fun v4 _ => l.length - (intOf v4).toNat)
  case atStart => exact ⟨0, Nat.zero_le _, rfl, by show _ = _; simp, rfl⟩
  case round =>
    obtain ⟨k, hk, rfl, HL, rfl⟩ := hrel
    by_cases hlt : k < l.length
    · obtain ⟨ad, rfl, had, hcl⟩ := HR.out k hlt
      by_cases h128 : 128 ≤ l.getD k 0
      · have HL2 := Lib.hid (lead_drop l k hlt h128 HL.out)
        generalize l.getD k 0 = x at *
        go_wp2
        go_roundw
        case rel => exact ⟨k + 1, by omega, by go_num, HL2, by first | rfl | trivial⟩
        case measure => simp [intOf]; omega
      · have HL2 := Lib.hid (lead_stop l k hlt h128 HL.out)
        generalize l.getD k 0 = x at *
        have hne : ((k : Int) == (l.length : Int)) = false := by simp; omega
        by_cases h9 : 9 < k
        · have HV := Lib.hid (show refRead l = (0, 0) by unfold refRead; rw [if_pos (.inr (by have := HL2.out; omega))])
          go_wp2
          go_ret2
          exact ⟨ret_ui (by rw [HV.out]; rfl) (by rw [HV.out]; rfl), Below.refl _ _⟩
        · have HT := Lib.hid (show (l.take (k + 1)).length = k + 1 by simp; omega)
          have HG := Lib.hid (show ∀ j, j ≤ k → l.getD j 0 = (l.take (k + 1)).getD j 0 by
            intro j hj
            simp [List.getD_eq_getElem?_getD, List.getElem?_take, show j < k + 1 by omega])
          have HREF := Lib.hid (show refRead l = if 18446744073709551616 ≤ val (l.take (k + 1)) then (0, 0) else if num (val (l.take (k + 1))) = l.take (k + 1) then (val (l.take (k + 1)), k + 1) else (0, 0) by
            unfold refRead
            rw [if_neg (by rw [HL2.out]; omega), HL2.out])
          generalize l.take (k + 1) = T at *
          go_wp2
          go_loopw [5, 6, 7] (fun v5 v6 v7 wr2 => ∃ (j n : Nat), j ≤ k + 1 ∧ v6 = .int .i64 ((j : Int) - 1) ∧ v5 = .int .u64 n ∧ Hid (n = val (T.drop j) ∧ n < 18446744073709551616) ∧ wr2 = wr) (fun _ v6 _ _ => (intOf v6 + 1).toNat)
          case atStart => exact ⟨k + 1, 0, Nat.le_refl _, by go_num, rfl, ⟨by rw [List.drop_of_length_le (by rw [HT.out]; omega)]; rfl, by omega⟩, rfl⟩
          case round =>
            obtain ⟨j, n, hj, rfl, rfl, HN, rfl⟩ := hrel
            rcases j with _ | i
            · have HN0 := Lib.hid (show n = val T ∧ n < 18446744073709551616 by have := HN.out; simpa using this)
              have HN1 := Lib.hid HN0.out.2
              have rdT : Rd .u8 wr (some ad) T := fun i hi => by
                rw [HT.out] at hi
                have := HR.out i (by omega)
                rwa [HG.out i (by omega)] at this
              have RT := Lib.hid rdT
              have h10 := num_len10 HN1.out
              have hkc : T.length ≤ 140737488351232 := by rw [HT.out]; omega
              clear rdT
              have b1 : (0 : Int) ≤ (k : Int) + 1 := by omega
              have b2 : (k : Int) + 1 ≤ (c : Int) := by omega
              have b3 : IntKind.i64.wrap ((k : Int) + 1) = (k : Int) + 1 := IntWalk.i64_in _ (by omega)
              have b4 : ((k : Int) + 1).toNat = k + 1 := by omega
              go_wp2_with fail
              go_region_with (first | (go_at_call 14; refine (refNumber_any n _ HN1.out).mono ?_; rintro e w1 ⟨v1, rfl, ho1, hb1⟩; obtain ⟨A1, c1, rfl, hc1, hm1, hr1⟩ := ho1.form; have RT1 := RT.out.belowH hb1 rfl; have hb1' := below_H (w := wr) hb1 rfl rfl rfl rfl) | (go_at_call 13; refine (sameBytes_b A1 (some ad) c1 c _ _ (num n) T _ rfl HT.out hr1 RT1 (by omega) hkc).mono ?_; rintro e w2 ⟨sb, rfl, HSB, q, rfl⟩))
              all_goals
                have hbB : Below wr.heap.size wr (w1.drewN q) := below_drewN (hb1'.mono (Nat.le_refl _)) q
                have hnb := HN0.out.1
                have hn64 := HN1.out
                have hsb := HSB.out
                cases sb
                · have HV := Lib.hid (show refRead l = (0, 0) by
                    rw [HREF.out, if_neg (by omega), if_neg]
                    intro h; rw [← hnb] at h; simp [h] at hsb)
                  clear hsb hnb hn64
                  go_wp2
                  go_ret2
                  exact ⟨ret_ui (by rw [HV.out]; rfl) (by rw [HV.out]; rfl), hbB⟩
                · have HV := Lib.hid (show refRead l = (n, k + 1) by
                    rw [HREF.out, if_neg (by omega), ← hnb, if_pos (by simpa using hsb.symm)])
                  clear hsb hnb hn64
                  go_wp2
                  go_ret2
                  exact ⟨ret_ui (by rw [HV.out]) (by rw [HV.out]; omega), hbB⟩
            · obtain ⟨ad', e1, had', hcl'⟩ := HR.out i (by omega)
              cases e1
              have hy := HB.out _ (show l.getD i 0 ∈ l by rw [List.getD_eq_getElem?_getD, List.getElem?_eq_getElem (by omega)]; exact List.getElem_mem _)
              have HS := Lib.hid (show val (T.drop i) = (l.getD i 0).toNat % 128 + 128 * n by rw [val_step T i (by rw [HT.out]; omega), HN.out.1, HG.out i (by omega)])
              generalize l.getD i 0 = y at *
              obtain ⟨hy0, hy1⟩ := hy
              go_wp2
              · have hov : (18446744073709551615 - y % 128) / 128 < (n : Int) := by assumption
                have hbig : 18446744073709551616 ≤ val T := by
                  have h1 := HS.out
                  have h2 := val_drop_le T i
                  omega
                go_ret2
                exact ⟨ret_ui (by rw [HREF.out, if_pos hbig]; rfl) (by rw [HREF.out, if_pos hbig]; rfl), Below.refl _ _⟩
              · have hfit : (n : Int) ≤ (18446744073709551615 - y % 128) / 128 := by assumption
                have hs := HS.out
                go_roundw
                case rel => exact ⟨i, y.toNat % 128 + 128 * n, by omega, rfl, by congr 1; omega, ⟨hs.symm, by omega⟩, by first | rfl | trivial⟩
                case measure => simp [intOf] <;> omega
    · have HV := Lib.hid (show refRead l = (0, 0) by
        unfold refRead
        rw [if_pos (.inl (by
          have := HL.out
          rw [List.drop_of_length_le (by omega)] at this
          simp [lead] at this
          omega))])
      have hkl : ((k : Int) == (l.length : Int)) = true := by simp; omega
      go_wp2
      go_ret2
      exact ⟨ret_ui (by rw [HV.out]; rfl) (by rw [HV.out]; rfl), Below.refl _ _⟩
end Go.Proofs.Ytnlflpcioiieaaa
