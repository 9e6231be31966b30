/-
  code.Keys walked, and the law's own example (awake).
-/
import Derived.Test.YtnlflpcioiieaaaEnc
namespace Go.Proofs.Ytnlflpcioiieaaa
set_option linter.unusedVariables false
set_option linter.unusedSimpArgs false
open Go.RowKit

/-- the gaps between rising keys, as bytes; none: they don't rise -/
def gaps : Option Int → List Int → Option (List Int)
  | _, [] => some []
  | none, k :: l => (gaps (some k) l).map (num k.toNat ++ ·)
  | some a, k :: l => if k ≤ a then none else (gaps (some k) l).map (num (k - a - 1).toNat ++ ·)
def keysR (l : List Int) : List Int × Int :=
  match gaps none l with
  | none => ([], 8)
  | some g => if 262144 < l.length then ([], 1) else (0 :: (num l.length ++ g), 0)
/-- 64 bits -/
def U64 (l : List Int) : Prop := ∀ x ∈ l, 0 ≤ x ∧ x ≤ 18446744073709551615
theorem U64.at_ {l : List Int} (h : U64 l) {k : Nat} (hk : k < l.length) : 0 ≤ l.getD k 0 ∧ l.getD k 0 ≤ 18446744073709551615 :=
  h _ (by rw [List.getD_eq_getElem?_getD, List.getElem?_eq_getElem hk]; exact List.getElem_mem hk)
theorem drop_getD {l : List Int} {k : Nat} (hk : k < l.length) : l.drop k = l.getD k 0 :: l.drop (k + 1) := by
  rw [List.getD_eq_getElem?_getD, List.getElem?_eq_getElem hk]; exact List.drop_eq_getElem_cons hk

theorem ret_ve {v : Value} {a b : Int} (h : a = b) : Ending.returned (.tuple #[v, .int .i64 a]) = Ending.returned (.tuple #[v, .int .i64 b]) := by rw [h]

set_option maxHeartbeats 1000000 in
set_option maxRecDepth 100000 in
theorem keys_any (A : Option Addr) (c : Nat) (l : List Int) (w : World) (hB : U64 l) (hr : Rd .u64 w A l) (hlen : l.length ≤ 1000000) :
    Calls Try.prog 17 #[.slice A l.length c] w fun e w' => ∃ v, e = .returned (.tuple #[v, .int .i64 (keysR l).2]) ∧ Own .u8 5 w' w.heap.size v (keysR l).1 ∧ Below w.heap.size w w' := by
  have HR := Lib.hid hr
  have HB := Lib.hid hB
  clear hr hB
  have hl10 := num_len10 (n := l.length) (by omega)
  go_enter Try.func17, Try.ntmps17
  go_wp2_with fail
  refine (begin_any _ _ _ (by omega) (by omega)).mono ?_
  rintro e w1 ⟨b, rfl, hE1, hb1⟩
  rw [Int.toNat_natCast] at hE1
  go_wp2_with fail
  go_loopw [6, 12] (fun v6 v12 wr => ∃ (i : Nat) (done : List Int) (last : Int), i ≤ l.length ∧ v12 = .int .i64 i ∧ Hid (gaps none l = (gaps (if i = 0 then none else some last) (l.drop i)).map (done ++ ·)) ∧ Hid (Enc wr w.heap.size b (0 :: (num l.length ++ done)) last i) ∧
    done.length ≤ 10 * i ∧ Hid (i ≠ 0 → 0 ≤ last) ∧ Below w.heap.size w wr) (fun _ v12 _ => l.length - (intOf v12).toNat)
  case atStart => exact ⟨0, [], 0, Nat.zero_le _, rfl, (by show _ = _; simp), (by show Enc _ _ _ _ _ _; rw [List.append_nil]; exact hE1), by simp, fun h => absurd rfl h, hb1⟩
  case round =>
    obtain ⟨i, done, last, hi, rfl, HG, HE, hd, HL, hb⟩ := hrel
    have hsz := hb.size
    by_cases hlt : i < l.length
    · obtain ⟨ad, rfl, had, hcl⟩ := HR.out i hlt
      have hcl' := (hb.cell (p := ad.add i) (by rw [block_of_add]; exact had)).trans hcl
      clear hcl
      have hx := HB.out.at_ hlt
      have HD := Lib.hid (drop_getD hlt)
      generalize l.getD i 0 = x at *
      obtain ⟨hx0, hx1⟩ := hx
      have hplen : (0 :: (num l.length ++ done)).length ≤ 70368744177664 := by simp; omega
      by_cases h0 : i = 0
      · have HG2 := Lib.hid (show gaps none l = (gaps (if i + 1 = 0 then none else some x) (l.drop (i + 1))).map ((done ++ num x.toNat) ++ ·) by
          rw [HG.out, HD.out, if_pos h0, if_neg (by omega)]
          simp [gaps, Option.map_map, Function.comp_def])
        have HE0 := Lib.hid (show Enc wr w.heap.size b (0 :: (num l.length ++ done)) last 0 by have := HE.out; rw [h0] at this; exact this)
        have H0 := Lib.hid h0
        clear h0
        have hnl := num_len10 (n := x.toNat) (by omega)
        go_wp2_with fail
        refine (key_first b x last _ _ w.heap.size HE0.out hsz hx0 (by omega) hplen).mono ?_
        rintro e w2 ⟨rfl, hE2, hb2, _⟩
        go_wp2
        go_roundw
        case rel => exact ⟨i + 1, done ++ num x.toNat, x, by omega, by go_num, HG2, by rw [show 0 :: (num l.length ++ (done ++ num x.toNat)) = 0 :: (num l.length ++ done) ++ num x.toNat by simp, H0.out]; exact hE2, by simp; omega, fun _ => hx0, hb.trans hb2⟩
        case measure => simp [intOf] <;> omega
      · have hi0 : (0 : Int) < i := by omega
        have hla := HL.out h0
        by_cases hle : x ≤ last
        · have HK := Lib.hid (show keysR l = ([], 8) by
            have : gaps none l = none := by
              rw [HG.out, HD.out, if_neg h0]
              simp [gaps, hle]
            simp [keysR, this])
          go_wp2_with fail
          refine (key_no b x last _ _ _ w.heap.size HE.out hi0 hle).mono ?_
          rintro e w2 ⟨rfl, rfl⟩
          go_wp2
          go_ret2
          exact ⟨_, ret_ve (by rw [HK.out]), by rw [HK.out]; exact Own.nil _ _ _ _, hb⟩
        · have HG2 := Lib.hid (show gaps none l = (gaps (if i + 1 = 0 then none else some x) (l.drop (i + 1))).map ((done ++ num (x - last - 1).toNat) ++ ·) by
            rw [HG.out, HD.out, if_neg h0, if_neg (by omega)]
            simp [gaps, hle, Option.map_map, Function.comp_def])
          have hnl := num_len10 (n := (x - last - 1).toNat) (by omega)
          have HNL := Lib.hid hnl
          clear hnl
          go_wp2_with fail
          refine (key_next b x last _ _ _ w.heap.size HE.out hsz hla (by omega) hx1 hi0 (by omega) hplen).mono ?_
          rintro e w2 ⟨rfl, hE2, hb2, _⟩
          have HE2 := Lib.hid hE2
          clear hE2
          go_wp2
          go_roundw
          case rel => exact ⟨i + 1, done ++ num (x - last - 1).toNat, x, by omega, by go_num, HG2, by rw [show 0 :: (num l.length ++ (done ++ num (x - last - 1).toNat)) = 0 :: (num l.length ++ done) ++ num (x - last - 1).toNat by simp]; exact HE2.out, by have := HNL.out; rw [List.length_append]; omega, fun _ => hx0, hb.trans hb2⟩
          case measure => simp [intOf] <;> omega
    · obtain rfl : i = l.length := by omega
      have HS := Lib.hid (show gaps none l = some done by
        rw [HG.out, List.drop_length]
        simp [gaps])
      obtain ⟨A2, c2, _, _, hr2, ho2, hh2, hbb⟩ := HE.out.cells
      have e0 := blk_cell hh2 0 rfl
      have HO2 := Lib.hid ho2
      clear ho2 hh2 hr2
      by_cases hmx : 262144 < l.length
      · have HK := Lib.hid (show keysR l = ([], 1) by simp [keysR, HS.out, hmx])
        go_wp2
        go_ret2
        exact ⟨_, ret_ve (by rw [HK.out]), by rw [HK.out]; exact Own.nil _ _ _ _, hb⟩
      · have HK := Lib.hid (show keysR l = (0 :: (num l.length ++ done), 0) by simp [keysR, HS.out, hmx])
        go_wp2
        go_ret2
        exact ⟨_, ret_ve (by rw [HK.out]), by rw [HK.out]; have h := HO2.out; simp only [List.length_cons, List.length_append] at h; exact h, hb⟩
end Go.Proofs.Ytnlflpcioiieaaa
