/-
  The references that law 24's lay uses: Words, Find, Add, Of; walked.
-/
import Derived.Test.YtmpjjehihimadaaGreatVOf
namespace Go.Proofs.YtmpjjehihimadaaGreat
set_option linter.unusedVariables false
set_option linter.unusedSimpArgs false
open Go.RowKit Go.Shelf
attribute [local go_sem ↓] Go.wp_at_zero Go.wp_at_succ

theorem Rd.dropV {k : IntKind} {w : World} {A : Option Addr} {l : List Int} (h : Rd k w A l) (j : Nat) : Rd k w (A.map (·.add j)) (l.drop j) := by
  have := h.cut j (l.length - j)
  rwa [List.take_of_length_le (by simp)] at this
set_option maxRecDepth 100000 in
set_option maxHeartbeats 1000000 in
theorem lWords (A : Option Addr) (c M : Nat) (l : List Int) (w : World) (hr : Rd .u64 w A l) (hl : l.length ≤ 281474976710656) (hM : M ≤ 50) :
    Calls Tryz.prog 25 #[.slice A l.length c, .int .i64 M] w fun e w' => ∃ (r : Value) (l' : List Int), e = .returned r ∧ Hid (Own .u64 22 w' w.heap.size r l') ∧ Hid (l'.length ≤ M) ∧ Hid (l.length ≤ M → l' = l) ∧ Hid (Below w.heap.size w w') := by
  obtain ⟨i0, hi, hz0, hz1, hz2⟩ := info_parts u64_info
  have HR := Lib.hid hr
  clear hr
  go_enter Tryz.func25, Tryz.ntmps25
  go_wp2
  go_loopw [5, 6, 7, 10] (fun v5 _ _ v10 wr => ∃ (k : Nat) (pre : List Int), v10 = .int .i64 k ∧ k ≤ l.length ∧ Hid (Own .u64 22 wr w.heap.size v5 pre) ∧ Hid (pre.length ≤ M ∧ pre.length ≤ k) ∧ Hid (l.length ≤ M → pre = l.take k) ∧ Hid (Below w.heap.size w wr)) (fun _ _ _ v10 _ => l.length - (intOf v10).toNat)
  case atStart => exact ⟨0, [], rfl, Nat.zero_le _, Own.nil _ _ _ _, ⟨Nat.zero_le _, Nat.le_refl _⟩, fun _ => rfl, Below.refl _ _⟩
  case round =>
    obtain ⟨k, pre, rfl, hk, HO, HP, HT, HB⟩ := hrel
    have hzw := HB.out.size
    by_cases hlt : k < l.length
    · obtain ⟨a1, hA1, _, hc1⟩ := HR.out.below HB.out k hlt
      have HA1 := Lib.hid hA1
      have HTK := Lib.hid (show l.take k ++ [l.getD k 0] = l.take (k + 1) by rw [List.take_add_one, List.getD_eq_getElem?_getD, List.getElem?_eq_getElem hlt]; rfl)
      generalize l.getD k 0 = x at *
      rw [hA1]
      clear hA1
      by_cases hkM : k < M
      · have hp := HP.out
        have HPL := Lib.hid (show pre.length + 1 ≤ M by omega)
        go_wp2_with (at_builtin; refine wpList_push w.heap.size u5 pre x _ _ _ rfl rfl Tryz.underlying38 hi hz0 hz1 hz2 rfl rfl rfl (blk_new _ _ _) (HO.out.below ((Below.refl _ _).alloc (Nat.le_refl _) _)) (by simp; omega) (by have := HPL.out; omega) (by have := HPL.out; unfold maxLen; omega) ?_; intro v1 w1 ho1 hg1 _; have HO1 := Lib.hid ho1; have HB1 := Lib.hid ((HB.out.alloc hzw _).grown hg1 (by simp; omega) (fun g hgk => (HO.out.block g hgk).1)); clear ho1 hg1)
        go_wp2
        refine ⟨⟨k + 1, pre ++ [x], by go_num, by omega, HO1.out, ⟨by rw [List.length_append]; exact HPL.out, by have := HP.out; rw [List.length_append]; simp; omega⟩, fun h => by rw [HT.out h, HTK.out], HB1.out⟩, ?_⟩
        simp [intOf]; omega
      · go_wp2
        refine ⟨⟨k + 1, pre, by go_num, by omega, HO.out, ⟨HP.out.1, by have := HP.out; omega⟩, fun h => by omega, HB.out⟩, ?_⟩
        simp [intOf]; omega
    · obtain rfl : k = l.length := by omega
      go_wp2
      go_ret
      exact ⟨_, pre, rfl, HO.out, HP.out.1, fun h => by rw [HT.out h, List.take_length], HB.out⟩
set_option maxRecDepth 100000 in
set_option maxHeartbeats 1000000 in
theorem lFind (A : Option Addr) (c : Nat) (l : List Int) (x : Int) (w : World) (hr : Rd .u64 w A l) (hl : l.length ≤ 100) :
    Calls Tryz.prog 41 #[.slice A l.length c, .int .u64 x] w fun e w' => ∃ (i : Nat) (b : Bool), e = .returned (.tuple #[.int .i64 i, .bool b]) ∧ i ≤ l.length ∧ Hid (Below w.heap.size w w') := by
  have HR := Lib.hid hr
  clear hr
  go_enter Tryz.func41, Tryz.ntmps41
  go_wp2
  go_loopw [6] (fun v6 wr => ∃ (k : Nat), v6 = .int .i64 k ∧ k ≤ l.length ∧ Hid (Below w.heap.size w wr)) (fun v6 _ => l.length - (intOf v6).toNat)
  case atStart => exact ⟨0, rfl, Nat.zero_le _, Below.refl _ _⟩
  case round =>
    obtain ⟨k, rfl, hk, HB⟩ := hrel
    by_cases hlt : k < l.length
    · obtain ⟨a1, rfl, _, hc1⟩ := HR.out.below HB.out k hlt
      generalize l.getD k 0 = y at *
      by_cases hy : y < x
      · go_wp2
        go_roundw
        case rel => exact ⟨k + 1, by go_num, by omega, HB.out⟩
        case measure => simp [intOf]; omega
      · by_cases hyx : y = x
        · subst hyx
          go_wp2
          go_quiet (fail)
          go_wp2
          go_ret2
          exact ⟨k, true, rfl, by omega, below_drewN HB.out nq⟩
        · have hyx2 : (y == x) = false := by simpa using hyx
          clear hyx
          go_wp2
          go_quiet (fail)
          go_wp2
          go_ret2
          exact ⟨k, false, rfl, by omega, below_drewN HB.out nq⟩
    · obtain rfl : k = l.length := by omega
      go_wp2
      go_quiet (fail)
      go_wp2
      go_ret2
      exact ⟨l.length, false, rfl, Nat.le_refl _, below_drewN HB.out nq⟩
/-- a row with a key, perhaps -/
def Some1 (w' : World) (base n : Nat) (r : Value) : Prop := ∃ l' : List Int, Own .u64 22 w' base r l' ∧ l'.length ≤ n
set_option maxRecDepth 100000 in
set_option maxHeartbeats 2000000 in
theorem lAdd (v : Value) (l : List Int) (x : Int) (w : World) (base : Nat) (hb : base ≤ w.heap.size) (ho : Own .u64 22 w base v l) (hl : l.length ≤ 100) :
    Calls Tryz.prog 33 #[v, .int .u64 x] w fun e w' => ∃ r, e = .returned r ∧ Hid (Some1 w' base (l.length + 1) r) ∧ Hid (Below w.heap.size w w') := by
  obtain ⟨i0, hi, hz0, hz1, hz2⟩ := info_parts u64_info
  obtain ⟨A, c, rfl, hlc, hcm, hr⟩ := ho.form
  have HO := Lib.hid ho
  have HR := Lib.hid hr
  clear hr ho
  go_enter Tryz.func33, Tryz.ntmps33
  go_wp2_with fail
  refine (lFind A c l x w HR.out hl).mono ?_
  rintro e w1 ⟨i, b, rfl, hil, HB1⟩
  have HO1 := Lib.hid (HO.out.below HB1.out)
  have HR1 := Lib.hid (HR.out.below HB1.out)
  have hz := HB1.out.size
  cases b
  · have HLT := Lib.hid (show (l.take i).length = i by rw [List.length_take]; omega)
    have HLD := Lib.hid (show (l.drop i).length = l.length - i by rw [List.length_drop])
    have HE1 := Lib.hid (show Own .u64 22 (w1.alloc (.cells #[] 22)) w1.heap.size (.slice (some ⟨w1.heap.size, 0, none⟩) 0 0) [] from Own.made (k := .u64) (e := 22) (w := w1) (base := w1.heap.size) (Nat.le_refl _) [] (by simp [maxLen]))
    have HB2 := Lib.hid (HB1.out.alloc hz (.cells #[] 22))
    have HS2 := Lib.hid (show w1.heap.size ≤ (w1.alloc (.cells #[] 22)).heap.size by simp)
    have HR2 := Lib.hid (HR.out.below HB2.out)
    have HTK := Lib.hid (HR2.out.take i)
    have hi1 : (i : Int) ≤ (c : Int) := by omega
    have hi2 : (i : Int) ≤ (l.length : Int) := by omega
    by_cases hci : c = i
    · subst hci
      obtain rfl : c = l.length := by omega
      go_wp2_with (first | (at_builtin; refine wpList_pushAll w1.heap.size (.slice (some ⟨w1.heap.size, 0, none⟩) 0 0) [] (l.take l.length) A l.length _ _ rfl rfl Tryz.underlying38 hi hz0 hz1 hz2 rfl rfl (by rw [HLT.out]; rfl) HTK.out HE1.out HS2.out (by simp <;> omega) (by simp [maxLen] <;> omega) ?_; intro v2 w2 ho2 hg2 _; have HO2 := Lib.hid ho2; have HB3 := Lib.hid (HB2.out.grown hg2 HB2.out.size (fun g hgk => by have := (HE1.out.block g hgk).1; omega)); have HS3 := Lib.hid (Nat.le_trans HS2.out hg2.size); clear ho2 hg2) | (at_builtin; refine wpList_push w1.heap.size v2 ([] ++ l.take l.length) x _ _ _ rfl rfl Tryz.underlying38 hi hz0 hz1 hz2 rfl rfl rfl (blk_new _ _ _) (HO2.out.below ((Below.refl _ _).alloc (Nat.le_refl _) _)) (by have := HS3.out; simp <;> omega) (by simp <;> omega) (by simp [maxLen] <;> omega) ?_; intro v3 w3 ho3 hg3 _; have HO3 := Lib.hid ho3; have HB4 := Lib.hid (show Below w.heap.size w w3 from (HB3.out.alloc HB3.out.size _).grown hg3 (by have := HB3.out.size; simp <;> omega) (fun g hgk => by have := (HO2.out.block g hgk).1; omega)); have HS4 := Lib.hid (show w1.heap.size ≤ w3.heap.size by have h1 := hg3.size; have h2 := HS3.out; simp at h1 <;> omega); clear ho3 hg3) | (at_builtin; refine wpList_pushAll w1.heap.size v3 _ [] A 0 _ _ rfl rfl Tryz.underlying38 hi hz0 hz1 hz2 rfl rfl rfl (Rd.nil _ _ _) HO3.out HS4.out (by simp <;> omega) (by simp [maxLen] <;> omega) ?_; intro v4 w4 ho4 hg4 _; have HO4 := Lib.hid ho4; have HB5 := Lib.hid (show Below w.heap.size w w4 from HB4.out.grown hg4 HB4.out.size (fun g hgk => by have := (HO3.out.block g hgk).1; omega)); clear ho4 hg4))
      go_ret
      exact ⟨_, rfl, ⟨_, HO4.out.mono (by omega), by simp <;> omega⟩, HB5.out⟩
    · rcases A with _ | ad
      · have hl0 : l = [] := by
          rcases l with _ | ⟨y, l⟩
          · rfl
          · obtain ⟨_, e, _⟩ := HR1.out 0 (by simp); cases e
        subst hl0
        obtain rfl : i = 0 := by simpa using hil
        go_wp2_with (first | (at_builtin; refine wpList_pushAll w1.heap.size (.slice (some ⟨w1.heap.size, 0, none⟩) 0 0) [] (([] : List Int).take 0) none c _ _ rfl rfl Tryz.underlying38 hi hz0 hz1 hz2 rfl rfl (by rw [HLT.out]; rfl) HTK.out HE1.out HS2.out (by simp <;> omega) (by simp [maxLen] <;> omega) ?_; intro v2 w2 ho2 hg2 _; have HO2 := Lib.hid ho2; have HB3 := Lib.hid (HB2.out.grown hg2 HB2.out.size (fun g hgk => by have := (HE1.out.block g hgk).1; omega)); have HS3 := Lib.hid (Nat.le_trans HS2.out hg2.size); clear ho2 hg2) | (at_builtin; refine wpList_push w1.heap.size v2 ([] ++ ([] : List Int).take 0) x _ _ _ rfl rfl Tryz.underlying38 hi hz0 hz1 hz2 rfl rfl rfl (blk_new _ _ _) (HO2.out.below ((Below.refl _ _).alloc (Nat.le_refl _) _)) (by have := HS3.out; simp <;> omega) (by simp <;> omega) (by simp [maxLen] <;> omega) ?_; intro v3 w3 ho3 hg3 _; have HO3 := Lib.hid ho3; have HB4 := Lib.hid (show Below w.heap.size w w3 from (HB3.out.alloc HB3.out.size _).grown hg3 (by have := HB3.out.size; simp <;> omega) (fun g hgk => by have := (HO2.out.block g hgk).1; omega)); have HS4 := Lib.hid (show w1.heap.size ≤ w3.heap.size by have h1 := hg3.size; have h2 := HS3.out; simp at h1 <;> omega); clear ho3 hg3) | (at_builtin; refine wpList_pushAll w1.heap.size v3 _ [] none c _ _ rfl rfl Tryz.underlying38 hi hz0 hz1 hz2 rfl rfl rfl (Rd.nil _ _ _) HO3.out HS4.out (by simp <;> omega) (by simp [maxLen] <;> omega) ?_; intro v4 w4 ho4 hg4 _; have HO4 := Lib.hid ho4; have HB5 := Lib.hid (show Below w.heap.size w w4 from HB4.out.grown hg4 HB4.out.size (fun g hgk => by have := (HO3.out.block g hgk).1; omega)); clear ho4 hg4))
        go_ret
        exact ⟨_, rfl, ⟨_, HO4.out.mono (by omega), by simp <;> omega⟩, HB5.out⟩
      · have HDR := Lib.hid (HR.out.dropV i)
        go_wp2_with (first | (at_builtin; refine wpList_pushAll w1.heap.size (.slice (some ⟨w1.heap.size, 0, none⟩) 0 0) [] (l.take i) (some ad) c _ _ rfl rfl Tryz.underlying38 hi hz0 hz1 hz2 rfl rfl (by rw [HLT.out]; rfl) HTK.out HE1.out HS2.out (by simp <;> omega) (by simp [maxLen] <;> omega) ?_; intro v2 w2 ho2 hg2 _; have HO2 := Lib.hid ho2; have HB3 := Lib.hid (HB2.out.grown hg2 HB2.out.size (fun g hgk => by have := (HE1.out.block g hgk).1; omega)); have HS3 := Lib.hid (Nat.le_trans HS2.out hg2.size); clear ho2 hg2) | (at_builtin; refine wpList_push w1.heap.size v2 ([] ++ l.take i) x _ _ _ rfl rfl Tryz.underlying38 hi hz0 hz1 hz2 rfl rfl rfl (blk_new _ _ _) (HO2.out.below ((Below.refl _ _).alloc (Nat.le_refl _) _)) (by have := HS3.out; simp <;> omega) (by simp <;> omega) (by simp [maxLen] <;> omega) ?_; intro v3 w3 ho3 hg3 _; have HO3 := Lib.hid ho3; have HB4 := Lib.hid (show Below w.heap.size w w3 from (HB3.out.alloc HB3.out.size _).grown hg3 (by have := HB3.out.size; simp <;> omega) (fun g hgk => by have := (HO2.out.block g hgk).1; omega)); have HS4 := Lib.hid (show w1.heap.size ≤ w3.heap.size by have h1 := hg3.size; have h2 := HS3.out; simp at h1 <;> omega); clear ho3 hg3) | (at_builtin; refine wpList_pushAll w1.heap.size v3 _ (l.drop i) (some (ad.add i)) (c - i) _ _ rfl rfl Tryz.underlying38 hi hz0 hz1 hz2 rfl rfl (by rw [HLD.out]; rfl) (HDR.out.below HB4.out) HO3.out HS4.out (by simp <;> omega) (by simp [maxLen] <;> omega) ?_; intro v4 w4 ho4 hg4 _; have HO4 := Lib.hid ho4; have HB5 := Lib.hid (show Below w.heap.size w w4 from HB4.out.grown hg4 HB4.out.size (fun g hgk => by have := (HO3.out.block g hgk).1; omega)); clear ho4 hg4))
        go_ret
        exact ⟨_, rfl, ⟨_, HO4.out.mono (by omega), by simp <;> omega⟩, HB5.out⟩
  · go_wp2
    go_ret
    exact ⟨_, rfl, ⟨l, HO1.out, by omega⟩, HB1.out⟩
set_option maxRecDepth 100000 in
set_option maxHeartbeats 1000000 in
theorem lOf (A : Option Addr) (c : Nat) (l : List Int) (w : World) (hr : Rd .u64 w A l) (hl : l.length ≤ 30) :
    Calls Tryz.prog 27 #[.slice A l.length c] w fun e w' => ∃ r, e = .returned r ∧ Hid (Some1 w' w.heap.size 30 r) ∧ Hid (Below w.heap.size w w') := by
  have HR := Lib.hid hr
  clear hr
  go_enter Tryz.func27, Tryz.ntmps27
  go_wp2
  go_loopw [3, 5, 8] (fun v3 _ v8 wr => ∃ (k : Nat), v8 = .int .i64 k ∧ k ≤ l.length ∧ Hid (Some1 wr w.heap.size k v3) ∧ Hid (Below w.heap.size w wr)) (fun _ _ v8 _ => l.length - (intOf v8).toNat)
  case atStart => exact ⟨0, rfl, Nat.zero_le _, ⟨[], Own.nil _ _ _ _, Nat.le_refl _⟩, Below.refl _ _⟩
  case round =>
    obtain ⟨k, rfl, hk, HS, HB⟩ := hrel
    by_cases hlt : k < l.length
    · obtain ⟨a1, rfl, _, hc1⟩ := HR.out.below HB.out k hlt
      generalize l.getD k 0 = x at *
      obtain ⟨l0, ho, hl0⟩ := HS.out
      have HAD := Lib.hid (lAdd u3 l0 x wr w.heap.size HB.out.size ho (by omega))
      have HL0 := Lib.hid hl0
      clear ho hl0 HS
      go_wp2_with fail
      refine HAD.out.mono ?_
      rintro e w2 ⟨r, rfl, HR2, HB2⟩
      have HS2 := Lib.hid (show Some1 w2 w.heap.size (k + 1) r from by
        obtain ⟨l1, h1, h2⟩ := HR2.out
        exact ⟨l1, h1, by have := HL0.out; omega⟩)
      have HB3 := Lib.hid (below_then HB.out HB2.out)
      clear HAD HR2
      go_wp2
      first
      | (refine ⟨⟨k + 1, by go_num, by omega, HS2.out, HB3.out⟩, ?_⟩
         simp [intOf]; omega)
      | (go_roundw
         case rel => exact ⟨k + 1, by go_num, by omega, HS2.out, HB3.out⟩
         case measure => simp [intOf]; omega)
    · obtain rfl : k = l.length := by omega
      go_wp2
      go_ret
      obtain ⟨l1, h1, h2⟩ := HS.out
      exact ⟨_, rfl, ⟨l1, h1, by omega⟩, HB.out⟩
end Go.Proofs.YtmpjjehihimadaaGreat
