/-
  slices' BinarySearch, Clone, Grow, Concat at uint16, walked.
-/
import Derived.Test.YtpmkcjpifedbkaaGreatKit
import Derived.Test.YtpmkcjpifedbkaaGreatZeros
import Derived.Test.YtpmkcjpifedbkaaGreatRising
namespace Go.Proofs.YtpmkcjpifedbkaaGreat
set_option linter.unusedVariables false
set_option linter.unusedSimpArgs false
open Go.RowKit

/-- numbers of 16 bits -/
def U16 (l : List Int) : Prop := ∀ x ∈ l, 0 ≤ x ∧ x ≤ 65535
theorem U16.at_ {l : List Int} (h : U16 l) {k : Nat} (hk : k < l.length) : 0 ≤ l.getD k 0 ∧ l.getD k 0 ≤ 65535 := by
  rw [List.getD_eq_getElem?_getD, List.getElem?_eq_getElem hk]
  exact h _ (List.getElem_mem hk)
theorem u16_info : (Tryz.prog.info? 50).map (fun i => (i.zero, i.size, i.bytes)) = some (some (.int .u16 0), 1, 2) := by kernel_rfl

set_option maxHeartbeats 1000000 in
set_option maxRecDepth 100000 in
theorem bsearch16 (A : Option Addr) (c : Nat) (l : List Int) (v : Int) (w : World) (hr : Rd .u16 w A l) (hR : Rise l) (hlen : l.length ≤ 1000000) :
    Calls Tryz.prog 53 #[.slice A l.length c, .int .u16 v] w fun e w' => ∃ (i : Nat) (b : Bool), e = .returned (.tuple #[.int .i64 i, .bool b]) ∧ Hid (i = lowr l v) ∧ Hid (b = isIn l v) ∧ Below w.heap.size w w' := by
  have HR := Lib.hid hr
  have HL := Lib.hid (fun k => lowr_lt (l := l) (v := v) k)
  have HG := Lib.hid (fun k => lowr_ge hR (v := v) k)
  obtain ⟨m, hm⟩ : ∃ m, lowr l v = m := ⟨_, rfl⟩
  have hml := lowr_le l v
  have HI := Lib.hid (show isIn l v = (decide (m < l.length) && (l.getD m 0 == v)) by unfold isIn; rw [hm])
  rw [hm] at hml HL HG
  have HM := Lib.hid hm
  clear hr hR hm
  go_enter Tryz.func53, Tryz.ntmps53
  go_wp2
  go_loopw [7, 8] (fun v7 v8 wr => ∃ i j : Nat, v7 = .int .i64 i ∧ v8 = .int .i64 j ∧ i ≤ m ∧ m ≤ j ∧ j ≤ l.length ∧ Below w.heap.size w wr) (fun v7 v8 _ => (intOf v8).toNat - (intOf v7).toNat)
  case atStart => exact ⟨0, l.length, rfl, rfl, Nat.zero_le _, hml, Nat.le_refl _, Below.refl _ _⟩
  case round =>
    obtain ⟨i, j, rfl, rfl, hi, hj, hjl, hb⟩ := hrel
    by_cases hlt : i < j
    · have hw1 : IntKind.i64.wrap ((i : Int) + (j : Int)) = (i : Int) + (j : Int) := by rw [IntKind.wrap_i64]; omega
      have hw2 : IntKind.u64.wrap ((i : Int) + (j : Int)) = (i : Int) + (j : Int) := by rw [IntKind.wrap_u64]; omega
      obtain ⟨h, hh, hih, hhj⟩ : ∃ h : Nat, ((i : Int) + (j : Int)) / 2 = (h : Int) ∧ i ≤ h ∧ h < j := ⟨(i + j) / 2, by omega, by omega, by omega⟩
      have hhl : h < l.length := by omega
      obtain ⟨ad, rfl, had, hc⟩ := HR.out h hhl
      have hc' := (hb.cell (p := ad.add h) (by rw [block_of_add]; exact had)).trans hc
      clear hc
      have hcmp : l.getD h 0 < v ↔ h < m := by
        constructor
        · intro hx
          rcases Nat.lt_or_ge h m with h1 | h1
          · exact h1
          · exact absurd (HG.out h h1 hhl) (by omega)
        · exact fun h1 => HL.out h h1
      have hCM := Lib.hid hcmp
      clear hcmp
      generalize l.getD h 0 = x at *
      by_cases hxv : x < v
      · have hhm := hCM.out.1 hxv
        go_wp2
        go_roundw
        case rel => exact ⟨h + 1, j, by go_num, rfl, by omega, hj, hjl, hb⟩
        case measure => simp [intOf]; omega
      · have hhm : ¬ h < m := fun h1 => hxv (hCM.out.2 h1)
        go_wp2
        go_roundw
        case rel => exact ⟨i, h, rfl, rfl, hi, by omega, by omega, hb⟩
        case measure => simp [intOf]; omega
    · obtain rfl : i = m := by omega
      obtain rfl : i = j := by omega
      by_cases hil : i < l.length
      · obtain ⟨ad, rfl, had, hc⟩ := HR.out i hil
        have hc' := (hb.cell (p := ad.add i) (by rw [block_of_add]; exact had)).trans hc
        have HI2 := Lib.hid (show isIn l v = (l.getD i 0 == v) by rw [HI.out, decide_eq_true hil]; rfl)
        clear hc HL HG
        generalize l.getD i 0 = x at *
        by_cases hxv : x = v
        · have hb2 : (x == v) = true := by simp [hxv]
          have HI3 := Lib.hid (show isIn l v = true by rw [HI2.out, hb2])
          subst hxv
          go_wp2
          go_ret2
          exact ⟨i, true, rfl, HM.out.symm, HI3.out.symm, hb⟩
        · have hb2 : (x == v) = false := by simp [hxv]
          have HI3 := Lib.hid (show isIn l v = false by rw [HI2.out, hb2])
          clear HI2
          go_wp2
          go_ret2
          exact ⟨i, false, rfl, HM.out.symm, HI3.out.symm, hb⟩
      · have HI2 := Lib.hid (show isIn l v = false by rw [HI.out, decide_eq_false hil]; rfl)
        go_wp2
        go_ret2
        exact ⟨i, false, rfl, HM.out.symm, HI2.out.symm, hb⟩
set_option maxHeartbeats 400000 in
set_option maxRecDepth 100000 in
theorem clone16 (A : Option Addr) (c : Nat) (l : List Int) (w : World) (hr : Rd .u16 w A l) (hlen : l.length ≤ 1000000) :
    Calls Tryz.prog 54 #[.slice A l.length c] w fun e w' => ∃ v, e = .returned v ∧ Own .u16 50 w' w.heap.size v l ∧ Below w.heap.size w w' := by
  obtain ⟨i0, hi, hz0, hz1, hz2⟩ := info_parts u16_info
  have hq := fun w => Lib.run_eql_slice_nil (P := Tryz.prog) w 71 50 A l.length c 0 0 Tryz.underlying71
  have HR := Lib.hid hr
  clear hr
  rcases A with _ | ad
  · have hl : l = [] := by
      rcases l with _ | ⟨x, l⟩
      · rfl
      · obtain ⟨_, e, _⟩ := HR.out 0 (by simp); cases e
    subst hl
    clear hq
    have hq := fun w => Lib.run_eql_slice_nil (P := Tryz.prog) w 71 50 none 0 c 0 0 Tryz.underlying71
    go_enter Tryz.func54, Tryz.ntmps54
    go_wp2
    go_ret
    exact ⟨_, rfl, Own.nil _ _ _ _, Below.refl _ _⟩
  · have hown := Own.made (k := .u16) (e := 50) (w := w) (base := w.heap.size) (Nat.le_refl _) [] (by simp [maxLen])
    have hb := (Below.refl w.heap.size w).alloc (Nat.le_refl _) (.cells #[] 50)
    go_enter Tryz.func54, Tryz.ntmps54
    go_wp2_with (at_builtin; refine wpList_pushAll w.heap.size _ [] l _ c _ _ rfl rfl Tryz.underlying71 hi hz0 hz1 hz2 rfl rfl rfl (HR.out.below ((Below.refl _ _).alloc (Nat.le_refl _) _)) hown ?g0 ?g1 ?g2 ?_; (case g0 => simp); (case g1 => simp; omega); (case g2 => simp [maxLen]; omega); intro v2 w2 ho2 hg2 _)
    go_ret
    exact ⟨_, rfl, ho2, hb.grown hg2 (by simp) (fun g hgk => (hown.block g hgk).1)⟩
/-- a row of the call's own, cut to nothing -/
theorem Own.cut0 {k : IntKind} {e : TypeId} {w : World} {base : Nat} {A : Option Addr} {n c : Nat} {l : List Int} (h : Own k e w base (.slice A n c) l) : Own k e w base (.slice A 0 c) [] := by
  obtain ⟨h1, h2⟩ := h
  refine ⟨rfl, ?_⟩
  rcases h2 with ⟨h2, h3⟩ | ⟨g, cap, cur, e1, hg, hh, hnc, hcap, hsz, htk⟩
  · injection h2 with a1 a2 a3
    subst a1; subst a3
    exact .inl ⟨rfl, rfl⟩
  · injection e1 with a1 a2 a3
    subst a1; subst a3
    exact .inr ⟨g, _, cur, rfl, hg, hh, Nat.zero_le _, hcap, hsz, by simp⟩
set_option maxHeartbeats 400000 in
set_option maxRecDepth 100000 in
theorem grow16 (n : Nat) (w : World) (hn : n ≤ 1000000) :
    Calls Tryz.prog 74 #[.slice none 0 0, .int .i64 n] w fun e w' => ∃ v, e = .returned v ∧ Own .u16 50 w' w.heap.size v [] ∧ Below w.heap.size w w' := by
  obtain ⟨i0, hi, hz0, hz1, hz2⟩ := info_parts u16_info
  have hnil := Lib.hid (Own.nil .u16 50 w w.heap.size)
  have hb1 : ([] : List Int).length + n ≤ maxLen := by simp [maxLen]; omega
  have hb2 : (([] : List Int).length + n) * 2 ≤ 140737488355328 := by simp; omega
  go_enter Tryz.func74, Tryz.ntmps74
  by_cases h0 : 0 < n
  · have h0i : (0 : Int) < n := by omega
    have h0j : ¬ (n : Int) < 0 := by omega
    go_wp2_with (at_builtin; refine wpList_appendZeros (kx := .i64) w.heap.size _ [] n _ _ rfl rfl Tryz.underlying71 Tryz.underlying3 hi hz0 hz1 hz2 (by decide) rfl rfl hnil.out (Nat.le_refl _) hb2 hb1 ?_; intro v2 w2 ho2 hg2 hx2; obtain ⟨A2, c2, rfl, hc2, _, _⟩ := ho2.form; have HO := Lib.hid ho2.cut0; have HB := Lib.hid ((Below.refl w.heap.size w).grown hg2 (Nat.le_refl _) (fun g hgk => (hnil.out.block g hgk).1)); clear ho2 hg2 hx2)
    go_ret
    exact ⟨_, rfl, HO.out, HB.out⟩
  · obtain rfl : n = 0 := by omega
    go_wp2
    go_ret
    exact ⟨_, rfl, hnil.out, Below.refl _ _⟩
end Go.Proofs.YtpmkcjpifedbkaaGreat
