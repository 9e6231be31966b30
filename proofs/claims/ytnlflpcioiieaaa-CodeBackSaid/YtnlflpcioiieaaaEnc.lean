/-
  The encoder walked: begin, key.
-/
import Derived.Test.YtnlflpcioiieaaaCode1
import Derived.IntWalk
import Derived.Deep.DrawnRows
namespace Go.Proofs.Ytnlflpcioiieaaa
set_option linter.unusedVariables false
set_option linter.unusedSimpArgs false
open Go.RowKit
attribute [local go_sem ↓] Go.wp_at_zero Go.wp_at_succ

/-- an encoder: its bytes, the key told last, how many -/
def Enc (w : World) (base b : Nat) (p : List Int) (last n : Int) : Prop :=
  base ≤ b ∧ ∃ v, w.heap[b]? = some (.cells #[v, .int .u64 last, .int .i64 n] 63 (0, 0)) ∧ Own .u8 5 w base v p

set_option maxHeartbeats 400000 in
set_option maxRecDepth 100000 in
theorem begin_any (kind n : Int) (w : World) (h0 : 0 ≤ n) (hn : n < 18446744073709551616) :
    Calls Try.prog 26 #[.int .u8 kind, .int .i64 n] w fun e w' => ∃ b, e = .returned (.pointer (some ⟨b, 0, none⟩)) ∧ Enc w' w.heap.size b (kind :: num n.toNat) 0 0 ∧ Below w.heap.size w w' := by
  obtain ⟨i0, hi, hz0, hz1, hz2⟩ := info_parts u8_info
  have HW := Lib.hid (show IntKind.u64.wrap n = n by rw [IntKind.wrap_u64]; omega)
  have HN := Lib.hid hn
  have hl := num_len10 (n := n.toNat) (by omega)
  clear hn
  go_enter Try.func26, Try.ntmps26
  go_wp2_with fail
  rw [HW.out]
  refine (number_int _ _ h0 HN.out).mono ?_
  rintro e w1 ⟨v1, rfl, ho1, hb1⟩
  obtain ⟨A1, c1, rfl, hc1, hm1, hr1⟩ := ho1.form
  have hown := (Own.made (k := .u8) (e := 5) (w := w) (base := w.heap.size) (Nat.le_refl _) [kind] (by simp [maxLen])).below hb1
  have hbw := ((Below.refl w.heap.size w).alloc (Nat.le_refl _) (.cells #[.int .u8 kind] 5)).trans (hb1.mono (by simp))
  clear ho1 hb1
  have hsz := hbw.size
  go_wp2_with (at_builtin; refine wpList_pushAll w.heap.size _ _ _ _ _ _ _ rfl rfl Try.underlying23 hi hz0 hz1 hz2 rfl rfl rfl hr1 hown hsz ?g1 ?g2 ?_; (case g1 => simp; omega); (case g2 => simp [maxLen]; omega); intro v2 w2 ho2 hg2 _; obtain ⟨A2, c2, rfl, hc2, hm2, hr2⟩ := ho2.form)
  have hb2 := hbw.grown hg2 hsz (fun g hgk => (hown.block g hgk).1)
  have hsz2 := hb2.size
  go_ret
  exact ⟨_, rfl, ⟨hsz2, _, heap_alloc_new _ _, ho2.below ((Below.refl _ _).alloc (Nat.le_refl _) _)⟩, hb2.alloc hsz2 _⟩

theorem Enc.below {w w' : World} {base b : Nat} {p : List Int} {last n : Int} (h : Enc w base b p last n) (hb : Below w.heap.size w w') : Enc w' base b p last n := by
  obtain ⟨h1, v, h2, h3⟩ := h
  exact ⟨h1, v, blk_below h2 hb rfl, h3.below hb⟩
/-- what an encoder leaves alone: blocks of other types -/
def KeepT (w w' : World) : Prop := ∀ (j : Nat) (cs : Array Value) (t : TypeId), t ≠ 5 → t ≠ 63 → w.heap[j]? = some (.cells cs t (0, 0)) → w'.heap[j]? = some (.cells cs t (0, 0))
theorem keepT_done {w w1 w2 : World} {base b : Nat} {v : Value} {l : List Int} {es : Array Value} {w0 : World} (hb : Below w0.heap.size w0 w1) (e : w0.heap = w.heap) (ho : Own .u8 5 w1 base v l) (hg : w1.grownBy w2 v.ownBlock) (hh : w2.heap[b]? = some (.cells es 63 (0, 0))) (x y z : Value) :
    KeepT w (((w2.setCell ⟨b, 0, none⟩ x).setCell ⟨b, 1, none⟩ y).setCell ⟨b, 2, none⟩ z) := fun j cs t h1 h2 h3 => by
  have h4 := grown_block ho hg (blk_below h3 hb e) (fun q => h1 q.symm)
  have hne : j ≠ b := by
    rintro rfl
    rw [hh] at h4
    cases h4
    exact h2 rfl
  rw [Below.heap_setCell _ ⟨b, 2, none⟩ z j hne, Below.heap_setCell _ ⟨b, 1, none⟩ y j hne, Below.heap_setCell _ ⟨b, 0, none⟩ x j hne]
  exact h4
theorem Enc.cells {w : World} {base b : Nat} {p : List Int} {last n : Int} (h : Enc w base b p last n) : ∃ A c, p.length ≤ c ∧ c ≤ maxLen ∧ Rd .u8 w A p ∧ Own .u8 5 w base (.slice A p.length c) p ∧
    w.heap[b]? = some (.cells #[.slice A p.length c, .int .u64 last, .int .i64 n] 63 (0, 0)) ∧ base ≤ b := by
  obtain ⟨hb, v, hh, ho⟩ := h
  obtain ⟨A, c, rfl, h1, h2, h3⟩ := ho.form
  exact ⟨A, c, h1, h2, h3, ho, hh, hb⟩

set_option maxHeartbeats 400000 in
set_option maxRecDepth 100000 in
theorem key_no (b : Nat) (k last n : Int) (p : List Int) (w : World) (base : Nat) (hE : Enc w base b p last n) (hn : 0 < n) (hk : k ≤ last) :
    Calls Try.prog 27 #[.pointer (some ⟨b, 0, none⟩), .int .u64 k] w fun e w' => e = .returned (.bool false) ∧ w = w' := by
  obtain ⟨A, c, hc, hm, hr, ho, hh, hbb⟩ := hE.cells
  have c1 : w.cell? ⟨b, 1, none⟩ = some (.int .u64 last) := by rw [cell_of_row w b 1 _ _ _ hh]; rfl
  have c2 : w.cell? ⟨b, 2, none⟩ = some (.int .i64 n) := by rw [cell_of_row w b 2 _ _ _ hh]; rfl
  clear hh hr ho hE
  go_enter Try.func27, Try.ntmps27
  go_wp2
  go_ret
  exact ⟨rfl, rfl⟩

theorem Enc.done {w : World} {base b : Nat} {l : List Int} {x y z v : Value} (hh : w.heap[b]? = some (.cells #[x, y, z] 63 (0, 0))) (ho : Own .u8 5 w base v l) (hb : base ≤ b) (k n : Int) :
    Enc (((w.setCell ⟨b, 0, none⟩ v).setCell ⟨b, 1, none⟩ (.int .u64 k)).setCell ⟨b, 2, none⟩ (.int .i64 n)) base b l k n := by
  have h1 := blk_set hh 0 v
  have h2 := blk_set h1 1 (.int .u64 k)
  have h3 := blk_set h2 2 (.int .i64 n)
  exact ⟨hb, v, by simpa using h3, own_set (own_set (own_set ho hh (by decide) 0 v) h1 (by decide) 1 _) h2 (by decide) 2 _⟩
theorem below_set3 {B : Nat} {w0 w : World} {b : Nat} (h : Below B w0 w) (hb : B ≤ b) (x y z : Value) : Below B w0 (((w.setCell ⟨b, 0, none⟩ x).setCell ⟨b, 1, none⟩ y).setCell ⟨b, 2, none⟩ z) :=
  ((h.setCell (p := ⟨b, 0, none⟩) hb x).setCell (p := ⟨b, 1, none⟩) hb y).setCell (p := ⟨b, 2, none⟩) hb z

set_option maxHeartbeats 400000 in
set_option maxRecDepth 100000 in
theorem key_first (b : Nat) (k last : Int) (p : List Int) (w : World) (base : Nat) (hE : Enc w base b p last 0) (hbase : base ≤ w.heap.size) (h0 : 0 ≤ k) (hk : k < 18446744073709551616) (hp : p.length ≤ 70368744177664) :
    Calls Try.prog 27 #[.pointer (some ⟨b, 0, none⟩), .int .u64 k] w fun e w' => e = .returned (.bool true) ∧ Enc w' base b (p ++ num k.toNat) k 1 ∧ Below base w w' ∧ KeepT w w' := by
  obtain ⟨i0, hi, hz0, hz1, hz2⟩ := info_parts u8_info
  obtain ⟨A, c, hc, hm, hr, ho, hh, hbb⟩ := hE.cells
  have c0 : w.cell? ⟨b, 0, none⟩ = some (.slice A p.length c) := by rw [cell_of_row w b 0 _ _ _ hh]; rfl
  have c1 : w.cell? ⟨b, 1, none⟩ = some (.int .u64 last) := by rw [cell_of_row w b 1 _ _ _ hh]; rfl
  have c2 : w.cell? ⟨b, 2, none⟩ = some (.int .i64 0) := by rw [cell_of_row w b 2 _ _ _ hh]; rfl
  have f0 : w.frozen? ⟨b, 0, none⟩ = false := by simp [World.frozen?, hh]
  have hbl : b < w.heap.size := by
    rcases Nat.lt_or_ge b w.heap.size with h | h
    · exact h
    · rw [Array.getElem?_eq_none h] at hh; cases hh
  have HH := Lib.hid hh
  have HO := Lib.hid ho
  have HK := Lib.hid hk
  have h10 := num_len10 (n := k.toNat) (by omega)
  have hq6 : (p.length + (num k.toNat).length) * 1 ≤ 140737488355328 := by omega
  have hq7 : p.length + (num k.toNat).length ≤ maxLen := by unfold maxLen; omega
  clear hh hr ho hE hk
  go_enter Try.func27, Try.ntmps27
  go_wp2
  go_region_law (first | ((with_reducible refine gate_scall (f := 11) rfl ?_); refine step_goes rfl Try.func11 (by kernel_rfl) rfl #[.int .u64 k] rfl (by simp only [List.map_toArray, List.map_cons, List.map_nil]; rfl) (number_int k _ h0 HK.out) ?_; rintro e w1 ⟨v1, rfl, ho1, hb1⟩; obtain ⟨A1, cp1, rfl, hc1, hm1, hr1⟩ := ho1.form; have hO1 := HO.out.belowH hb1 rfl; have hbl1 := Nat.le_trans hbase hb1.size; have hh1 := Lib.hid (blk_below HH.out hb1 rfl); have hc01 := blk_cell hh1.out 0 rfl; refine ⟨_, rfl, ?_⟩) | ((with_reducible refine gate_sbuiltin (b := .append) rfl ?_); refine step_pushAll base _ p _ _ _ _ _ rfl rfl Try.underlying23 hi hz0 hz1 hz2 rfl rfl rfl hr1 hO1 hbl1 hq6 hq7 ?_; intro v2 w2 ho2 hg2 _; obtain ⟨A2, cp2, rfl, hc2, hm2, hr2⟩ := ho2.form; have hh2 := Lib.hid (grown_block hO1 hg2 hh1.out (by decide)); have hf2 := blk_free hh2.out 0; have hc02 := blk_cell hh2.out 0 rfl))
  all_goals
    have hb2 := (below_H (w := w) (hb1.mono hbase) rfl rfl rfl rfl).grown hg2 hbl1 (fun g hgk => (hO1.block g hgk).1)
    have e1 := blk_cell hh2.out 1 rfl
    have e2 := blk_cell hh2.out 2 rfl
    have f1 := blk_free hh2.out 1
    have f2 := blk_free hh2.out 2
    clear hc01 hc02 c0 c1 c2 f0 hf2
    go_wp2
    go_ret
    refine ⟨rfl, ?_, below_set3 hb2 hbb _ _ _, keepT_done hb1 rfl hO1 hg2 hh2.out _ _ _⟩
    rw [← List.length_append]
    exact Enc.done hh2.out ho2 hbb k 1
set_option maxHeartbeats 400000 in
set_option maxRecDepth 100000 in
theorem key_next (b : Nat) (k last n : Int) (p : List Int) (w : World) (base : Nat) (hE : Enc w base b p last n) (hbase : base ≤ w.heap.size) (hl0 : 0 ≤ last) (hlk : last < k) (hk : k ≤ 18446744073709551615) (hn0 : 0 < n) (hn1 : n ≤ 70368744177664) (hp : p.length ≤ 70368744177664) :
    Calls Try.prog 27 #[.pointer (some ⟨b, 0, none⟩), .int .u64 k] w fun e w' => e = .returned (.bool true) ∧ Enc w' base b (p ++ num (k - last - 1).toNat) k (n + 1) ∧ Below base w w' ∧ KeepT w w' := by
  obtain ⟨i0, hi, hz0, hz1, hz2⟩ := info_parts u8_info
  obtain ⟨A, c, hc, hmx, hr, ho, hh, hbb⟩ := hE.cells
  have c0 : w.cell? ⟨b, 0, none⟩ = some (.slice A p.length c) := by rw [cell_of_row w b 0 _ _ _ hh]; rfl
  have c1 : w.cell? ⟨b, 1, none⟩ = some (.int .u64 last) := by rw [cell_of_row w b 1 _ _ _ hh]; rfl
  have c2 : w.cell? ⟨b, 2, none⟩ = some (.int .i64 n) := by rw [cell_of_row w b 2 _ _ _ hh]; rfl
  have f0 : w.frozen? ⟨b, 0, none⟩ = false := by simp [World.frozen?, hh]
  have hbl : b < w.heap.size := by
    rcases Nat.lt_or_ge b w.heap.size with h | h
    · exact h
    · rw [Array.getElem?_eq_none h] at hh; cases hh
  have HH := Lib.hid hh
  have HO := Lib.hid ho
  have h10 := num_len10 (n := (k - last - 1).toNat) (by omega)
  obtain ⟨m, hm⟩ : ∃ m, (k - last - 1).toNat = m := ⟨_, rfl⟩
  rw [hm] at h10 ⊢
  have HM := Lib.hid hm
  clear hm
  have hq6 : (p.length + (num m).length) * 1 ≤ 140737488355328 := by omega
  have hq7 : p.length + (num m).length ≤ maxLen := by unfold maxLen; omega
  clear hh hr ho hE
  have h0 : 0 ≤ k - last - 1 := by omega
  have hk0 : 0 ≤ k := by omega
  go_enter Try.func27, Try.ntmps27
  go_wp2
  go_region_law (first | ((with_reducible refine gate_scall (f := 11) rfl ?_); refine step_goes rfl Try.func11 (by kernel_rfl) rfl #[.int .u64 (k - last - 1)] rfl (by simp only [List.map_toArray, List.map_cons, List.map_nil]; rfl) (number_m (k - last - 1) m _ HM.out h0 (by omega)) ?_; rintro e w1 ⟨v1, rfl, ho1, hb1⟩; obtain ⟨A1, cp1, rfl, hc1, hm1, hr1⟩ := ho1.form; have hO1 := HO.out.belowH hb1 rfl; have hbl1 := Nat.le_trans hbase hb1.size; have hh1 := Lib.hid (blk_below HH.out hb1 rfl); have hc01 := blk_cell hh1.out 0 rfl; refine ⟨_, rfl, ?_⟩) | ((with_reducible refine gate_sbuiltin (b := .append) rfl ?_); refine step_pushAll base _ p _ _ _ _ _ rfl rfl Try.underlying23 hi hz0 hz1 hz2 rfl rfl rfl hr1 hO1 hbl1 hq6 hq7 ?_; intro v2 w2 ho2 hg2 _; obtain ⟨A2, cp2, rfl, hc2, hm2, hr2⟩ := ho2.form; have hh2 := Lib.hid (grown_block hO1 hg2 hh1.out (by decide)); have hf2 := blk_free hh2.out 0; have hc02 := blk_cell hh2.out 0 rfl))
  all_goals
    have hb2 := (below_H (w := w) (hb1.mono hbase) rfl rfl rfl rfl).grown hg2 hbl1 (fun g hgk => (hO1.block g hgk).1)
    have e1 := blk_cell hh2.out 1 rfl
    have e2 := blk_cell hh2.out 2 rfl
    have f1 := blk_free hh2.out 1
    have f2 := blk_free hh2.out 2
    clear hc01 hc02 c0 c1 c2 f0 hf2
    go_wp2
    go_ret
    refine ⟨rfl, ?_, below_set3 hb2 hbb _ _ _, keepT_done hb1 rfl hO1 hg2 hh2.out _ _ _⟩
    rw [← List.length_append]
    exact Enc.done hh2.out ho2 hbb k (n + 1)
end Go.Proofs.Ytnlflpcioiieaaa
