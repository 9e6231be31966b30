/-
  Package code and its reference, walked: numbers as bytes, one number read, how many bytes numbers have.
  The encoder walked: begin, key.
  code.Keys walked.
-/
import Derived.Test.YtcnaikoloagbdaaGreatQBase
import Derived.Test.YtcnaikoloagbdaaGreatQNum
import Derived.Laws.BitsLemmas
import Derived.Laws.Bits64
import Derived.Lib.LazyBuf
import Derived.IntWalk
import Derived.Deep.DrawnRows
namespace Go.Proofs.YtcnaikoloagbdaaGreat
set_option linter.unusedVariables false
set_option linter.unusedSimpArgs false
open Go.RowKit

theorem or128 (m : Int) (h : 0 ≤ m) : bits .or .u8 (m % 256) 128 = 128 + m % 128 := by
  have key : ∀ k : Nat, k < 256 → bits .or .u8 (k : Int) 128 = 128 + (k : Int) % 128 := by decide +kernel
  have := key (m % 256).toNat (by omega)
  rw [show (((m % 256).toNat : Nat) : Int) = m % 256 by omega] at this
  rw [this]; omega
theorem u8_info : (Tryz.prog.info? 5).map (fun i => (i.zero, i.size, i.bytes)) = some (some (.int .u8 0), 1, 1) := by kernel_rfl

set_option maxHeartbeats 400000 in
set_option maxRecDepth 100000 in
theorem number_any (n : Nat) (w : World) (hn : n < 18446744073709551616) :
    Calls Tryz.prog 102 #[.int .u64 n] w fun e w' => ∃ v, e = .returned v ∧ Own .u8 5 w' w.heap.size v (num n) ∧ Below w.heap.size w w' := by
  obtain ⟨i0, hi, hz0, hz1, hz2⟩ := info_parts u8_info
  have h10 := num_len10 hn
  clear hn
  go_enter Tryz.func102, Tryz.ntmps102
  go_wp2
  go_loopw [0, 3] (fun v0 v3 wr => ∃ (m : Nat) (pre : List Int), v0 = .int .u64 m ∧ Hid (num n = pre ++ num m) ∧ Hid (Own .u8 5 wr w.heap.size v3 pre) ∧ Below w.heap.size w wr) (fun v0 _ _ => (intOf v0).toNat)
  case atStart => exact ⟨n, [], rfl, rfl, Own.nil _ _ _ _, Below.refl _ _⟩
  case round =>
    obtain ⟨m, pre, rfl, HN, HO, hb⟩ := hrel
    have hsz := hb.size
    have hpre : pre.length + 1 ≤ 10 := by
      have e := congrArg List.length HN.out
      have := num_pos m
      simp at e; omega
    by_cases hlt : 128 ≤ m
    · go_wp2_with (at_builtin; refine wpList_push w.heap.size _ pre _ _ _ _ rfl rfl Tryz.underlying23 hi hz0 hz1 hz2 rfl rfl rfl (heap_alloc_new _ _) (HO.out.below ((Below.refl _ _).alloc (Nat.le_refl _) _)) ?g1 ?g2 ?g3 ?_; (case g1 => simp; omega); (case g2 => omega); (case g3 => unfold maxLen; omega); intro v1 w1 ho1 hg1 _)
      go_roundw
      case rel =>
        exact ⟨m / 128, pre ++ [128 + ((m % 128 : Nat) : Int)], by go_num, by show _ = _; rw [HN.out, num_big (by omega)]; simp, by rw [or128 _ (by omega)] at ho1; exact ho1, (hb.alloc hsz _).grown hg1 (by simp; omega) (fun g hgk => (HO.out.block g hgk).1)⟩
      case measure => simp [intOf]; omega
    · go_wp2_with (at_builtin; refine wpList_push w.heap.size _ pre _ _ _ _ rfl rfl Tryz.underlying23 hi hz0 hz1 hz2 rfl rfl rfl (heap_alloc_new _ _) (HO.out.below ((Below.refl _ _).alloc (Nat.le_refl _) _)) ?g1 ?g2 ?g3 ?_; (case g1 => simp; omega); (case g2 => omega); (case g3 => unfold maxLen; omega); intro v1 w1 ho1 hg1 _)
      go_ret
      exact ⟨_, rfl, by rw [HN.out, num_small (by omega)]; exact ho1, (hb.alloc hsz _).grown hg1 (by simp; omega) (fun g hgk => (HO.out.block g hgk).1)⟩
theorem number_int (n : Int) (w : World) (h0 : 0 ≤ n) (hn : n < 18446744073709551616) :
    Calls Tryz.prog 102 #[.int .u64 n] w fun e w' => ∃ v, e = .returned v ∧ Own .u8 5 w' w.heap.size v (num n.toNat) ∧ Below w.heap.size w w' := by
  obtain ⟨m, rfl⟩ := Int.eq_ofNat_of_zero_le h0
  exact number_any m w (by omega)

theorem number_m (n : Int) (m : Nat) (w : World) (hm : n.toNat = m) (h0 : 0 ≤ n) (hn : n < 18446744073709551616) :
    Calls Tryz.prog 102 #[.int .u64 n] w fun e w' => ∃ v, e = .returned v ∧ Own .u8 5 w' w.heap.size v (num m) ∧ Below w.heap.size w w' := by
  subst hm
  exact number_int n w h0 hn
end Go.Proofs.YtcnaikoloagbdaaGreat
namespace Go.Proofs.YtcnaikoloagbdaaGreat
set_option linter.unusedVariables false
set_option linter.unusedSimpArgs false
open Go.RowKit
attribute [local go_sem ↓] Go.wp_at_zero Go.wp_at_succ

/-- an encoder: its bytes, the key told last, how many -/
def Enc (w : World) (base b : Nat) (p : List Int) (last n : Int) : Prop :=
  base ≤ b ∧ ∃ v, w.heap[b]? = some (.cells #[v, .int .u64 last, .int .i64 n] 164 (0, 0)) ∧ Own .u8 5 w base v p

set_option maxHeartbeats 400000 in
set_option maxRecDepth 100000 in
theorem begin_any (kind n : Int) (w : World) (h0 : 0 ≤ n) (hn : n < 18446744073709551616) :
    Calls Tryz.prog 100 #[.int .u8 kind, .int .i64 n] w fun e w' => ∃ b, e = .returned (.pointer (some ⟨b, 0, none⟩)) ∧ Enc w' w.heap.size b (kind :: num n.toNat) 0 0 ∧ Below w.heap.size w w' := by
  obtain ⟨i0, hi, hz0, hz1, hz2⟩ := info_parts u8_info
  have HW := Lib.hid (show IntKind.u64.wrap n = n by rw [IntKind.wrap_u64]; omega)
  have HN := Lib.hid hn
  have hl := num_len10 (n := n.toNat) (by omega)
  clear hn
  go_enter Tryz.func100, Tryz.ntmps100
  go_wp2_with fail
  rw [HW.out]
  refine (number_int _ _ h0 HN.out).mono ?_
  rintro e w1 ⟨v1, rfl, ho1, hb1⟩
  obtain ⟨A1, c1, rfl, hc1, hm1, hr1⟩ := ho1.form
  have hown := (Own.made (k := .u8) (e := 5) (w := w) (base := w.heap.size) (Nat.le_refl _) [kind] (by simp [maxLen])).below hb1
  have hbw := ((Below.refl w.heap.size w).alloc (Nat.le_refl _) (.cells #[.int .u8 kind] 5)).trans (hb1.mono (by simp))
  clear ho1 hb1
  have hsz := hbw.size
  go_wp2_with (at_builtin; refine wpList_pushAll w.heap.size _ _ _ _ _ _ _ rfl rfl Tryz.underlying23 hi hz0 hz1 hz2 rfl rfl rfl hr1 hown hsz ?g1 ?g2 ?_; (case g1 => simp; omega); (case g2 => simp [maxLen]; omega); intro v2 w2 ho2 hg2 _; obtain ⟨A2, c2, rfl, hc2, hm2, hr2⟩ := ho2.form)
  have hb2 := hbw.grown hg2 hsz (fun g hgk => (hown.block g hgk).1)
  have hsz2 := hb2.size
  go_ret
  exact ⟨_, rfl, ⟨hsz2, _, heap_alloc_new _ _, ho2.below ((Below.refl _ _).alloc (Nat.le_refl _) _)⟩, hb2.alloc hsz2 _⟩

theorem Enc.below {w w' : World} {base b : Nat} {p : List Int} {last n : Int} (h : Enc w base b p last n) (hb : Below w.heap.size w w') : Enc w' base b p last n := by
  obtain ⟨h1, v, h2, h3⟩ := h
  exact ⟨h1, v, blk_below h2 hb rfl, h3.below hb⟩
/-- what an encoder leaves alone: blocks of other types -/
def KeepT (w w' : World) : Prop := ∀ (j : Nat) (cs : Array Value) (t : TypeId), t ≠ 5 → t ≠ 164 → w.heap[j]? = some (.cells cs t (0, 0)) → w'.heap[j]? = some (.cells cs t (0, 0))
theorem keepT_done {w w1 w2 : World} {base b : Nat} {v : Value} {l : List Int} {es : Array Value} {w0 : World} (hb : Below w0.heap.size w0 w1) (e : w0.heap = w.heap) (ho : Own .u8 5 w1 base v l) (hg : w1.grownBy w2 v.ownBlock) (hh : w2.heap[b]? = some (.cells es 164 (0, 0))) (x y z : Value) :
    KeepT w (((w2.setCell ⟨b, 0, none⟩ x).setCell ⟨b, 1, none⟩ y).setCell ⟨b, 2, none⟩ z) := fun j cs t h1 h2 h3 => by
  have h4 := grown_block ho hg (blk_below h3 hb e) (fun q => h1 q.symm)
  have hne : j ≠ b := by
    rintro rfl
    rw [hh] at h4
    cases h4
    exact h2 rfl
  rw [Below.heap_setCell _ ⟨b, 2, none⟩ z j hne, Below.heap_setCell _ ⟨b, 1, none⟩ y j hne, Below.heap_setCell _ ⟨b, 0, none⟩ x j hne]
  exact h4
theorem Enc.cells {w : World} {base b : Nat} {p : List Int} {last n : Int} (h : Enc w base b p last n) : ∃ A c, p.length ≤ c ∧ c ≤ maxLen ∧ Rd .u8 w A p ∧ Own .u8 5 w base (.slice A p.length c) p ∧
    w.heap[b]? = some (.cells #[.slice A p.length c, .int .u64 last, .int .i64 n] 164 (0, 0)) ∧ base ≤ b := by
  obtain ⟨hb, v, hh, ho⟩ := h
  obtain ⟨A, c, rfl, h1, h2, h3⟩ := ho.form
  exact ⟨A, c, h1, h2, h3, ho, hh, hb⟩

set_option maxHeartbeats 400000 in
set_option maxRecDepth 100000 in
theorem key_no (b : Nat) (k last n : Int) (p : List Int) (w : World) (base : Nat) (hE : Enc w base b p last n) (hn : 0 < n) (hk : k ≤ last) :
    Calls Tryz.prog 101 #[.pointer (some ⟨b, 0, none⟩), .int .u64 k] w fun e w' => e = .returned (.bool false) ∧ w = w' := by
  obtain ⟨A, c, hc, hm, hr, ho, hh, hbb⟩ := hE.cells
  have c1 : w.cell? ⟨b, 1, none⟩ = some (.int .u64 last) := by rw [cell_of_row w b 1 _ _ _ hh]; rfl
  have c2 : w.cell? ⟨b, 2, none⟩ = some (.int .i64 n) := by rw [cell_of_row w b 2 _ _ _ hh]; rfl
  clear hh hr ho hE
  go_enter Tryz.func101, Tryz.ntmps101
  go_wp2
  go_ret
  exact ⟨rfl, rfl⟩

theorem Enc.done {w : World} {base b : Nat} {l : List Int} {x y z v : Value} (hh : w.heap[b]? = some (.cells #[x, y, z] 164 (0, 0))) (ho : Own .u8 5 w base v l) (hb : base ≤ b) (k n : Int) :
    Enc (((w.setCell ⟨b, 0, none⟩ v).setCell ⟨b, 1, none⟩ (.int .u64 k)).setCell ⟨b, 2, none⟩ (.int .i64 n)) base b l k n := by
  have h1 := blk_set hh 0 v
  have h2 := blk_set h1 1 (.int .u64 k)
  have h3 := blk_set h2 2 (.int .i64 n)
  exact ⟨hb, v, by simpa using h3, own_set (own_set (own_set ho hh (by decide) 0 v) h1 (by decide) 1 _) h2 (by decide) 2 _⟩
theorem below_set3 {B : Nat} {w0 w : World} {b : Nat} (h : Below B w0 w) (hb : B ≤ b) (x y z : Value) : Below B w0 (((w.setCell ⟨b, 0, none⟩ x).setCell ⟨b, 1, none⟩ y).setCell ⟨b, 2, none⟩ z) :=
  ((h.setCell (p := ⟨b, 0, none⟩) hb x).setCell (p := ⟨b, 1, none⟩) hb y).setCell (p := ⟨b, 2, none⟩) hb z

set_option maxHeartbeats 400000 in
set_option maxRecDepth 100000 in
theorem key_first (b : Nat) (k last : Int) (p : List Int) (w : World) (base : Nat) (hE : Enc w base b p last 0) (hbase : base ≤ w.heap.size) (h0 : 0 ≤ k) (hk : k < 18446744073709551616) (hp : p.length ≤ 70368744177664) :
    Calls Tryz.prog 101 #[.pointer (some ⟨b, 0, none⟩), .int .u64 k] w fun e w' => e = .returned (.bool true) ∧ Enc w' base b (p ++ num k.toNat) k 1 ∧ Below base w w' ∧ KeepT w w' := by
  obtain ⟨i0, hi, hz0, hz1, hz2⟩ := info_parts u8_info
  obtain ⟨A, c, hc, hm, hr, ho, hh, hbb⟩ := hE.cells
  have c0 : w.cell? ⟨b, 0, none⟩ = some (.slice A p.length c) := by rw [cell_of_row w b 0 _ _ _ hh]; rfl
  have c1 : w.cell? ⟨b, 1, none⟩ = some (.int .u64 last) := by rw [cell_of_row w b 1 _ _ _ hh]; rfl
  have c2 : w.cell? ⟨b, 2, none⟩ = some (.int .i64 0) := by rw [cell_of_row w b 2 _ _ _ hh]; rfl
  have f0 : w.frozen? ⟨b, 0, none⟩ = false := by simp [World.frozen?, hh]
  have hbl : b < w.heap.size := by
    rcases Nat.lt_or_ge b w.heap.size with h | h
    · exact h
    · rw [Array.getElem?_eq_none h] at hh; cases hh
  have HH := Lib.hid hh
  have HO := Lib.hid ho
  have HK := Lib.hid hk
  have h10 := num_len10 (n := k.toNat) (by omega)
  have hq6 : (p.length + (num k.toNat).length) * 1 ≤ 140737488355328 := by omega
  have hq7 : p.length + (num k.toNat).length ≤ maxLen := by unfold maxLen; omega
  clear hh hr ho hE hk
  go_enter Tryz.func101, Tryz.ntmps101
  go_wp2
  go_region_law (first | ((with_reducible refine gate_scall (f := 102) rfl ?_); refine step_goes rfl Tryz.func102 (by kernel_rfl) rfl #[.int .u64 k] rfl (by simp only [List.map_toArray, List.map_cons, List.map_nil]; rfl) (number_int k _ h0 HK.out) ?_; rintro e w1 ⟨v1, rfl, ho1, hb1⟩; obtain ⟨A1, cp1, rfl, hc1, hm1, hr1⟩ := ho1.form; have hO1 := HO.out.belowH hb1 rfl; have hbl1 := Nat.le_trans hbase hb1.size; have hh1 := Lib.hid (blk_below HH.out hb1 rfl); have hc01 := blk_cell hh1.out 0 rfl; refine ⟨_, rfl, ?_⟩) | ((with_reducible refine gate_sbuiltin (b := .append) rfl ?_); refine step_pushAll base _ p _ _ _ _ _ rfl rfl Tryz.underlying23 hi hz0 hz1 hz2 rfl rfl rfl hr1 hO1 hbl1 hq6 hq7 ?_; intro v2 w2 ho2 hg2 _; obtain ⟨A2, cp2, rfl, hc2, hm2, hr2⟩ := ho2.form; have hh2 := Lib.hid (grown_block hO1 hg2 hh1.out (by decide)); have hf2 := blk_free hh2.out 0; have hc02 := blk_cell hh2.out 0 rfl))
  all_goals
    have hb2 := (below_H (w := w) (hb1.mono hbase) rfl rfl rfl rfl).grown hg2 hbl1 (fun g hgk => (hO1.block g hgk).1)
    have e1 := blk_cell hh2.out 1 rfl
    have e2 := blk_cell hh2.out 2 rfl
    have f1 := blk_free hh2.out 1
    have f2 := blk_free hh2.out 2
    clear hc01 hc02 c0 c1 c2 f0 hf2
    go_wp2
    go_ret
    refine ⟨rfl, ?_, below_set3 hb2 hbb _ _ _, keepT_done hb1 rfl hO1 hg2 hh2.out _ _ _⟩
    rw [← List.length_append]
    exact Enc.done hh2.out ho2 hbb k 1
set_option maxHeartbeats 400000 in
set_option maxRecDepth 100000 in
theorem key_next (b : Nat) (k last n : Int) (p : List Int) (w : World) (base : Nat) (hE : Enc w base b p last n) (hbase : base ≤ w.heap.size) (hl0 : 0 ≤ last) (hlk : last < k) (hk : k ≤ 18446744073709551615) (hn0 : 0 < n) (hn1 : n ≤ 70368744177664) (hp : p.length ≤ 70368744177664) :
    Calls Tryz.prog 101 #[.pointer (some ⟨b, 0, none⟩), .int .u64 k] w fun e w' => e = .returned (.bool true) ∧ Enc w' base b (p ++ num (k - last - 1).toNat) k (n + 1) ∧ Below base w w' ∧ KeepT w w' := by
  obtain ⟨i0, hi, hz0, hz1, hz2⟩ := info_parts u8_info
  obtain ⟨A, c, hc, hmx, hr, ho, hh, hbb⟩ := hE.cells
  have c0 : w.cell? ⟨b, 0, none⟩ = some (.slice A p.length c) := by rw [cell_of_row w b 0 _ _ _ hh]; rfl
  have c1 : w.cell? ⟨b, 1, none⟩ = some (.int .u64 last) := by rw [cell_of_row w b 1 _ _ _ hh]; rfl
  have c2 : w.cell? ⟨b, 2, none⟩ = some (.int .i64 n) := by rw [cell_of_row w b 2 _ _ _ hh]; rfl
  have f0 : w.frozen? ⟨b, 0, none⟩ = false := by simp [World.frozen?, hh]
  have hbl : b < w.heap.size := by
    rcases Nat.lt_or_ge b w.heap.size with h | h
    · exact h
    · rw [Array.getElem?_eq_none h] at hh; cases hh
  have HH := Lib.hid hh
  have HO := Lib.hid ho
  have h10 := num_len10 (n := (k - last - 1).toNat) (by omega)
  obtain ⟨m, hm⟩ : ∃ m, (k - last - 1).toNat = m := ⟨_, rfl⟩
  rw [hm] at h10 ⊢
  have HM := Lib.hid hm
  clear hm
  have hq6 : (p.length + (num m).length) * 1 ≤ 140737488355328 := by omega
  have hq7 : p.length + (num m).length ≤ maxLen := by unfold maxLen; omega
  clear hh hr ho hE
  have h0 : 0 ≤ k - last - 1 := by omega
  have hk0 : 0 ≤ k := by omega
  go_enter Tryz.func101, Tryz.ntmps101
  go_wp2
  go_region_law (first | ((with_reducible refine gate_scall (f := 102) rfl ?_); refine step_goes rfl Tryz.func102 (by kernel_rfl) rfl #[.int .u64 (k - last - 1)] rfl (by simp only [List.map_toArray, List.map_cons, List.map_nil]; rfl) (number_m (k - last - 1) m _ HM.out h0 (by omega)) ?_; rintro e w1 ⟨v1, rfl, ho1, hb1⟩; obtain ⟨A1, cp1, rfl, hc1, hm1, hr1⟩ := ho1.form; have hO1 := HO.out.belowH hb1 rfl; have hbl1 := Nat.le_trans hbase hb1.size; have hh1 := Lib.hid (blk_below HH.out hb1 rfl); have hc01 := blk_cell hh1.out 0 rfl; refine ⟨_, rfl, ?_⟩) | ((with_reducible refine gate_sbuiltin (b := .append) rfl ?_); refine step_pushAll base _ p _ _ _ _ _ rfl rfl Tryz.underlying23 hi hz0 hz1 hz2 rfl rfl rfl hr1 hO1 hbl1 hq6 hq7 ?_; intro v2 w2 ho2 hg2 _; obtain ⟨A2, cp2, rfl, hc2, hm2, hr2⟩ := ho2.form; have hh2 := Lib.hid (grown_block hO1 hg2 hh1.out (by decide)); have hf2 := blk_free hh2.out 0; have hc02 := blk_cell hh2.out 0 rfl))
  all_goals
    have hb2 := (below_H (w := w) (hb1.mono hbase) rfl rfl rfl rfl).grown hg2 hbl1 (fun g hgk => (hO1.block g hgk).1)
    have e1 := blk_cell hh2.out 1 rfl
    have e2 := blk_cell hh2.out 2 rfl
    have f1 := blk_free hh2.out 1
    have f2 := blk_free hh2.out 2
    clear hc01 hc02 c0 c1 c2 f0 hf2
    go_wp2
    go_ret
    refine ⟨rfl, ?_, below_set3 hb2 hbb _ _ _, keepT_done hb1 rfl hO1 hg2 hh2.out _ _ _⟩
    rw [← List.length_append]
    exact Enc.done hh2.out ho2 hbb k (n + 1)
end Go.Proofs.YtcnaikoloagbdaaGreat
namespace Go.Proofs.YtcnaikoloagbdaaGreat
set_option linter.unusedVariables false
set_option linter.unusedSimpArgs false
open Go.RowKit

/-- the gaps between rising keys, as bytes; none: they don't rise -/
def gaps : Option Int → List Int → Option (List Int)
  | _, [] => some []
  | none, k :: l => (gaps (some k) l).map (num k.toNat ++ ·)
  | some a, k :: l => if k ≤ a then none else (gaps (some k) l).map (num (k - a - 1).toNat ++ ·)
def keysR (l : List Int) : List Int × Int :=
  match gaps none l with
  | none => ([], 8)
  | some g => if 262144 < l.length then ([], 1) else (0 :: (num l.length ++ g), 0)
theorem drop_getD {l : List Int} {k : Nat} (hk : k < l.length) : l.drop k = l.getD k 0 :: l.drop (k + 1) := by
  rw [List.getD_eq_getElem?_getD, List.getElem?_eq_getElem hk]; exact List.drop_eq_getElem_cons hk

theorem ret_ve {v : Value} {a b : Int} (h : a = b) : Ending.returned (.tuple #[v, .int .i64 a]) = Ending.returned (.tuple #[v, .int .i64 b]) := by rw [h]

set_option maxHeartbeats 1000000 in
set_option maxRecDepth 100000 in
theorem keys_any (A : Option Addr) (c : Nat) (l : List Int) (w : World) (hB : U64 l) (hr : Rd .u64 w A l) (hlen : l.length ≤ 1000000) :
    Calls Tryz.prog 74 #[.slice A l.length c] w fun e w' => ∃ v, e = .returned (.tuple #[v, .int .i64 (keysR l).2]) ∧ Own .u8 5 w' w.heap.size v (keysR l).1 ∧ Below w.heap.size w w' := by
  have HR := Lib.hid hr
  have HB := Lib.hid hB
  clear hr hB
  have hl10 := num_len10 (n := l.length) (by omega)
  go_enter Tryz.func74, Tryz.ntmps74
  go_wp2_with fail
  refine (begin_any _ _ _ (by omega) (by omega)).mono ?_
  rintro e w1 ⟨b, rfl, hE1, hb1⟩
  rw [Int.toNat_natCast] at hE1
  go_wp2_with fail
  go_loopw [6, 12] (fun v6 v12 wr => ∃ (i : Nat) (done : List Int) (last : Int), i ≤ l.length ∧ v12 = .int .i64 i ∧ Hid (gaps none l = (gaps (if i = 0 then none else some last) (l.drop i)).map (done ++ ·)) ∧ Hid (Enc wr w.heap.size b (0 :: (num l.length ++ done)) last i) ∧
    done.length ≤ 10 * i ∧ Hid (i ≠ 0 → 0 ≤ last) ∧ Below w.heap.size w wr) (fun _ v12 _ => l.length - (intOf v12).toNat)
  case atStart => exact ⟨0, [], 0, Nat.zero_le _, rfl, (by show _ = _; simp), (by show Enc _ _ _ _ _ _; rw [List.append_nil]; exact hE1), by simp, fun h => absurd rfl h, hb1⟩
  case round =>
    obtain ⟨i, done, last, hi, rfl, HG, HE, hd, HL, hb⟩ := hrel
    have hsz := hb.size
    by_cases hlt : i < l.length
    · obtain ⟨ad, rfl, had, hcl⟩ := HR.out i hlt
      have hcl' := (hb.cell (p := ad.add i) (by rw [block_of_add]; exact had)).trans hcl
      clear hcl
      have hx := HB.out.at_ hlt
      have HD := Lib.hid (drop_getD hlt)
      generalize l.getD i 0 = x at *
      obtain ⟨hx0, hx1⟩ := hx
      have hplen : (0 :: (num l.length ++ done)).length ≤ 70368744177664 := by simp; omega
      by_cases h0 : i = 0
      · have HG2 := Lib.hid (show gaps none l = (gaps (if i + 1 = 0 then none else some x) (l.drop (i + 1))).map ((done ++ num x.toNat) ++ ·) by
          rw [HG.out, HD.out, if_pos h0, if_neg (by omega)]
          simp [gaps, Option.map_map, Function.comp_def])
        have HE0 := Lib.hid (show Enc wr w.heap.size b (0 :: (num l.length ++ done)) last 0 by have := HE.out; rw [h0] at this; exact this)
        have H0 := Lib.hid h0
        clear h0
        have hnl := num_len10 (n := x.toNat) (by omega)
        go_wp2_with fail
        refine (key_first b x last _ _ w.heap.size HE0.out hsz hx0 (by omega) hplen).mono ?_
        rintro e w2 ⟨rfl, hE2, hb2, _⟩
        go_wp2
        go_roundw
        case rel => exact ⟨i + 1, done ++ num x.toNat, x, by omega, by go_num, HG2, by rw [show 0 :: (num l.length ++ (done ++ num x.toNat)) = 0 :: (num l.length ++ done) ++ num x.toNat by simp, H0.out]; exact hE2, by simp; omega, fun _ => hx0, hb.trans hb2⟩
        case measure => simp [intOf] <;> omega
      · have hi0 : (0 : Int) < i := by omega
        have hla := HL.out h0
        by_cases hle : x ≤ last
        · have HK := Lib.hid (show keysR l = ([], 8) by
            have : gaps none l = none := by
              rw [HG.out, HD.out, if_neg h0]
              simp [gaps, hle]
            simp [keysR, this])
          go_wp2_with fail
          refine (key_no b x last _ _ _ w.heap.size HE.out hi0 hle).mono ?_
          rintro e w2 ⟨rfl, rfl⟩
          go_wp2
          go_ret2
          exact ⟨_, ret_ve (by rw [HK.out]), by rw [HK.out]; exact Own.nil _ _ _ _, hb⟩
        · have HG2 := Lib.hid (show gaps none l = (gaps (if i + 1 = 0 then none else some x) (l.drop (i + 1))).map ((done ++ num (x - last - 1).toNat) ++ ·) by
            rw [HG.out, HD.out, if_neg h0, if_neg (by omega)]
            simp [gaps, hle, Option.map_map, Function.comp_def])
          have hnl := num_len10 (n := (x - last - 1).toNat) (by omega)
          have HNL := Lib.hid hnl
          clear hnl
          go_wp2_with fail
          refine (key_next b x last _ _ _ w.heap.size HE.out hsz hla (by omega) hx1 hi0 (by omega) hplen).mono ?_
          rintro e w2 ⟨rfl, hE2, hb2, _⟩
          have HE2 := Lib.hid hE2
          clear hE2
          go_wp2
          go_roundw
          case rel => exact ⟨i + 1, done ++ num (x - last - 1).toNat, x, by omega, by go_num, HG2, by rw [show 0 :: (num l.length ++ (done ++ num (x - last - 1).toNat)) = 0 :: (num l.length ++ done) ++ num (x - last - 1).toNat by simp]; exact HE2.out, by have := HNL.out; rw [List.length_append]; omega, fun _ => hx0, hb.trans hb2⟩
          case measure => simp [intOf] <;> omega
    · obtain rfl : i = l.length := by omega
      have HS := Lib.hid (show gaps none l = some done by
        rw [HG.out, List.drop_length]
        simp [gaps])
      obtain ⟨A2, c2, _, _, hr2, ho2, hh2, hbb⟩ := HE.out.cells
      have e0 := blk_cell hh2 0 rfl
      have HO2 := Lib.hid ho2
      clear ho2 hh2 hr2
      by_cases hmx : 262144 < l.length
      · have HK := Lib.hid (show keysR l = ([], 1) by simp [keysR, HS.out, hmx])
        go_wp2
        go_ret2
        exact ⟨_, ret_ve (by rw [HK.out]), by rw [HK.out]; exact Own.nil _ _ _ _, hb⟩
      · have HK := Lib.hid (show keysR l = (0 :: (num l.length ++ done), 0) by simp [keysR, HS.out, hmx])
        go_wp2
        go_ret2
        exact ⟨_, ret_ve (by rw [HK.out]), by rw [HK.out]; have h := HO2.out; simp only [List.length_cons, List.length_append] at h; exact h, hb⟩
end Go.Proofs.YtcnaikoloagbdaaGreat
