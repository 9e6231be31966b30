/-
  roar's New and Insert, walked for the document's example.
-/
import Derived.Test.YtpmkcjpifedbkaaGreatRoar6
namespace Go.Proofs.YtpmkcjpifedbkaaGreat
set_option linter.unusedVariables false
set_option linter.unusedSimpArgs false
open Go.RowKit
attribute [local go_sem ↓] Go.wp_at_zero Go.wp_at_succ

theorem countNew (w : World) : Calls Tryz.prog 18 #[] w fun e w' => e = .returned (.pointer (some ⟨w.heap.size, 0, none⟩)) ∧ w' = w.alloc (.cells #[.int .i64 0, .int .i64 0, .int .i64 0, .int .i64 0, .int .i64 0] 65) := by
  go_enter Tryz.func18, Tryz.ntmps18
  go_wp2
  go_ret
  exact ⟨rfl, rfl⟩
set_option maxRecDepth 100000 in
theorem new4000 (w : World) : Calls Tryz.prog 5 #[.int .i64 4000] w fun e w' => ∃ t m, e = .returned (.tuple #[.pointer (some ⟨t, 0, none⟩), .int .i64 0]) ∧ w.heap.size ≤ t ∧ w.heap.size ≤ m ∧ Ro w' t m (.slice none 0 0) 0 ∧ Below w.heap.size w w' := by
  have hs : ∀ o, w.heap.size < (w.alloc o).heap.size := fun o => by simp
  go_enter Tryz.func5, Tryz.ntmps5
  go_wp2_with fail
  refine (countNew _).mono ?_
  rintro e w1 ⟨rfl, rfl⟩
  go_wp2
  go_ret2
  refine ⟨_, _, rfl, by simp, Nat.le_refl _, ⟨alloc_at (by simp), ⟨0, 0, 0, 0, 0, ?_⟩⟩, ((Below.refl _ _).alloc (Nat.le_refl _) _).alloc (by simp) _⟩
  exact blk_alloc (heap_alloc_new _ _) _
set_option maxRecDepth 100000 in
theorem newAny (n : Int) (w : World) : Calls Tryz.prog 5 #[.int .i64 n] w fun e w' => ∃ (p : Value) (er : Int), e = .returned (.tuple #[p, .int .i64 er]) ∧ Hid (er = if 0 ≤ n ∧ n ≤ 1048576 then 0 else 1) ∧ Below w.heap.size w w' := by
  go_enter Tryz.func5, Tryz.ntmps5
  by_cases h0 : n < 0
  · go_wp2
    go_ret2
    exact ⟨_, 1, rfl, rfl, Below.refl _ _⟩
  · by_cases h1 : 1048576 < n
    · go_wp2
      go_ret2
      exact ⟨_, 1, rfl, rfl, Below.refl _ _⟩
    · go_wp2_with fail
      refine (countNew _).mono ?_
      rintro e w1 ⟨rfl, rfl⟩
      go_wp2
      go_ret2
      exact ⟨_, 0, rfl, rfl, ((Below.refl _ _).alloc (Nat.le_refl _) _).alloc (by simp) _⟩
set_option maxRecDepth 100000 in
theorem roarHas0 (t m : Nat) (used k : Int) (w : World) (hR : Ro w t m (.slice none 0 0) used) :
    Calls Tryz.prog 13 #[.pointer (some ⟨t, 0, none⟩), .int .u64 k] w fun e w' => e = .returned (.bool false) ∧ Ro w' t m (.slice none 0 0) used ∧ w.grownBy w' (some m) := by
  have HR := Lib.hid hR
  clear hR
  go_enter Tryz.func13, Tryz.ntmps13
  go_wp2_with fail
  refine (roarStart t m _ 0 0 used _ HR.out).mono ?_
  rintro e w1 ⟨rfl, HO1, hg1⟩
  go_wp2
  go_ret
  exact ⟨rfl, HO1, hg1⟩
theorem below_of_grown {w w' : World} {base j : Nat} (hg : w.grownBy w' (some j)) (hj : base ≤ j) (hb : base ≤ w.heap.size) : Below base w w' :=
  ⟨hg.os, hg.tape, hg.output, hg.size, fun k hk => hg.block k (by omega) (fun e => by injection e with e; omega)⟩
set_option maxRecDepth 100000 in
theorem roarBox0 (t m : Nat) (used k : Int) (w : World) (hR : Ro w t m (.slice none 0 0) used) (h0 : 0 ≤ k) (h1 : k < 65536) :
    Calls Tryz.prog 28 #[.pointer (some ⟨t, 0, none⟩), .int .u64 k] w fun e w' => ∃ b, e = .returned (.tuple #[.pointer (some ⟨b, 0, none⟩), .int .i64 0, .bool false]) ∧ w.heap.size ≤ b ∧ Bx w' b none [] 0 ∧ Ro w' t m (.slice none 0 0) used ∧ w.grownBy w' (some m) := by
  have HR := Lib.hid hR
  clear hR
  go_enter Tryz.func28, Tryz.ntmps28
  go_wp2_with fail
  refine (upper0 k _ h0 h1).mono ?_
  rintro e w1' ⟨rfl, rfl⟩
  rename World => w
  go_wp2_with fail
  refine (find0 t m used 0 _ HR.out).mono ?_
  rintro e w1 ⟨rfl, HO1, hg1⟩
  go_wp2_with fail
  refine (boxNew _).mono ?_
  rintro e w2 ⟨b, rfl, hb, hF, hb2⟩
  go_wp2
  go_ret3
  exact ⟨b, rfl, Nat.le_trans hg1.size hb, ⟨hF, Own.nil _ _ _ _⟩, HO1.kept hb2, grown_then hg1 (grown_of_below hb2)⟩
theorem isIn0 : isIn [] 5 = false := by decide
theorem addR0 : addR [] 5 = [5] := by decide
theorem isIn5 : isIn [5] 9 = false := by decide
theorem addR5 : addR [5] 9 = [5, 9] := by decide
theorem isIn59 : isIn [5, 9] 9 = true := by decide
theorem Bx.added {w w' : World} {b t m : Nat} {v : Value} {used : Int} (h : Ro w t m v used) (hg : w.grownBy w' (some b)) (h1 : t ≠ b) (h2 : m ≠ b) : Ro w' t m v used :=
  ⟨by rw [hg.block t (blk_lt h.1) (fun e => h1 (by injection e))]; exact h.1, met_grown h.2 hg (fun e => h2 (by injection e with e; exact e.symm))⟩
set_option maxRecDepth 100000 in
set_option maxHeartbeats 1000000 in
theorem insert5 (base t m : Nat) (w : World) (hR : Ro w t m (.slice none 0 0) 0) (hbt : base ≤ t) (hbm : base ≤ m) (hbw : base ≤ w.heap.size) :
    Calls Tryz.prog 11 #[.pointer (some ⟨t, 0, none⟩), .int .u64 5] w fun e w' => ∃ E cap b A c, e = .returned (.int .i64 0) ∧ R1 w' t m E cap b A [5] c 2 ∧ OwE w' base (.slice (some ⟨E, 0, none⟩) 1 cap) b ∧ 1 ≤ cap ∧ base ≤ E ∧ Below base w w' := by
  have HR := Lib.hid hR
  clear hR
  go_enter Tryz.func11, Tryz.ntmps11
  go_wp2_with fail
  refine (roarHas0 t m 0 5 _ HR.out).mono ?_
  rintro e w1 ⟨rfl, HO1, hg1⟩
  go_wp2_with fail
  refine (roarBox0 t m 0 5 _ HO1 (by decide) (by decide)).mono ?_
  rintro e w2 ⟨b, rfl, hb, HB2, HO2, hg2⟩
  have hg02 := grown_then hg1 hg2
  have htb : t ≠ b := fun e => by have := blk_lt HO1.1; omega
  have hmb : m ≠ b := fun e => by obtain ⟨_, _, _, _, _, h⟩ := HO1.2; have := blk_lt h; omega
  go_wp2_with fail
  refine (lower0 5 _ (by decide) (by decide)).mono ?_
  rintro e w2' ⟨rfl, rfl⟩
  rename World => w2
  go_wp2_with fail
  refine (boxAdd b none 0 [] 5 _ HB2.1 HB2.rd trivial (by decide) isIn0).mono ?_
  rintro e w3 ⟨A3, c3, rfl, HF3, HO3, hg3⟩
  rw [addR0] at HF3 HO3
  have HR3 := Lib.hid (Bx.added HO2 hg3 htb hmb)
  have HB3 := Lib.hid (show Bx w3 b A3 [5] c3 from ⟨HF3, HO3⟩)
  have hbb : base ≤ b := by have := hg1.size; omega
  have hw2 : base ≤ w2.heap.size := by have := hg02.size; omega
  have hB3 := Lib.hid ((below_of_grown hg02 hbm hbw).trans (below_of_grown hg3 hbb hw2))
  have hw3 : base ≤ w3.heap.size := by have := hB3.out.size; omega
  clear HF3 HO3 HO1 HO2 HB2 hg1 hg2 hg3 hg02
  go_wp2_with fail
  refine (upper0 5 _ (by decide) (by decide)).mono ?_
  rintro e w3' ⟨rfl, rfl⟩
  rename World => w3
  go_wp2_with fail
  refine (lay0 base t m b A3 [5] c3 _ HR3.out HB3.out trivial (by decide) (by decide) hbt hw3).mono ?_
  rintro e w4 ⟨E, cap, rfl, HR4, HO4, hcap, hB4⟩
  obtain ⟨E', cap', e1, hE, _, _⟩ := HO4.form
  injection e1 with e1 _ e2
  injection e1 with e1
  injection e1 with e1
  subst e1
  have H4 := Lib.hid HR4
  have H5 := Lib.hid HO4
  clear HR4 HO4
  go_wp2
  go_ret
  exact ⟨E, cap, b, A3, c3, rfl, H4.out, H5.out, hcap, hE, hB3.out.trans hB4⟩
end Go.Proofs.YtpmkcjpifedbkaaGreat
