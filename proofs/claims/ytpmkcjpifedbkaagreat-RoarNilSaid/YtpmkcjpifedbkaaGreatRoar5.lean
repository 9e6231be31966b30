/-
  roar's cost, lay, box, Insert, New, walked for a Roar of at most one box.
-/
import Derived.Test.YtpmkcjpifedbkaaGreatRoar4
import Derived.RegionTactic
namespace Go.Proofs.YtpmkcjpifedbkaaGreat
set_option linter.unusedVariables false
set_option linter.unusedSimpArgs false
open Go.RowKit
attribute [local go_sem ↓] Go.wp_at_zero Go.wp_at_succ

set_option maxRecDepth 100000 in
theorem cost0 (b : Nat) (A : Option Addr) (l : List Int) (c : Nat) (w : World) (hB : Bx w b A l c) (hL : Rise l) (hl : l.length ≤ 1000) :
    Calls Tryz.prog 43 #[.pointer (some ⟨b, 0, none⟩)] w fun e w' => e = .returned (.int .i64 (1 + (l.length : Int))) ∧ Below w.heap.size w w' := by
  have HB := Lib.hid hB
  have HL := Lib.hid hL
  clear hB hL
  go_enter Tryz.func43, Tryz.ntmps43
  go_wp2_with fail
  refine (boxCost b A c l _ HB.out.1 HB.out.rd HL.out (by omega)).mono ?_
  rintro e w1 ⟨rfl, hb⟩
  go_wp2
  go_ret
  exact ⟨rfl, hb⟩
theorem Ro.kept {w w' : World} {t m : Nat} {v : Value} {used : Int} (h : Ro w t m v used) (hb : Below w.heap.size w w') : Ro w' t m v used :=
  ⟨by rw [hb.block t (blk_lt h.1)]; exact h.1, met_grown h.2 (grown_of_below (row := none) hb) (by intro e; cases e)⟩
theorem En.not_ro {w : World} {E b t m : Nat} {v : Value} {used : Int} (h : En w E b) (hR : Ro w t m v used) : E ≠ t := fun e => by
  obtain ⟨cur, h1, _, _⟩ := h
  subst e
  have h2 := hR.1
  rw [h1] at h2
  injection h2 with h3
  injection h3 with h4 h5
  exact absurd h5 (by decide)
/-- a slice of one entry is stored -/
theorem R1.stored {w : World} {t m E cap b : Nat} {A : Option Addr} {l : List Int} {c : Nat} {v : Value} {used : Int} (hR : Ro w t m v used) (hE : En w E b) (hB : Bx w b A l c) (x : Nat) (u : Int) :
    R1 ((w.setCell ⟨t, 1, none⟩ (.slice (some ⟨E, 0, none⟩) 1 cap)).setCell ⟨t, 2, none⟩ (.int .i64 u)) t m E cap b A l c u := by
  have hg : w.grownBy ((w.setCell ⟨t, 1, none⟩ (.slice (some ⟨E, 0, none⟩) 1 cap)).setCell ⟨t, 2, none⟩ (.int .i64 u)) (some t) := grown_set (grown_set (grown_refl _ _))
  refine ⟨⟨blk_set (blk_set hR.1 1 _) 2 _, met_grown hR.2 hg (fun e => hR.ne (by injection e))⟩, hE.grown hg (fun e => hE.not_ro hR (by injection e with e; exact e.symm)), hB.kept hg (fun j e cs T h' => by rw [typ_of hR.1 j e cs T h']; decide)⟩
set_option maxRecDepth 100000 in
set_option maxHeartbeats 2000000 in
theorem lay0 (base t m b : Nat) (A : Option Addr) (l : List Int) (c : Nat) (w : World) (hR : Ro w t m (.slice none 0 0) 0) (hB : Bx w b A l c) (hL : Rise l) (hl : l.length ≤ 1000) (hl0 : 0 < l.length) (hbt : base ≤ t) (hbw : base ≤ w.heap.size) :
    Calls Tryz.prog 30 #[.pointer (some ⟨t, 0, none⟩), .int .i64 0, .bool false, .int .u64 0, .pointer (some ⟨b, 0, none⟩)] w fun e w' => ∃ E cap, e = .returned (.int .i64 0) ∧ R1 w' t m E cap b A l c (1 + (l.length : Int)) ∧ OwE w' base (.slice (some ⟨E, 0, none⟩) 1 cap) b ∧ 1 ≤ cap ∧ Below base w w' := by
  have HR := Lib.hid hR
  have HB := Lib.hid hB
  have HL := Lib.hid hL
  have hl1 : (0 : Int) < (l.length : Int) := by omega
  have htl := blk_lt hR.1
  clear hR hB hL
  go_enter Tryz.func30, Tryz.ntmps30
  go_wp2_with fail
  refine (boxLen b A c l _ HB.out.1 HB.out.rd HL.out (by omega)).mono ?_
  rintro e w1 ⟨rfl, hb1⟩
  go_wp2_with fail
  refine (cost0 b A l c _ (HB.out.below hb1) HL.out hl).mono ?_
  rintro e w2 ⟨rfl, hb2⟩
  have hb02 := below_then hb1 hb2
  have HR2 := Lib.hid (HR.out.kept hb02)
  have q2 := blk_cell HR2.out.1 2 rfl
  have q3 := blk_cell HR2.out.1 3 rfl
  have q1 := blk_cell HR2.out.1 1 rfl
  have hd : decide ((4000 : Int) < 1 + (l.length : Int)) = false := by simp; omega
  go_wp2_with fail
  go_quiet (fail)
  have hb3 := below_drewN (Below.refl w2.heap.size w2) nq
  generalize w2.drewN nq = w3 at *
  have hb03 := below_then hb02 hb3
  go_wp2_with fail
  refine (boxLen b A c l _ (HB.out.below hb03).1 (HB.out.below hb03).rd HL.out (by omega)).mono ?_
  rintro e w4 ⟨rfl, hb4⟩
  have hb04 := below_then hb03 hb4
  have HR4 := Lib.hid (HR.out.kept hb04)
  have q41 := blk_cell HR4.out.1 1 rfl
  have htl4 := blk_lt HR4.out.1
  have hbw4 : base ≤ (w4.alloc (.cells #[.int .u64 0, .pointer (some ⟨b, 0, none⟩)] 47)).heap.size := by have := hb04.size; simp; omega
  clear q2 q3 q1
  go_wp2_with fail
  refine (repl0 base _ b _ (heap_alloc_new _ _) hbw4).mono ?_
  rintro e w5 ⟨v, rfl, HO, hb5⟩
  have hb05 := below_then (hb04.alloc hb04.size _) hb5
  have HR5 := Lib.hid (HR.out.kept hb05)
  have HB5 := Lib.hid (HB.out.below hb05)
  obtain ⟨E, cap, rfl, hE, hcap, hen⟩ := HO.form
  have HE := Lib.hid hen
  have HO5 := Lib.hid HO
  have HB05 := Lib.hid hb05
  have q50 := blk_cell HR5.out.1 1 rfl
  have q51 := blk_cell HR5.out.1 2 rfl
  have f51 := blk_free HR5.out.1 1
  have f52 := blk_free HR5.out.1 2
  clear hen HO hb05 hb5
  go_wp2
  go_ret
  refine ⟨E, cap, rfl, ?_, ?_, hcap, ?_⟩
  · exact R1.stored HR5.out HE.out HB5.out 0 _
  · exact HO5.out.grown (grown_set (grown_set (grown_refl _ _))) (.inl (fun e => HE.out.not_ro HR5.out (by injection e with e; rw [e])))
  · exact (((HB05.out.mono hbw).setCell (p := ⟨t, 1, none⟩) hbt _).setCell (p := ⟨t, 2, none⟩) hbt _)
end Go.Proofs.YtpmkcjpifedbkaaGreat
