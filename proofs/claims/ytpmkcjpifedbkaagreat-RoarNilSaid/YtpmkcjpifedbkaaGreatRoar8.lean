/-
  The document's example for package roar, walked.
-/
import Derived.Test.YtpmkcjpifedbkaaGreatRoar7
namespace Go.Proofs.YtpmkcjpifedbkaaGreat
set_option linter.unusedVariables false
set_option linter.unusedSimpArgs false
open Go.RowKit
attribute [local go_sem ↓] Go.wp_at_zero Go.wp_at_succ

set_option maxRecDepth 100000 in
set_option maxHeartbeats 1000000 in
theorem roarBox1 (t m E cap b : Nat) (A : Option Addr) (l : List Int) (c : Nat) (used k : Int) (w : World) (hR : R1 w t m E cap b A l c used) (hL : Rise l) (hl : l.length ≤ 1000) (h0 : 0 ≤ k) (h1 : k < 65536) :
    Calls Tryz.prog 28 #[.pointer (some ⟨t, 0, none⟩), .int .u64 k] w fun e w' => ∃ b' A' c', e = .returned (.tuple #[.pointer (some ⟨b', 0, none⟩), .int .i64 0, .bool true]) ∧ w.heap.size ≤ b' ∧ Bx w' b' A' l c' ∧ R1 w' t m E cap b A l c used ∧ w.grownBy w' (some m) := by
  have HR := Lib.hid hR
  have HL := Lib.hid hL
  clear hR hL
  go_enter Tryz.func28, Tryz.ntmps28
  go_wp2_with fail
  refine (upper0 k _ h0 h1).mono ?_
  rintro e w1' ⟨rfl, rfl⟩
  rename World => w
  go_wp2_with fail
  refine (find1 t m E b cap used _ HR.out.1 HR.out.2.1).mono ?_
  rintro e w1 ⟨rfl, HO1, hg1⟩
  have HR1 := Lib.hid (HR.out.looked HO1 hg1)
  have q1 := blk_cell HR1.out.1.1 1 rfl
  obtain ⟨cur, e1, e2, e3⟩ := HR1.out.2.1
  have y1 := blk_cell e1 1 e3
  clear e1 e2 e3 HO1
  go_wp2_with fail
  refine (boxCopy b A c l _ HR1.out.2.2.1 HR1.out.2.2.rd HL.out (by omega)).mono ?_
  rintro e w2 ⟨b', A', c', rfl, hb', hF, hO, hb2⟩
  have HR2 := Lib.hid (HR1.out.below hb2)
  have HB2 := Lib.hid (show Bx w2 b' A' l c' from ⟨hF, hO⟩)
  have hs := Nat.le_trans hg1.size hb'
  have HG := Lib.hid (grown_then hg1 (grown_of_below (row := some m) hb2))
  clear hF hO hb2 hg1
  go_wp2
  go_ret3
  exact ⟨b', A', c', rfl, hs, HB2.out, HR2.out, HG.out⟩
theorem En.lt {w : World} {E b : Nat} (h : En w E b) : E < w.heap.size := by obtain ⟨_, h, _⟩ := h; exact blk_lt h
theorem Met.lt {w : World} {m : Nat} (h : Met w m) : m < w.heap.size := by obtain ⟨_, _, _, _, _, h⟩ := h; exact blk_lt h
theorem R1.other {w w' : World} {t m E cap b j : Nat} {A : Option Addr} {l : List Int} {c : Nat} {used : Int} (h : R1 w t m E cap b A l c used) (hg : w.grownBy w' (some j)) (ht : t ≠ j) (hm : m ≠ j) (hE : E ≠ j) (hB : Bx w' b A l c) : R1 w' t m E cap b A l c used :=
  ⟨Bx.added h.1 hg ht hm, h.2.1.grown hg (fun e => hE (by injection e with e; exact e.symm)), hB⟩
set_option maxRecDepth 100000 in
set_option maxHeartbeats 1000000 in
theorem insert9 (base t m E cap b : Nat) (A : Option Addr) (c : Nat) (w : World) (hR : R1 w t m E cap b A [5] c 2) (hO : OwE w base (.slice (some ⟨E, 0, none⟩) 1 cap) b) (hcap : 1 ≤ cap) (hbt : base ≤ t) (hbm : base ≤ m) (hbE : base ≤ E) (hbw : base ≤ w.heap.size) :
    Calls Tryz.prog 11 #[.pointer (some ⟨t, 0, none⟩), .int .u64 9] w fun e w' => ∃ E' cap' b' A' c', e = .returned (.int .i64 0) ∧ R1 w' t m E' cap' b' A' [5, 9] c' 3 ∧ Below base w w' := by
  have HR := Lib.hid hR
  have HO := Lib.hid hO
  clear hR hO
  go_enter Tryz.func11, Tryz.ntmps11
  go_wp2_with fail
  refine (roarHas1 t m E cap b A [5] c 2 9 _ HR.out trivial (by decide) (by decide) (by decide)).mono ?_
  rintro e w1 ⟨r, rfl, HV, HR1, hg1⟩
  obtain rfl : r = false := by rw [HV.out]; exact isIn5
  go_wp2_with fail
  refine (roarBox1 t m E cap b A [5] c 2 9 _ HR1 trivial (by decide) (by decide) (by decide)).mono ?_
  rintro e w2 ⟨b2, A2, c2, rfl, hb2, HB2, HR2, hg2⟩
  have hg02 := grown_then hg1 hg2
  have HO2 := Lib.hid (HO.out.grown hg02 (.inl (fun e => HR.out.2.1.not_met HR.out.1.2 (by rw [e]; rfl))))
  have hs1 := hg1.size
  have htb : t ≠ b2 := fun e => by have := blk_lt HR1.1.1; omega
  have hmb : m ≠ b2 := fun e => by have := HR1.1.2.lt; omega
  have hEb : E ≠ b2 := fun e => by have := HR1.2.1.lt; omega
  have hbb2 : b ≠ b2 := fun e => by have := blk_lt HR1.2.2.1; omega
  go_wp2_with fail
  refine (lower0 9 _ (by decide) (by decide)).mono ?_
  rintro e w2' ⟨rfl, rfl⟩
  rename World => w2
  go_wp2_with fail
  refine (boxAdd b2 A2 c2 [5] 9 _ HB2.1 HB2.rd trivial (by decide) isIn5).mono ?_
  rintro e w3 ⟨A3, c3, rfl, HF3, HO3, hg3⟩
  rw [addR5] at HF3 HO3
  have HBo := Lib.hid (show Bx w3 b A [5] c from by
    obtain ⟨z1, z2, z3⟩ := HR2.2.2
    refine ⟨?_, z2, ?_⟩
    · unfold Few at z1 ⊢
      rw [hg3.block b (blk_lt z1) (fun e => hbb2 (by injection e))]
      exact z1
    · rcases z3 with z3 | ⟨g, cp, cur, e1, hgb, hh, hr⟩
      · exact .inl z3
      · refine .inr ⟨g, cp, cur, e1, hgb, ?_, hr⟩
        rw [hg3.block g (blk_lt hh) (fun e => by
          injection e with e
          subst e
          have := HB2.1
          unfold Few at this
          rw [hh] at this
          injection this with h3
          injection h3 with h4 h5
          exact absurd h5 (by decide))]
        exact hh)
  have HR3 := Lib.hid (R1.other HR2 hg3 htb hmb hEb HBo.out)
  have HO3' := Lib.hid (HO2.out.grown hg3 (.inl (fun e => hEb (by injection e with e; exact e.symm))))
  have HB3 := Lib.hid (show Bx w3 b2 A3 [5, 9] c3 from ⟨HF3, HO3⟩)
  have hbb : base ≤ b2 := by omega
  have hw2 : base ≤ w2.heap.size := by have := hg02.size; omega
  have hB3 := Lib.hid ((below_of_grown hg02 hbm hbw).trans (below_of_grown hg3 hbb hw2))
  have hw3 : base ≤ w3.heap.size := by have := hB3.out.size; omega
  clear HF3 HO3 HB2 HR1 HR2 hg1 hg2 hg3 hg02
  go_wp2_with fail
  refine (upper0 9 _ (by decide) (by decide)).mono ?_
  rintro e w3' ⟨rfl, rfl⟩
  rename World => w3
  go_wp2_with fail
  refine (lay1 base t m E cap b b2 A A3 c c3 _ HR3.out HO3'.out hcap HB3.out hbt hbE hw3).mono ?_
  rintro e w4 ⟨E4, cap4, rfl, HR4, hB4⟩
  have H4 := Lib.hid HR4
  clear HR4
  go_wp2
  go_ret
  exact ⟨E4, cap4, b2, A3, c3, rfl, H4.out, hB3.out.trans hB4⟩
set_option maxRecDepth 100000 in
theorem insertEx (t m E cap b : Nat) (A : Option Addr) (c : Nat) (used : Int) (w : World) (hR : R1 w t m E cap b A [5, 9] c used) :
    Calls Tryz.prog 11 #[.pointer (some ⟨t, 0, none⟩), .int .u64 9] w fun e w' => e = .returned (.int .i64 4) ∧ R1 w' t m E cap b A [5, 9] c used ∧ w.grownBy w' (some m) := by
  have HR := Lib.hid hR
  clear hR
  go_enter Tryz.func11, Tryz.ntmps11
  go_wp2_with fail
  refine (roarHas1 t m E cap b A [5, 9] c used 9 _ HR.out rise59 (by decide) (by decide) (by decide)).mono ?_
  rintro e w1 ⟨r, rfl, HV, HR1, hg1⟩
  obtain rfl : r = true := by rw [HV.out]; exact isIn59
  go_wp2
  go_ret
  exact ⟨rfl, HR1, hg1⟩
end Go.Proofs.YtpmkcjpifedbkaaGreat
