/-
  The meter and the looks of package roar on a Roar of at most one box, walked.
-/
import Derived.Test.YtpmkcjpifedbkaaGreatBox2
namespace Go.Proofs.YtpmkcjpifedbkaaGreat
set_option linter.unusedVariables false
set_option linter.unusedSimpArgs false
open Go.RowKit

/-- a meter: five counts -/
def Met (w : World) (m : Nat) : Prop := ∃ r c t p s : Int, w.heap[m]? = some (.cells #[.int .i64 r, .int .i64 c, .int .i64 t, .int .i64 p, .int .i64 s] 65 (0, 0))
theorem met_grown {w w' : World} {m : Nat} {row : Option Nat} (h : Met w m) (hg : w.grownBy w' row) (hne : row ≠ some m) : Met w' m := by
  obtain ⟨r, c, t, p, s, hh⟩ := h
  exact ⟨r, c, t, p, s, by rw [hg.block m (blk_lt hh) (fun e => hne e.symm)]; exact hh⟩
theorem grown_refl (w : World) (row : Option Nat) : w.grownBy w row := ⟨rfl, rfl, rfl, Nat.le_refl _, fun _ _ _ => rfl⟩
theorem meterStart (m : Nat) (w : World) (hm : Met w m) :
    Calls Tryz.prog 35 #[.pointer (some ⟨m, 0, none⟩)] w fun e w' => e = .returned (.tuple #[]) ∧ Met w' m ∧ w.grownBy w' (some m) := by
  obtain ⟨r, c, t, p, s, hh⟩ := hm
  have HH := Lib.hid hh
  have q0 := blk_cell hh 2 rfl
  have q1 := blk_cell hh 4 rfl
  have f0 := blk_free hh 2
  have f1 := blk_free hh 4
  clear hh
  go_enter Tryz.func35, Tryz.ntmps35
  go_wp2
  go_end0
  exact ⟨rfl, ⟨_, _, _, _, _, blk_set (blk_set HH.out 2 _) 4 _⟩, grown_set (grown_set (grown_refl _ _))⟩
theorem grown_drew {w w' : World} {row : Option Nat} (h : w.grownBy w' row) : w.grownBy w'.drew row := ⟨h.os, h.tape, h.output, h.size, h.block⟩
theorem grown_then {a b c : World} {row : Option Nat} (h : a.grownBy b row) (k : b.grownBy c row) : a.grownBy c row :=
  ⟨k.os.trans h.os, k.tape.trans h.tape, k.output.trans h.output, Nat.le_trans h.size k.size, fun j hj hne => (k.block j (Nat.lt_of_lt_of_le hj h.size) hne).trans (h.block j hj hne)⟩
theorem grown_alloc {w w' : World} {row : Option Nat} (h : w.grownBy w' row) (o : Obj) : w.grownBy (w'.alloc o) row :=
  ⟨h.os, h.tape, h.output, by simpa using Nat.le_succ_of_le h.size, fun j hj hne => (heap_alloc_old w' o (Nat.lt_of_lt_of_le hj h.size)).trans (h.block j hj hne)⟩
set_option maxRecDepth 100000 in
theorem meterStep (m : Nat) (w : World) (hm : Met w m) :
    Calls Tryz.prog 49 #[.pointer (some ⟨m, 0, none⟩)] w fun e w' => e = .returned (.tuple #[]) ∧ Met w' m ∧ w.grownBy w' (some m) := by
  obtain ⟨r, c, t, p, s, hh⟩ := hm
  have HH := Lib.hid hh
  have q0 := blk_cell hh 2 rfl
  have q1 := blk_cell hh 3 rfl
  have f0 := blk_free hh 2
  have f1 := blk_free hh 3
  clear hh
  go_enter Tryz.func49, Tryz.ntmps49
  go_wp2
  go_region
  go_wp2
  all_goals
    go_end0
    exact ⟨rfl, ⟨_, _, _, _, _, blk_set (blk_set HH.out 2 _) 3 _⟩, grown_drew (grown_set (grown_set (grown_refl _ _)))⟩
set_option maxRecDepth 100000 in
theorem meterRead (m : Nat) (w : World) (hm : Met w m) :
    Calls Tryz.prog 36 #[.pointer (some ⟨m, 0, none⟩)] w fun e w' => e = .returned (.tuple #[]) ∧ Met w' m ∧ w.grownBy w' (some m) := by
  obtain ⟨r, c, t, p, s, hh⟩ := hm
  have HH := Lib.hid hh
  have q0 := blk_cell hh 0 rfl
  have f0 := blk_free hh 0
  clear hh
  go_enter Tryz.func36, Tryz.ntmps36
  go_wp2_with fail
  refine (meterStep m _ ⟨_, _, _, _, _, blk_set HH.out 0 _⟩).mono ?_
  rintro e w1 ⟨rfl, HM, hg⟩
  go_wp2
  go_end0
  exact ⟨rfl, HM, grown_then (grown_set (grown_refl _ _)) hg⟩
/-- a Roar: its meter, its slice of entries, how much is used, may be -/
def Ro (w : World) (t m : Nat) (v : Value) (used : Int) : Prop := w.heap[t]? = some (.cells #[.pointer (some ⟨m, 0, none⟩), v, .int .i64 used, .int .i64 4000] 41 (0, 0)) ∧ Met w m
theorem Ro.ne {w : World} {t m : Nat} {v : Value} {used : Int} (h : Ro w t m v used) : t ≠ m := fun e => by
  obtain ⟨h1, r, c, t', p, s, h2⟩ := h
  subst e
  rw [h1] at h2
  injection h2 with h3
  injection h3 with h4 h5
  exact absurd h5 (by decide)
set_option maxRecDepth 100000 in
set_option maxHeartbeats 1000000 in
theorem roarStart (t m : Nat) (A : Option Addr) (n c : Nat) (used : Int) (w : World) (hR : Ro w t m (.slice A n c) used) :
    Calls Tryz.prog 19 #[.pointer (some ⟨t, 0, none⟩)] w fun e w' => e = .returned (.bool (decide (0 < n))) ∧ Ro w' t m (.slice A n c) used ∧ w.grownBy w' (some m) := by
  have HR := Lib.hid hR
  have q0 := blk_cell hR.1 0 rfl
  have HM := Lib.hid hR.2
  have hne := hR.ne
  clear hR
  go_enter Tryz.func19, Tryz.ntmps19
  go_wp2_with fail
  refine (meterStart m _ HM.out).mono ?_
  rintro e w1 ⟨rfl, HM1, hg⟩
  have HT := Lib.hid (show w1.heap[t]? = _ from (hg.block t (blk_lt HR.out.1) (fun e => hne (by injection e))).trans HR.out.1)
  have q1 := blk_cell HT.out 1 rfl
  have HM2 := Lib.hid HM1
  have HG := Lib.hid hg
  clear HM1 hg
  by_cases hn : 0 < n
  · have hn1 : (0 : Int) < n := by omega
    go_wp2
    go_ret
    exact ⟨by rw [decide_eq_true hn]; rfl, ⟨HT.out, HM2.out⟩, HG.out⟩
  · obtain rfl : n = 0 := by omega
    go_wp2
    go_ret
    exact ⟨rfl, ⟨HT.out, HM2.out⟩, HG.out⟩
end Go.Proofs.YtpmkcjpifedbkaaGreat
