/-
  find, see, Has of a Roar of at most one box, walked.
-/
import Derived.Test.YtpmkcjpifedbkaaGreatRoar1
namespace Go.Proofs.YtpmkcjpifedbkaaGreat
set_option linter.unusedVariables false
set_option linter.unusedSimpArgs false
open Go.RowKit

theorem upper0 (k : Int) (w : World) (h0 : 0 ≤ k) (h1 : k < 65536) : Calls Tryz.prog 21 #[.int .u64 k] w fun e w' => e = .returned (.int .u64 0) ∧ w' = w := by
  have hk : k / 65536 = 0 := by omega
  go_enter Tryz.func21, Tryz.ntmps21
  go_wp2
  go_ret
  exact ⟨rfl, rfl⟩
theorem lower0 (k : Int) (w : World) (h0 : 0 ≤ k) (h1 : k < 65536) : Calls Tryz.prog 24 #[.int .u64 k] w fun e w' => e = .returned (.int .u16 k) ∧ w' = w := by
  have hk : IntKind.u16.wrap k = k := by rw [show IntKind.u16.wrap k = k % 65536 from rfl]; omega
  go_enter Tryz.func24, Tryz.ntmps24
  go_wp2
  go_ret
  exact ⟨rfl, rfl⟩
/-- one entry: its upper part is 0 -/
def En (w : World) (E b : Nat) : Prop := ∃ cur, w.heap[E]? = some (.cells cur 47 (0, 0)) ∧ cur[0]? = some (.int .u64 0) ∧ cur[1]? = some (.pointer (some ⟨b, 0, none⟩))
theorem En.grown {w w' : World} {E b : Nat} {row : Option Nat} (h : En w E b) (hg : w.grownBy w' row) (hne : row ≠ some E) : En w' E b := by
  obtain ⟨cur, h1, h2, h3⟩ := h
  exact ⟨cur, by rw [hg.block E (blk_lt h1) (fun e => hne e.symm)]; exact h1, h2, h3⟩
theorem En.not_met {w : World} {E b m : Nat} (h : En w E b) (hm : Met w m) : some m ≠ some E := fun e => by
  obtain ⟨cur, h1, _, _⟩ := h
  obtain ⟨r, c, t', p, s, h2⟩ := hm
  injection e with e
  subst e
  rw [h1] at h2
  injection h2 with h3
  injection h3 with h4 h5
  exact absurd h5 (by decide)
set_option maxRecDepth 100000 in
set_option maxHeartbeats 1000000 in
theorem find0 (t m : Nat) (used up : Int) (w : World) (hR : Ro w t m (.slice none 0 0) used) :
    Calls Tryz.prog 20 #[.pointer (some ⟨t, 0, none⟩), .int .u64 up] w fun e w' => e = .returned (.tuple #[.int .i64 0, .bool false]) ∧ Ro w' t m (.slice none 0 0) used ∧ w.grownBy w' (some m) := by
  have HR := Lib.hid hR
  have q1 := blk_cell hR.1 1 rfl
  clear hR
  go_enter Tryz.func20, Tryz.ntmps20
  go_wp2
  go_region
  go_wp2
  go_loopw [6, 7, 8, 9] (fun v6 v7 _ _ wr => v6 = .int .i64 0 ∧ v7 = .int .i64 0 ∧ wr = w.drew) (fun _ _ _ _ _ => 0)
  case atStart => exact ⟨rfl, rfl, rfl⟩
  case round =>
    obtain ⟨rfl, rfl, rfl⟩ := hrel
    go_wp2
    go_ret2
    exact ⟨rfl, ⟨HR.out.1, HR.out.2⟩, grown_drew (grown_refl _ _)⟩
set_option maxRecDepth 100000 in
set_option maxHeartbeats 1000000 in
theorem find1 (t m E b cap : Nat) (used : Int) (w : World) (hR : Ro w t m (.slice (some ⟨E, 0, none⟩) 1 cap) used) (hE : En w E b) :
    Calls Tryz.prog 20 #[.pointer (some ⟨t, 0, none⟩), .int .u64 0] w fun e w' => e = .returned (.tuple #[.int .i64 0, .bool true]) ∧ Ro w' t m (.slice (some ⟨E, 0, none⟩) 1 cap) used ∧ w.grownBy w' (some m) := by
  have HR := Lib.hid hR
  have q1 := blk_cell hR.1 1 rfl
  have q0 := blk_cell hR.1 0 rfl
  have hne := hR.ne
  have HE := Lib.hid hE
  clear hR hE
  go_enter Tryz.func20, Tryz.ntmps20
  go_wp2
  go_region
  go_wp2
  go_loopw [6, 7, 8, 9] (fun v6 v7 _ _ wr => v6 = .int .i64 0 ∧ v7 = .int .i64 1 ∧ wr = w.drew) (fun _ _ _ _ _ => 0)
  case atStart => exact ⟨rfl, rfl, rfl⟩
  case round =>
    obtain ⟨rfl, rfl, rfl⟩ := hrel
    go_wp2_with fail
    refine (meterRead m _ (show Met w.drew m from HR.out.2)).mono ?_
    rintro e w1 ⟨rfl, HM1, hg⟩
    have HG := Lib.hid (grown_then (grown_drew (grown_refl w (some m))) hg)
    have HT := Lib.hid (show w1.heap[t]? = _ from (HG.out.block t (blk_lt HR.out.1) (fun e => hne (by injection e))).trans HR.out.1)
    have r1 := blk_cell HT.out 1 rfl
    have HE1 := Lib.hid (HE.out.grown HG.out (HE.out.not_met HR.out.2))
    obtain ⟨cur, e1, e2, e3⟩ := HE1.out
    have y0 := blk_cell e1 0 e2
    have HM := Lib.hid HM1
    clear e1 e2 e3 HM1 hg
    go_wp2
    go_ret2
    exact ⟨rfl, ⟨HT.out, HM.out⟩, HG.out⟩
theorem grown_set_new {w w' : World} {row : Option Nat} {b i : Nat} {u : Value} (h : w.grownBy w' row) (hb : w.heap.size ≤ b) : w.grownBy (w'.setCell ⟨b, i, none⟩ u) row :=
  ⟨h.os, h.tape, h.output, by simpa using h.size, fun k hk hne => by
    rw [Below.heap_setCell w' ⟨b, i, none⟩ u k (fun e => by have e' : k = b := e; omega)]
    exact h.block k hk hne⟩
theorem Ro.set {w : World} {t m : Nat} {v : Value} {used : Int} (h : Ro w t m v used) (b i : Nat) (u : Value) (h1 : t ≠ b) (h2 : m ≠ b) : Ro (w.setCell ⟨b, i, none⟩ u) t m v used := by
  obtain ⟨a1, r, c, t', p, s, a2⟩ := h
  exact ⟨by rw [Below.heap_setCell w ⟨b, i, none⟩ u t h1]; exact a1, r, c, t', p, s, by rw [Below.heap_setCell w ⟨b, i, none⟩ u m h2]; exact a2⟩
set_option maxRecDepth 100000 in
set_option maxHeartbeats 1000000 in
theorem see0 (t m E b cap : Nat) (used : Int) (w : World) (hR : Ro w t m (.slice (some ⟨E, 0, none⟩) 1 cap) used) (hE : En w E b) :
    Calls Tryz.prog 22 #[.pointer (some ⟨t, 0, none⟩), .int .i64 0] w fun e w' => e = .returned (.tuple #[.agg #[.int .u64 0, .pointer (some ⟨b, 0, none⟩)], .bool true]) ∧ Ro w' t m (.slice (some ⟨E, 0, none⟩) 1 cap) used ∧ w.grownBy w' (some m) := by
  have HR := Lib.hid hR
  have q1 := blk_cell hR.1 1 rfl
  have q0 := blk_cell hR.1 0 rfl
  have hne := hR.ne
  have HE := Lib.hid hE
  have htl := blk_lt hR.1
  clear hR hE
  go_enter Tryz.func22, Tryz.ntmps22
  go_wp2_with fail
  refine (meterRead m _ (met_grown HR.out.2 (grown_alloc (grown_refl w none) _) (by intro e; cases e))).mono ?_
  rintro e w1 ⟨rfl, HM1, hg⟩
  have HG := Lib.hid (grown_then (grown_alloc (grown_refl w (some m)) _) hg)
  have HT := Lib.hid (show w1.heap[t]? = _ from (HG.out.block t (blk_lt HR.out.1) (fun e => hne (by injection e))).trans HR.out.1)
  have r1 := blk_cell HT.out 1 rfl
  have HE1 := Lib.hid (HE.out.grown HG.out (HE.out.not_met HR.out.2))
  obtain ⟨cur, e1, e2, e3⟩ := HE1.out
  have y0 := blk_cell e1 0 e2
  have y1 := blk_cell e1 1 e3
  have hml := (show m < w.heap.size by obtain ⟨_, _, _, _, _, h⟩ := HR.out.2; exact blk_lt h)
  have HL := Lib.hid (show w1.heap[w.heap.size]? = _ from (hg.block w.heap.size (by simp) (by intro e; injection e with e; omega)).trans (heap_alloc_new w _))
  have z0 := blk_cell HL.out 0 rfl
  have z1 := blk_cell HL.out 1 rfl
  have zf0 := blk_free HL.out 0
  have zf1 := blk_free HL.out 1
  have HM := Lib.hid HM1
  have hEs : E ≠ w.heap.size := fun e => by obtain ⟨cur', e1', _⟩ := HE.out; have := blk_lt e1'; omega
  have htl1 := blk_lt HT.out
  clear e1 e2 e3 HM1 hg q0 q1
  go_wp2
  have k0 := blk_cell (blk_set (blk_set HL.out 0 (.int .u64 0)) 1 (.pointer (some ⟨b, 0, none⟩))) 0 rfl
  have k1 := blk_cell (blk_set (blk_set HL.out 0 (.int .u64 0)) 1 (.pointer (some ⟨b, 0, none⟩))) 1 rfl
  refine bodyPost_ret (v := .tuple #[.agg #[.int .u64 0, .pointer (some ⟨b, 0, none⟩)], .bool true]) (by simp [results, Tryz.results22, go_sem, k0, k1]) rfl ⟨rfl, ?_, ?_⟩
  · exact (Ro.set (Ro.set ⟨HT.out, HM.out⟩ _ _ _ (by omega) (by omega)) _ _ _ (by omega) (by omega))
  · exact grown_set_new (grown_set_new HG.out (Nat.le_refl _)) (Nat.le_refl _)
end Go.Proofs.YtpmkcjpifedbkaaGreat
