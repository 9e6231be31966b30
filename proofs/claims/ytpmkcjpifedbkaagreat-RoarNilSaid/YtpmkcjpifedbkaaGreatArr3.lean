/-
  package array's looks and Add, walked.
-/
import Derived.Test.YtpmkcjpifedbkaaGreatArr2
import Derived.IntWalk
import Derived.Deep.DrawnRows
import Derived.Deep.RegionLaw
namespace Go.Proofs.YtpmkcjpifedbkaaGreat
set_option linter.unusedVariables false
set_option linter.unusedSimpArgs false
open Go.RowKit
attribute [local go_sem ↓] Go.wp_at_zero Go.wp_at_succ

theorem concat3n (B : Nat) (A0 A1 A2 : Option Addr) (n0 n1 n2 c0 c1 c2 : Nat) (l0 l1 l2 : List Int) (w : World) (e0 : l0.length = n0) (e1 : l1.length = n1) (e2 : l2.length = n2) (hB : w.heap[B]? = some (.cells #[.slice A0 n0 c0, .slice A1 n1 c1, .slice A2 n2 c2] 71 (0, 0)))
    (h0 : Rd .u16 w A0 l0) (h1 : Rd .u16 w A1 l1) (h2 : Rd .u16 w A2 l2) (hl : n0 + n1 + n2 ≤ 1000000) :
    Calls Tryz.prog 55 #[.slice (some ⟨B, 0, none⟩) 3 3] w fun e w' => ∃ v, e = .returned v ∧ Own .u16 50 w' w.heap.size v (l0 ++ l1 ++ l2) ∧ Below w.heap.size w w' := by
  subst e0; subst e1; subst e2
  exact concat3 B A0 A1 A2 c0 c1 c2 l0 l1 l2 w hB h0 h1 h2 hl
theorem alloc_at {w : World} {o : Obj} {k : Nat} (h : k = w.heap.size) : (w.alloc o).heap[k]? = some o := by subst h; exact heap_alloc_new _ _
theorem blk_alloc {w : World} {b : Nat} {o : Obj} (hh : w.heap[b]? = some o) (x : Obj) : (w.alloc x).heap[b]? = some o := blk_below hh ((Below.refl _ _).alloc (Nat.le_refl _) x) rfl
/-- one number in a block -/
theorem Rd.one {k : IntKind} {w : World} {B : Nat} {x : Int} {e : TypeId} (h : w.heap[B]? = some (.cells #[.int k x] e (0, 0))) : Rd k w (some ⟨B, 0, none⟩) [x] := fun i hi => by
  obtain rfl : i = 0 := by simpa using hi
  exact ⟨_, rfl, blk_lt h, by rw [add_mk]; exact blk_cell h 0 rfl⟩
theorem Rd.drop {k : IntKind} {w : World} {A : Option Addr} {l : List Int} (h : Rd k w A l) (j : Nat) : Rd k w (A.map (·.add j)) (l.drop j) := by
  have := h.cut j (l.length - j)
  rwa [List.take_of_length_le (by simp)] at this
set_option maxHeartbeats 1000000 in
set_option maxRecDepth 100000 in
theorem arrAdd (A : Option Addr) (c : Nat) (l : List Int) (v : Int) (w : World) (hr : Rd .u16 w A l) (hR : Rise l) (hc : l.length ≤ c) (hlen : l.length ≤ 900000) :
    Calls Tryz.prog 40 #[.slice A l.length c, .int .u16 v] w fun e w' => ∃ V b, e = .returned (.tuple #[V, .bool b]) ∧ Hid (b = !isIn l v) ∧ Own .u16 50 w' w.heap.size V (addR l v) ∧ Below w.heap.size w w' := by
  have HR := Lib.hid hr
  have HRI := Lib.hid hR
  clear hr hR
  go_enter Tryz.func40, Tryz.ntmps40
  go_wp2_with fail
  refine (bsearch16 A c l v _ HR.out HRI.out (by omega)).mono ?_
  rintro e w1 ⟨i, b, rfl, HI, HB, hb1⟩
  have hil : i ≤ l.length := by rw [HI.out]; exact lowr_le l v
  cases b
  · have HA := Lib.hid (show l.take i ++ [v] ++ l.drop i = addR l v by unfold addR; rw [← HB.out, HI.out]; rfl)
    have HB1 := Lib.hid (show (true : Bool) = !isIn l v by rw [← HB.out]; rfl)
    have R1 := Lib.hid (HR.out.below hb1)
    have hsz := hb1.size
    have hlt : (l.take i).length = i := by rw [List.length_take]; omega
    have hld : (l.drop i).length = l.length - i := by rw [List.length_drop]
    have HLT := Lib.hid hlt
    have HLD := Lib.hid hld
    have hi1 : (i : Int) ≤ (c : Int) := by omega
    have hi2 : (i : Int) ≤ (l.length : Int) := by omega
    clear hlt hld HB HI HRI
    have KEY : ∀ (A2 : Option Addr) (c2 m : Nat), l.length - i = m → Hid (Rd .u16 w1 A2 (l.drop i)) → Hid (∀ (wx : World) (B C : Nat), Below w1.heap.size w1 wx → wx.heap[C]? = some (.cells #[.int .u16 v] 50 (0, 0)) →
        wx.heap[B]? = some (.cells #[.slice A i c, .slice (some ⟨C, 0, none⟩) 1 1, .slice A2 m c2] 71 (0, 0)) →
        Calls Tryz.prog 55 #[.slice (some ⟨B, 0, none⟩) 3 3] wx fun e w' => ∃ V, e = .returned V ∧ Hid (Own .u16 50 w' w.heap.size V (addR l v) ∧ Below w.heap.size w w')) := by
      intro A2 c2 m hm hR2 wx B C hbx hC hB
      have := concat3n B A _ A2 _ _ _ _ _ _ (l.take i) [v] (l.drop i) wx HLT.out rfl (HLD.out.trans hm) hB (Rd.take (R1.out.below hbx) i) (Rd.one hC) (hR2.out.below hbx) (by simp; omega)
      rw [HA.out] at this
      exact this.mono fun e w' ⟨V, he, h2, h3⟩ => ⟨V, he, h2.mono (Nat.le_trans hsz hbx.size), below_then (below_then hb1 hbx) h3⟩
    by_cases hci : c = i
    · subst hci
      obtain rfl : c = l.length := by omega
      have KEY1 := KEY A 0 0 (by omega) (by show Rd _ _ _ _; rw [List.drop_length]; exact Rd.nil _ _ _)
      clear KEY
      go_wp2_with fail
      go_region_law? (first | ((with_reducible refine gate_scall (f := 55) rfl ?_); refine step_goes rfl Tryz.func55 (by kernel_rfl) rfl #[.slice (some ⟨_, 0, none⟩) 3 3] rfl (by simp only [List.map_toArray, List.map_cons, List.map_nil]; rfl) (KEY1.out _ _ _ (by repeat (first | exact Below.refl _ _ | refine Below.drew ?_ | refine Below.alloc ?_ (by first | omega | (simp; done) | (simp; omega)) _)) (by first | exact blk_alloc (heap_alloc_new _ _) _ | exact alloc_at (by simp)) (alloc_at (by simp))) ?_; rintro e wy ⟨V, rfl, HV⟩; refine ⟨_, rfl, ?_⟩))
      all_goals
        go_wp2
        go_ret2
        exact ⟨_, _, rfl, HB1.out, HV.out.1, HV.out.2⟩
    · rcases A with _ | ad
      · have hl : l = [] := by
          rcases l with _ | ⟨x, l⟩
          · rfl
          · obtain ⟨_, e, _⟩ := R1.out 0 (by simp); cases e
        subst hl
        obtain rfl : i = 0 := by simpa using hil
        have KEY1 := KEY none c 0 rfl (Rd.nil _ _ _)
        clear KEY
        go_wp2_with fail
        go_region_law? (first | ((with_reducible refine gate_scall (f := 55) rfl ?_); refine step_goes rfl Tryz.func55 (by kernel_rfl) rfl #[.slice (some ⟨_, 0, none⟩) 3 3] rfl (by simp only [List.map_toArray, List.map_cons, List.map_nil]; rfl) (KEY1.out _ _ _ (by repeat (first | exact Below.refl _ _ | refine Below.drew ?_ | refine Below.alloc ?_ (by first | omega | (simp; done) | (simp; omega)) _)) (by first | exact blk_alloc (heap_alloc_new _ _) _ | exact alloc_at (by simp)) (alloc_at (by simp))) ?_; rintro e wy ⟨V, rfl, HV⟩; refine ⟨_, rfl, ?_⟩))
        all_goals
          go_wp2
          go_ret2
          exact ⟨_, _, rfl, HB1.out, HV.out.1, HV.out.2⟩
      · have KEY1 := KEY (some (ad.add i)) (c - i) (l.length - i) rfl (R1.out.drop i)
        clear KEY
        go_wp2_with fail
        go_region_law? (first | ((with_reducible refine gate_scall (f := 55) rfl ?_); refine step_goes rfl Tryz.func55 (by kernel_rfl) rfl #[.slice (some ⟨_, 0, none⟩) 3 3] rfl (by simp only [List.map_toArray, List.map_cons, List.map_nil]; rfl) (KEY1.out _ _ _ (by repeat (first | exact Below.refl _ _ | refine Below.drew ?_ | refine Below.alloc ?_ (by first | omega | (simp; done) | (simp; omega)) _)) (by first | exact blk_alloc (heap_alloc_new _ _) _ | exact alloc_at (by simp)) (alloc_at (by simp))) ?_; rintro e wy ⟨V, rfl, HV⟩; refine ⟨_, rfl, ?_⟩))
        all_goals
          go_wp2
          go_ret2
          exact ⟨_, _, rfl, HB1.out, HV.out.1, HV.out.2⟩
  · have HA := Lib.hid (show l = addR l v by unfold addR; rw [← HB.out]; rfl)
    have HB1 := Lib.hid (show (false : Bool) = !isIn l v by rw [← HB.out]; rfl)
    go_wp2_with fail
    refine (clone16 A c l _ (HR.out.below hb1) (by omega)).mono ?_
    rintro e w2 ⟨V, rfl, ho, hb2⟩
    go_wp2
    go_ret2
    exact ⟨_, _, rfl, HB1.out, by rw [← HA.out]; exact ho.mono hb1.size, below_then hb1 hb2⟩
end Go.Proofs.YtpmkcjpifedbkaaGreat
