/-
  package box on boxes that are few, walked.
-/
import Derived.Test.YtpmkcjpifedbkaaGreatArr3
namespace Go.Proofs.YtpmkcjpifedbkaaGreat
set_option linter.unusedVariables false
set_option linter.unusedSimpArgs false
open Go.RowKit

set_option maxRecDepth 100000 in
set_option maxHeartbeats 1000000 in
theorem arrHas (A : Option Addr) (c : Nat) (l : List Int) (v : Int) (w : World) (hr : Rd .u16 w A l) (hR : Rise l) (hlen : l.length ≤ 900000) :
    Calls Tryz.prog 146 #[.slice A l.length c, .int .u16 v] w fun e w' => ∃ b : Bool, e = .returned (.bool b) ∧ Hid (b = isIn l v) ∧ Below w.heap.size w w' := by
  have HR := Lib.hid hr
  have HRI := Lib.hid hR
  clear hr hR
  go_enter Tryz.func146, Tryz.ntmps146
  go_wp2_with fail
  refine (bsearch16 A c l v _ HR.out HRI.out (by omega)).mono ?_
  rintro e w1 ⟨i, b, rfl, HI, HB, hb1⟩
  go_wp2
  go_ret
  exact ⟨b, rfl, HB, hb1⟩
/-- array.Select -/
def selR (l : List Int) (k : Int) : Int × Bool := if k < 0 ∨ (l.length : Int) ≤ k then (0, false) else (l.getD k.toNat 0, true)
set_option maxRecDepth 100000 in
set_option maxHeartbeats 1000000 in
theorem arrSelect (A : Option Addr) (c : Nat) (l : List Int) (k : Int) (w : World) (hr : Rd .u16 w A l) :
    Calls Tryz.prog 149 #[.slice A l.length c, .int .i64 k] w fun e w' => e = .returned (.tuple #[.int .u16 (selR l k).1, .bool (selR l k).2]) ∧ Below w.heap.size w w' := by
  have HR := Lib.hid hr
  clear hr
  go_enter Tryz.func149, Tryz.ntmps149
  by_cases h0 : k < 0
  · have HS := Lib.hid (show selR l k = (0, false) by unfold selR; rw [if_pos (.inl h0)])
    go_wp2
    go_ret2
    exact ⟨by rw [HS.out]; rfl, Below.refl _ _⟩
  · by_cases h1 : (l.length : Int) ≤ k
    · have HS := Lib.hid (show selR l k = (0, false) by unfold selR; rw [if_pos (.inr h1)])
      go_wp2
      go_ret2
      exact ⟨by rw [HS.out]; rfl, Below.refl _ _⟩
    · obtain ⟨n, rfl⟩ := Int.eq_ofNat_of_zero_le (show 0 ≤ k by omega)
      have hn : n < l.length := by omega
      obtain ⟨ad, rfl, had, hc⟩ := HR.out n hn
      have HS := Lib.hid (show selR l n = (l.getD n 0, true) by unfold selR; rw [if_neg (by omega)]; rfl)
      generalize l.getD n 0 = x at *
      go_wp2
      go_ret2
      exact ⟨by rw [HS.out]; rfl, Below.refl _ _⟩
/-- a box that is few -/
def Few (w : World) (b : Nat) (A : Option Addr) (l : List Int) (c : Nat) : Prop := w.heap[b]? = some (.cells #[.iface 78 (.agg #[.slice A l.length c])] 75 (0, 0))
theorem Few.below {w w' : World} {b : Nat} {A : Option Addr} {l : List Int} {c : Nat} (h : Few w b A l c) (hb : Below w.heap.size w w') : Few w' b A l c := by
  unfold Few
  rw [hb.block b (blk_lt h)]
  exact h
set_option maxRecDepth 100000 in
set_option maxHeartbeats 1000000 in
theorem boxNew (w : World) :
    Calls Tryz.prog 38 #[] w fun e w' => ∃ b, e = .returned (.pointer (some ⟨b, 0, none⟩)) ∧ w.heap.size ≤ b ∧ Few w' b none [] 0 ∧ Below w.heap.size w w' := by
  go_enter Tryz.func38, Tryz.ntmps38
  go_wp2
  go_ret
  exact ⟨_, rfl, Nat.le_refl _, heap_alloc_new _ _, (Below.refl _ _).alloc (Nat.le_refl _) _⟩
theorem boxKept (b : Nat) (A : Option Addr) (n c : Nat) (w : World) (q0 : w.cell? ⟨b, 0, none⟩ = some (.iface 78 (.agg #[.slice A n c]))) :
    Calls Tryz.prog 37 #[.pointer (some ⟨b, 0, none⟩)] w fun e w' => e = .returned (.iface 78 (.agg #[.slice A n c])) ∧ Below w.heap.size w w' := by
  go_enter Tryz.func37, Tryz.ntmps37
  go_wp2
  go_ret
  exact ⟨rfl, Below.refl _ _⟩
/-- the i-th number, or none, of a looked-up place -/
theorem arrSelect' (A : Option Addr) (c : Nat) (l : List Int) (k : Int) (w : World) (hr : Rd .u16 w A l) :
    Calls Tryz.prog 149 #[.slice A l.length c, .int .i64 k] w fun e w' => ∃ (x : Int) (b : Bool), e = .returned (.tuple #[.int .u16 x, .bool b]) ∧ Hid (selR l k = (x, b)) ∧ Below w.heap.size w w' :=
  (arrSelect A c l k w hr).mono fun e w' ⟨he, hb⟩ => ⟨_, _, he, rfl, hb⟩
/-- array.Next, array.Prev -/
def nextR (l : List Int) (v : Int) : Int × Bool := selR l (lowr l v)
def prevR (l : List Int) (v : Int) : Int × Bool := if isIn l v then (v, true) else selR l ((lowr l v : Int) - 1)
set_option maxRecDepth 100000 in
set_option maxHeartbeats 1000000 in
theorem arrNext (A : Option Addr) (c : Nat) (l : List Int) (v : Int) (w : World) (hr : Rd .u16 w A l) (hR : Rise l) (hlen : l.length ≤ 900000) :
    Calls Tryz.prog 147 #[.slice A l.length c, .int .u16 v] w fun e w' => e = .returned (.tuple #[.int .u16 (nextR l v).1, .bool (nextR l v).2]) ∧ Below w.heap.size w w' := by
  have HR := Lib.hid hr
  have HRI := Lib.hid hR
  clear hr hR
  go_enter Tryz.func147, Tryz.ntmps147
  go_wp2_with fail
  refine (bsearch16 A c l v _ HR.out HRI.out (by omega)).mono ?_
  rintro e w1 ⟨i, b, rfl, HI, HB, hb1⟩
  have HN := Lib.hid (show nextR l v = selR l i by unfold nextR; rw [HI.out])
  go_wp2_with fail
  refine (arrSelect' A c l i _ (HR.out.below hb1)).mono ?_
  rintro e w2 ⟨x, y, rfl, HX, hb2⟩
  go_wp2
  go_ret2
  exact ⟨by rw [HN.out, HX.out]; rfl, below_then hb1 hb2⟩
set_option maxRecDepth 100000 in
set_option maxHeartbeats 1000000 in
theorem arrPrev (A : Option Addr) (c : Nat) (l : List Int) (v : Int) (w : World) (hr : Rd .u16 w A l) (hR : Rise l) (hlen : l.length ≤ 900000) :
    Calls Tryz.prog 148 #[.slice A l.length c, .int .u16 v] w fun e w' => e = .returned (.tuple #[.int .u16 (prevR l v).1, .bool (prevR l v).2]) ∧ Below w.heap.size w w' := by
  have HR := Lib.hid hr
  have HRI := Lib.hid hR
  clear hr hR
  go_enter Tryz.func148, Tryz.ntmps148
  go_wp2_with fail
  refine (bsearch16 A c l v _ HR.out HRI.out (by omega)).mono ?_
  rintro e w1 ⟨i, b, rfl, HI, HB, hb1⟩
  have hi : i ≤ 900000 := by rw [HI.out]; exact Nat.le_trans (lowr_le _ _) hlen
  cases b
  · have HN := Lib.hid (show prevR l v = selR l ((i : Int) - 1) by unfold prevR; rw [← HB.out, HI.out]; rfl)
    go_wp2_with fail
    refine (arrSelect' A c l ((i : Int) - 1) _ (HR.out.below hb1)).mono ?_
    rintro e w2 ⟨x, y, rfl, HX, hb2⟩
    go_wp2
    go_ret2
    exact ⟨by rw [HN.out, HX.out]; rfl, below_then hb1 hb2⟩
  · have HN := Lib.hid (show prevR l v = (v, true) by unfold prevR; rw [← HB.out]; rfl)
    go_wp2
    go_ret2
    exact ⟨by rw [HN.out]; rfl, hb1⟩
theorem fewMeth_has (x : Value) (w : World) : (method 292 78 (.agg #[x]) "stepstone/box.has").run Tryz.prog w = .ok (139, .agg #[x]) w := by kernel_rfl
theorem fewMeth_size (x : Value) (w : World) : (method 292 78 (.agg #[x]) "stepstone/box.size").run Tryz.prog w = .ok (145, .agg #[x]) w := by kernel_rfl
theorem fewMeth_next (x : Value) (w : World) : (method 292 78 (.agg #[x]) "stepstone/box.next").run Tryz.prog w = .ok (142, .agg #[x]) w := by kernel_rfl
theorem fewMeth_prev (x : Value) (w : World) : (method 292 78 (.agg #[x]) "stepstone/box.prev").run Tryz.prog w = .ok (143, .agg #[x]) w := by kernel_rfl
theorem fewMeth_cost (x : Value) (w : World) : (method 292 78 (.agg #[x]) "stepstone/box.cost").run Tryz.prog w = .ok (138, .agg #[x]) w := by kernel_rfl
theorem fewMeth_list (x : Value) (w : World) : (method 292 78 (.agg #[x]) "stepstone/box.list").run Tryz.prog w = .ok (141, .agg #[x]) w := by kernel_rfl

set_option maxRecDepth 100000 in
set_option maxHeartbeats 1000000 in
theorem fewHas (A : Option Addr) (c : Nat) (l : List Int) (v : Int) (w : World) (hr : Rd .u16 w A l) (hR : Rise l) (hlen : l.length ≤ 900000) :
    Calls Tryz.prog 139 #[.agg #[.slice A l.length c], .int .u16 v] w fun e w' => ∃ r : Bool, e = .returned (.bool r) ∧ Hid (r = isIn l v) ∧ Below w.heap.size w w' := by
  have HR := Lib.hid hr
  have HRI := Lib.hid hR
  clear hr hR
  go_enter Tryz.func139, Tryz.ntmps139
  go_wp2_with fail
  refine ((arrHas A c l v _ (HR.out.below ((Below.refl _ _).alloc (Nat.le_refl _) _)) HRI.out hlen)).mono ?_
  rintro e w1 ⟨r, rfl, HV, hb1⟩
  go_wp2
  go_ret
  exact ⟨r, rfl, HV, ((Below.refl _ _).alloc (Nat.le_refl _) _).trans (hb1.mono (by simp))⟩
set_option maxRecDepth 100000 in
set_option maxHeartbeats 1000000 in
theorem fewNext (A : Option Addr) (c : Nat) (l : List Int) (v : Int) (w : World) (hr : Rd .u16 w A l) (hR : Rise l) (hlen : l.length ≤ 900000) :
    Calls Tryz.prog 142 #[.agg #[.slice A l.length c], .int .u16 v] w fun e w' => e = .returned (.tuple #[.int .u16 (nextR l v).1, .bool (nextR l v).2]) ∧ Below w.heap.size w w' := by
  have HR := Lib.hid hr
  have HRI := Lib.hid hR
  clear hr hR
  go_enter Tryz.func142, Tryz.ntmps142
  go_wp2_with fail
  refine ((arrNext A c l v _ (HR.out.below ((Below.refl _ _).alloc (Nat.le_refl _) _)) HRI.out hlen)).mono ?_
  rintro e w1 ⟨rfl, hb1⟩
  go_wp2
  go_ret2
  exact ⟨rfl, ((Below.refl _ _).alloc (Nat.le_refl _) _).trans (hb1.mono (by simp))⟩
set_option maxRecDepth 100000 in
set_option maxHeartbeats 1000000 in
theorem fewPrev (A : Option Addr) (c : Nat) (l : List Int) (v : Int) (w : World) (hr : Rd .u16 w A l) (hR : Rise l) (hlen : l.length ≤ 900000) :
    Calls Tryz.prog 143 #[.agg #[.slice A l.length c], .int .u16 v] w fun e w' => e = .returned (.tuple #[.int .u16 (prevR l v).1, .bool (prevR l v).2]) ∧ Below w.heap.size w w' := by
  have HR := Lib.hid hr
  have HRI := Lib.hid hR
  clear hr hR
  go_enter Tryz.func143, Tryz.ntmps143
  go_wp2_with fail
  refine ((arrPrev A c l v _ (HR.out.below ((Below.refl _ _).alloc (Nat.le_refl _) _)) HRI.out hlen)).mono ?_
  rintro e w1 ⟨rfl, hb1⟩
  go_wp2
  go_ret2
  exact ⟨rfl, ((Below.refl _ _).alloc (Nat.le_refl _) _).trans (hb1.mono (by simp))⟩
set_option maxRecDepth 100000 in
set_option maxHeartbeats 1000000 in
theorem fewList (A : Option Addr) (c : Nat) (l : List Int)  (w : World) (hr : Rd .u16 w A l) (hR : Rise l) (hlen : l.length ≤ 900000) :
    Calls Tryz.prog 141 #[.agg #[.slice A l.length c]] w fun e w' => ∃ v, e = .returned v ∧ Own .u16 50 w' w.heap.size v l ∧ Below w.heap.size w w' := by
  have HR := Lib.hid hr
  have HRI := Lib.hid hR
  clear hr hR
  go_enter Tryz.func141, Tryz.ntmps141
  go_wp2_with fail
  refine ((clone16 A c l _ (HR.out.below ((Below.refl _ _).alloc (Nat.le_refl _) _)) (by omega))).mono ?_
  rintro e w1 ⟨v, rfl, ho, hb1⟩
  go_wp2
  go_ret
  exact ⟨v, rfl, ho.mono (by simp), ((Below.refl _ _).alloc (Nat.le_refl _) _).trans (hb1.mono (by simp))⟩
set_option maxRecDepth 100000 in
theorem fewSize (A : Option Addr) (n c : Nat) (w : World) :
    Calls Tryz.prog 145 #[.agg #[.slice A n c]] w fun e w' => e = .returned (.int .i64 n) ∧ Below w.heap.size w w' := by
  go_enter Tryz.func145, Tryz.ntmps145
  go_wp2
  go_ret
  exact ⟨rfl, (Below.refl _ _).alloc (Nat.le_refl _) _⟩
set_option maxRecDepth 100000 in
theorem fewCost (A : Option Addr) (n c : Nat) (w : World) :
    Calls Tryz.prog 138 #[.agg #[.slice A n c]] w fun e w' => e = .returned (.int .i64 n) ∧ Below w.heap.size w w' := by
  go_enter Tryz.func138, Tryz.ntmps138
  go_wp2
  go_ret
  exact ⟨rfl, (Below.refl _ _).alloc (Nat.le_refl _) _⟩
set_option maxRecDepth 100000 in
set_option maxHeartbeats 1000000 in
theorem boxHas (b : Nat) (A : Option Addr) (c : Nat) (l : List Int) (v : Int) (w : World) (hb : Few w b A l c) (hr : Rd .u16 w A l) (hR : Rise l) (hlen : l.length ≤ 900000) :
    Calls Tryz.prog 32 #[.pointer (some ⟨b, 0, none⟩), .int .u16 v] w fun e w' => ∃ r : Bool, e = .returned (.bool r) ∧ Hid (r = isIn l v) ∧ Below w.heap.size w w' := by
  have HR := Lib.hid hr
  have HRI := Lib.hid hR
  have q0 := blk_cell hb 0 rfl
  have hm := fun w => fewMeth_has (.slice A l.length c) w
  clear hr hR hb
  go_enter Tryz.func32, Tryz.ntmps32
  go_wp2_with fail
  refine (boxKept b A l.length c _ q0).mono ?_
  rintro e w1 ⟨rfl, hb1⟩
  go_wp2_with fail
  refine (fewHas A c l v _ (HR.out.below hb1) HRI.out hlen).mono ?_
  rintro e w2 ⟨r, rfl, HV, hb2⟩
  go_wp2
  go_ret
  exact ⟨r, rfl, HV, below_then hb1 hb2⟩
set_option maxRecDepth 100000 in
set_option maxHeartbeats 1000000 in
theorem boxNext (b : Nat) (A : Option Addr) (c : Nat) (l : List Int) (v : Int) (w : World) (hb : Few w b A l c) (hr : Rd .u16 w A l) (hR : Rise l) (hlen : l.length ≤ 900000) :
    Calls Tryz.prog 23 #[.pointer (some ⟨b, 0, none⟩), .int .u16 v] w fun e w' => e = .returned (.tuple #[.int .u16 (nextR l v).1, .bool (nextR l v).2]) ∧ Below w.heap.size w w' := by
  have HR := Lib.hid hr
  have HRI := Lib.hid hR
  have q0 := blk_cell hb 0 rfl
  have hm := fun w => fewMeth_next (.slice A l.length c) w
  clear hr hR hb
  go_enter Tryz.func23, Tryz.ntmps23
  go_wp2_with fail
  refine (boxKept b A l.length c _ q0).mono ?_
  rintro e w1 ⟨rfl, hb1⟩
  go_wp2_with fail
  refine (fewNext A c l v _ (HR.out.below hb1) HRI.out hlen).mono ?_
  rintro e w2 ⟨rfl, hb2⟩
  go_wp2
  go_ret2
  exact ⟨rfl, below_then hb1 hb2⟩
set_option maxRecDepth 100000 in
set_option maxHeartbeats 1000000 in
theorem boxPrev (b : Nat) (A : Option Addr) (c : Nat) (l : List Int) (v : Int) (w : World) (hb : Few w b A l c) (hr : Rd .u16 w A l) (hR : Rise l) (hlen : l.length ≤ 900000) :
    Calls Tryz.prog 27 #[.pointer (some ⟨b, 0, none⟩), .int .u16 v] w fun e w' => e = .returned (.tuple #[.int .u16 (prevR l v).1, .bool (prevR l v).2]) ∧ Below w.heap.size w w' := by
  have HR := Lib.hid hr
  have HRI := Lib.hid hR
  have q0 := blk_cell hb 0 rfl
  have hm := fun w => fewMeth_prev (.slice A l.length c) w
  clear hr hR hb
  go_enter Tryz.func27, Tryz.ntmps27
  go_wp2_with fail
  refine (boxKept b A l.length c _ q0).mono ?_
  rintro e w1 ⟨rfl, hb1⟩
  go_wp2_with fail
  refine (fewPrev A c l v _ (HR.out.below hb1) HRI.out hlen).mono ?_
  rintro e w2 ⟨rfl, hb2⟩
  go_wp2
  go_ret2
  exact ⟨rfl, below_then hb1 hb2⟩
set_option maxRecDepth 100000 in
set_option maxHeartbeats 1000000 in
theorem boxLen (b : Nat) (A : Option Addr) (c : Nat) (l : List Int)  (w : World) (hb : Few w b A l c) (hr : Rd .u16 w A l) (hR : Rise l) (hlen : l.length ≤ 900000) :
    Calls Tryz.prog 33 #[.pointer (some ⟨b, 0, none⟩)] w fun e w' => e = .returned (.int .i64 l.length) ∧ Below w.heap.size w w' := by
  have HR := Lib.hid hr
  have HRI := Lib.hid hR
  have q0 := blk_cell hb 0 rfl
  have hm := fun w => fewMeth_size (.slice A l.length c) w
  clear hr hR hb
  go_enter Tryz.func33, Tryz.ntmps33
  go_wp2_with fail
  refine (boxKept b A l.length c _ q0).mono ?_
  rintro e w1 ⟨rfl, hb1⟩
  go_wp2_with fail
  refine (fewSize A l.length c _).mono ?_
  rintro e w2 ⟨rfl, hb2⟩
  go_wp2
  go_ret
  exact ⟨rfl, below_then hb1 hb2⟩
set_option maxRecDepth 100000 in
set_option maxHeartbeats 1000000 in
theorem boxCost (b : Nat) (A : Option Addr) (c : Nat) (l : List Int)  (w : World) (hb : Few w b A l c) (hr : Rd .u16 w A l) (hR : Rise l) (hlen : l.length ≤ 900000) :
    Calls Tryz.prog 58 #[.pointer (some ⟨b, 0, none⟩)] w fun e w' => e = .returned (.int .i64 l.length) ∧ Below w.heap.size w w' := by
  have HR := Lib.hid hr
  have HRI := Lib.hid hR
  have q0 := blk_cell hb 0 rfl
  have hm := fun w => fewMeth_cost (.slice A l.length c) w
  clear hr hR hb
  go_enter Tryz.func58, Tryz.ntmps58
  go_wp2_with fail
  refine (boxKept b A l.length c _ q0).mono ?_
  rintro e w1 ⟨rfl, hb1⟩
  go_wp2_with fail
  refine (fewCost A l.length c _).mono ?_
  rintro e w2 ⟨rfl, hb2⟩
  go_wp2
  go_ret
  exact ⟨rfl, below_then hb1 hb2⟩
end Go.Proofs.YtpmkcjpifedbkaaGreat
