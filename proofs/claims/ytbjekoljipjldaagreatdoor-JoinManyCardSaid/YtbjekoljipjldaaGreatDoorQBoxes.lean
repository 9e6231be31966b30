/-
  box.Box: Kind, Len, Has, Next, List, walked, over each way to keep numbers; a nil one.
  box.Box: New, Kind, turn, bitmap, walked.
  box.Box: bitmap, plain, Plain, Of, walked.
-/
import Derived.Test.YtbjekoljipjldaaGreatDoorQRuns
namespace Go.Proofs.YtbjekoljipjldaaGreatDoor
set_option linter.unusedVariables false
set_option linter.unusedSimpArgs false
open Go.RowKit

theorem OwnN.rd {w : World} {base : Nat} {A : Option Addr} {c : Nat} {R : List (Nat × Nat)} (h : OwnN w base (.slice A R.length c) R) : RdN w A R := by
  obtain ⟨A', c', e, _, h2, _⟩ := h.formS
  injection e with e1 e2 e3
  subst e1
  exact h2
/-- numbers kept in one way: 1 few, 2 many, 3 long -/
def Keeps (w : World) (base : Nat) (x : Value) (k : Int) (p : Nat → Bool) : Prop :=
  (k = 1 ∧ ∃ A c, x = .iface 78 (.agg #[.slice A (L p).length c]) ∧ (L p).length ≤ c ∧ Own .u16 43 w base (.slice A (L p).length c) (L p)) ∨
  (k = 2 ∧ ∃ b s d ws, x = .iface 83 (.agg #[.pointer (some ⟨b, 0, none⟩)]) ∧ base ≤ b ∧ base ≤ s ∧ base ≤ d ∧ Bm w b s d ws ∧ ∀ i, i < 65536 → wbit ws i = p i) ∨
  (k = 3 ∧ ∃ A c R, x = .iface 87 (.agg #[.slice A R.length c]) ∧ OwnN w base (.slice A R.length c) R ∧ RunsOf R p ∧ R.length ≤ 65536)
theorem Keeps.below {w w' : World} {base : Nat} {x : Value} {k : Int} {p : Nat → Bool} (h : Keeps w base x k p) (hb : Below w.heap.size w w') : Keeps w' base x k p := by
  rcases h with ⟨h, A, c, h1, h2, h3⟩ | ⟨h, b, s, d, ws, h1, h2, h3, h4, h5, h6⟩ | ⟨h, A, c, R, h1, h2, h3, h4⟩
  · exact .inl ⟨h, A, c, h1, h2, h3.below hb⟩
  · exact .inr (.inl ⟨h, b, s, d, ws, h1, h2, h3, h4, h5.below hb, h6⟩)
  · exact .inr (.inr ⟨h, A, c, R, h1, h2.below hb, h3, h4⟩)
theorem Keeps.mono {w : World} {base base' : Nat} {x : Value} {k : Int} {p : Nat → Bool} (h : Keeps w base x k p) (hb : base' ≤ base) : Keeps w base' x k p := by
  rcases h with ⟨h, A, c, h1, h2, h3⟩ | ⟨h, b, s, d, ws, h1, h2, h3, h4, h5, h6⟩ | ⟨h, A, c, R, h1, h2, h3, h4⟩
  · exact .inl ⟨h, A, c, h1, h2, h3.mono hb⟩
  · exact .inr (.inl ⟨h, b, s, d, ws, h1, by omega, by omega, by omega, h5, h6⟩)
  · exact .inr (.inr ⟨h, A, c, R, h1, h2.mono hb, h3, h4⟩)
theorem RunsOf.congr {R : List (Nat × Nat)} {p q : Nat → Bool} (h : RunsOf R p) (hpq : ∀ i, i < 65536 → p i = q i) : RunsOf R q := ⟨h.1, by rw [h.2, LN_eq, LN_eq]; exact bl_congr 65536 hpq⟩
theorem Keeps.congr {w : World} {base : Nat} {x : Value} {k : Int} {p q : Nat → Bool} (h : Keeps w base x k p) (hpq : ∀ i, i < 65536 → p i = q i) : Keeps w base x k q := by
  rcases h with ⟨h, A, c, h1, h2, h3⟩ | ⟨h, b, s, d, ws, h1, h2, h3, h4, h5, h6⟩ | ⟨h, A, c, R, h1, h2, h3, h4⟩
  · rw [L_congr hpq] at h1 h2 h3
    exact .inl ⟨h, A, c, h1, h2, h3⟩
  · exact .inr (.inl ⟨h, b, s, d, ws, h1, h2, h3, h4, h5, fun i hi => (h6 i hi).trans (hpq i hi)⟩)
  · exact .inr (.inr ⟨h, A, c, R, h1, h2, h3.congr hpq, h4⟩)
/-- a box -/
def Box (w : World) (base b : Nat) (k : Int) (p : Nat → Bool) : Prop := ∃ x, w.heap[b]? = some (.cells #[x] 70 (0, 0)) ∧ base ≤ b ∧ Keeps w base x k p
theorem Box.below {w w' : World} {base b : Nat} {k : Int} {p : Nat → Bool} (h : Box w base b k p) (hb : Below w.heap.size w w') : Box w' base b k p := by
  obtain ⟨x, h1, h2, h3⟩ := h
  exact ⟨x, by rw [hb.block b (blk_lt h1)]; exact h1, h2, h3.below hb⟩
theorem Box.mono {w : World} {base base' b : Nat} {k : Int} {p : Nat → Bool} (h : Box w base b k p) (hb : base' ≤ base) : Box w base' b k p := by
  obtain ⟨x, h1, h2, h3⟩ := h
  exact ⟨x, h1, by omega, h3.mono hb⟩
theorem Box.congr {w : World} {base b : Nat} {k : Int} {p q : Nat → Bool} (h : Box w base b k p) (hpq : ∀ i, i < 65536 → p i = q i) : Box w base b k q := by
  obtain ⟨x, h1, h2, h3⟩ := h
  exact ⟨x, h1, h2, h3.congr hpq⟩
/-- a box, or a nil one -/
def BoxV (w : World) (base : Nat) (v : Value) (p : Nat → Bool) : Prop := (v = .pointer none ∧ ∀ i, i < 65536 → p i = false) ∨ ∃ b k, v = .pointer (some ⟨b, 0, none⟩) ∧ Box w base b k p
theorem BoxV.below {w w' : World} {base : Nat} {v : Value} {p : Nat → Bool} (h : BoxV w base v p) (hb : Below w.heap.size w w') : BoxV w' base v p := by
  rcases h with h | ⟨b, k, h1, h2⟩
  · exact .inl h
  · exact .inr ⟨b, k, h1, h2.below hb⟩
theorem BoxV.mono {w : World} {base base' : Nat} {v : Value} {p : Nat → Bool} (h : BoxV w base v p) (hb : base' ≤ base) : BoxV w base' v p := by
  rcases h with h | ⟨b, k, h1, h2⟩
  · exact .inl h
  · exact .inr ⟨b, k, h1, h2.mono hb⟩
theorem L_none {p : Nat → Bool} (h : ∀ i, i < 65536 → p i = false) : L p = [] := by
  rcases hl : L p with _ | ⟨x, l⟩
  · rfl
  · have hx : x ∈ L p := by rw [hl]; simp
    obtain ⟨i, rfl, h1, h2⟩ := mem_LI.1 hx
    rw [h i h1] at h2
    cases h2
def noneP : Nat → Bool := fun _ => false
theorem L_noneP : L noneP = [] := L_none (fun _ _ => rfl)
theorem boxKept (b : Nat) (x : Value) (w : World) (q0 : w.cell? ⟨b, 0, none⟩ = some x) :
    Calls Tryz.prog 51 #[.pointer (some ⟨b, 0, none⟩)] w fun e w' => e = .returned x ∧ w' = w := by
  go_enter Tryz.func51, Tryz.ntmps51
  go_wp2
  go_ret
  exact ⟨rfl, rfl⟩
theorem nilKept (w : World) :
    Calls Tryz.prog 51 #[.pointer none] w fun e w' => e = .returned (.iface 78 (.agg #[.slice none 0 0])) ∧ w' = w := by
  go_enter Tryz.func51, Tryz.ntmps51
  go_wp2
  go_ret
  exact ⟨rfl, rfl⟩
set_option maxRecDepth 100000 in
set_option maxHeartbeats 1000000 in
theorem bx0Len (w : World) :
    Calls Tryz.prog 27 #[.pointer none] w fun e w' => e = .returned (.int .i64 (0 : Nat)) ∧ Below w.heap.size w w' := by
  have hm := fun w => m1_size (.slice none 0 0) w
  go_enter Tryz.func27, Tryz.ntmps27
  go_wp2_with fail
  refine (nilKept _).mono ?_
  rintro e w1 ⟨rfl, rfl⟩
  go_wp2_with fail
  refine (k1Size none 0 0 _).mono ?_
  rintro e w1 ⟨rfl, hb1⟩
  go_wp2
  (go_ret; exact ⟨rfl, hb1⟩)
set_option maxRecDepth 100000 in
set_option maxHeartbeats 1000000 in
theorem bx0Has (w : World) (v : Nat) (hv : v < 65536) :
    Calls Tryz.prog 29 #[.pointer none, .int .u16 (v : Nat)] w fun e w' => e = .returned (.bool false) ∧ Below w.heap.size w w' := by
  have hm := fun w => m1_has (.slice none 0 0) w; have HK := Lib.hid (fun w => by have := k1Has none 0 noneP v w (by rw [L_noneP]; exact Rd.nil _ _ _) hv; rwa [L_noneP] at this)
  go_enter Tryz.func29, Tryz.ntmps29
  go_wp2_with fail
  refine (nilKept _).mono ?_
  rintro e w1 ⟨rfl, rfl⟩
  go_wp2_with fail
  refine (HK.out _).mono ?_
  rintro e w1 ⟨rfl, hb1⟩
  go_wp2
  (go_ret; exact ⟨rfl, hb1⟩)
set_option maxRecDepth 100000 in
set_option maxHeartbeats 1000000 in
theorem bx0Next (w : World) (v : Nat) (hv : v < 65536) :
    Calls Tryz.prog 44 #[.pointer none, .int .u16 (v : Nat)] w fun e w' => ∃ x : Int, e = .returned (.tuple #[.int .u16 (toldR x).1, .bool (toldR x).2]) ∧ Hid (NextB noneP v 65536 x) ∧ Below w.heap.size w w' := by
  have hm := fun w => m1_next (.slice none 0 0) w; have HK := Lib.hid (fun w => by have := k1Next none 0 noneP v w (by rw [L_noneP]; exact Rd.nil _ _ _); rwa [L_noneP] at this)
  go_enter Tryz.func44, Tryz.ntmps44
  go_wp2_with fail
  refine (nilKept _).mono ?_
  rintro e w1 ⟨rfl, rfl⟩
  go_wp2_with fail
  refine (HK.out _).mono ?_
  rintro e w1 ⟨x, rfl, HX, hb1⟩
  go_wp2
  (go_ret2; exact ⟨x, rfl, HX, hb1⟩)
set_option maxRecDepth 100000 in
set_option maxHeartbeats 1000000 in
theorem bx0List (w : World) :
    Calls Tryz.prog 25 #[.pointer none] w fun e w' => ∃ v, e = .returned v ∧ Own .u16 43 w' w.heap.size v [] ∧ Below w.heap.size w w' := by
  have hm := fun w => m1_list (.slice none 0 0) w; have HK := Lib.hid (fun w => by have := k1List none 0 noneP w (by rw [L_noneP]; exact Rd.nil _ _ _); rwa [L_noneP] at this)
  go_enter Tryz.func25, Tryz.ntmps25
  go_wp2_with fail
  refine (nilKept _).mono ?_
  rintro e w1 ⟨rfl, rfl⟩
  go_wp2_with fail
  refine (HK.out _).mono ?_
  rintro e w1 ⟨v, rfl, ho, hb1⟩
  go_wp2
  (go_ret; exact ⟨v, rfl, ho, hb1⟩)
set_option maxRecDepth 100000 in
set_option maxHeartbeats 1000000 in
theorem bx1Len (b : Nat) (A : Option Addr) (c : Nat) (p : Nat → Bool) (w : World) (q0 : w.cell? ⟨b, 0, none⟩ = some (.iface 78 (.agg #[.slice A (L p).length c]))) :
    Calls Tryz.prog 27 #[.pointer (some ⟨b, 0, none⟩)] w fun e w' => e = .returned (.int .i64 ((L p).length : Nat)) ∧ Below w.heap.size w w' := by
  have HQ := Lib.hid q0; clear q0; have hm := fun w => m1_size (.slice A (L p).length c) w
  go_enter Tryz.func27, Tryz.ntmps27
  go_wp2_with fail
  refine (boxKept b _ _ HQ.out).mono ?_
  rintro e w1 ⟨rfl, rfl⟩
  go_wp2_with fail
  refine (k1Size A _ c _).mono ?_
  rintro e w1 ⟨rfl, hb1⟩
  go_wp2
  (go_ret; exact ⟨rfl, hb1⟩)
set_option maxRecDepth 100000 in
set_option maxHeartbeats 1000000 in
theorem bx2Len (b m s d : Nat) (ws : List Nat) (w : World) (q0 : w.cell? ⟨b, 0, none⟩ = some (.iface 83 (.agg #[.pointer (some ⟨m, 0, none⟩)]))) (hB : Bm w m s d ws) :
    Calls Tryz.prog 27 #[.pointer (some ⟨b, 0, none⟩)] w fun e w' => e = .returned (.int .i64 (size ws : Nat)) ∧ Below w.heap.size w w' := by
  have HQ := Lib.hid q0; have HB := Lib.hid hB; clear q0 hB; have hm := fun w => m2_size (.pointer (some ⟨m, 0, none⟩)) w
  go_enter Tryz.func27, Tryz.ntmps27
  go_wp2_with fail
  refine (boxKept b _ _ HQ.out).mono ?_
  rintro e w1 ⟨rfl, rfl⟩
  go_wp2_with fail
  refine (k2Size m s d ws _ HB.out).mono ?_
  rintro e w1 ⟨rfl, hb1⟩
  go_wp2
  (go_ret; exact ⟨rfl, hb1⟩)
set_option maxRecDepth 100000 in
set_option maxHeartbeats 1000000 in
theorem bx3Len (b : Nat) (A : Option Addr) (c : Nat) (R : List (Nat × Nat)) (p : Nat → Bool) (w : World) (q0 : w.cell? ⟨b, 0, none⟩ = some (.iface 87 (.agg #[.slice A R.length c]))) (hr : RdN w A R) (hp : RunsOf R p) (hl : R.length ≤ 65536) :
    Calls Tryz.prog 27 #[.pointer (some ⟨b, 0, none⟩)] w fun e w' => e = .returned (.int .i64 ((L p).length : Nat)) ∧ Below w.heap.size w w' := by
  have HQ := Lib.hid q0; have HR := Lib.hid hr; have HP := Lib.hid hp; clear q0 hr hp; have hm := fun w => m3_size (.slice A R.length c) w
  go_enter Tryz.func27, Tryz.ntmps27
  go_wp2_with fail
  refine (boxKept b _ _ HQ.out).mono ?_
  rintro e w1 ⟨rfl, rfl⟩
  go_wp2_with fail
  refine (k3Size A c R p _ HR.out HP.out hl).mono ?_
  rintro e w1 ⟨rfl, hb1⟩
  go_wp2
  (go_ret; exact ⟨rfl, hb1⟩)
set_option maxRecDepth 100000 in
set_option maxHeartbeats 1000000 in
theorem bx1Has (b : Nat) (A : Option Addr) (c : Nat) (p : Nat → Bool) (v : Nat) (w : World) (q0 : w.cell? ⟨b, 0, none⟩ = some (.iface 78 (.agg #[.slice A (L p).length c]))) (hr : Rd .u16 w A (L p)) (hv : v < 65536) :
    Calls Tryz.prog 29 #[.pointer (some ⟨b, 0, none⟩), .int .u16 (v : Nat)] w fun e w' => e = .returned (.bool (p v)) ∧ Below w.heap.size w w' := by
  have HQ := Lib.hid q0; have HR := Lib.hid hr; clear q0 hr; have hm := fun w => m1_has (.slice A (L p).length c) w
  go_enter Tryz.func29, Tryz.ntmps29
  go_wp2_with fail
  refine (boxKept b _ _ HQ.out).mono ?_
  rintro e w1 ⟨rfl, rfl⟩
  go_wp2_with fail
  refine (k1Has A c p v _ HR.out hv).mono ?_
  rintro e w1 ⟨rfl, hb1⟩
  go_wp2
  (go_ret; exact ⟨rfl, hb1⟩)
set_option maxRecDepth 100000 in
set_option maxHeartbeats 1000000 in
theorem bx2Has (b m s d : Nat) (ws : List Nat) (v : Nat) (w : World) (q0 : w.cell? ⟨b, 0, none⟩ = some (.iface 83 (.agg #[.pointer (some ⟨m, 0, none⟩)]))) (hB : Bm w m s d ws) (hv : v < 65536) :
    Calls Tryz.prog 29 #[.pointer (some ⟨b, 0, none⟩), .int .u16 (v : Nat)] w fun e w' => e = .returned (.bool (wbit ws v)) ∧ Below w.heap.size w w' := by
  have HQ := Lib.hid q0; have HB := Lib.hid hB; clear q0 hB; have hm := fun w => m2_has (.pointer (some ⟨m, 0, none⟩)) w
  go_enter Tryz.func29, Tryz.ntmps29
  go_wp2_with fail
  refine (boxKept b _ _ HQ.out).mono ?_
  rintro e w1 ⟨rfl, rfl⟩
  go_wp2_with fail
  refine (k2Has m s d ws v _ HB.out hv).mono ?_
  rintro e w1 ⟨rfl, hb1⟩
  go_wp2
  (go_ret; exact ⟨rfl, hb1⟩)
set_option maxRecDepth 100000 in
set_option maxHeartbeats 1000000 in
theorem bx3Has (b : Nat) (A : Option Addr) (c : Nat) (R : List (Nat × Nat)) (p : Nat → Bool) (v : Nat) (w : World) (q0 : w.cell? ⟨b, 0, none⟩ = some (.iface 87 (.agg #[.slice A R.length c]))) (hr : RdN w A R) (hp : RunsOf R p) (hl : R.length ≤ 65536) (hv : v < 65536) :
    Calls Tryz.prog 29 #[.pointer (some ⟨b, 0, none⟩), .int .u16 (v : Nat)] w fun e w' => e = .returned (.bool (p v)) ∧ Below w.heap.size w w' := by
  have HQ := Lib.hid q0; have HR := Lib.hid hr; have HP := Lib.hid hp; clear q0 hr hp; have hm := fun w => m3_has (.slice A R.length c) w
  go_enter Tryz.func29, Tryz.ntmps29
  go_wp2_with fail
  refine (boxKept b _ _ HQ.out).mono ?_
  rintro e w1 ⟨rfl, rfl⟩
  go_wp2_with fail
  refine (k3Has A c R p v _ HR.out HP.out hl hv).mono ?_
  rintro e w1 ⟨rfl, hb1⟩
  go_wp2
  (go_ret; exact ⟨rfl, hb1⟩)
set_option maxRecDepth 100000 in
set_option maxHeartbeats 1000000 in
theorem bx1Next (b : Nat) (A : Option Addr) (c : Nat) (p : Nat → Bool) (v : Nat) (w : World) (q0 : w.cell? ⟨b, 0, none⟩ = some (.iface 78 (.agg #[.slice A (L p).length c]))) (hr : Rd .u16 w A (L p)) :
    Calls Tryz.prog 44 #[.pointer (some ⟨b, 0, none⟩), .int .u16 (v : Nat)] w fun e w' => ∃ x : Int, e = .returned (.tuple #[.int .u16 (toldR x).1, .bool (toldR x).2]) ∧ Hid (NextB p v 65536 x) ∧ Below w.heap.size w w' := by
  have HQ := Lib.hid q0; have HR := Lib.hid hr; clear q0 hr; have hm := fun w => m1_next (.slice A (L p).length c) w
  go_enter Tryz.func44, Tryz.ntmps44
  go_wp2_with fail
  refine (boxKept b _ _ HQ.out).mono ?_
  rintro e w1 ⟨rfl, rfl⟩
  go_wp2_with fail
  refine (k1Next A c p v _ HR.out).mono ?_
  rintro e w1 ⟨x, rfl, HX, hb1⟩
  go_wp2
  (go_ret2; exact ⟨x, rfl, HX, hb1⟩)
set_option maxRecDepth 100000 in
set_option maxHeartbeats 1000000 in
theorem bx2Next (b m s d : Nat) (ws : List Nat) (v : Nat) (w : World) (q0 : w.cell? ⟨b, 0, none⟩ = some (.iface 83 (.agg #[.pointer (some ⟨m, 0, none⟩)]))) (hB : Bm w m s d ws) (hT : Tab64 w) (hv : v < 65536) :
    Calls Tryz.prog 44 #[.pointer (some ⟨b, 0, none⟩), .int .u16 (v : Nat)] w fun e w' => ∃ x : Int, e = .returned (.tuple #[.int .u16 (toldR x).1, .bool (toldR x).2]) ∧ Hid (NextB (wbit ws) v 65536 x) ∧ Below w.heap.size w w' := by
  have HQ := Lib.hid q0; have HB := Lib.hid hB; have HT := Lib.hid hT; clear q0 hB hT; have hm := fun w => m2_next (.pointer (some ⟨m, 0, none⟩)) w
  go_enter Tryz.func44, Tryz.ntmps44
  go_wp2_with fail
  refine (boxKept b _ _ HQ.out).mono ?_
  rintro e w1 ⟨rfl, rfl⟩
  go_wp2_with fail
  refine (k2Next m s d ws v _ HB.out HT.out hv).mono ?_
  rintro e w1 ⟨x, rfl, HX, hb1⟩
  go_wp2
  (go_ret2; exact ⟨x, rfl, HX, hb1⟩)
set_option maxRecDepth 100000 in
set_option maxHeartbeats 1000000 in
theorem bx3Next (b : Nat) (A : Option Addr) (c : Nat) (R : List (Nat × Nat)) (p : Nat → Bool) (v : Nat) (w : World) (q0 : w.cell? ⟨b, 0, none⟩ = some (.iface 87 (.agg #[.slice A R.length c]))) (hr : RdN w A R) (hp : RunsOf R p) (hl : R.length ≤ 65536) (hv : v < 65536) :
    Calls Tryz.prog 44 #[.pointer (some ⟨b, 0, none⟩), .int .u16 (v : Nat)] w fun e w' => ∃ x : Int, e = .returned (.tuple #[.int .u16 (toldR x).1, .bool (toldR x).2]) ∧ Hid (NextB p v 65536 x) ∧ Below w.heap.size w w' := by
  have HQ := Lib.hid q0; have HR := Lib.hid hr; have HP := Lib.hid hp; clear q0 hr hp; have hm := fun w => m3_next (.slice A R.length c) w
  go_enter Tryz.func44, Tryz.ntmps44
  go_wp2_with fail
  refine (boxKept b _ _ HQ.out).mono ?_
  rintro e w1 ⟨rfl, rfl⟩
  go_wp2_with fail
  refine (k3Next A c R p v _ HR.out HP.out hl hv).mono ?_
  rintro e w1 ⟨x, rfl, HX, hb1⟩
  go_wp2
  (go_ret2; exact ⟨x, rfl, HX, hb1⟩)
set_option maxRecDepth 100000 in
set_option maxHeartbeats 1000000 in
theorem bx1List (b : Nat) (A : Option Addr) (c : Nat) (p : Nat → Bool) (w : World) (q0 : w.cell? ⟨b, 0, none⟩ = some (.iface 78 (.agg #[.slice A (L p).length c]))) (hr : Rd .u16 w A (L p)) :
    Calls Tryz.prog 25 #[.pointer (some ⟨b, 0, none⟩)] w fun e w' => ∃ v, e = .returned v ∧ Own .u16 43 w' w.heap.size v (L p) ∧ Below w.heap.size w w' := by
  have HQ := Lib.hid q0; have HR := Lib.hid hr; clear q0 hr; have hm := fun w => m1_list (.slice A (L p).length c) w
  go_enter Tryz.func25, Tryz.ntmps25
  go_wp2_with fail
  refine (boxKept b _ _ HQ.out).mono ?_
  rintro e w1 ⟨rfl, rfl⟩
  go_wp2_with fail
  refine (k1List A c p _ HR.out).mono ?_
  rintro e w1 ⟨v, rfl, ho, hb1⟩
  go_wp2
  (go_ret; exact ⟨v, rfl, ho, hb1⟩)
set_option maxRecDepth 100000 in
set_option maxHeartbeats 1000000 in
theorem bx2List (b m s d : Nat) (ws : List Nat) (p : Nat → Bool) (w : World) (q0 : w.cell? ⟨b, 0, none⟩ = some (.iface 83 (.agg #[.pointer (some ⟨m, 0, none⟩)]))) (hB : Bm w m s d ws) (hT : Tab64 w) (hp : ∀ i, i < 65536 → wbit ws i = p i) :
    Calls Tryz.prog 25 #[.pointer (some ⟨b, 0, none⟩)] w fun e w' => ∃ v, e = .returned v ∧ Own .u16 43 w' w.heap.size v (L p) ∧ Below w.heap.size w w' := by
  have HQ := Lib.hid q0; have HB := Lib.hid hB; have HT := Lib.hid hT; have HP := Lib.hid hp; clear q0 hB hT hp; have hm := fun w => m2_list (.pointer (some ⟨m, 0, none⟩)) w
  go_enter Tryz.func25, Tryz.ntmps25
  go_wp2_with fail
  refine (boxKept b _ _ HQ.out).mono ?_
  rintro e w1 ⟨rfl, rfl⟩
  go_wp2_with fail
  refine (k2List m s d ws p _ HB.out HT.out HP.out).mono ?_
  rintro e w1 ⟨v, rfl, ho, hb1⟩
  go_wp2
  (go_ret; exact ⟨v, rfl, ho, hb1⟩)
set_option maxRecDepth 100000 in
set_option maxHeartbeats 1000000 in
theorem bx3List (b : Nat) (A : Option Addr) (c : Nat) (R : List (Nat × Nat)) (p : Nat → Bool) (w : World) (q0 : w.cell? ⟨b, 0, none⟩ = some (.iface 87 (.agg #[.slice A R.length c]))) (hr : RdN w A R) (hp : RunsOf R p) (hl : R.length ≤ 65536) :
    Calls Tryz.prog 25 #[.pointer (some ⟨b, 0, none⟩)] w fun e w' => ∃ v, e = .returned v ∧ Own .u16 43 w' w.heap.size v (L p) ∧ Below w.heap.size w w' := by
  have HQ := Lib.hid q0; have HR := Lib.hid hr; have HP := Lib.hid hp; clear q0 hr hp; have hm := fun w => m3_list (.slice A R.length c) w
  go_enter Tryz.func25, Tryz.ntmps25
  go_wp2_with fail
  refine (boxKept b _ _ HQ.out).mono ?_
  rintro e w1 ⟨rfl, rfl⟩
  go_wp2_with fail
  refine (k3List A c R p _ HR.out HP.out hl).mono ?_
  rintro e w1 ⟨v, rfl, ho, hb1⟩
  go_wp2
  (go_ret; exact ⟨v, rfl, ho, hb1⟩)
theorem boxLen {base : Nat} (v : Value) (p : Nat → Bool) (w : World) (h : BoxV w base v p) :
    Calls Tryz.prog 27 #[v] w fun e w' => e = .returned (.int .i64 ((L p).length : Nat)) ∧ Below w.heap.size w w' := by
  rcases h with ⟨rfl, h⟩ | ⟨b, k, rfl, x, h0, _, h⟩
  · rw [L_none h]; exact bx0Len w
  · rcases h with ⟨_, A, c, rfl, _, h3⟩ | ⟨_, m, s, d, ws, rfl, _, _, _, h5, h6⟩ | ⟨_, A, c, R, rfl, h2, h3, h4⟩
    · exact bx1Len b A c p w (blk_cell h0 0 rfl)
    · rw [← size_L h6]; exact bx2Len b m s d ws w (blk_cell h0 0 rfl) h5
    · exact bx3Len b A c R p w (blk_cell h0 0 rfl) h2.rd h3 h4
theorem boxHas {base : Nat} (v : Value) (p : Nat → Bool) (i : Nat) (w : World) (h : BoxV w base v p) (hi : i < 65536) :
    Calls Tryz.prog 29 #[v, .int .u16 (i : Nat)] w fun e w' => e = .returned (.bool (p i)) ∧ Below w.heap.size w w' := by
  rcases h with ⟨rfl, h⟩ | ⟨b, k, rfl, x, h0, _, h⟩
  · rw [h i hi]; exact bx0Has w i hi
  · rcases h with ⟨_, A, c, rfl, _, h3⟩ | ⟨_, m, s, d, ws, rfl, _, _, _, h5, h6⟩ | ⟨_, A, c, R, rfl, h2, h3, h4⟩
    · exact bx1Has b A c p i w (blk_cell h0 0 rfl) h3.rd hi
    · rw [← h6 i hi]; exact bx2Has b m s d ws i w (blk_cell h0 0 rfl) h5 hi
    · exact bx3Has b A c R p i w (blk_cell h0 0 rfl) h2.rd h3 h4 hi
theorem NextB.congr {p q : Nat → Bool} {f t : Nat} {v : Int} (h : NextB p f t v) (hpq : ∀ i, i < t → p i = q i) : NextB q f t v := by
  rcases h with ⟨h1, h2⟩ | ⟨i, h1, h2, h3, h4, h5⟩
  · exact .inl ⟨h1, fun i hi1 hi2 => by rw [← hpq i hi2]; exact h2 i hi1 hi2⟩
  · exact .inr ⟨i, h1, h2, h3, by rw [← hpq i h3]; exact h4, fun j hj1 hj2 => by rw [← hpq j (by omega)]; exact h5 j hj1 hj2⟩
theorem boxNext {base : Nat} (v : Value) (p : Nat → Bool) (i : Nat) (w : World) (h : BoxV w base v p) (hT : Tab64 w) (hi : i < 65536) :
    Calls Tryz.prog 44 #[v, .int .u16 (i : Nat)] w fun e w' => ∃ x : Int, e = .returned (.tuple #[.int .u16 (toldR x).1, .bool (toldR x).2]) ∧ Hid (NextB p i 65536 x) ∧ Below w.heap.size w w' := by
  rcases h with ⟨rfl, h⟩ | ⟨b, k, rfl, x, h0, _, h⟩
  · exact (bx0Next w i hi).mono fun e w' ⟨x, h1, h2, h3⟩ => ⟨x, h1, h2.out.congr (fun j hj => (h j hj).symm), h3⟩
  · rcases h with ⟨_, A, c, rfl, _, h3⟩ | ⟨_, m, s, d, ws, rfl, _, _, _, h5, h6⟩ | ⟨_, A, c, R, rfl, h2, h3, h4⟩
    · exact bx1Next b A c p i w (blk_cell h0 0 rfl) h3.rd
    · exact (bx2Next b m s d ws i w (blk_cell h0 0 rfl) h5 hT hi).mono fun e w' ⟨x, h1, h2, h3⟩ => ⟨x, h1, h2.out.congr h6, h3⟩
    · exact bx3Next b A c R p i w (blk_cell h0 0 rfl) h2.rd h3 h4 hi
theorem boxList {base : Nat} (v : Value) (p : Nat → Bool) (w : World) (h : BoxV w base v p) (hT : Tab64 w) :
    Calls Tryz.prog 25 #[v] w fun e w' => ∃ A c, e = .returned (.slice A (L p).length c) ∧ (L p).length ≤ c ∧ Hid (Own .u16 43 w' w.heap.size (.slice A (L p).length c) (L p)) ∧ Below w.heap.size w w' := by
  have key : Calls Tryz.prog 25 #[v] w fun e w' => ∃ v, e = .returned v ∧ Own .u16 43 w' w.heap.size v (L p) ∧ Below w.heap.size w w' := by
    rcases h with ⟨rfl, h⟩ | ⟨b, k, rfl, x, h0, _, h⟩
    · rw [L_none h]; exact bx0List w
    · rcases h with ⟨_, A, c, rfl, _, h3⟩ | ⟨_, m, s, d, ws, rfl, _, _, _, h5, h6⟩ | ⟨_, A, c, R, rfl, h2, h3, h4⟩
      · exact bx1List b A c p w (blk_cell h0 0 rfl) h3.rd
      · exact bx2List b m s d ws p w (blk_cell h0 0 rfl) h5 hT h6
      · exact bx3List b A c R p w (blk_cell h0 0 rfl) h2.rd h3 h4
  refine key.mono ?_
  rintro e w' ⟨v, rfl, h1, h2⟩
  obtain ⟨A, c, rfl, h3, _, h4⟩ := h1.formS
  exact ⟨A, c, rfl, h3, h4, h2⟩
end Go.Proofs.YtbjekoljipjldaaGreatDoor
namespace Go.Proofs.YtbjekoljipjldaaGreatDoor
set_option linter.unusedVariables false
set_option linter.unusedSimpArgs false
open Go.RowKit

theorem Keeps.grown {w w' : World} {base b : Nat} {x : Value} {k : Int} {p : Nat → Bool} {cs : Array Value} (h : Keeps w base x k p) (hg : w.grownBy w' (some b)) (hb : w.heap[b]? = some (.cells cs 70 (0, 0))) : Keeps w' base x k p := by
  rcases h with ⟨h, A, c, h1, h2, h3⟩ | ⟨h, m, s, d, ws, h1, h2, h3, h4, h5, h6⟩ | ⟨h, A, c, R, h1, h2, h3, h4⟩
  · refine .inl ⟨h, A, c, h1, h2, h3.kept hg (.inr fun e => ?_)⟩
    obtain ⟨cs', hc⟩ := h3.cells b e.symm
    rw [hb] at hc
    cases hc
  · refine .inr (.inl ⟨h, m, s, d, ws, h1, h2, h3, h4, h5.chg (Chg.of_grown (S := (· = b)) hg (fun b' e => by cases e; rfl)) ?_ ?_ ?_, h6⟩)
    · rintro rfl; have := h5.1; rw [hb] at this; cases this
    · rintro rfl; have := h5.2.1; rw [hb] at this; cases this
    · rintro rfl; have := h5.2.2.1; rw [hb] at this; cases this
  · refine .inr (.inr ⟨h, A, c, R, h1, h2.kept hg (fun g e cs' hc => ?_), h3, h4⟩)
    cases e
    rw [hb] at hc
    cases hc
def IsKeep (x : Value) (k : Int) : Prop := (k = 1 ∧ ∃ y, x = .iface 78 (.agg #[y])) ∨ (k = 2 ∧ ∃ y, x = .iface 83 (.agg #[y])) ∨ (k = 3 ∧ ∃ y, x = .iface 87 (.agg #[y]))
theorem Keeps.is {w : World} {base : Nat} {x : Value} {k : Int} {p : Nat → Bool} (h : Keeps w base x k p) : IsKeep x k := by
  rcases h with ⟨h, A, c, h1, _⟩ | ⟨h, m, s, d, ws, h1, _⟩ | ⟨h, A, c, R, h1, _⟩
  · exact .inl ⟨h, _, h1⟩
  · exact .inr (.inl ⟨h, _, h1⟩)
  · exact .inr (.inr ⟨h, _, h1⟩)
set_option maxRecDepth 100000 in
theorem boxNew (w : World) :
    Calls Tryz.prog 30 #[] w fun e w' => ∃ b, e = .returned (.pointer (some ⟨b, 0, none⟩)) ∧ Box w' w.heap.size b 1 noneP ∧ Below w.heap.size w w' := by
  go_enter Tryz.func30, Tryz.ntmps30
  go_wp2
  go_ret
  refine ⟨_, rfl, ⟨_, heap_alloc_new _ _, Nat.le_refl _, .inl ⟨rfl, none, 0, ?_, ?_, ?_⟩⟩, (Below.refl _ _).alloc (Nat.le_refl _) _⟩
  · rw [L_noneP]; rfl
  · rw [L_noneP]; exact Nat.le_refl _
  · rw [L_noneP]; exact Own.nil _ _ _ _
set_option maxRecDepth 100000 in
theorem bx1Kind (b : Nat) (y : Value) (w : World) (h0 : w.heap[b]? = some (.cells #[.iface 78 (.agg #[y])] 70 (0, 0))) :
    Calls Tryz.prog 19 #[.pointer (some ⟨b, 0, none⟩)] w fun e w' => e = .returned (.int .i64 1) ∧ Below w.heap.size w w' := by
  have hm0 := fun w => m1_kind y w
  have q0 := blk_cell h0 0 rfl
  clear h0
  go_enter Tryz.func19, Tryz.ntmps19
  go_wp2_with fail
  refine (k1Kind y _).mono ?_
  rintro e w1 ⟨rfl, hb1⟩
  go_wp2
  go_ret
  exact ⟨rfl, hb1⟩
set_option maxRecDepth 100000 in
theorem bx2Kind (b : Nat) (y : Value) (w : World) (h0 : w.heap[b]? = some (.cells #[.iface 83 (.agg #[y])] 70 (0, 0))) :
    Calls Tryz.prog 19 #[.pointer (some ⟨b, 0, none⟩)] w fun e w' => e = .returned (.int .i64 2) ∧ Below w.heap.size w w' := by
  have hm0 := fun w => m2_kind y w
  have q0 := blk_cell h0 0 rfl
  clear h0
  go_enter Tryz.func19, Tryz.ntmps19
  go_wp2_with fail
  refine (k2Kind y _).mono ?_
  rintro e w1 ⟨rfl, hb1⟩
  go_wp2
  go_ret
  exact ⟨rfl, hb1⟩
set_option maxRecDepth 100000 in
theorem bx3Kind (b : Nat) (y : Value) (w : World) (h0 : w.heap[b]? = some (.cells #[.iface 87 (.agg #[y])] 70 (0, 0))) :
    Calls Tryz.prog 19 #[.pointer (some ⟨b, 0, none⟩)] w fun e w' => e = .returned (.int .i64 3) ∧ Below w.heap.size w w' := by
  have hm0 := fun w => m3_kind y w
  have q0 := blk_cell h0 0 rfl
  clear h0
  go_enter Tryz.func19, Tryz.ntmps19
  go_wp2_with fail
  refine (k3Kind y _).mono ?_
  rintro e w1 ⟨rfl, hb1⟩
  go_wp2
  go_ret
  exact ⟨rfl, hb1⟩
theorem boxKind {base : Nat} (b : Nat) (k : Int) (p : Nat → Bool) (w : World) (h : Box w base b k p) :
    Calls Tryz.prog 19 #[.pointer (some ⟨b, 0, none⟩)] w fun e w' => e = .returned (.int .i64 k) ∧ Below w.heap.size w w' := by
  obtain ⟨x, h0, _, h⟩ := h
  rcases h.is with ⟨rfl, y, rfl⟩ | ⟨rfl, y, rfl⟩ | ⟨rfl, y, rfl⟩
  · exact bx1Kind b y w h0
  · exact bx2Kind b y w h0
  · exact bx3Kind b y w h0
set_option maxRecDepth 100000 in
theorem turn_11 (b : Nat) (y0 y1 : Value) (w : World) (h0 : w.heap[b]? = some (.cells #[.iface 78 (.agg #[y0])] 70 (0, 0))) :
    Calls Tryz.prog 60 #[.pointer (some ⟨b, 0, none⟩), .iface 78 (.agg #[y1])] w fun e w' => ∃ r : Bool, e = .returned (.bool r) ∧ w'.heap[b]? = some (.cells #[.iface 78 (.agg #[y1])] 70 (0, 0)) ∧ w.grownBy w' (some b) := by
  have hm0 := fun w => m1_kind y0 w
  have hm1 := fun w => m1_kind y1 w
  have q0 := blk_cell h0 0 rfl
  have f0 := blk_free h0 0
  have H0 := Lib.hid h0
  clear h0
  go_enter Tryz.func60, Tryz.ntmps60
  go_wp2_with fail
  refine (k1Kind y0 _).mono ?_
  rintro e w1 ⟨rfl, hb1⟩
  have h1 := blk_below H0.out hb1 rfl
  have q1 := blk_cell h1 0 rfl
  have f1 := blk_free h1 0
  have H1 := Lib.hid h1
  have HB1 := Lib.hid hb1
  clear h1 hb1 q0 f0
  go_wp2_with fail
  refine (k1Kind y1 _).mono ?_
  rintro e w2 ⟨rfl, hb2⟩
  have HB2 := Lib.hid hb2
  clear hb2
  go_wp2
  go_ret
  have hs := blk_set H1.out 0 (.iface 78 (.agg #[y1]))
  refine ⟨_, rfl, ?_, ?_⟩
  · have := blk_below hs HB2.out rfl
    simpa using this
  · exact (grown_set (b := b) (i := 0) (u := .iface 78 (.agg #[y1])) ⟨HB1.out.os, HB1.out.tape, HB1.out.output, HB1.out.size, fun i hi _ => HB1.out.block i hi⟩).trans ⟨HB2.out.os, HB2.out.tape, HB2.out.output, HB2.out.size, fun i hi _ => HB2.out.block i hi⟩
set_option maxRecDepth 100000 in
theorem turn_12 (b : Nat) (y0 y1 : Value) (w : World) (h0 : w.heap[b]? = some (.cells #[.iface 78 (.agg #[y0])] 70 (0, 0))) :
    Calls Tryz.prog 60 #[.pointer (some ⟨b, 0, none⟩), .iface 83 (.agg #[y1])] w fun e w' => ∃ r : Bool, e = .returned (.bool r) ∧ w'.heap[b]? = some (.cells #[.iface 83 (.agg #[y1])] 70 (0, 0)) ∧ w.grownBy w' (some b) := by
  have hm0 := fun w => m1_kind y0 w
  have hm1 := fun w => m2_kind y1 w
  have q0 := blk_cell h0 0 rfl
  have f0 := blk_free h0 0
  have H0 := Lib.hid h0
  clear h0
  go_enter Tryz.func60, Tryz.ntmps60
  go_wp2_with fail
  refine (k1Kind y0 _).mono ?_
  rintro e w1 ⟨rfl, hb1⟩
  have h1 := blk_below H0.out hb1 rfl
  have q1 := blk_cell h1 0 rfl
  have f1 := blk_free h1 0
  have H1 := Lib.hid h1
  have HB1 := Lib.hid hb1
  clear h1 hb1 q0 f0
  go_wp2_with fail
  refine (k2Kind y1 _).mono ?_
  rintro e w2 ⟨rfl, hb2⟩
  have HB2 := Lib.hid hb2
  clear hb2
  go_wp2
  go_ret
  have hs := blk_set H1.out 0 (.iface 83 (.agg #[y1]))
  refine ⟨_, rfl, ?_, ?_⟩
  · have := blk_below hs HB2.out rfl
    simpa using this
  · exact (grown_set (b := b) (i := 0) (u := .iface 83 (.agg #[y1])) ⟨HB1.out.os, HB1.out.tape, HB1.out.output, HB1.out.size, fun i hi _ => HB1.out.block i hi⟩).trans ⟨HB2.out.os, HB2.out.tape, HB2.out.output, HB2.out.size, fun i hi _ => HB2.out.block i hi⟩
set_option maxRecDepth 100000 in
theorem turn_13 (b : Nat) (y0 y1 : Value) (w : World) (h0 : w.heap[b]? = some (.cells #[.iface 78 (.agg #[y0])] 70 (0, 0))) :
    Calls Tryz.prog 60 #[.pointer (some ⟨b, 0, none⟩), .iface 87 (.agg #[y1])] w fun e w' => ∃ r : Bool, e = .returned (.bool r) ∧ w'.heap[b]? = some (.cells #[.iface 87 (.agg #[y1])] 70 (0, 0)) ∧ w.grownBy w' (some b) := by
  have hm0 := fun w => m1_kind y0 w
  have hm1 := fun w => m3_kind y1 w
  have q0 := blk_cell h0 0 rfl
  have f0 := blk_free h0 0
  have H0 := Lib.hid h0
  clear h0
  go_enter Tryz.func60, Tryz.ntmps60
  go_wp2_with fail
  refine (k1Kind y0 _).mono ?_
  rintro e w1 ⟨rfl, hb1⟩
  have h1 := blk_below H0.out hb1 rfl
  have q1 := blk_cell h1 0 rfl
  have f1 := blk_free h1 0
  have H1 := Lib.hid h1
  have HB1 := Lib.hid hb1
  clear h1 hb1 q0 f0
  go_wp2_with fail
  refine (k3Kind y1 _).mono ?_
  rintro e w2 ⟨rfl, hb2⟩
  have HB2 := Lib.hid hb2
  clear hb2
  go_wp2
  go_ret
  have hs := blk_set H1.out 0 (.iface 87 (.agg #[y1]))
  refine ⟨_, rfl, ?_, ?_⟩
  · have := blk_below hs HB2.out rfl
    simpa using this
  · exact (grown_set (b := b) (i := 0) (u := .iface 87 (.agg #[y1])) ⟨HB1.out.os, HB1.out.tape, HB1.out.output, HB1.out.size, fun i hi _ => HB1.out.block i hi⟩).trans ⟨HB2.out.os, HB2.out.tape, HB2.out.output, HB2.out.size, fun i hi _ => HB2.out.block i hi⟩
set_option maxRecDepth 100000 in
theorem turn_21 (b : Nat) (y0 y1 : Value) (w : World) (h0 : w.heap[b]? = some (.cells #[.iface 83 (.agg #[y0])] 70 (0, 0))) :
    Calls Tryz.prog 60 #[.pointer (some ⟨b, 0, none⟩), .iface 78 (.agg #[y1])] w fun e w' => ∃ r : Bool, e = .returned (.bool r) ∧ w'.heap[b]? = some (.cells #[.iface 78 (.agg #[y1])] 70 (0, 0)) ∧ w.grownBy w' (some b) := by
  have hm0 := fun w => m2_kind y0 w
  have hm1 := fun w => m1_kind y1 w
  have q0 := blk_cell h0 0 rfl
  have f0 := blk_free h0 0
  have H0 := Lib.hid h0
  clear h0
  go_enter Tryz.func60, Tryz.ntmps60
  go_wp2_with fail
  refine (k2Kind y0 _).mono ?_
  rintro e w1 ⟨rfl, hb1⟩
  have h1 := blk_below H0.out hb1 rfl
  have q1 := blk_cell h1 0 rfl
  have f1 := blk_free h1 0
  have H1 := Lib.hid h1
  have HB1 := Lib.hid hb1
  clear h1 hb1 q0 f0
  go_wp2_with fail
  refine (k1Kind y1 _).mono ?_
  rintro e w2 ⟨rfl, hb2⟩
  have HB2 := Lib.hid hb2
  clear hb2
  go_wp2
  go_ret
  have hs := blk_set H1.out 0 (.iface 78 (.agg #[y1]))
  refine ⟨_, rfl, ?_, ?_⟩
  · have := blk_below hs HB2.out rfl
    simpa using this
  · exact (grown_set (b := b) (i := 0) (u := .iface 78 (.agg #[y1])) ⟨HB1.out.os, HB1.out.tape, HB1.out.output, HB1.out.size, fun i hi _ => HB1.out.block i hi⟩).trans ⟨HB2.out.os, HB2.out.tape, HB2.out.output, HB2.out.size, fun i hi _ => HB2.out.block i hi⟩
set_option maxRecDepth 100000 in
theorem turn_22 (b : Nat) (y0 y1 : Value) (w : World) (h0 : w.heap[b]? = some (.cells #[.iface 83 (.agg #[y0])] 70 (0, 0))) :
    Calls Tryz.prog 60 #[.pointer (some ⟨b, 0, none⟩), .iface 83 (.agg #[y1])] w fun e w' => ∃ r : Bool, e = .returned (.bool r) ∧ w'.heap[b]? = some (.cells #[.iface 83 (.agg #[y1])] 70 (0, 0)) ∧ w.grownBy w' (some b) := by
  have hm0 := fun w => m2_kind y0 w
  have hm1 := fun w => m2_kind y1 w
  have q0 := blk_cell h0 0 rfl
  have f0 := blk_free h0 0
  have H0 := Lib.hid h0
  clear h0
  go_enter Tryz.func60, Tryz.ntmps60
  go_wp2_with fail
  refine (k2Kind y0 _).mono ?_
  rintro e w1 ⟨rfl, hb1⟩
  have h1 := blk_below H0.out hb1 rfl
  have q1 := blk_cell h1 0 rfl
  have f1 := blk_free h1 0
  have H1 := Lib.hid h1
  have HB1 := Lib.hid hb1
  clear h1 hb1 q0 f0
  go_wp2_with fail
  refine (k2Kind y1 _).mono ?_
  rintro e w2 ⟨rfl, hb2⟩
  have HB2 := Lib.hid hb2
  clear hb2
  go_wp2
  go_ret
  have hs := blk_set H1.out 0 (.iface 83 (.agg #[y1]))
  refine ⟨_, rfl, ?_, ?_⟩
  · have := blk_below hs HB2.out rfl
    simpa using this
  · exact (grown_set (b := b) (i := 0) (u := .iface 83 (.agg #[y1])) ⟨HB1.out.os, HB1.out.tape, HB1.out.output, HB1.out.size, fun i hi _ => HB1.out.block i hi⟩).trans ⟨HB2.out.os, HB2.out.tape, HB2.out.output, HB2.out.size, fun i hi _ => HB2.out.block i hi⟩
set_option maxRecDepth 100000 in
theorem turn_23 (b : Nat) (y0 y1 : Value) (w : World) (h0 : w.heap[b]? = some (.cells #[.iface 83 (.agg #[y0])] 70 (0, 0))) :
    Calls Tryz.prog 60 #[.pointer (some ⟨b, 0, none⟩), .iface 87 (.agg #[y1])] w fun e w' => ∃ r : Bool, e = .returned (.bool r) ∧ w'.heap[b]? = some (.cells #[.iface 87 (.agg #[y1])] 70 (0, 0)) ∧ w.grownBy w' (some b) := by
  have hm0 := fun w => m2_kind y0 w
  have hm1 := fun w => m3_kind y1 w
  have q0 := blk_cell h0 0 rfl
  have f0 := blk_free h0 0
  have H0 := Lib.hid h0
  clear h0
  go_enter Tryz.func60, Tryz.ntmps60
  go_wp2_with fail
  refine (k2Kind y0 _).mono ?_
  rintro e w1 ⟨rfl, hb1⟩
  have h1 := blk_below H0.out hb1 rfl
  have q1 := blk_cell h1 0 rfl
  have f1 := blk_free h1 0
  have H1 := Lib.hid h1
  have HB1 := Lib.hid hb1
  clear h1 hb1 q0 f0
  go_wp2_with fail
  refine (k3Kind y1 _).mono ?_
  rintro e w2 ⟨rfl, hb2⟩
  have HB2 := Lib.hid hb2
  clear hb2
  go_wp2
  go_ret
  have hs := blk_set H1.out 0 (.iface 87 (.agg #[y1]))
  refine ⟨_, rfl, ?_, ?_⟩
  · have := blk_below hs HB2.out rfl
    simpa using this
  · exact (grown_set (b := b) (i := 0) (u := .iface 87 (.agg #[y1])) ⟨HB1.out.os, HB1.out.tape, HB1.out.output, HB1.out.size, fun i hi _ => HB1.out.block i hi⟩).trans ⟨HB2.out.os, HB2.out.tape, HB2.out.output, HB2.out.size, fun i hi _ => HB2.out.block i hi⟩
set_option maxRecDepth 100000 in
theorem turn_31 (b : Nat) (y0 y1 : Value) (w : World) (h0 : w.heap[b]? = some (.cells #[.iface 87 (.agg #[y0])] 70 (0, 0))) :
    Calls Tryz.prog 60 #[.pointer (some ⟨b, 0, none⟩), .iface 78 (.agg #[y1])] w fun e w' => ∃ r : Bool, e = .returned (.bool r) ∧ w'.heap[b]? = some (.cells #[.iface 78 (.agg #[y1])] 70 (0, 0)) ∧ w.grownBy w' (some b) := by
  have hm0 := fun w => m3_kind y0 w
  have hm1 := fun w => m1_kind y1 w
  have q0 := blk_cell h0 0 rfl
  have f0 := blk_free h0 0
  have H0 := Lib.hid h0
  clear h0
  go_enter Tryz.func60, Tryz.ntmps60
  go_wp2_with fail
  refine (k3Kind y0 _).mono ?_
  rintro e w1 ⟨rfl, hb1⟩
  have h1 := blk_below H0.out hb1 rfl
  have q1 := blk_cell h1 0 rfl
  have f1 := blk_free h1 0
  have H1 := Lib.hid h1
  have HB1 := Lib.hid hb1
  clear h1 hb1 q0 f0
  go_wp2_with fail
  refine (k1Kind y1 _).mono ?_
  rintro e w2 ⟨rfl, hb2⟩
  have HB2 := Lib.hid hb2
  clear hb2
  go_wp2
  go_ret
  have hs := blk_set H1.out 0 (.iface 78 (.agg #[y1]))
  refine ⟨_, rfl, ?_, ?_⟩
  · have := blk_below hs HB2.out rfl
    simpa using this
  · exact (grown_set (b := b) (i := 0) (u := .iface 78 (.agg #[y1])) ⟨HB1.out.os, HB1.out.tape, HB1.out.output, HB1.out.size, fun i hi _ => HB1.out.block i hi⟩).trans ⟨HB2.out.os, HB2.out.tape, HB2.out.output, HB2.out.size, fun i hi _ => HB2.out.block i hi⟩
set_option maxRecDepth 100000 in
theorem turn_32 (b : Nat) (y0 y1 : Value) (w : World) (h0 : w.heap[b]? = some (.cells #[.iface 87 (.agg #[y0])] 70 (0, 0))) :
    Calls Tryz.prog 60 #[.pointer (some ⟨b, 0, none⟩), .iface 83 (.agg #[y1])] w fun e w' => ∃ r : Bool, e = .returned (.bool r) ∧ w'.heap[b]? = some (.cells #[.iface 83 (.agg #[y1])] 70 (0, 0)) ∧ w.grownBy w' (some b) := by
  have hm0 := fun w => m3_kind y0 w
  have hm1 := fun w => m2_kind y1 w
  have q0 := blk_cell h0 0 rfl
  have f0 := blk_free h0 0
  have H0 := Lib.hid h0
  clear h0
  go_enter Tryz.func60, Tryz.ntmps60
  go_wp2_with fail
  refine (k3Kind y0 _).mono ?_
  rintro e w1 ⟨rfl, hb1⟩
  have h1 := blk_below H0.out hb1 rfl
  have q1 := blk_cell h1 0 rfl
  have f1 := blk_free h1 0
  have H1 := Lib.hid h1
  have HB1 := Lib.hid hb1
  clear h1 hb1 q0 f0
  go_wp2_with fail
  refine (k2Kind y1 _).mono ?_
  rintro e w2 ⟨rfl, hb2⟩
  have HB2 := Lib.hid hb2
  clear hb2
  go_wp2
  go_ret
  have hs := blk_set H1.out 0 (.iface 83 (.agg #[y1]))
  refine ⟨_, rfl, ?_, ?_⟩
  · have := blk_below hs HB2.out rfl
    simpa using this
  · exact (grown_set (b := b) (i := 0) (u := .iface 83 (.agg #[y1])) ⟨HB1.out.os, HB1.out.tape, HB1.out.output, HB1.out.size, fun i hi _ => HB1.out.block i hi⟩).trans ⟨HB2.out.os, HB2.out.tape, HB2.out.output, HB2.out.size, fun i hi _ => HB2.out.block i hi⟩
set_option maxRecDepth 100000 in
theorem turn_33 (b : Nat) (y0 y1 : Value) (w : World) (h0 : w.heap[b]? = some (.cells #[.iface 87 (.agg #[y0])] 70 (0, 0))) :
    Calls Tryz.prog 60 #[.pointer (some ⟨b, 0, none⟩), .iface 87 (.agg #[y1])] w fun e w' => ∃ r : Bool, e = .returned (.bool r) ∧ w'.heap[b]? = some (.cells #[.iface 87 (.agg #[y1])] 70 (0, 0)) ∧ w.grownBy w' (some b) := by
  have hm0 := fun w => m3_kind y0 w
  have hm1 := fun w => m3_kind y1 w
  have q0 := blk_cell h0 0 rfl
  have f0 := blk_free h0 0
  have H0 := Lib.hid h0
  clear h0
  go_enter Tryz.func60, Tryz.ntmps60
  go_wp2_with fail
  refine (k3Kind y0 _).mono ?_
  rintro e w1 ⟨rfl, hb1⟩
  have h1 := blk_below H0.out hb1 rfl
  have q1 := blk_cell h1 0 rfl
  have f1 := blk_free h1 0
  have H1 := Lib.hid h1
  have HB1 := Lib.hid hb1
  clear h1 hb1 q0 f0
  go_wp2_with fail
  refine (k3Kind y1 _).mono ?_
  rintro e w2 ⟨rfl, hb2⟩
  have HB2 := Lib.hid hb2
  clear hb2
  go_wp2
  go_ret
  have hs := blk_set H1.out 0 (.iface 87 (.agg #[y1]))
  refine ⟨_, rfl, ?_, ?_⟩
  · have := blk_below hs HB2.out rfl
    simpa using this
  · exact (grown_set (b := b) (i := 0) (u := .iface 87 (.agg #[y1])) ⟨HB1.out.os, HB1.out.tape, HB1.out.output, HB1.out.size, fun i hi _ => HB1.out.block i hi⟩).trans ⟨HB2.out.os, HB2.out.tape, HB2.out.output, HB2.out.size, fun i hi _ => HB2.out.block i hi⟩
theorem boxTurn {base : Nat} (b : Nat) (k k' : Int) (p q : Nat → Bool) (x' : Value) (w : World) (h : Box w base b k p) (hx : Keeps w base x' k' q) :
    Calls Tryz.prog 60 #[.pointer (some ⟨b, 0, none⟩), x'] w fun e w' => ∃ r : Bool, e = .returned (.bool r) ∧ Box w' base b k' q ∧ w.grownBy w' (some b) := by
  obtain ⟨x, h0, hb, h⟩ := h
  have key : Calls Tryz.prog 60 #[.pointer (some ⟨b, 0, none⟩), x'] w fun e w' => ∃ r : Bool, e = .returned (.bool r) ∧ w'.heap[b]? = some (.cells #[x'] 70 (0, 0)) ∧ w.grownBy w' (some b) := by
    rcases h.is with ⟨rfl, y, rfl⟩ | ⟨rfl, y, rfl⟩ | ⟨rfl, y, rfl⟩ <;> rcases hx.is with ⟨rfl, z, rfl⟩ | ⟨rfl, z, rfl⟩ | ⟨rfl, z, rfl⟩
    · exact turn_11 b y z w h0
    · exact turn_12 b y z w h0
    · exact turn_13 b y z w h0
    · exact turn_21 b y z w h0
    · exact turn_22 b y z w h0
    · exact turn_23 b y z w h0
    · exact turn_31 b y z w h0
    · exact turn_32 b y z w h0
    · exact turn_33 b y z w h0
  refine key.mono ?_
  rintro e w' ⟨r, rfl, h1, h2⟩
  exact ⟨r, rfl, ⟨x', h1, hb, hx.grown h2 h0⟩, h2⟩
end Go.Proofs.YtbjekoljipjldaaGreatDoor
namespace Go.Proofs.YtbjekoljipjldaaGreatDoor
set_option linter.unusedVariables false
set_option linter.unusedSimpArgs false
open Go.RowKit

theorem ta_few (y : Value) (w : World) : (Instr.typeAssert (.iface 78 (.agg #[y])) 68 83 true).run Tryz.prog w = .ok (.tuple #[.agg #[.pointer none], .bool false]) w := by kernel_rfl
theorem ta_long (y : Value) (w : World) : (Instr.typeAssert (.iface 87 (.agg #[y])) 68 83 true).run Tryz.prog w = .ok (.tuple #[.agg #[.pointer none], .bool false]) w := by kernel_rfl
theorem ta_many (y : Value) (w : World) : (Instr.typeAssert (.iface 83 (.agg #[y])) 68 83 true).run Tryz.prog w = .ok (.tuple #[.agg #[y], .bool true]) w := by kernel_rfl
set_option maxRecDepth 100000 in
set_option maxHeartbeats 1000000 in
theorem bx1Bitmap (b : Nat) (A : Option Addr) (c : Nat) (p : Nat → Bool) (w : World) (hr : Rd .u16 w A (L p)) (h0 : w.heap[b]? = some (.cells #[.iface 78 (.agg #[.slice A (L p).length c])] 70 (0, 0))) :
    Calls Tryz.prog 55 #[.pointer (some ⟨b, 0, none⟩)] w fun e w' => ∃ m s d ws, e = .returned (.pointer (some ⟨m, 0, none⟩)) ∧ w.heap.size ≤ m ∧ w.heap.size ≤ s ∧ w.heap.size ≤ d ∧ Bm w' m s d ws ∧ (∀ i, i < 65536 → wbit ws i = p i) ∧ Below w.heap.size w w' := by
  have hm0 := fun w => m1_list (.slice A (L p).length c) w
  have hta := fun w => ta_few (.slice A (L p).length c) w
  have q0 := blk_cell h0 0 rfl
  have H0 := Lib.hid h0
  have HL := Lib.hid (L_le p)
  have HS := Lib.hid (setAll_L p)
  have HR := Lib.hid hr; clear hr
  clear h0
  have hba := (Below.refl _ w).alloc (Nat.le_refl _) (.cells #[.pointer none] 83)
  have qa := blk_cell (blk_below H0.out hba rfl) 0 rfl
  have HBA := Lib.hid hba
  clear hba
  go_enter Tryz.func55, Tryz.ntmps55
  go_wp2_with fail
  refine (k1List A c p _ (HR.out.below HBA.out)).mono ?_
  rintro e w1 ⟨v, rfl, ho, hb1⟩
  obtain ⟨A', c', rfl, hc', _, hr'⟩ := ho.form
  have HR' := Lib.hid hr'
  have HB1 := Lib.hid (below_then HBA.out hb1)
  have hz1 := HB1.out.size
  clear ho hr' hb1
  go_wp2_with fail
  refine (bmOf A' c' (L p) _ HR'.out (fun x hx => L_bd hx) (by have := HL.out; omega)).mono ?_
  rintro e w2 ⟨m, s, d, rfl, h1, h2, h3, hB, hb2⟩
  have HB := Lib.hid hB
  have HB2 := Lib.hid (below_then HB1.out hb2)
  clear hB hb2
  go_wp2
  go_ret
  exact ⟨m, s, d, _, rfl, by omega, by omega, by omega, HB.out, HS.out.2, HB2.out⟩
set_option maxRecDepth 100000 in
set_option maxHeartbeats 1000000 in
theorem bx3Bitmap (b : Nat) (A : Option Addr) (c : Nat) (R : List (Nat × Nat)) (p : Nat → Bool) (w : World) (hr : RdN w A R) (hp : RunsOf R p) (hl : R.length ≤ 65536) (h0 : w.heap[b]? = some (.cells #[.iface 87 (.agg #[.slice A R.length c])] 70 (0, 0))) :
    Calls Tryz.prog 55 #[.pointer (some ⟨b, 0, none⟩)] w fun e w' => ∃ m s d ws, e = .returned (.pointer (some ⟨m, 0, none⟩)) ∧ w.heap.size ≤ m ∧ w.heap.size ≤ s ∧ w.heap.size ≤ d ∧ Bm w' m s d ws ∧ (∀ i, i < 65536 → wbit ws i = p i) ∧ Below w.heap.size w w' := by
  have hm0 := fun w => m3_list (.slice A R.length c) w
  have hta := fun w => ta_long (.slice A R.length c) w
  have q0 := blk_cell h0 0 rfl
  have H0 := Lib.hid h0
  have HL := Lib.hid (L_le p)
  have HS := Lib.hid (setAll_L p)
  have HR := Lib.hid hr; have HP := Lib.hid hp; clear hr hp
  clear h0
  have hba := (Below.refl _ w).alloc (Nat.le_refl _) (.cells #[.pointer none] 83)
  have qa := blk_cell (blk_below H0.out hba rfl) 0 rfl
  have HBA := Lib.hid hba
  clear hba
  go_enter Tryz.func55, Tryz.ntmps55
  go_wp2_with fail
  refine (k3List A c R p _ (HR.out.below HBA.out) HP.out hl).mono ?_
  rintro e w1 ⟨v, rfl, ho, hb1⟩
  obtain ⟨A', c', rfl, hc', _, hr'⟩ := ho.form
  have HR' := Lib.hid hr'
  have HB1 := Lib.hid (below_then HBA.out hb1)
  have hz1 := HB1.out.size
  clear ho hr' hb1
  go_wp2_with fail
  refine (bmOf A' c' (L p) _ HR'.out (fun x hx => L_bd hx) (by have := HL.out; omega)).mono ?_
  rintro e w2 ⟨m, s, d, rfl, h1, h2, h3, hB, hb2⟩
  have HB := Lib.hid hB
  have HB2 := Lib.hid (below_then HB1.out hb2)
  clear hB hb2
  go_wp2
  go_ret
  exact ⟨m, s, d, _, rfl, by omega, by omega, by omega, HB.out, HS.out.2, HB2.out⟩
set_option maxRecDepth 100000 in
theorem bx2Bitmap (b m : Nat) (w : World) (h0 : w.heap[b]? = some (.cells #[.iface 83 (.agg #[.pointer (some ⟨m, 0, none⟩)])] 70 (0, 0))) :
    Calls Tryz.prog 55 #[.pointer (some ⟨b, 0, none⟩)] w fun e w' => e = .returned (.pointer (some ⟨m, 0, none⟩)) ∧ Below w.heap.size w w' := by
  have hta := fun w => ta_many (.pointer (some ⟨m, 0, none⟩)) w
  have q0 := blk_cell h0 0 rfl
  clear h0
  go_enter Tryz.func55, Tryz.ntmps55
  go_wp2
  go_ret
  exact ⟨rfl, (Below.refl _ _).alloc (Nat.le_refl _) _⟩
theorem boxBitmap {base : Nat} (b : Nat) (k : Int) (p : Nat → Bool) (w : World) (h : Box w base b k p) (hbs : base ≤ w.heap.size) :
    Calls Tryz.prog 55 #[.pointer (some ⟨b, 0, none⟩)] w fun e w' => ∃ m s d ws, e = .returned (.pointer (some ⟨m, 0, none⟩)) ∧ base ≤ m ∧ base ≤ s ∧ base ≤ d ∧ Bm w' m s d ws ∧ Hid (∀ i, i < 65536 → wbit ws i = p i) ∧ Below w.heap.size w w' := by
  obtain ⟨x, h0, _, h⟩ := h
  rcases h with ⟨_, A, c, rfl, _, h3⟩ | ⟨_, m, s, d, ws, rfl, h2, h3, h4, h5, h6⟩ | ⟨_, A, c, R, rfl, h2, h3, h4⟩
  · exact (bx1Bitmap b A c p w h3.rd h0).mono fun e w' ⟨m, s, d, ws, e1, e2, e3, e4, e5, e6, e7⟩ => ⟨m, s, d, ws, e1, by omega, by omega, by omega, e5, e6, e7⟩
  · exact (bx2Bitmap b m w h0).mono fun e w' ⟨e1, e2⟩ => ⟨m, s, d, ws, e1, h2, h3, h4, h5.below e2, h6, e2⟩
  · exact (bx3Bitmap b A c R p w h2.rd h3 h4 h0).mono fun e w' ⟨m, s, d, ws, e1, e2, e3, e4, e5, e6, e7⟩ => ⟨m, s, d, ws, e1, by omega, by omega, by omega, e5, e6, e7⟩
/-- the plain kind -/
def plainK (p : Nat → Bool) : Int := if 4096 < (L p).length then 2 else 1
set_option maxRecDepth 100000 in
set_option maxHeartbeats 2000000 in
theorem boxPlainK {base : Nat} (b : Nat) (k : Int) (p : Nat → Bool) (w : World) (h : Box w base b k p) (hT : Tab64 w) (hbs : base ≤ w.heap.size) :
    Calls Tryz.prog 57 #[.pointer (some ⟨b, 0, none⟩)] w fun e w' => ∃ x, e = .returned x ∧ Hid (Keeps w' base x (plainK p) p) ∧ Below w.heap.size w w' := by
  have HX := Lib.hid h
  have HT := Lib.hid hT
  have HLE := Lib.hid (L_le p)
  obtain ⟨x, h0, hbb, hk⟩ := h
  have H0 := Lib.hid h0
  have HK := Lib.hid hk
  have hl6 := L_le p
  have HPK := Lib.hid (show (4096 < (L p).length → plainK p = 2) ∧ (¬ 4096 < (L p).length → plainK p = 1) from ⟨fun h => if_pos h, fun h => if_neg h⟩)
  generalize plainK p = kk at *
  clear h0 hk hT
  generalize hn : (L p).length = n at *
  have HNN := Lib.hid hn
  go_enter Tryz.func57, Tryz.ntmps57
  go_wp2_with fail
  refine (boxLen (base := base) _ p _ (.inr ⟨b, k, rfl, HX.out⟩)).mono ?_
  rw [hn]
  clear hn
  rintro e w1 ⟨rfl, hb1⟩
  have HX1 := Lib.hid (HX.out.below hb1)
  have HB1 := Lib.hid hb1
  have hz1 := hb1.size
  have HZ1 := Lib.hid hz1
  clear hb1 hz1
  by_cases h4 : 4096 < n
  · have h4i : (4096 : Int) < n := by omega
    go_wp2_with fail
    refine (boxBitmap b k p _ HX1.out (by have := HZ1.out; omega)).mono ?_
    rintro e w2 ⟨m, s, d, ws, rfl, e2, e3, e4, e5, e6, e7⟩
    have HB := Lib.hid e5
    have HB2 := Lib.hid (below_then HB1.out e7)
    clear e5 e7
    go_wp2
    go_ret
    exact ⟨_, rfl, by rw [HPK.out.1 h4]; exact .inr (.inl ⟨rfl, m, s, d, ws, rfl, e2, e3, e4, HB.out, e6.out⟩), HB2.out⟩
  · have h4i : ¬ (4096 : Int) < n := by omega
    have HN := Lib.hid h4
    clear h4
    go_wp2_with fail
    refine (boxKind (base := base) b k p _ HX1.out).mono ?_
    rintro e w2 ⟨rfl, hb2⟩
    have HB2 := Lib.hid (below_then HB1.out hb2)
    have HK2 := Lib.hid (HK.out.below HB2.out)
    have q2 := blk_cell (blk_below H0.out HB2.out rfl) 0 rfl
    have HT2 := Lib.hid (HT.out.stays HB2.out)
    clear hb2
    rcases HK2.out with ⟨rfl, A, c, rfl, h1, h3⟩ | ⟨rfl, m, s, d, ws, rfl, h2, h3, h4, h5, h6⟩ | ⟨rfl, A, c, R, rfl, h2, h3, h4⟩
    · go_wp2
      go_ret
      exact ⟨_, rfl, by rw [HPK.out.2 HN.out]; exact HK2.out, HB2.out⟩
    · have hm0 := fun w => m2_list (.pointer (some ⟨m, 0, none⟩)) w
      have H5 := Lib.hid h5
      have H6 := Lib.hid h6
      clear h5 h6 h2 h3 h4 HK2 HK
      go_wp2_with fail
      refine (k2List m s d ws p _ H5.out HT2.out H6.out).mono ?_
      rintro e w3 ⟨v, rfl, ho, hb3⟩
      obtain ⟨A', c', rfl, hc', _, ho'⟩ := ho.formS
      have HO := Lib.hid ho'
      have HB3 := Lib.hid (below_then HB2.out hb3)
      have hz3 := HB2.out.size
      clear ho ho' hb3
      go_wp2
      go_ret
      exact ⟨_, rfl, by rw [HPK.out.2 HN.out]; exact .inl ⟨rfl, A', c', rfl, hc', HO.out.mono (by omega)⟩, HB3.out⟩
    · have hm0 := fun w => m3_list (.slice A R.length c) w
      have H2 := Lib.hid h2.rd
      have H3 := Lib.hid h3
      clear h2 h3 HK2 HK
      go_wp2_with fail
      refine (k3List A c R p _ H2.out H3.out h4).mono ?_
      rintro e w3 ⟨v, rfl, ho, hb3⟩
      obtain ⟨A', c', rfl, hc', _, ho'⟩ := ho.formS
      have HO := Lib.hid ho'
      have HB3 := Lib.hid (below_then HB2.out hb3)
      have hz3 := HB2.out.size
      clear ho ho' hb3
      go_wp2
      go_ret
      exact ⟨_, rfl, by rw [HPK.out.2 HN.out]; exact .inl ⟨rfl, A', c', rfl, hc', HO.out.mono (by omega)⟩, HB3.out⟩
end Go.Proofs.YtbjekoljipjldaaGreatDoor
