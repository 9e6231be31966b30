/-
  Has, Next, Prev, Len of a Roar of one box, walked.
-/
import Derived.Test.YtpmkcjpifedbkaaGreatRoar2
namespace Go.Proofs.YtpmkcjpifedbkaaGreat
set_option linter.unusedVariables false
set_option linter.unusedSimpArgs false
open Go.RowKit
attribute [local go_sem ↓] Go.wp_at_zero Go.wp_at_succ

/-- a box that is few, with its numbers -/
def Bx (w : World) (b : Nat) (A : Option Addr) (l : List Int) (c : Nat) : Prop := Few w b A l c ∧ Own .u16 50 w 0 (.slice A l.length c) l
theorem Bx.rd {w : World} {b : Nat} {A : Option Addr} {l : List Int} {c : Nat} (h : Bx w b A l c) : Rd .u16 w A l := h.2.rd
theorem Bx.kept {w w' : World} {b : Nat} {A : Option Addr} {l : List Int} {c : Nat} {row : Option Nat} (h : Bx w b A l c) (hg : w.grownBy w' row) (hne : ∀ j, row = some j → ∀ cs T, w.heap[j]? = some (.cells cs T (0, 0)) → T ≠ 75 ∧ T ≠ 50) : Bx w' b A l c := by
  obtain ⟨h1, h2, h3⟩ := h
  refine ⟨?_, h2, ?_⟩
  · unfold Few at h1 ⊢
    rw [hg.block b (blk_lt h1) (fun e => (hne b e.symm _ _ h1).1 rfl)]
    exact h1
  · rcases h3 with h3 | ⟨g, cap, cur, e1, hgb, hh, hr⟩
    · exact .inl h3
    · refine .inr ⟨g, cap, cur, e1, hgb, ?_, hr⟩
      rw [hg.block g (blk_lt hh) (fun e => (hne g e.symm _ _ hh).2 rfl)]
      exact hh
theorem typ_of {w : World} {j : Nat} {cs : Array Value} {T : TypeId} (h : w.heap[j]? = some (.cells cs T (0, 0))) : ∀ j', some j = some j' → ∀ cs' T', w.heap[j']? = some (.cells cs' T' (0, 0)) → T' = T := by
  intro j' e cs' T' h'
  injection e with e
  subst e
  rw [h] at h'
  injection h' with h'
  injection h' with _ h'
  exact h'.symm
theorem Bx.grown {w w' : World} {b m : Nat} {A : Option Addr} {l : List Int} {c : Nat} (h : Bx w b A l c) (hm : Met w m) (hg : w.grownBy w' (some m)) : Bx w' b A l c := by
  obtain ⟨r, cc, t, p, s, hh⟩ := hm
  exact h.kept hg (fun j e cs T h' => by rw [typ_of hh j e cs T h']; decide)
theorem Bx.below {w w' : World} {b : Nat} {A : Option Addr} {l : List Int} {c : Nat} (h : Bx w b A l c) (hb : Below w.heap.size w w') : Bx w' b A l c :=
  h.kept (grown_of_below (row := none) hb) (fun j e => by cases e)
/-- a Roar of one box -/
def R1 (w : World) (t m E cap b : Nat) (A : Option Addr) (l : List Int) (c : Nat) (used : Int) : Prop := Ro w t m (.slice (some ⟨E, 0, none⟩) 1 cap) used ∧ En w E b ∧ Bx w b A l c
theorem R1.looked {w w' : World} {t m E cap b : Nat} {A : Option Addr} {l : List Int} {c : Nat} {used : Int} (h : R1 w t m E cap b A l c used) (hr : Ro w' t m (.slice (some ⟨E, 0, none⟩) 1 cap) used) (hg : w.grownBy w' (some m)) : R1 w' t m E cap b A l c used :=
  ⟨hr, h.2.1.grown hg (h.2.1.not_met h.1.2), h.2.2.grown h.1.2 hg⟩
theorem R1.below {w w' : World} {t m E cap b : Nat} {A : Option Addr} {l : List Int} {c : Nat} {used : Int} (h : R1 w t m E cap b A l c used) (hb : Below w.heap.size w w') : R1 w' t m E cap b A l c used :=
  ⟨⟨by rw [hb.block t (blk_lt h.1.1)]; exact h.1.1, met_grown h.1.2 (grown_of_below (row := none) hb) (by intro e; cases e)⟩, h.2.1.grown (grown_of_below (row := none) hb) (by intro e; cases e), h.2.2.below hb⟩
theorem R1.drew {w : World} {t m E cap b : Nat} {A : Option Addr} {l : List Int} {c : Nat} {used : Int} (h : R1 w t m E cap b A l c used) : R1 w.drew t m E cap b A l c used := h
set_option maxRecDepth 100000 in
set_option maxHeartbeats 1000000 in
theorem roarHas1 (t m E cap b : Nat) (A : Option Addr) (l : List Int) (c : Nat) (used k : Int) (w : World) (hR : R1 w t m E cap b A l c used) (hL : Rise l) (hl : l.length ≤ 1000) (h0 : 0 ≤ k) (h1 : k < 65536) :
    Calls Tryz.prog 13 #[.pointer (some ⟨t, 0, none⟩), .int .u64 k] w fun e w' => ∃ r : Bool, e = .returned (.bool r) ∧ Hid (r = isIn l k) ∧ R1 w' t m E cap b A l c used ∧ w.grownBy w' (some m) := by
  have HR := Lib.hid hR
  have HL := Lib.hid hL
  clear hR hL
  go_enter Tryz.func13, Tryz.ntmps13
  go_wp2_with fail
  refine (roarStart t m _ 1 cap used _ HR.out.1).mono ?_
  rintro e w1 ⟨rfl, HO1, hg1⟩
  have HR1 := Lib.hid (HR.out.looked HO1 hg1)
  go_wp2_with fail
  refine (upper0 k _ h0 h1).mono ?_
  rintro e w1' ⟨rfl, rfl⟩
  rename World => w1
  go_wp2_with fail
  refine (find1 t m E b cap used _ HR1.out.1 HR1.out.2.1).mono ?_
  rintro e w2 ⟨rfl, HO2, hg2⟩
  have HR2 := Lib.hid (HR1.out.looked HO2 hg2)
  go_wp2_with fail
  refine (see0 t m E b cap used _ HR2.out.1 HR2.out.2.1).mono ?_
  rintro e w3 ⟨rfl, HO3, hg3⟩
  have HR3 := Lib.hid (HR2.out.looked HO3 hg3)
  have HG := Lib.hid (grown_then (grown_then hg1 hg2) hg3)
  clear HO1 HO2 HO3 hg1 hg2 hg3
  have HR4 := Lib.hid (HR3.out.below ((Below.refl w3.heap.size w3).alloc (Nat.le_refl _) (.cells #[.int .u64 0, .pointer (some ⟨b, 0, none⟩)] 47)))
  have hl9 : l.length ≤ 900000 := by omega
  have HG4 := Lib.hid (grown_alloc HG.out (.cells #[.int .u64 0, .pointer (some ⟨b, 0, none⟩)] 47))
  go_wp2_with fail
  go_region_law (first | ((with_reducible refine gate_scall (f := 24) rfl ?_); refine step_goes rfl Tryz.func24 (by kernel_rfl) rfl #[.int .u64 k] rfl (by simp only [List.map_toArray, List.map_cons, List.map_nil]; rfl) (lower0 k _ h0 h1) ?_; rintro e wy ⟨rfl, rfl⟩; refine ⟨_, rfl, ?_⟩) | ((with_reducible refine gate_scall (f := 32) rfl ?_); refine step_goes rfl Tryz.func32 (by kernel_rfl) rfl #[.pointer (some ⟨b, 0, none⟩), .int .u16 k] rfl (by simp only [List.map_toArray, List.map_cons, List.map_nil]; rfl) (boxHas b A c l k _ (show Few _ b A l c from HR4.out.2.2.1) (show Rd .u16 _ A l from HR4.out.2.2.rd) HL.out hl9) ?_; rintro e wy ⟨r, rfl, HV, hb5⟩; have HR5 := Lib.hid ((R1.drew HR4.out).below hb5); have HG5 := Lib.hid (grown_then (grown_drew HG4.out) (grown_of_below (row := some m) hb5)); refine ⟨_, rfl, ?_⟩))
  all_goals
    go_wp2
    go_ret
    exact ⟨_, rfl, HV, HR5.out, HG5.out⟩
set_option maxRecDepth 100000 in
theorem join0 (p : Value) (v : Int) (w : World) (h0 : 0 ≤ v) (h1 : v < 65536) : Calls Tryz.prog 25 #[.agg #[.int .u64 0, p], .int .u16 v] w fun e w' => e = .returned (.int .u64 v) ∧ Below w.heap.size w w' := by
  have hw : IntKind.u64.wrap v = v := by rw [IntKind.wrap_u64]; omega
  have hor : bits .or .u64 0 v = v := by
    obtain ⟨n, rfl⟩ := Int.eq_ofNat_of_zero_le h0
    have hm : (n : Int) % 2 ^ IntKind.u64.bits = n := by rw [show (2 : Int) ^ IntKind.u64.bits = 18446744073709551616 from rfl]; omega
    simp [bits, hw, hm]
  go_enter Tryz.func25, Tryz.ntmps25
  go_wp2
  go_ret
  exact ⟨rfl, (Below.refl _ _).alloc (Nat.le_refl _) _⟩
set_option maxRecDepth 100000 in
set_option maxHeartbeats 1000000 in
theorem roarNextOne (t m E cap b : Nat) (A : Option Addr) (l : List Int) (c : Nat) (used k x : Int) (w : World) (hR : R1 w t m E cap b A l c used) (hL : Rise l) (hl : l.length ≤ 1000) (h0 : 0 ≤ k) (h1 : k < 65536) (hx : nextR l k = (x, true)) (hx0 : 0 ≤ x) (hx1 : x < 65536) :
    Calls Tryz.prog 6 #[.pointer (some ⟨t, 0, none⟩), .int .u64 k] w fun e w' => e = .returned (.tuple #[.int .u64 x, .bool true]) ∧ R1 w' t m E cap b A l c used ∧ w.grownBy w' (some m) := by
  have HR := Lib.hid hR
  have HL := Lib.hid hL
  have HX := Lib.hid hx
  have hl9 : l.length ≤ 900000 := by omega
  clear hR hL hx
  go_enter Tryz.func6, Tryz.ntmps6
  go_wp2_with fail
  refine (roarStart t m _ 1 cap used _ HR.out.1).mono ?_
  rintro e w1 ⟨rfl, HO1, hg1⟩
  have HR1 := Lib.hid (HR.out.looked HO1 hg1)
  go_wp2_with fail
  refine (upper0 k _ h0 h1).mono ?_
  rintro e w1' ⟨rfl, rfl⟩
  rename World => w1
  go_wp2_with fail
  refine (find1 t m E b cap used _ HR1.out.1 HR1.out.2.1).mono ?_
  rintro e w2 ⟨rfl, HO2, hg2⟩
  have HR2 := Lib.hid (HR1.out.looked HO2 hg2)
  go_wp2_with fail
  refine (see0 t m E b cap used _ HR2.out.1 HR2.out.2.1).mono ?_
  rintro e w3 ⟨rfl, HO3, hg3⟩
  have HR3 := Lib.hid (HR2.out.looked HO3 hg3)
  have HG := Lib.hid (grown_then (grown_then hg1 hg2) hg3)
  clear HO1 HO2 HO3 hg1 hg2 hg3
  have HR4 := Lib.hid (HR3.out.below ((Below.refl w3.heap.size w3).alloc (Nat.le_refl _) (.cells #[.int .u64 0, .pointer (some ⟨b, 0, none⟩)] 47)))
  have HG4 := Lib.hid (grown_alloc HG.out (.cells #[.int .u64 0, .pointer (some ⟨b, 0, none⟩)] 47))
  have HN := Lib.hid (heap_alloc_new w3 (.cells #[.int .u64 0, .pointer (some ⟨b, 0, none⟩)] 47))
  go_wp2_with fail
  go_region_law (first | ((with_reducible refine gate_scall (f := 24) rfl ?_); refine step_goes rfl Tryz.func24 (by kernel_rfl) rfl #[.int .u64 k] rfl (by simp only [List.map_toArray, List.map_cons, List.map_nil]; rfl) (lower0 k _ h0 h1) ?_; rintro e wy ⟨rfl, rfl⟩; refine ⟨_, rfl, ?_⟩) | ((with_reducible refine gate_scall (f := 23) rfl ?_); refine step_goes rfl Tryz.func23 (by kernel_rfl) rfl #[.pointer (some ⟨b, 0, none⟩), .int .u16 k] rfl (by simp only [List.map_toArray, List.map_cons, List.map_nil]; rfl) (boxNext b A c l k _ (show Few _ b A l c from HR4.out.2.2.1) (show Rd .u16 _ A l from HR4.out.2.2.rd) HL.out hl9) ?_; rintro e w5 ⟨rfl, hb5⟩; have HR5 := Lib.hid ((R1.drew HR4.out).below hb5); have HG5 := Lib.hid (grown_then (grown_drew HG4.out) (grown_of_below (row := some m) hb5)); have HN5 := Lib.hid ((hb5.block _ (blk_lt HN.out)).trans HN.out); rw [HX.out]; refine ⟨_, rfl, ?_⟩))
  all_goals
    have n0 := blk_cell HN5.out 0 rfl
    have n1 := blk_cell HN5.out 1 rfl
    go_wp2_with fail
    refine (join0 _ x _ hx0 hx1).mono ?_
    rintro e w6 ⟨rfl, hb6⟩
    go_wp2
    go_ret2
    exact ⟨rfl, HR5.out.below hb6, grown_then HG5.out (grown_of_below (row := some m) hb6)⟩
set_option maxRecDepth 100000 in
set_option maxHeartbeats 1000000 in
theorem roarPrevOne (t m E cap b : Nat) (A : Option Addr) (l : List Int) (c : Nat) (used k x : Int) (w : World) (hR : R1 w t m E cap b A l c used) (hL : Rise l) (hl : l.length ≤ 1000) (h0 : 0 ≤ k) (h1 : k < 65536) (hx : prevR l k = (x, true)) (hx0 : 0 ≤ x) (hx1 : x < 65536) :
    Calls Tryz.prog 7 #[.pointer (some ⟨t, 0, none⟩), .int .u64 k] w fun e w' => e = .returned (.tuple #[.int .u64 x, .bool true]) ∧ R1 w' t m E cap b A l c used ∧ w.grownBy w' (some m) := by
  have HR := Lib.hid hR
  have HL := Lib.hid hL
  have HX := Lib.hid hx
  have hl9 : l.length ≤ 900000 := by omega
  clear hR hL hx
  go_enter Tryz.func7, Tryz.ntmps7
  go_wp2_with fail
  refine (roarStart t m _ 1 cap used _ HR.out.1).mono ?_
  rintro e w1 ⟨rfl, HO1, hg1⟩
  have HR1 := Lib.hid (HR.out.looked HO1 hg1)
  go_wp2_with fail
  refine (upper0 k _ h0 h1).mono ?_
  rintro e w1' ⟨rfl, rfl⟩
  rename World => w1
  go_wp2_with fail
  refine (find1 t m E b cap used _ HR1.out.1 HR1.out.2.1).mono ?_
  rintro e w2 ⟨rfl, HO2, hg2⟩
  have HR2 := Lib.hid (HR1.out.looked HO2 hg2)
  go_wp2_with fail
  refine (see0 t m E b cap used _ HR2.out.1 HR2.out.2.1).mono ?_
  rintro e w3 ⟨rfl, HO3, hg3⟩
  have HR3 := Lib.hid (HR2.out.looked HO3 hg3)
  have HG := Lib.hid (grown_then (grown_then hg1 hg2) hg3)
  clear HO1 HO2 HO3 hg1 hg2 hg3
  have HR4 := Lib.hid (HR3.out.below ((Below.refl w3.heap.size w3).alloc (Nat.le_refl _) (.cells #[.int .u64 0, .pointer (some ⟨b, 0, none⟩)] 47)))
  have HG4 := Lib.hid (grown_alloc HG.out (.cells #[.int .u64 0, .pointer (some ⟨b, 0, none⟩)] 47))
  have HN := Lib.hid (heap_alloc_new w3 (.cells #[.int .u64 0, .pointer (some ⟨b, 0, none⟩)] 47))
  go_wp2_with fail
  go_region_law (first | ((with_reducible refine gate_scall (f := 24) rfl ?_); refine step_goes rfl Tryz.func24 (by kernel_rfl) rfl #[.int .u64 k] rfl (by simp only [List.map_toArray, List.map_cons, List.map_nil]; rfl) (lower0 k _ h0 h1) ?_; rintro e wy ⟨rfl, rfl⟩; refine ⟨_, rfl, ?_⟩) | ((with_reducible refine gate_scall (f := 27) rfl ?_); refine step_goes rfl Tryz.func27 (by kernel_rfl) rfl #[.pointer (some ⟨b, 0, none⟩), .int .u16 k] rfl (by simp only [List.map_toArray, List.map_cons, List.map_nil]; rfl) (boxPrev b A c l k _ (show Few _ b A l c from HR4.out.2.2.1) (show Rd .u16 _ A l from HR4.out.2.2.rd) HL.out hl9) ?_; rintro e w5 ⟨rfl, hb5⟩; have HR5 := Lib.hid ((R1.drew HR4.out).below hb5); have HG5 := Lib.hid (grown_then (grown_drew HG4.out) (grown_of_below (row := some m) hb5)); have HN5 := Lib.hid ((hb5.block _ (blk_lt HN.out)).trans HN.out); rw [HX.out]; refine ⟨_, rfl, ?_⟩))
  all_goals
    have n0 := blk_cell HN5.out 0 rfl
    have n1 := blk_cell HN5.out 1 rfl
    go_wp2_with fail
    refine (join0 _ x _ hx0 hx1).mono ?_
    rintro e w6 ⟨rfl, hb6⟩
    go_wp2
    go_ret2
    exact ⟨rfl, HR5.out.below hb6, grown_then HG5.out (grown_of_below (row := some m) hb6)⟩
end Go.Proofs.YtpmkcjpifedbkaaGreat
