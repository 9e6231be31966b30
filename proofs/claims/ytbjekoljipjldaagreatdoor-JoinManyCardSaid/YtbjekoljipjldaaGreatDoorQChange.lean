/-
  box.Box: Plain, Of, Add, ranged, Fill, Wipe, Drop, walked.
  box.Box: ranged, Fill, Wipe, Drop, walked.
  box.Box: Optimise, walked.
-/
import Derived.Test.YtbjekoljipjldaaGreatDoorQBoxes
import Derived.Deep.RegionHeld3
namespace Go.Proofs.YtbjekoljipjldaaGreatDoor
set_option linter.unusedVariables false
set_option linter.unusedSimpArgs false
open Go.RowKit

theorem ty_ne {w : World} {b : Nat} {cs cs' : Array Value} {t t' : TypeId} (h : w.heap[b]? = some (.cells cs t (0, 0))) (h' : w.heap[b]? = some (.cells cs' t' (0, 0))) (hne : t ≠ t') : False := by
  rw [h] at h'
  injection h' with h'
  injection h' with _ h'
  exact hne h'
set_option maxRecDepth 100000 in
theorem boxPlainG {base : Nat} (b : Nat) (k : Int) (p : Nat → Bool) (w : World) (h : Box w base b k p) (hT : Tab64 w) (hbs : base ≤ w.heap.size) :
    Calls Tryz.prog 53 #[.pointer (some ⟨b, 0, none⟩)] w fun e w' => ∃ r : Bool, e = .returned (.bool r) ∧ Hid (Box w' base b (plainK p) p) ∧ Hid (w.grownBy w' (some b)) := by
  have HX := Lib.hid h
  have HT := Lib.hid hT
  clear h hT
  go_enter Tryz.func53, Tryz.ntmps53
  go_wp2_with fail
  refine (boxPlainK b k p _ HX.out HT.out hbs).mono ?_
  rintro e w1 ⟨x, rfl, HK, hb1⟩
  have HX1 := Lib.hid (HX.out.below hb1)
  have HB1 := Lib.hid (show w.grownBy w1 (some b) from ⟨hb1.os, hb1.tape, hb1.output, hb1.size, fun i hi _ => hb1.block i hi⟩)
  clear hb1
  go_wp2_with fail
  refine (boxTurn b k _ p p x _ HX1.out HK.out).mono ?_
  rintro e w2 ⟨r, rfl, h2, hg⟩
  have H2 := Lib.hid h2
  have HG := Lib.hid (HB1.out.trans hg)
  clear h2 hg
  go_wp2
  go_ret
  exact ⟨r, rfl, H2.out, HG.out⟩
theorem Box.base {w : World} {base b : Nat} {k : Int} {p : Nat → Bool} (h : Box w base b k p) : base ≤ b ∧ b < w.heap.size := by
  obtain ⟨_, h1, h2, _⟩ := h
  exact ⟨h2, blk_lt h1⟩
theorem boxPlain {base : Nat} (b : Nat) (k : Int) (p : Nat → Bool) (w : World) (h : Box w base b k p) (hT : Tab64 w) (hbs : base ≤ w.heap.size) :
    Calls Tryz.prog 53 #[.pointer (some ⟨b, 0, none⟩)] w fun e w' => ∃ r : Bool, e = .returned (.bool r) ∧ Hid (Box w' base b (plainK p) p) ∧ Hid (Below base w w') :=
  (boxPlainG b k p w h hT hbs).mono fun e w' ⟨r, h1, h2, h3⟩ => ⟨r, h1, h2, (Below.refl base w).grown h3.out hbs (fun g e => by cases e; exact h.base.1)⟩
set_option maxRecDepth 100000 in
theorem boxOf (A : Option Addr) (c : Nat) (p : Nat → Bool) (w : World) (hr : Rd .u16 w A (L p)) (hT : Tab64 w) :
    Calls Tryz.prog 28 #[.slice A (L p).length c] w fun e w' => ∃ b, e = .returned (.pointer (some ⟨b, 0, none⟩)) ∧ Hid (Box w' w.heap.size b (plainK p) p) ∧ Below w.heap.size w w' := by
  have HR := Lib.hid hr
  have HT := Lib.hid hT
  have HLE := Lib.hid (L_le p)
  clear hr hT
  go_enter Tryz.func28, Tryz.ntmps28
  go_wp2_with fail
  refine (arrOf A c (L p) _ HR.out (L_rise p) (by have := HLE.out; omega)).mono ?_
  rintro e w1 ⟨A1, c1, rfl, h1, HO, hb1⟩
  have hz1 := hb1.size
  have hba := hb1.alloc hz1 (.cells #[.iface 78 (.agg #[.slice A1 (L p).length c1])] 70)
  have HB1 := Lib.hid hba
  have HX1 := Lib.hid (show Box (w1.alloc (.cells #[.iface 78 (.agg #[.slice A1 (L p).length c1])] 70)) w.heap.size w1.heap.size 1 p from
    ⟨_, heap_alloc_new _ _, hz1, .inl ⟨rfl, A1, c1, rfl, h1, HO.out.below ((Below.refl _ _).alloc (Nat.le_refl _) _)⟩⟩)
  clear hb1 hba
  go_wp2_with fail
  refine (boxPlain _ 1 p _ HX1.out (HT.out.stays HB1.out) (by simp; omega)).mono ?_
  rintro e w2 ⟨r, rfl, H2, HB2⟩
  go_wp2
  go_ret
  exact ⟨_, rfl, H2.out, HB1.out.trans HB2.out⟩
/-- blocks of types that no box is made of stay -/
def KeepX (w w' : World) : Prop := ∀ (k : Nat) (cs : Array Value) (t : TypeId), t ≠ 70 → t ≠ 104 → t ≠ 95 → w.heap[k]? = some (.cells cs t (0, 0)) → w'.heap[k]? = some (.cells cs t (0, 0))
theorem KeepX.below {w w' : World} (hb : Below w.heap.size w w') : KeepX w w' := fun k cs t _ _ _ hk => (hb.block k (blk_lt hk)).trans hk
theorem KeepX.trans {a b c : World} (h : KeepX a b) (k : KeepX b c) : KeepX a c := fun i cs t h1 h2 h3 hk => k i cs t h1 h2 h3 (h i cs t h1 h2 h3 hk)
theorem KeepX.row {w w' : World} {b : Nat} {cs : Array Value} (hg : w.grownBy w' (some b)) (hb : w.heap[b]? = some (.cells cs 70 (0, 0))) : KeepX w w' := fun k cs' t h1 _ _ hk =>
  (hg.block k (blk_lt hk) (fun e => by cases e; exact ty_ne hk hb h1)).trans hk
theorem KeepX.chg2 {w w' : World} {m d : Nat} {cs cs' : Array Value} (hc : Chg (fun k => k = m ∨ k = d) w w') (hm : w.heap[m]? = some (.cells cs 104 (0, 0))) (hd : w.heap[d]? = some (.cells cs' 95 (0, 0))) : KeepX w w' := fun k cs' t _ h2 h3 hk =>
  hc.blk hk (fun e => by rcases e with rfl | rfl; exact ty_ne hk hm h2; exact ty_ne hk hd h3)
theorem below_row {w w' : World} {base b : Nat} (hg : w.grownBy w' (some b)) (hbs : base ≤ w.heap.size) (hb : base ≤ b) : Below base w w' := (Below.refl base w).grown hg hbs (fun g e => by cases e; exact hb)
theorem row_below {w w' : World} {b : Nat} (hb : Below w.heap.size w w') : w.grownBy w' (some b) := ⟨hb.os, hb.tape, hb.output, hb.size, fun i hi _ => hb.block i hi⟩
set_option maxRecDepth 100000 in
set_option maxHeartbeats 2000000 in
theorem boxAdd {base : Nat} (b : Nat) (k : Int) (p : Nat → Bool) (v : Nat) (w : World) (h : Box w base b k p) (hT : Tab64 w) (hbs : base ≤ w.heap.size) (hv : v < 65536) :
    Calls Tryz.prog 31 #[.pointer (some ⟨b, 0, none⟩), .int .u16 (v : Nat)] w fun e w' => ∃ r : Bool, e = .returned (.bool r) ∧ Hid (∃ k', Box w' base b k' (withV p v)) ∧ Hid (Below base w w') ∧ Hid (KeepX w w') := by
  have HX := Lib.hid h
  have HT := Lib.hid hT
  have HLE := Lib.hid (L_le p)
  obtain ⟨x, h0, hbb, hk⟩ := h
  have H0 := Lib.hid h0
  have HK := Lib.hid hk
  have hl6 := L_le p
  clear h0 hk hT
  go_enter Tryz.func31, Tryz.ntmps31
  go_wp2_with fail
  refine (boxHas (base := base) _ p v _ (.inr ⟨b, k, rfl, HX.out⟩) hv).mono ?_
  rintro e w1 ⟨rfl, hb1⟩
  have HB1 := Lib.hid hb1
  have HX1 := Lib.hid (HX.out.below hb1)
  clear hb1
  rcases hpv : p v with _ | _
  · have HPV := Lib.hid hpv
    clear hpv
    go_wp2_with fail
    refine (boxLen (base := base) _ p _ (.inr ⟨b, k, rfl, HX1.out⟩)).mono ?_
    rintro e w2 ⟨rfl, hb2⟩
    have HB2 := Lib.hid (below_then HB1.out hb2)
    have HX2 := Lib.hid (HX.out.below HB2.out)
    have HT2 := Lib.hid (HT.out.stays HB2.out)
    have H2 := Lib.hid (blk_below H0.out HB2.out rfl)
    have hz2 := HB2.out.size
    have q2 := blk_cell H2.out 0 rfl
    have f2 := blk_free H2.out 0
    clear hb2
    by_cases h4 : ((L p).length : Int) < 4096
    · rcases HK.out with ⟨rfl, A, c, rfl, g1, g3⟩ | ⟨rfl, m, s, d, ws, rfl, g2, g3, g4, g5, g6⟩ | ⟨rfl, A, c, R, rfl, g2, g3, g4⟩
      · have G3 := Lib.hid (g3.rd.below HB2.out)
        clear g3 HK
        have hm0 := fun w => m1_list (.slice A (L p).length c) w
        go_wp2_with fail
        refine (k1List A c p _ G3.out).mono ?_
        rintro e w3 ⟨u, rfl, ho, hb3⟩
        obtain ⟨A1, c1, rfl, hc1, hr1, ho1⟩ := ho.formS
        have HR1 := Lib.hid hr1
        have HB3 := Lib.hid (below_then HB2.out hb3)
        have H3 := Lib.hid (blk_below H0.out HB3.out rfl)
        have q3 := blk_cell H3.out 0 rfl
        have f3 := blk_free H3.out 0
        clear ho hr1 ho1 hb3
        go_wp2_with fail
        refine (arrAdd A1 c1 (L p) v _ HR1.out (L_rise p) hc1 (by have := HLE.out; omega)).mono ?_
        rintro e w4 ⟨V, r, rfl, hrr, ho4, hb4⟩
        rw [addR_L hv] at ho4
        obtain ⟨A2, c2, rfl, hc2, hr2, ho2⟩ := ho4.formS
        have HO2 := Lib.hid ho2
        have HB4 := Lib.hid (below_then HB3.out hb4)
        have H4 := Lib.hid (blk_below H0.out HB4.out rfl)
        have q4 := blk_cell H4.out 0 rfl
        have f4 := blk_free H4.out 0
        have hz3 := HB3.out.size
        clear ho4 hr2 ho2 hb4 q3 f3 hrr
        go_wp2
        go_ret
        have hs := blk_set H4.out 0 (.iface 78 (.agg #[.slice A2 (L (withV p v)).length c2]))
        exact ⟨_, rfl, ⟨1, _, by simpa using hs, hbb, .inl ⟨rfl, A2, c2, rfl, hc2, own_set (HO2.out.mono (by omega)) H4.out (by decide) 0 _⟩⟩, ((HB4.out.mono hbs).setCell hbb _), (KeepX.below HB4.out).trans (KeepX.row (grown_set (grown_refl _ _)) H4.out)⟩
      · have G5 := Lib.hid (g5.below HB2.out)
        have G6 := Lib.hid g6
        clear g5 g6 g2 g3 g4 HK
        have hm0 := fun w => m2_list (.pointer (some ⟨m, 0, none⟩)) w
        go_wp2_with fail
        refine (k2List m s d ws p _ G5.out HT2.out G6.out).mono ?_
        rintro e w3 ⟨u, rfl, ho, hb3⟩
        obtain ⟨A1, c1, rfl, hc1, hr1, ho1⟩ := ho.formS
        have HR1 := Lib.hid hr1
        have HB3 := Lib.hid (below_then HB2.out hb3)
        have H3 := Lib.hid (blk_below H0.out HB3.out rfl)
        have q3 := blk_cell H3.out 0 rfl
        have f3 := blk_free H3.out 0
        clear ho hr1 ho1 hb3
        go_wp2_with fail
        refine (arrAdd A1 c1 (L p) v _ HR1.out (L_rise p) hc1 (by have := HLE.out; omega)).mono ?_
        rintro e w4 ⟨V, r, rfl, hrr, ho4, hb4⟩
        rw [addR_L hv] at ho4
        obtain ⟨A2, c2, rfl, hc2, hr2, ho2⟩ := ho4.formS
        have HO2 := Lib.hid ho2
        have HB4 := Lib.hid (below_then HB3.out hb4)
        have H4 := Lib.hid (blk_below H0.out HB4.out rfl)
        have q4 := blk_cell H4.out 0 rfl
        have f4 := blk_free H4.out 0
        have hz3 := HB3.out.size
        clear ho4 hr2 ho2 hb4 q3 f3 hrr
        go_wp2
        go_ret
        have hs := blk_set H4.out 0 (.iface 78 (.agg #[.slice A2 (L (withV p v)).length c2]))
        exact ⟨_, rfl, ⟨1, _, by simpa using hs, hbb, .inl ⟨rfl, A2, c2, rfl, hc2, own_set (HO2.out.mono (by omega)) H4.out (by decide) 0 _⟩⟩, ((HB4.out.mono hbs).setCell hbb _), (KeepX.below HB4.out).trans (KeepX.row (grown_set (grown_refl _ _)) H4.out)⟩
      · have G2 := Lib.hid (g2.rd.below HB2.out)
        have G3 := Lib.hid g3
        clear g2 g3 HK
        have hm0 := fun w => m3_list (.slice A R.length c) w
        go_wp2_with fail
        refine (k3List A c R p _ G2.out G3.out g4).mono ?_
        rintro e w3 ⟨u, rfl, ho, hb3⟩
        obtain ⟨A1, c1, rfl, hc1, hr1, ho1⟩ := ho.formS
        have HR1 := Lib.hid hr1
        have HB3 := Lib.hid (below_then HB2.out hb3)
        have H3 := Lib.hid (blk_below H0.out HB3.out rfl)
        have q3 := blk_cell H3.out 0 rfl
        have f3 := blk_free H3.out 0
        clear ho hr1 ho1 hb3
        go_wp2_with fail
        refine (arrAdd A1 c1 (L p) v _ HR1.out (L_rise p) hc1 (by have := HLE.out; omega)).mono ?_
        rintro e w4 ⟨V, r, rfl, hrr, ho4, hb4⟩
        rw [addR_L hv] at ho4
        obtain ⟨A2, c2, rfl, hc2, hr2, ho2⟩ := ho4.formS
        have HO2 := Lib.hid ho2
        have HB4 := Lib.hid (below_then HB3.out hb4)
        have H4 := Lib.hid (blk_below H0.out HB4.out rfl)
        have q4 := blk_cell H4.out 0 rfl
        have f4 := blk_free H4.out 0
        have hz3 := HB3.out.size
        clear ho4 hr2 ho2 hb4 q3 f3 hrr
        go_wp2
        go_ret
        have hs := blk_set H4.out 0 (.iface 78 (.agg #[.slice A2 (L (withV p v)).length c2]))
        exact ⟨_, rfl, ⟨1, _, by simpa using hs, hbb, .inl ⟨rfl, A2, c2, rfl, hc2, own_set (HO2.out.mono (by omega)) H4.out (by decide) 0 _⟩⟩, ((HB4.out.mono hbs).setCell hbb _), (KeepX.below HB4.out).trans (KeepX.row (grown_set (grown_refl _ _)) H4.out)⟩
    · clear q2 f2
      go_wp2_with fail
      refine (boxBitmap b k p _ HX2.out (by omega)).mono ?_
      rintro e w3 ⟨m, s, d, ws, rfl, e2, e3, e4, hB3, HW, hb3⟩
      have HBM := Lib.hid hB3
      have HB3 := Lib.hid (below_then HB2.out hb3)
      have H3 := Lib.hid (blk_below H0.out HB3.out rfl)
      have hz3 := HB3.out.size
      have hnm : b ≠ m := by rintro rfl; exact ty_ne hB3.1 H3.out (by decide)
      have hnd : b ≠ d := by rintro rfl; exact ty_ne hB3.2.2.1 H3.out (by decide)
      clear hB3 hb3
      go_wp2_with fail
      refine (bmAdd m s d ws v _ HBM.out hv).mono ?_
      rintro e w4 ⟨rfl, hB4, hc4⟩
      have HW4 := Lib.hid (show ∀ i, i < 65536 → wbit (setW ws v) i = withV p v i from fun i hi => by rw [setW_bit ws HBM.out.2.2.2 v i hv, HW.out i hi]; rfl)
      have HBM4 := Lib.hid hB4
      have HKX := Lib.hid ((KeepX.below HB3.out).trans (KeepX.chg2 hc4 HBM.out.1 HBM.out.2.2.1))
      have HB4 := Lib.hid ((HB3.out.mono hbs).trans (hc4.below (B := base) (by omega) (fun q hq h => by omega)))
      have H4 := Lib.hid (hc4.blk H3.out (fun h => by omega))
      have q4 := blk_cell H4.out 0 rfl
      have f4 := blk_free H4.out 0
      clear hB4 hc4
      go_wp2
      go_ret
      have hs := blk_set H4.out 0 (.iface 83 (.agg #[.pointer (some ⟨m, 0, none⟩)]))
      have hx : Keeps w4 base (.iface 83 (.agg #[.pointer (some ⟨m, 0, none⟩)])) 2 (withV p v) := .inr (.inl ⟨rfl, m, s, d, _, rfl, e2, e3, e4, HBM4.out, HW4.out⟩)
      exact ⟨_, rfl, ⟨2, _, by simpa using hs, hbb, hx.grown (grown_set (grown_refl _ _)) H4.out⟩, HB4.out.setCell hbb _, HKX.out.trans (KeepX.row (grown_set (grown_refl _ _)) H4.out)⟩
  · have HPV := Lib.hid (show ∀ i, i < 65536 → p i = withV p v i from fun i _ => by
      rw [Bool.eq_iff_iff, withV_eq]
      exact ⟨.inl, fun h => h.elim id fun e => by rw [e]; exact hpv⟩)
    clear hpv
    go_wp2
    go_ret
    exact ⟨_, rfl, ⟨k, HX1.out.congr HPV.out⟩, HB1.out.mono hbs, KeepX.below HB1.out⟩
end Go.Proofs.YtbjekoljipjldaaGreatDoor
namespace Go.Proofs.YtbjekoljipjldaaGreatDoor
set_option linter.unusedVariables false
set_option linter.unusedSimpArgs false
open Go.RowKit

theorem cnt_zero {p : Nat → Bool} {f : Nat} : ∀ t, cnt p f t = 0 → ∀ i, f ≤ i → i < t → p i = false := by
  intro t
  induction t with
  | zero => intro _ i _ h; omega
  | succ t ih =>
    intro h i h1 h2
    have hs := cnt_split p f t
    by_cases hft : f ≤ t
    · rw [hs hft (t + 1) (by omega)] at h
      rcases Nat.lt_or_ge i t with h3 | h3
      · exact ih (by omega) i h1 h3
      · obtain rfl : i = t := by omega
        have h4 : cnt p i (i + 1) = 0 := by omega
        unfold cnt at h4
        rw [cnt_none p i i (Nat.le_refl _)] at h4
        by_cases hp : p i = true
        · simp [hp] at h4
        · simpa using hp
    · omega
/-- a range filled, or wiped -/
def rangeP (p : Nat → Bool) (f t : Nat) (inn : Bool) : Nat → Bool := fun i => if inn then p i || inR f (t + 1) i else p i && !inR f (t + 1) i
set_option maxRecDepth 100000 in
set_option maxHeartbeats 2000000 in
theorem boxRanged1 {base : Nat} (b : Nat) (k : Int) (p : Nat → Bool) (f t : Nat) (w : World) (h : Box w base b k p) (hT : Tab64 w) (hbs : base ≤ w.heap.size) (hb0 : 0 ≠ b) (hf : f < 65536) (ht : t < 65536) :
    Calls Tryz.prog 50 #[.pointer (some ⟨b, 0, none⟩), .int .u16 (f : Nat), .int .u16 (t : Nat), .bool true] w fun e w' => ∃ n : Int, e = .returned (.int .i64 n) ∧ Hid (∃ k', Box w' base b k' (rangeP p f t true)) ∧ Hid (w.grownBy w' (some b)) := by
  have HX := Lib.hid h
  have HT := Lib.hid hT
  have HLE := Lib.hid (L_le p)
  obtain ⟨x, h0, hbb, hk⟩ := h
  have H0 := Lib.hid h0
  have hl6 := L_le p
  clear h0 hk hT
  go_enter Tryz.func50, Tryz.ntmps50
  go_wp2_with fail
  refine (boxLen (base := base) _ p _ (.inr ⟨b, k, rfl, HX.out⟩)).mono ?_
  rintro e w1 ⟨rfl, hb1⟩
  have HB1 := Lib.hid hb1
  have HX1 := Lib.hid (HX.out.below hb1)
  have hz1 := hb1.size
  clear hb1
  go_wp2_with fail
  refine (boxBitmap b k p _ HX1.out (by omega)).mono ?_
  rintro e w2 ⟨m0, s0, d0, ws, rfl, e2, e3, e4, hB2, HW, hb2⟩
  have HBM := Lib.hid hB2
  have HB2 := Lib.hid (below_then HB1.out hb2)
  have hz2 := HB2.out.size
  clear hB2 hb2
  go_wp2_with fail
  refine (bmCopy m0 s0 d0 ws _ HBM.out).mono ?_
  rintro e w3 ⟨m, s, d, rfl, e5, e6, e7, hB3, hb3⟩
  have HBM2 := Lib.hid hB3
  have HB2 := Lib.hid (below_then HB2.out hb3)
  have hz3 := HB2.out.size
  clear hB3 hb3 HBM
  go_wp2_with fail
  refine (bmFill m s d ws f t _ HBM2.out hf ht).mono ?_
  rintro e w4 ⟨rfl, hB4, hc4⟩
  have hwz : Ws ws := HBM2.out.2.2.2
  obtain ⟨g1, g2, g3⟩ := fill_bits 1100 f (t + 1) 0 ws hwz (by omega) (enough_all f (t + 1) (by omega))
  have HSZ := Lib.hid (size_fill ws hwz f (t + 1) (by omega))
  have HG1 := Lib.hid g1
  have HB4 := Lib.hid hB4
  have HG3 := Lib.hid g3
  have HBW4 := Lib.hid (HB2.out.trans (hc4.below (B := w.heap.size) HB2.out.size (fun q hq h => by omega)))
  have HL4 := Lib.hid (size_le (fillS ws (partsF 1100 f (t + 1))).2)
  clear hB4 hc4 g1 g2 g3 hwz
  have HPP := Lib.hid (show ∀ i, i < 65536 → wbit (fillS ws (partsF 1100 f (t + 1))).2 i = rangeP p f t true i from fun i hi => by
    have := HG3.out i
    have h2 := HW.out i hi
    show wbit ((partsF 1100 f (t + 1)).foldl _ (0, ws)).2 i = _
    rw [this, h2]
    rfl)
  have HSE := Lib.hid (show size ws = (fillS ws (partsF 1100 f (t + 1))).2.length * 0 + (L p).length by rw [size_L HW.out]; omega)
  have HEQ := Lib.hid (show size (fillS ws (partsF 1100 f (t + 1))).2 = (L p).length → ∀ i, i < 65536 → p i = rangeP p f t true i from fun hs i hi => by
    have h1 := HSZ.out
    rw [hs, size_L HW.out] at h1
    have h2 : (fillS ws (partsF 1100 f (t + 1))).1 = 0 := by omega
    have h3 := HG1.out
    unfold fillS at h2
    rw [h2] at h3
    have h4 := cnt_zero (p := (fun i => !wbit ws i)) (f := f) (t + 1) (by omega)
    unfold rangeP inR
    by_cases hr : f ≤ i ∧ i < t + 1
    · have h5 := h4 i hr.1 hr.2
      simp only [HW.out i hi] at h5
      have h7 : decide (f ≤ i) = true := decide_eq_true hr.1
      have h8 : decide (i < t + 1) = true := decide_eq_true hr.2
      rw [h7, h8]
      revert h5
      cases p i <;> simp
    · have h6 : (decide (f ≤ i) && decide (i < t + 1)) = false := by
        rw [Bool.and_eq_false_iff, decide_eq_false_iff_not, decide_eq_false_iff_not]; omega
      rw [h6]; simp)
  generalize (fillS ws (partsF 1100 f (t + 1))).1 = cn at *
  generalize (fillS ws (partsF 1100 f (t + 1))).2 = ws2 at *
  have H0' := Lib.hid (blk_below H0.out HBW4.out rfl)
  have HX4 := Lib.hid (HX.out.below HBW4.out)
  have HT4 := Lib.hid (HT.out.stays HBW4.out)
  have hl4 := HL4.out
  have hz4 := HBW4.out.size
  clear HSZ HG1 HG3 HBM2 HSE
  go_wp2_with fail
  refine (bmLen m s d ws2 _ HB4.out).mono ?_
  rintro e w5 ⟨rfl, rfl⟩
  by_cases heq : size ws2 = (L p).length
  · have HPE := Lib.hid (HEQ.out heq)
    have heqi : ((size ws2 : Nat) : Int) = ((L p).length : Nat) := by omega
    clear HEQ
    go_wp2
    go_ret
    exact ⟨_, rfl, ⟨k, HX4.out.congr HPE.out⟩, row_below HBW4.out⟩
  · have hne : ¬ (((size ws2 : Nat) : Int) = ((L p).length : Nat)) := by omega
    have hneb : (((size ws2 : Nat) : Int) == ((L p).length : Nat)) = false := by rw [beq_eq_false_iff_ne]; exact hne
    have q4 := blk_cell H0'.out 0 rfl
    have f4 := blk_free H0'.out 0
    have hk5 : Keeps _ base (.iface 83 (.agg #[.pointer (some ⟨m, 0, none⟩)])) 2 (rangeP p f t true) := .inr (.inl ⟨rfl, m, s, d, ws2, rfl, by omega, by omega, by omega, HB4.out, HPP.out⟩)
    have hs := blk_set H0'.out 0 (.iface 83 (.agg #[.pointer (some ⟨m, 0, none⟩)]))
    have HX5 := Lib.hid (show Box _ base b 2 (rangeP p f t true) from ⟨_, by simpa using hs, hbb, hk5.grown (grown_set (b := b) (i := 0) (u := .iface 83 (.agg #[.pointer (some ⟨m, 0, none⟩)])) (grown_refl _ _)) H0'.out⟩)
    have HT5 := Lib.hid (HT4.out.chg (S := (· = b)) ((Chg.refl _ _).set (i := 0) (.iface 83 (.agg #[.pointer (some ⟨m, 0, none⟩)])) (.inl rfl)) hb0)
    have HBM5 := Lib.hid (HB4.out.chg (S := (· = b)) ((Chg.refl _ _).set (i := 0) (.iface 83 (.agg #[.pointer (some ⟨m, 0, none⟩)])) (.inl rfl)) (by rintro rfl; exact ty_ne HB4.out.1 H0'.out (by decide)) (by rintro rfl; exact ty_ne HB4.out.2.1 H0'.out (by decide)) (by rintro rfl; exact ty_ne HB4.out.2.2.1 H0'.out (by decide)))
    have HBW5 := Lib.hid (grown_set (b := b) (i := 0) (u := .iface 83 (.agg #[.pointer (some ⟨m, 0, none⟩)])) (row_below (b := b) HBW4.out))
    clear hk5 hs HX4 HT4
    go_wp2_with fail
    refine (boxPlainG b 2 _ _ HX5.out HT5.out (by simp; omega)).mono ?_
    rintro e w6 ⟨r, rfl, H6, HG6⟩
    have HBM6 := Lib.hid (HBM5.out.chg (S := (· = b)) (Chg.of_grown HG6.out (fun b' e => by cases e; rfl)) (by rintro rfl; exact ty_ne HB4.out.1 H0'.out (by decide)) (by rintro rfl; exact ty_ne HB4.out.2.1 H0'.out (by decide)) (by rintro rfl; exact ty_ne HB4.out.2.2.1 H0'.out (by decide)))
    have HBW6 := Lib.hid (HBW5.out.trans HG6.out)
    clear HG6 HBW5 HBM5 HX5 HT5 q4 f4
    go_wp2_with fail
    refine (bmLen m s d ws2 _ HBM6.out).mono ?_
    rintro e w7 ⟨rfl, rfl⟩
    go_wp2_with fail
    refine (bmLen m s d ws2 _ HBM6.out).mono ?_
    rintro e w8 ⟨rfl, rfl⟩
    go_wp2
    all_goals
      go_ret
      first | exact ⟨_, rfl, ⟨_, H6.out⟩, HBW6.out⟩ | exact ⟨⟨_, rfl⟩, ⟨_, H6.out⟩, HBW6.out⟩
set_option maxRecDepth 100000 in
set_option maxHeartbeats 2000000 in
theorem boxRanged0 {base : Nat} (b : Nat) (k : Int) (p : Nat → Bool) (f t : Nat) (w : World) (h : Box w base b k p) (hT : Tab64 w) (hbs : base ≤ w.heap.size) (hb0 : 0 ≠ b) (hf : f < 65536) (ht : t < 65536) :
    Calls Tryz.prog 50 #[.pointer (some ⟨b, 0, none⟩), .int .u16 (f : Nat), .int .u16 (t : Nat), .bool false] w fun e w' => ∃ n : Int, e = .returned (.int .i64 n) ∧ Hid (∃ k', Box w' base b k' (rangeP p f t false)) ∧ Hid (w.grownBy w' (some b)) := by
  have HX := Lib.hid h
  have HT := Lib.hid hT
  have HLE := Lib.hid (L_le p)
  obtain ⟨x, h0, hbb, hk⟩ := h
  have H0 := Lib.hid h0
  have hl6 := L_le p
  clear h0 hk hT
  go_enter Tryz.func50, Tryz.ntmps50
  go_wp2_with fail
  refine (boxLen (base := base) _ p _ (.inr ⟨b, k, rfl, HX.out⟩)).mono ?_
  rintro e w1 ⟨rfl, hb1⟩
  have HB1 := Lib.hid hb1
  have HX1 := Lib.hid (HX.out.below hb1)
  have hz1 := hb1.size
  clear hb1
  go_wp2_with fail
  refine (boxBitmap b k p _ HX1.out (by omega)).mono ?_
  rintro e w2 ⟨m0, s0, d0, ws, rfl, e2, e3, e4, hB2, HW, hb2⟩
  have HBM := Lib.hid hB2
  have HB2 := Lib.hid (below_then HB1.out hb2)
  have hz2 := HB2.out.size
  clear hB2 hb2
  go_wp2_with fail
  refine (bmCopy m0 s0 d0 ws _ HBM.out).mono ?_
  rintro e w3 ⟨m, s, d, rfl, e5, e6, e7, hB3, hb3⟩
  have HBM2 := Lib.hid hB3
  have HB2 := Lib.hid (below_then HB2.out hb3)
  have hz3 := HB2.out.size
  clear hB3 hb3 HBM
  go_wp2_with fail
  refine (bmWipe m s d ws f t _ HBM2.out hf ht).mono ?_
  rintro e w4 ⟨rfl, hB4, hc4⟩
  have hwz : Ws ws := HBM2.out.2.2.2
  obtain ⟨g1, g2, g3⟩ := wipe_bits 1100 f (t + 1) 0 ws hwz (by omega) (enough_all f (t + 1) (by omega))
  have HSZ := Lib.hid (size_wipe ws hwz f (t + 1) (by omega))
  have HG1 := Lib.hid g1
  have HB4 := Lib.hid hB4
  have HG3 := Lib.hid g3
  have HBW4 := Lib.hid (HB2.out.trans (hc4.below (B := w.heap.size) HB2.out.size (fun q hq h => by omega)))
  have HL4 := Lib.hid (size_le (wipeS ws (partsF 1100 f (t + 1))).2)
  clear hB4 hc4 g1 g2 g3 hwz
  have HPP := Lib.hid (show ∀ i, i < 65536 → wbit (wipeS ws (partsF 1100 f (t + 1))).2 i = rangeP p f t false i from fun i hi => by
    have := HG3.out i
    have h2 := HW.out i hi
    show wbit ((partsF 1100 f (t + 1)).foldl _ (0, ws)).2 i = _
    rw [this, h2]
    rfl)
  have HSE := Lib.hid (show size ws = (wipeS ws (partsF 1100 f (t + 1))).2.length * 0 + (L p).length by rw [size_L HW.out]; omega)
  have HEQ := Lib.hid (show size (wipeS ws (partsF 1100 f (t + 1))).2 = (L p).length → ∀ i, i < 65536 → p i = rangeP p f t false i from fun hs i hi => by
    have h1 := HSZ.out
    rw [hs, size_L HW.out] at h1
    have h2 : (wipeS ws (partsF 1100 f (t + 1))).1 = 0 := by omega
    have h3 := HG1.out
    unfold wipeS at h2
    rw [h2] at h3
    have h4 := cnt_zero (p := (wbit ws)) (f := f) (t + 1) (by omega)
    unfold rangeP inR
    by_cases hr : f ≤ i ∧ i < t + 1
    · have h5 := h4 i hr.1 hr.2
      simp only [HW.out i hi] at h5
      have h7 : decide (f ≤ i) = true := decide_eq_true hr.1
      have h8 : decide (i < t + 1) = true := decide_eq_true hr.2
      rw [h7, h8]
      revert h5
      cases p i <;> simp
    · have h6 : (decide (f ≤ i) && decide (i < t + 1)) = false := by
        rw [Bool.and_eq_false_iff, decide_eq_false_iff_not, decide_eq_false_iff_not]; omega
      rw [h6]; simp)
  generalize (wipeS ws (partsF 1100 f (t + 1))).1 = cn at *
  generalize (wipeS ws (partsF 1100 f (t + 1))).2 = ws2 at *
  have H0' := Lib.hid (blk_below H0.out HBW4.out rfl)
  have HX4 := Lib.hid (HX.out.below HBW4.out)
  have HT4 := Lib.hid (HT.out.stays HBW4.out)
  have hl4 := HL4.out
  have hz4 := HBW4.out.size
  clear HSZ HG1 HG3 HBM2 HSE
  go_wp2_with fail
  refine (bmLen m s d ws2 _ HB4.out).mono ?_
  rintro e w5 ⟨rfl, rfl⟩
  by_cases heq : size ws2 = (L p).length
  · have HPE := Lib.hid (HEQ.out heq)
    have heqi : ((size ws2 : Nat) : Int) = ((L p).length : Nat) := by omega
    clear HEQ
    go_wp2
    go_ret
    exact ⟨_, rfl, ⟨k, HX4.out.congr HPE.out⟩, row_below HBW4.out⟩
  · have hne : ¬ (((size ws2 : Nat) : Int) = ((L p).length : Nat)) := by omega
    have hneb : (((size ws2 : Nat) : Int) == ((L p).length : Nat)) = false := by rw [beq_eq_false_iff_ne]; exact hne
    have q4 := blk_cell H0'.out 0 rfl
    have f4 := blk_free H0'.out 0
    have hk5 : Keeps _ base (.iface 83 (.agg #[.pointer (some ⟨m, 0, none⟩)])) 2 (rangeP p f t false) := .inr (.inl ⟨rfl, m, s, d, ws2, rfl, by omega, by omega, by omega, HB4.out, HPP.out⟩)
    have hs := blk_set H0'.out 0 (.iface 83 (.agg #[.pointer (some ⟨m, 0, none⟩)]))
    have HX5 := Lib.hid (show Box _ base b 2 (rangeP p f t false) from ⟨_, by simpa using hs, hbb, hk5.grown (grown_set (b := b) (i := 0) (u := .iface 83 (.agg #[.pointer (some ⟨m, 0, none⟩)])) (grown_refl _ _)) H0'.out⟩)
    have HT5 := Lib.hid (HT4.out.chg (S := (· = b)) ((Chg.refl _ _).set (i := 0) (.iface 83 (.agg #[.pointer (some ⟨m, 0, none⟩)])) (.inl rfl)) hb0)
    have HBM5 := Lib.hid (HB4.out.chg (S := (· = b)) ((Chg.refl _ _).set (i := 0) (.iface 83 (.agg #[.pointer (some ⟨m, 0, none⟩)])) (.inl rfl)) (by rintro rfl; exact ty_ne HB4.out.1 H0'.out (by decide)) (by rintro rfl; exact ty_ne HB4.out.2.1 H0'.out (by decide)) (by rintro rfl; exact ty_ne HB4.out.2.2.1 H0'.out (by decide)))
    have HBW5 := Lib.hid (grown_set (b := b) (i := 0) (u := .iface 83 (.agg #[.pointer (some ⟨m, 0, none⟩)])) (row_below (b := b) HBW4.out))
    clear hk5 hs HX4 HT4
    go_wp2_with fail
    refine (boxPlainG b 2 _ _ HX5.out HT5.out (by simp; omega)).mono ?_
    rintro e w6 ⟨r, rfl, H6, HG6⟩
    have HBM6 := Lib.hid (HBM5.out.chg (S := (· = b)) (Chg.of_grown HG6.out (fun b' e => by cases e; rfl)) (by rintro rfl; exact ty_ne HB4.out.1 H0'.out (by decide)) (by rintro rfl; exact ty_ne HB4.out.2.1 H0'.out (by decide)) (by rintro rfl; exact ty_ne HB4.out.2.2.1 H0'.out (by decide)))
    have HBW6 := Lib.hid (HBW5.out.trans HG6.out)
    clear HG6 HBW5 HBM5 HX5 HT5 q4 f4
    go_wp2_with fail
    refine (bmLen m s d ws2 _ HBM6.out).mono ?_
    rintro e w7 ⟨rfl, rfl⟩
    go_wp2_with fail
    refine (bmLen m s d ws2 _ HBM6.out).mono ?_
    rintro e w8 ⟨rfl, rfl⟩
    go_wp2
    all_goals
      go_ret
      first | exact ⟨_, rfl, ⟨_, H6.out⟩, HBW6.out⟩ | exact ⟨⟨_, rfl⟩, ⟨_, H6.out⟩, HBW6.out⟩
set_option maxRecDepth 100000 in
theorem boxFill {base : Nat} (b : Nat) (k : Int) (p : Nat → Bool) (f t : Nat) (w : World) (h : Box w base b k p) (hT : Tab64 w) (hbs : base ≤ w.heap.size) (hb0 : 0 ≠ b) (hf : f < 65536) (ht : t < 65536) :
    Calls Tryz.prog 22 #[.pointer (some ⟨b, 0, none⟩), .int .u16 (f : Nat), .int .u16 (t : Nat)] w fun e w' => ∃ n : Int, e = .returned (.int .i64 n) ∧ Hid (∃ k', Box w' base b k' (rangeP p f t true)) ∧ Hid (w.grownBy w' (some b)) := by
  have HX := Lib.hid h
  have HT := Lib.hid hT
  clear h hT
  go_enter Tryz.func22, Tryz.ntmps22
  go_wp2_with fail
  refine (boxRanged1 b k p f t _ HX.out HT.out hbs hb0 hf ht).mono ?_
  rintro e w1 ⟨n, rfl, H1, H2⟩
  go_wp2
  go_ret
  exact ⟨n, rfl, H1.out, H2.out⟩
set_option maxRecDepth 100000 in
theorem boxWipe {base : Nat} (b : Nat) (k : Int) (p : Nat → Bool) (f t : Nat) (w : World) (h : Box w base b k p) (hT : Tab64 w) (hbs : base ≤ w.heap.size) (hb0 : 0 ≠ b) (hf : f < 65536) (ht : t < 65536) :
    Calls Tryz.prog 23 #[.pointer (some ⟨b, 0, none⟩), .int .u16 (f : Nat), .int .u16 (t : Nat)] w fun e w' => ∃ n : Int, e = .returned (.int .i64 n) ∧ Hid (∃ k', Box w' base b k' (rangeP p f t false)) ∧ Hid (w.grownBy w' (some b)) := by
  have HX := Lib.hid h
  have HT := Lib.hid hT
  clear h hT
  go_enter Tryz.func23, Tryz.ntmps23
  go_wp2_with fail
  refine (boxRanged0 b k p f t _ HX.out HT.out hbs hb0 hf ht).mono ?_
  rintro e w1 ⟨n, rfl, H1, H2⟩
  go_wp2
  go_ret
  exact ⟨n, rfl, H1.out, H2.out⟩
theorem rangeP_one (p : Nat → Bool) (v i : Nat) (inn : Bool) : rangeP p v v inn i = if i = v then inn else p i := by
  unfold rangeP inR
  by_cases h : i = v
  · subst h; cases inn <;> simp
  · have : (decide (v ≤ i) && decide (i < v + 1)) = false := by rw [Bool.and_eq_false_iff, decide_eq_false_iff_not, decide_eq_false_iff_not]; omega
    rw [this, if_neg h]
    cases inn <;> simp
set_option maxRecDepth 100000 in
theorem boxDrop {base : Nat} (b : Nat) (k : Int) (p : Nat → Bool) (v : Nat) (w : World) (h : Box w base b k p) (hT : Tab64 w) (hbs : base ≤ w.heap.size) (hb0 : 0 ≠ b) (hv : v < 65536) :
    Calls Tryz.prog 33 #[.pointer (some ⟨b, 0, none⟩), .int .u16 (v : Nat)] w fun e w' => ∃ r : Bool, e = .returned (.bool r) ∧ Hid (∃ k', Box w' base b k' (rangeP p v v false)) ∧ Hid (w.grownBy w' (some b)) := by
  have HX := Lib.hid h
  have HT := Lib.hid hT
  clear h hT
  go_enter Tryz.func33, Tryz.ntmps33
  go_wp2_with fail
  refine (boxHas (base := base) _ p v _ (.inr ⟨b, k, rfl, HX.out⟩) hv).mono ?_
  rintro e w1 ⟨rfl, hb1⟩
  have HB1 := Lib.hid (row_below (b := b) hb1)
  have HX1 := Lib.hid (HX.out.below hb1)
  have HT1 := Lib.hid (HT.out.stays hb1)
  have hz1 := hb1.size
  clear hb1
  rcases hpv : p v with _ | _
  · have HP := Lib.hid (show ∀ i, i < 65536 → p i = rangeP p v v false i from fun i _ => by
      rw [rangeP_one]
      split
      · rename_i e; rw [e, hpv]
      · rfl)
    clear hpv
    go_wp2
    go_ret
    exact ⟨_, rfl, ⟨k, HX1.out.congr HP.out⟩, HB1.out⟩
  · clear hpv
    go_wp2_with fail
    refine (boxRanged0 b k p v v _ HX1.out HT1.out (by omega) hb0 hv hv).mono ?_
    rintro e w2 ⟨n, rfl, H1, H2⟩
    go_wp2
    go_ret
    exact ⟨_, rfl, H1.out, HB1.out.trans H2.out⟩
end Go.Proofs.YtbjekoljipjldaaGreatDoor
namespace Go.Proofs.YtbjekoljipjldaaGreatDoor
set_option linter.unusedVariables false
set_option linter.unusedSimpArgs false
open Go.RowKit

theorem map_getD (N : List Nat) (k : Nat) : (N.map (fun x : Nat => (x : Int))).getD k 0 = ((N.getD k 0 : Nat) : Int) := by
  rw [List.getD_eq_getElem?_getD, List.getElem?_map, List.getD_eq_getElem?_getD]
  cases N[k]? <;> rfl
theorem getD_memN {N : List Nat} {k : Nat} (hk : k < N.length) : N.getD k 0 ∈ N := by
  rw [List.getD_eq_getElem?_getD, List.getElem?_eq_getElem hk]
  exact List.getElem_mem hk
theorem alo {W : World} {a : Addr} {v : Value} {o : Obj} (h : W.cell? a = some v) : (W.alloc o).cell? a = some v := by
  rw [World.cell?_alloc_some W a o (by rw [h]; rfl)]; exact h
theorem sto {W : World} {b k : Nat} {v u : Value} (hn : b ≠ k) (h : W.cell? ⟨b, 0, none⟩ = some v) : (W.setCell ⟨k, 0, none⟩ u).cell? ⟨b, 0, none⟩ = some v := by
  have he : (W.setCell ⟨k, 0, none⟩ u).heap[b]? = W.heap[b]? := Below.heap_setCell W ⟨k, 0, none⟩ u b hn
  rw [World.cell?_of_block (w := W) (a := ⟨b, 0, none⟩) he]; exact h
theorem Keeps.setL {w : World} {base b : Nat} {x : Value} {k : Int} {p : Nat → Bool} {cs : Array Value} (h : Keeps w base x k p) (hb : w.heap[b]? = some (.cells cs 87 (0, 0))) (i : Nat) (u : Value) : Keeps (w.setCell ⟨b, i, none⟩ u) base x k p := by
  rcases h with ⟨h, A, c, h1, h2, h3⟩ | ⟨h, m, s, d, ws, h1, h2, h3, h4, h5, h6⟩ | ⟨h, A, c, R, h1, h2, h3, h4⟩
  · exact .inl ⟨h, A, c, h1, h2, own_set h3 hb (by decide) i u⟩
  · refine .inr (.inl ⟨h, m, s, d, ws, h1, h2, h3, h4, h5.chg (S := (· = b)) ((Chg.refl _ _).set u (.inl rfl)) ?_ ?_ ?_, h6⟩)
    · rintro rfl; exact ty_ne h5.1 hb (by decide)
    · rintro rfl; exact ty_ne h5.2.1 hb (by decide)
    · rintro rfl; exact ty_ne h5.2.2.1 hb (by decide)
  · exact .inr (.inr ⟨h, A, c, R, h1, h2.set b i u (h2.lt hb (by decide)), h3, h4⟩)
theorem belowSet {w W3 : World} {kb : Nat} {o : Obj} (h : W3.heap[kb]? = some o) (hb : Below w.heap.size w W3) (hk : w.heap.size ≤ kb) (u : Value) : Below w.heap.size w (W3.setCell ⟨kb, 0, none⟩ u) := hb.setCell hk u
theorem runsOfP (A : Option Addr) (c : Nat) (p : Nat → Bool) (w : World) (hr : Rd .u16 w A (L p)) :
    Calls Tryz.prog 58 #[.slice A (L p).length c] w fun e w' => ∃ A' c' R, e = .returned (.slice A' R.length c') ∧ R.length ≤ c' ∧ Hid (OwnN w' w.heap.size (.slice A' R.length c') R) ∧ Hid (RunsOf R p) ∧ R.length ≤ 65536 ∧ Below w.heap.size w w' := by
  have hl : (L p).length = (LN p).length := by rw [L_eq]; simp
  have hl6 := L_le p
  refine (runsOfN A c (LN p) (L p) w hr hl (fun k hk => ?_) (LN_rise p) (L_rise p) (by omega)).mono ?_
  · rw [L_eq]
    exact ⟨map_getD _ _, LN_lt (getD_memN hk)⟩
  · rintro e w' ⟨A', c', R, h1, h2, h3, h4, h5⟩
    exact ⟨A', c', R, h1, h2, h3, ⟨h4.out.1, h4.out.2.1⟩, by have := h4.out.2.2.1; omega, h5⟩
end Go.Proofs.YtbjekoljipjldaaGreatDoor
