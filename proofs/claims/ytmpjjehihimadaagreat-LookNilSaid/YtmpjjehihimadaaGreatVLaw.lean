/-
  Law 24's own lay and awake; LookNil; walked.
-/
import Derived.Test.YtmpjjehihimadaaGreatVNil
import Derived.Test.YtmpjjehihimadaaGreatVRef
namespace Go.Proofs.YtmpjjehihimadaaGreat
set_option linter.unusedVariables false
set_option linter.unusedSimpArgs false
open Go.RowKit Go.Shelf

theorem below_ofChgV {S : Nat → Prop} {B : Nat} {w w' : World} (h : Chg S w w') (hB : B ≤ w.heap.size) (hS : ∀ q, S q → B ≤ q) : Below B w w' := h.below hB (fun b hb hq => by have := hS b hq; omega)
set_option maxRecDepth 100000 in
set_option maxHeartbeats 2000000 in
theorem lay24 (A : Option Addr) (c : Nat) (w : World) (hr : Rd .u64 w A [1, 5, 9]) :
    Calls Tryz.prog 18 #[.int .u8 0, .int .u64 1, .slice A 3 c] w fun e w' => ∃ (k : Nat) (r : Value) (d : VD), e = .returned (.tuple #[.pointer (some ⟨k, 0, none⟩), r]) ∧ Hid (VP w' d) ∧ Hid (V3 d ∧ d.n = 3 ∧ d.limit = 100000) ∧ Hid (w'.heap[k]? = some (.cells #[.iface 83 (.pointer (some ⟨d.t, 0, none⟩)), .int .u64 0] 47 (0, 0))) ∧ Hid (∀ q, d.own q → w.heap.size ≤ q) ∧ w.heap.size ≤ k ∧ Hid (Below w.heap.size w w') := by
  have HW := Lib.hid (lWords A c 50 [1, 5, 9] w hr (by decide) (by decide))
  clear hr
  go_enter Tryz.func18, Tryz.ntmps18
  go_wp2_with fail
  refine HW.out.mono ?_
  rintro e w1 ⟨r, l', rfl, HO1, _, HEQ, HB1⟩
  obtain rfl := HEQ.out (by decide)
  obtain ⟨A1, c1, rfl, _, _, hr1⟩ := HO1.out.form
  have HR1 := Lib.hid hr1
  clear HW hr1 HEQ
  go_wp2_with fail
  refine (buildV 1 100000 A1 c1 w1 HR1.out (by decide) (by decide)).mono ?_
  rintro e w2 ⟨d, rfl, HP2, HV2, HO2, HB2⟩
  have HR2 := Lib.hid (HR1.out.below HB2.out)
  have HB3 := Lib.hid (below_then HB1.out HB2.out)
  have hz1 := HB1.out.size
  go_wp2_with fail
  refine (keepV d.t w2).mono ?_
  rintro e w3 ⟨rfl, rfl⟩
  have hA := (Below.refl w2.heap.size w2).alloc (Nat.le_refl _) (.cells #[.iface 83 (.pointer (some ⟨d.t, 0, none⟩)), .int .u64 0] 47)
  have HK4 := Lib.hid (blk_new w2 #[.iface 83 (.pointer (some ⟨d.t, 0, none⟩)), .int .u64 0] 47)
  have HP4 := Lib.hid (HP2.out.below hA)
  have HR4 := Lib.hid (HR2.out.below hA)
  have HB4 := Lib.hid (below_then HB3.out hA)
  have hz3 := HB3.out.size
  clear hA HP2 HR2 HR1
  go_wp2_with fail
  refine (lOf A1 c1 [1, 5, 9] _ HR4.out (by decide)).mono ?_
  rintro e w5 ⟨r5, rfl, HS5, HB5⟩
  obtain ⟨l5, ho5, _⟩ := HS5.out
  obtain ⟨A5, c5, rfl, _, _, _⟩ := ho5.form
  clear HS5 ho5
  have hA6 := fun v => (Below.refl w5.heap.size w5).alloc (Nat.le_refl _) (.cells #[v, .int .u64 0] 65)
  have HB6 := Lib.hid (fun v => below_then (below_then HB4.out HB5.out) (hA6 v))
  have HP6 := Lib.hid (fun v => (HP4.out.below HB5.out).below (hA6 v))
  have HK6 := Lib.hid (fun v => blk_below (blk_below HK4.out HB5.out rfl) (hA6 v) rfl)
  clear hA6
  go_wp2
  go_ret2
  exact ⟨_, _, d, rfl, HP6.out _, HV2.out, HK6.out _, fun q hq => Nat.le_trans hz1 (HO2.out q hq), hz3, HB6.out _⟩
set_option maxRecDepth 100000 in
set_option maxHeartbeats 4000000 in
theorem awake24 (w : World) : Calls Tryz.prog 4 #[] w fun e w' => e = .returned (.bool true) ∧ Hid (Below w.heap.size w w') := by
  obtain ⟨w0, hw0⟩ : ∃ w0, w0 = w.alloc (.cells #[.int .u64 1, .int .u64 5, .int .u64 9] 22) := ⟨_, rfl⟩
  have HW0 := Lib.hid hw0
  have HB0 := Lib.hid (show Below w.heap.size w w0 by rw [hw0]; exact (Below.refl _ _).alloc (Nat.le_refl _) _)
  have HR0 := Lib.hid (show Rd .u64 w0 (some ⟨w.heap.size, 0, none⟩) [1, 5, 9] from fun i hi => by
    rw [hw0]
    refine ⟨_, rfl, by simp, ?_⟩
    rw [add_mk]
    have hn := blk_new w #[.int .u64 1, .int .u64 5, .int .u64 9] 22
    match i, hi with
    | 0, _ => exact blk_cell hn 0 rfl
    | 1, _ => exact blk_cell hn 1 rfl
    | 2, _ => exact blk_cell hn 2 rfl)
  clear hw0
  go_enter Tryz.func4, Tryz.ntmps4
  go_wp2_with fail
  rw [← HW0.out]
  refine (lay24 (some ⟨w.heap.size, 0, none⟩) 3 w0 HR0.out).mono ?_
  rintro e w1 ⟨k, r, d, rfl, HP1, HV1, HK1, HO1, hk1, HB1⟩
  have hz0 := HB0.out.size
  have hkl := blk_lt HK1.out
  clear HW0 HR0
  go_wp2_with fail
  refine (openV k d.t w1 HK1.out).mono ?_
  rintro e w2 ⟨rfl, rfl⟩
  have hA := (Below.refl w1.heap.size w1).alloc (Nat.le_refl _) (.cells #[.pointer (some ⟨k, 0, none⟩), .int .u64 0, .int .u64 2, .int .u64 9, .int .u64 2, .bool false] 49)
  have H2 := Lib.hid (show CK (w1.alloc (.cells #[.pointer (some ⟨k, 0, none⟩), .int .u64 0, .int .u64 2, .int .u64 9, .int .u64 2, .bool false] 49)) k w1.heap.size d 0 2 false from
    ⟨HP1.out.below hA, .inl HV1.out.1, by have := HV1.out.2.1; omega, blk_below HK1.out hA rfl, blk_new w1 _ _⟩)
  have HC2 := Lib.hid (show Chg (fun q => w.heap.size ≤ q) w (w1.alloc (.cells #[.pointer (some ⟨k, 0, none⟩), .int .u64 0, .int .u64 2, .int .u64 9, .int .u64 2, .bool false] 49)) from Chg.of_below (below_then (below_then HB0.out HB1.out) hA))
  have HSUB := Lib.hid (show ∀ q, CKown k w1.heap.size d q → w.heap.size ≤ q from fun q hq => by
    have hz1 := HB1.out.size
    rcases hq with rfl | rfl | hq
    · omega
    · omega
    · have := HO1.out q hq; omega)
  obtain ⟨c, hc⟩ : ∃ c, c = w1.heap.size := ⟨_, rfl⟩
  rw [← hc] at H2 HSUB ⊢
  generalize w1.alloc (.cells #[.pointer (some ⟨k, 0, none⟩), .int .u64 0, .int .u64 2, .int .u64 9, .int .u64 2, .bool false] 49) = w2 at *
  have HV3 := Lib.hid HV1.out.1
  have HVN := Lib.hid (show d.n = 3 from HV1.out.2.1)
  have HVL := Lib.hid (show d.limit = 100000 from HV1.out.2.2)
  clear hA HK1 HP1 HB1 hc HV1 HO1 hkl hk1
  go_wp2_with fail
  refine (nextV H2.out 5 (by decide) (by decide) (fun V hV => vNext d 2 5 V hV HV3.out (by have := HVN.out; omega) (by decide) (fun V hV => vNext5 d V hV HV3.out))).mono ?_
  rintro e w3 ⟨rfl, H3, HC3⟩
  have HC4 := Lib.hid (HC2.out.then (HC3.out.mono (T := fun q => w.heap.size ≤ q) (fun q _ h => HSUB.out q h)))
  clear H2 HC2 HC3
  go_wp2_with fail
  refine (nextV9 H3.out (fun V hV => vNext d 6 9 V hV HV3.out (by have := HVN.out; omega) (by decide) (fun V hV => vNext9 d V hV HV3.out))).mono ?_
  rintro e w5 ⟨rfl, H5, HC5⟩
  have HC6 := Lib.hid (HC4.out.then (HC5.out.mono (T := fun q => w.heap.size ≤ q) (fun q _ h => HSUB.out q h)))
  clear H3 HC4 HC5
  go_wp2_with fail
  refine (nextVEnd H5.out).mono ?_
  rintro e w7 ⟨rfl, H7, HB7⟩
  have HC7 := Lib.hid (HC6.out.then (Chg.of_below HB7.out))
  clear H5 HC6 HB7
  go_wp2_with fail
  refine (prevV9 H7.out (fun V hV => vPrev d 9 9 V hV HV3.out (by have := HVN.out; omega) (by decide) (fun V hV => vPrev9 d V hV))).mono ?_
  rintro e w8 ⟨rfl, H8, HC8⟩
  have HC9 := Lib.hid (HC7.out.then (HC8.out.mono (T := fun q => w.heap.size ≤ q) (fun q _ h => HSUB.out q h)))
  clear H7 HC7 HC8
  go_wp2_with fail
  refine (keptInsertV H8.out 7 ((vInsert3 d w8 H8.out.p HV3.out HVN.out (by have := HVL.out; omega)).mono fun e V' h => h)).mono ?_
  rintro e w10 ⟨d', rfl, H10, HC10⟩
  have HC11 := Lib.hid (HC9.out.then (HC10.out.mono (T := fun q => w.heap.size ≤ q) (fun q _ h => HSUB.out q h)))
  clear H8 HC9 HC10
  go_wp2_with fail
  refine (nextVStale H10.out (by decide)).mono ?_
  rintro e w12 ⟨rfl, HB12⟩
  have HB13 := Lib.hid (below_ofChgV (HC11.out.then (Chg.of_below HB12.out)) (Nat.le_refl _) (fun q h => h))
  clear HC11 HB12 H10
  go_wp2
  go_ret
  exact ⟨rfl, HB13.out⟩
set_option maxRecDepth 100000 in
set_option maxHeartbeats 4000000 in
theorem nil24 (k m : Int) (W : World) : Calls Tryz.prog 3 #[.int .u64 k, .int .u64 m] W fun e W' => e = .returned (.bool true) ∧ Below W.heap.size W W' := by
  go_enter Tryz.func3, Tryz.ntmps3
  go_wp2_with fail
  refine (awake24 _).mono ?_
  rintro e w1 ⟨rfl, HB1⟩
  go_wp2_with fail
  refine (nilKeep _).mono ?_
  rintro e w2 ⟨rfl, rfl⟩
  go_wp2_with fail
  refine (nilOpen k m _).mono ?_
  rintro e w3 ⟨rfl, rfl⟩
  go_wp2_with fail
  refine (nilNext _).mono ?_
  rintro e w4 ⟨rfl, rfl⟩
  go_wp2_with fail
  refine (nilPrev _).mono ?_
  rintro e w5 ⟨rfl, rfl⟩
  go_wp2_with fail
  refine (nilSeek k _).mono ?_
  rintro e w6 ⟨rfl, rfl⟩
  go_wp2_with fail
  refine (nilWipe k m _).mono ?_
  rintro e w7 ⟨rfl, rfl⟩
  go_wp2_with fail
  refine (nilClear _).mono ?_
  rintro e w8 ⟨⟨r8, rfl⟩, HB8⟩
  have HB9 := Lib.hid (below_then HB1.out HB8.out)
  clear HB1 HB8
  go_wp2_with fail
  refine (nilSwap _).mono ?_
  rintro e w10 ⟨⟨r10, rfl⟩, HB10⟩
  have HB11 := Lib.hid (below_then HB9.out HB10.out)
  clear HB9 HB10
  go_wp2_with fail
  refine (nilInsert k _).mono ?_
  rintro e w12 ⟨rfl, rfl⟩
  go_wp2_with fail
  refine (nilDelete k _).mono ?_
  rintro e w13 ⟨rfl, rfl⟩
  go_wp2_with fail
  refine (nilVersion _).mono ?_
  rintro e w14 ⟨rfl, rfl⟩
  go_wp2_with fail
  refine (nilStale _).mono ?_
  rintro e w15 ⟨rfl, HB15⟩
  have HB16 := Lib.hid (below_then HB11.out HB15.out)
  clear HB11 HB15
  go_wp2_with fail
  refine (nil_all _).mono ?_
  rintro e w17 ⟨rfl, hb17⟩
  have HB18 := Lib.hid (below_then HB16.out hb17)
  clear HB16 hb17
  go_wp2
  go_ret
  exact ⟨rfl, HB18.out⟩
theorem walk_lookNil (k m : Int) (W : World) (w0 : (Lit.int .u64 k).wf = true) (w1 : (Lit.int .u64 m).wf = true) :
    Calls Tryz.prog 3 #[.int .u64 k, .int .u64 m] W fun e W' => e = .returned (.bool true) ∧ Below W.heap.size W W' := nil24 k m W
end Go.Proofs.YtmpjjehihimadaaGreat
