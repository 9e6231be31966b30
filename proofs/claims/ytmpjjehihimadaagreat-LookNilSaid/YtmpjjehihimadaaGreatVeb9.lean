/-
  veb.VEB: the keys 1, 5, 9, and 7 behind, are inserted; walked.
-/
import Derived.Test.YtmpjjehihimadaaGreatVeb8
namespace Go.Proofs.YtmpjjehihimadaaGreat
set_option linter.unusedVariables false
set_option linter.unusedSimpArgs false
open Go.RowKit

set_option maxRecDepth 100000 in
set_option maxHeartbeats 4000000 in
/-- the key 7 isn't in the tree of 1, 5 and 9 -/
theorem vHas37 (d : VD) (w : World) (h : VP w d) (hv : V3 d) : Calls Tryz.prog 117 #[.pointer (some ⟨d.t, 0, none⟩), .int .i64 0, .agg #[.int .u64 1, .int .u64 9, .int .i64 2, .int .u64 0], .int .i64 64, .int .u64 7] w fun e w' => e = .returned (.bool false) ∧ Hid (VP w' d) ∧ Hid (Chg d.red w w') := by
  obtain ⟨h1, hx1⟩ := hv.at1
  have hA := (Below.refl w.heap.size w).alloc (Nat.le_refl _) (.cells #[.int .u64 1, .int .u64 9, .int .i64 2, .int .u64 0] 112)
  have HB0 := Lib.hid hA
  have H0 := Lib.hid (h.below hA)
  have HX1 := Lib.hid hx1
  have HE := Lib.hid hv.2.2
  have HRD := Lib.hid (show ∀ V, VP V d → _ from fun V hV => vRead d V hV 1 h1 _ hx1)
  clear h hv hx1 hA
  go_enter Tryz.func117, Tryz.ntmps117
  go_wp2_with fail
  refine (vHigh 7 (.inr (.inr (.inr rfl))) _).mono ?_
  rintro e w4 ⟨rfl, rfl⟩
  go_wp2_with fail
  refine (vCluster d _ H0.out true (fun ok hf => hf.one HE.out.1) HE.out.2).mono ?_
  rintro e w5 ⟨rfl, H5, HC5⟩
  have HC6 := Lib.hid ((Chg.of_below (S := d.red) HB0.out).then HC5.out)
  clear HC5 H0
  go_wp2_with fail
  refine (HRD.out _ H5.out).mono ?_
  rintro e w6 ⟨rfl, H6, HC7⟩
  go_wp2_with fail
  refine (vLow 7 (.inr (.inr (.inr rfl))) _).mono ?_
  rintro e w7 ⟨rfl, rfl⟩
  go_wp2_with fail
  refine (vHasNo d.t 1 ⟨5, 5, -1, 0⟩ 32 7 (.inr rfl) (by decide) (by decide) _).mono ?_
  rintro e w8 ⟨rfl, HB8⟩
  have HC9 := Lib.hid ((HC6.out.then HC7.out).then (Chg.of_below HB8.out))
  have H9 := Lib.hid (H6.out.below HB8.out)
  clear HC6 HC7 H6 HB8 H5
  go_wp2
  go_ret
  exact ⟨rfl, H9.out, HC9.out⟩
theorem vInsert1 (d : VD) (w : World) (h : VP w d) (hv : V1 d) (hn : d.n = 1) (hlim : 1 ≤ d.limit) : Calls Tryz.prog 103 #[.pointer (some ⟨d.t, 0, none⟩), .int .u64 5] w fun e w' => ∃ d', e = .returned (.int .i64 0) ∧ Hid (VO w w' d d') ∧ Hid (V2 d') ∧ Hid (d'.n = 2) := by
  obtain ⟨h0, hx⟩ := hv.at0
  have hl : d.ls.length = 1 := by rw [hv.1]; rfl
  have hb : ∀ V V' : World, VP V d → Below V.heap.size V V' → Hid (VP V' d) ∧ Hid (Chg d.red V V') := fun V V' hV hb => ⟨hV.below hb, Chg.of_below hb⟩
  refine (vInsertG d d 5 0 w h (by omega) hv.2.1 (fun V hV => vHasM d 5 ⟨1, 1, -1, 0⟩ V hV hv.2.1 (by omega) h0 hx (fun V hV => (vHasNo d.t 0 ⟨1, 1, -1, 0⟩ 64 5 (.inl rfl) (by decide) (by decide) V).mono fun e V' ⟨he, hb'⟩ => ⟨he, hb V V' hV hb'.out⟩)) (fun V hV => (vNeedS d V hV 0 h0 1 (-1) 0 hx 64 5 (.inl rfl)).mono fun e V' ⟨he, hb'⟩ => ⟨he, hb V V' hV hb'.out⟩) (by omega)
    (fun d' => V2 d') (fun V hV => (vPutS d V hV 0 h0 1 (-1) 0 hx 64 5 (.inl rfl) (by decide)).mono fun e V' ⟨he, ho⟩ => ⟨_, he, ho, ⟨by show d.ls.set 0 _ = _; rw [hv.1]; rfl, hv.2.1, hv.2.2.1, hv.2.2.2⟩, rfl⟩)).mono ?_
  rintro e w' ⟨d', he, ho, d1, hq, rfl⟩
  exact ⟨_, he, ho, hq, by show d.n + 1 = 2; omega⟩
theorem vInsert2 (d : VD) (w : World) (h : VP w d) (hv : V2 d) (hn : d.n = 2) (hlim : 3 ≤ d.limit) : Calls Tryz.prog 103 #[.pointer (some ⟨d.t, 0, none⟩), .int .u64 9] w fun e w' => ∃ d', e = .returned (.int .i64 0) ∧ Hid (VO w w' d d') ∧ Hid (V3 d') ∧ Hid (d'.n = 3) := by
  obtain ⟨h0, hx⟩ := hv.at0
  have hl : d.ls.length = 1 := by rw [hv.1]; rfl
  have hb : ∀ V V' : World, VP V d → Below V.heap.size V V' → Hid (VP V' d) ∧ Hid (Chg d.red V V') := fun V V' hV hb => ⟨hV.below hb, Chg.of_below hb⟩
  refine (vInsertG d d 9 2 w h (by omega) hv.2.1 (fun V hV => vHasM d 9 ⟨1, 5, -1, 0⟩ V hV hv.2.1 (by omega) h0 hx (fun V hV => (vHasNo d.t 0 ⟨1, 5, -1, 0⟩ 64 9 (.inl rfl) (by decide) (by decide) V).mono fun e V' ⟨he, hb'⟩ => ⟨he, hb V V' hV hb'.out⟩)) (fun V hV => vNeed2 d V hV hv) (by omega)
    (fun d' => V3 d') (fun V hV => vPut2 d V hV hv hlim)).mono ?_
  rintro e w' ⟨d', he, ho, d1, hq, rfl⟩
  exact ⟨_, he, ho, hq, by show d.n + 1 = 3; omega⟩
theorem vInsert3 (d : VD) (w : World) (h : VP w d) (hv : V3 d) (hn : d.n = 3) (hlim : 3 ≤ d.limit) : Calls Tryz.prog 103 #[.pointer (some ⟨d.t, 0, none⟩), .int .u64 7] w fun e w' => ∃ d', e = .returned (.int .i64 0) ∧ Hid (VO w w' d d') ∧ Hid (0 < d'.n) := by
  obtain ⟨h0, hx⟩ := hv.at0
  have hl : d.ls.length = 3 := by rw [hv.1]; rfl
  refine (vInsertG d d 7 0 w h (by omega) hv.2.1 (fun V hV => vHasM d 7 ⟨1, 9, 2, 0⟩ V hV hv.2.1 (by omega) h0 hx (fun V hV => vHas37 d V hV hv)) (fun V hV => vNeed3 d V hV hv) (by omega)
    (fun d' => True) (fun V hV => (vPut3 d V hV hv).mono fun e V' ⟨he, ho⟩ => ⟨_, he, ho, trivial, rfl⟩)).mono ?_
  rintro e w' ⟨d', he, ho, d1, _, rfl⟩
  exact ⟨_, he, ho, by show 0 < d.n + 1; omega⟩
end Go.Proofs.YtmpjjehihimadaaGreat
