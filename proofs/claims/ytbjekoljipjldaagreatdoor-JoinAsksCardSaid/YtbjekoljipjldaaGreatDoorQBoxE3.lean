/-
  box.Box: Optimise of a box that is kept in way 3, walked.
-/
import Derived.Test.YtbjekoljipjldaaGreatDoorQChange
namespace Go.Proofs.YtbjekoljipjldaaGreatDoor
set_option linter.unusedVariables false
set_option linter.unusedSimpArgs false
open Go.RowKit

set_option maxRecDepth 100000 in
set_option maxHeartbeats 4000000 in
theorem bx3Optimise {base : Nat} (b : Nat) (p : Nat → Bool) (A : Option Addr) (c : Nat) (R0 : List (Nat × Nat)) (w : World) (h : Box w base b 3 p) (h0 : w.heap[b]? = some (.cells #[.iface 87 (.agg #[.slice A R0.length c])] 70 (0, 0))) (hr : RdN w A R0) (hp : RunsOf R0 p) (hl : R0.length ≤ 65536) (hT : Tab64 w) (hbs : base ≤ w.heap.size) :
    Calls Tryz.prog 34 #[.pointer (some ⟨b, 0, none⟩)] w fun e w' => ∃ r : Bool, e = .returned (.bool r) ∧ Hid (∃ k', Box w' base b k' p) ∧ Hid (Below base w w') := by
  have HX := Lib.hid h
  have HT := Lib.hid hT
  have H0 := Lib.hid h0
  have HR := Lib.hid hr; have HP := Lib.hid hp; clear hr hp
  have HLE := Lib.hid (L_le p)
  have HLN := Lib.hid (show (LN p).length ≤ 65536 by have := L_le p; rw [L_eq] at this; simpa using this)
  have q0 : w.drew.cell? ⟨b, 0, none⟩ = some (.iface 87 (.agg #[.slice A R0.length c])) := blk_cell h0 0 rfl
  have hm0 := fun w => m3_list (.slice A R0.length c) w
  have HLK := Lib.hid (fun (W : World) (hb : Below w.heap.size w W) => k3List A c R0 p W (HR.out.below hb) HP.out hl)
  have hbz := hbs
  have hbw := blk_lt h0
  have hbb := h.base.1
  clear h hT h0
  go_enter Tryz.func34, Tryz.ntmps34
  go_wp2_with fail
  go_region_held3 (fun w' => w'.cell? ⟨b, 0, none⟩ = some (.iface 87 (.agg #[.slice A R0.length c]))) (first | exact q0 | exact qx1 | exact qx2 | exact qx3 | exact alo q0 | exact alo qx1 | exact alo qx2 | exact alo qx3 | exact sto (by first | omega | (simp; omega)) qx3 | exact sto (by first | omega | (simp; omega)) (alo qx3)) (first | (go_at_call 57; refine (boxPlainK b _ p _ (HX.out.below (by repeat (first | exact Below.refl _ _ | refine below_drewN ?_ _ | refine Below.drew ?_ | refine Below.alloc ?_ (by first | omega | (simp; done) | (simp; omega)) _))) (HT.out.stays (by repeat (first | exact Below.refl _ _ | refine below_drewN ?_ _ | refine Below.drew ?_ | refine Below.alloc ?_ (by first | omega | (simp; done) | (simp; omega)) _))) (by first | omega | (simp; omega))).mono ?_; rintro e W1 ⟨x, rfl, HKx, hbp⟩; have HPb : Hid (Below w.heap.size w W1) := Lib.hid (below_then (by repeat (first | exact Below.refl _ _ | refine below_drewN ?_ _ | refine Below.drew ?_ | refine Below.alloc ?_ (by first | omega | (simp; done) | (simp; omega)) _)) hbp); have qx1 : W1.cell? ⟨b, 0, none⟩ = some (.iface 87 (.agg #[.slice A R0.length c])) := blk_cell (blk_below H0.out HPb.out rfl) 0 rfl; (first | have qa := blk_below (heap_alloc_new _ (.cells #[.slice none 0 0] 87)) hbp rfl | have qa := blk_below QA.out hbp rfl | skip); (first | (have QA := Lib.hid qa; have qac := blk_cell qa 0 rfl; have qaf := blk_free qa 0; clear qa) | skip); have hz1 := HPb.out.size; clear hbp) | (go_at_call 176; refine (HLK.out _ (by repeat (first | exact Below.refl _ _ | exact HPb.out | refine below_drewN ?_ _ | refine Below.drew ?_ | refine Below.alloc ?_ (by first | omega | exact HPb.out.size | (simp; done) | (simp; omega) | (have := HPb.out.size; simp; omega)) _))).mono ?_; rintro e W2 ⟨u, rfl, hou, hbl⟩; obtain ⟨A2, c2, rfl, hc2, hr2, _⟩ := hou.formS; have HLr := Lib.hid hr2; have HLb : Hid (Below w.heap.size w W2) := Lib.hid (below_then (by repeat (first | exact Below.refl _ _ | exact HPb.out | refine below_drewN ?_ _ | refine Below.drew ?_ | refine Below.alloc ?_ (by first | omega | exact HPb.out.size | (simp; done) | (simp; omega) | (have := HPb.out.size; simp; omega)) _)) hbl); have HKy := Lib.hid (HKx.out.below (below_then (by repeat (first | exact Below.refl _ _ | refine below_drewN ?_ _ | refine Below.drew ?_ | refine Below.alloc ?_ (by first | omega | (simp; done) | (simp; omega)) _)) hbl)); have qx2 : W2.cell? ⟨b, 0, none⟩ = some (.iface 87 (.agg #[.slice A R0.length c])) := blk_cell (blk_below H0.out HLb.out rfl) 0 rfl; (first | have qa := blk_below (heap_alloc_new _ (.cells #[.slice none 0 0] 87)) hbl rfl | have qa := blk_below QA.out hbl rfl | skip); (first | (have QA := Lib.hid qa; have qac := blk_cell qa 0 rfl; have qaf := blk_free qa 0; clear qa) | skip); have hz2 := HLb.out.size; clear hou hr2 hbl) | (go_at_call 58; refine (runsOfP A2 c2 p _ (HLr.out.below (by repeat (first | exact Below.refl _ _ | refine below_drewN ?_ _ | refine Below.drew ?_ | refine Below.alloc ?_ (by first | omega | (simp; done) | (simp; omega)) _)))).mono ?_; rintro e W3 ⟨A3, c3, R, rfl, hc3, HRo, HRr, HRl, hbo⟩; have HOb : Hid (Below w.heap.size w W3) := Lib.hid (below_then (by repeat (first | exact Below.refl _ _ | exact HLb.out | refine below_drewN ?_ _ | refine Below.drew ?_ | refine Below.alloc ?_ (by first | omega | exact HLb.out.size | (simp; done) | (simp; omega) | (have := HLb.out.size; simp; omega)) _)) hbo); have HKz := Lib.hid (HKy.out.below (below_then (by repeat (first | exact Below.refl _ _ | refine below_drewN ?_ _ | refine Below.drew ?_ | refine Below.alloc ?_ (by first | omega | (simp; done) | (simp; omega)) _)) hbo)); have hRl := HRl; have HRl := Lib.hid HRl; have HZ3 := Lib.hid (show w.heap.size ≤ W3.heap.size from HOb.out.size); have qx3 : W3.cell? ⟨b, 0, none⟩ = some (.iface 87 (.agg #[.slice A R0.length c])) := blk_cell (blk_below H0.out HOb.out rfl) 0 rfl; (first | have qa := blk_below (heap_alloc_new _ (.cells #[.slice none 0 0] 87)) hbo rfl | have qa := blk_below QA.out hbo rfl | skip); (first | (have QA := Lib.hid qa; have qac := blk_cell qa 0 rfl; have qaf := blk_free qa 0; clear qa) | skip); have hz3 := HOb.out.size; clear hbo))
  all_goals
    clear hm0
    first
    | (have hK := blk_set QA.out 0 (.slice A3 R.length c3)
       have HBF := Lib.hid (belowSet QA.out HOb.out (by first | exact hz2 | exact hz1 | exact Nat.le_refl _) (.slice A3 R.length c3))
       have HKF := Lib.hid (HKz.out.setL QA.out 0 (.slice A3 R.length c3))
       have HRF := Lib.hid (HRo.out.set _ 0 (.slice A3 R.length c3) (HRo.out.lt QA.out (by decide)))
       generalize W3.setCell _ (.slice A3 R.length c3) = Wf at *
       simp only [List.setIfInBounds_toArray, List.set_cons_zero] at hK)
    | (have hK : (W3.alloc (.cells #[.slice A3 R.length c3] 87)).heap[W3.heap.size]? = some (.cells #[.slice A3 R.length c3] 87 (0, 0)) := heap_alloc_new _ _
       have HBF := Lib.hid (HOb.out.alloc hz3 (.cells #[.slice A3 R.length c3] 87))
       have HKF := Lib.hid (HKz.out.below ((Below.refl _ W3).alloc (Nat.le_refl _) (.cells #[.slice A3 R.length c3] 87)))
       have HRF := Lib.hid (HRo.out.below ((Below.refl _ W3).alloc (Nat.le_refl _) (.cells #[.slice A3 R.length c3] 87)))
       generalize W3.alloc (.cells #[.slice A3 R.length c3] 87) = Wf at *
       generalize W3.heap.size = kb at *)
    have HKB := Lib.hid hK
    have qk := blk_cell hK 0 rfl
    have HRG := Lib.hid (show OwnN Wf base (.slice A3 R.length c3) R from HRF.out.mono (by first | omega | (simp; omega)))
    clear HRF HKz HKy HKx HRo HLr qx1 qx2 qx3 q0 hK HPb HLb HOb HLK hc2 hc3
    rcases HKF.out with ⟨hk1, A5, c5, rfl, hc5, ho5⟩ | ⟨hk1, m5, s5, d5, ws5, rfl, _⟩ | ⟨hk1, _⟩
    · have hmc := fun w => m1_cost (.slice A5 (L p).length c5) w
      clear ho5 hk1
      go_wp2_with fail
      refine (k3Cost A3 R.length c3 _ hRl).mono ?_
      rintro e w5 ⟨rfl, hb5⟩
      have H5 := Lib.hid (below_then HBF.out hb5)
      have HK5 := Lib.hid (HKF.out.below hb5)
      have HR5 := Lib.hid (HRG.out.below hb5)
      have HKB5 := Lib.hid (blk_below HKB.out hb5 rfl)
      clear hb5 qk
      go_wp2_with fail
      refine (k1Cost A5 _ c5 _).mono ?_
      rintro e w6 ⟨rfl, hb6⟩
      have HKB6 := Lib.hid (blk_below HKB5.out hb6 rfl)
      have qk6 := blk_cell HKB6.out 0 rfl
      have H6 := Lib.hid (below_then H5.out hb6)
      have HK6 := Lib.hid (HK5.out.below hb6)
      have HR6 := Lib.hid (HR5.out.below hb6)
      have HX6 := Lib.hid (HX.out.below H6.out)
      have hz6 := H6.out.size
      clear hb6 hmc
      by_cases hlt : 2 * (R.length : Int) < (((L p).length : Nat) : Int)
      · go_wp2_with fail
        refine (boxTurn b _ 3 p p _ _ HX6.out (.inr (.inr ⟨rfl, A3, c3, R, rfl, HR6.out, HRr.out, hRl⟩))).mono ?_
        rintro e w7 ⟨r, rfl, h7, hg7⟩
        have H7 := Lib.hid h7
        have HB7 := Lib.hid ((H6.out.mono hbs).grown hg7 (by omega) (fun g e => by cases e; exact hbb))
        clear h7 hg7
        go_wp2
        go_ret
        exact ⟨r, rfl, ⟨_, H7.out⟩, HB7.out⟩
      · go_wp2_with fail
        refine (boxTurn b _ _ p p _ _ HX6.out HK6.out).mono ?_
        rintro e w7 ⟨r, rfl, h7, hg7⟩
        have H7 := Lib.hid h7
        have HB7 := Lib.hid ((H6.out.mono hbs).grown hg7 (by omega) (fun g e => by cases e; exact hbb))
        clear h7 hg7
        go_wp2
        go_ret
        exact ⟨r, rfl, ⟨_, H7.out⟩, HB7.out⟩
    · have hmc := fun w => m2_cost (.pointer (some ⟨m5, 0, none⟩)) w
      clear hk1
      go_wp2_with fail
      refine (k3Cost A3 R.length c3 _ hRl).mono ?_
      rintro e w5 ⟨rfl, hb5⟩
      have H5 := Lib.hid (below_then HBF.out hb5)
      have HK5 := Lib.hid (HKF.out.below hb5)
      have HR5 := Lib.hid (HRG.out.below hb5)
      have HKB5 := Lib.hid (blk_below HKB.out hb5 rfl)
      clear hb5 qk
      go_wp2_with fail
      refine (k2Cost _ _).mono ?_
      rintro e w6 ⟨rfl, hb6⟩
      have HKB6 := Lib.hid (blk_below HKB5.out hb6 rfl)
      have qk6 := blk_cell HKB6.out 0 rfl
      have H6 := Lib.hid (below_then H5.out hb6)
      have HK6 := Lib.hid (HK5.out.below hb6)
      have HR6 := Lib.hid (HR5.out.below hb6)
      have HX6 := Lib.hid (HX.out.below H6.out)
      have hz6 := H6.out.size
      clear hb6 hmc
      by_cases hlt : 2 * (R.length : Int) < (1024 : Int)
      · go_wp2_with fail
        refine (boxTurn b _ 3 p p _ _ HX6.out (.inr (.inr ⟨rfl, A3, c3, R, rfl, HR6.out, HRr.out, hRl⟩))).mono ?_
        rintro e w7 ⟨r, rfl, h7, hg7⟩
        have H7 := Lib.hid h7
        have HB7 := Lib.hid ((H6.out.mono hbs).grown hg7 (by omega) (fun g e => by cases e; exact hbb))
        clear h7 hg7
        go_wp2
        go_ret
        exact ⟨r, rfl, ⟨_, H7.out⟩, HB7.out⟩
      · go_wp2_with fail
        refine (boxTurn b _ _ p p _ _ HX6.out HK6.out).mono ?_
        rintro e w7 ⟨r, rfl, h7, hg7⟩
        have H7 := Lib.hid h7
        have HB7 := Lib.hid ((H6.out.mono hbs).grown hg7 (by omega) (fun g e => by cases e; exact hbb))
        clear h7 hg7
        go_wp2
        go_ret
        exact ⟨r, rfl, ⟨_, H7.out⟩, HB7.out⟩
    · exact absurd hk1 (by unfold plainK; split <;> decide)
end Go.Proofs.YtbjekoljipjldaaGreatDoor
