/-
  veb.VEB: Insert, walked.
-/
import Derived.Test.YtmpjjehihimadaaGreatVeb7
namespace Go.Proofs.YtmpjjehihimadaaGreat
set_option linter.unusedVariables false
set_option linter.unusedSimpArgs false
open Go.RowKit

set_option maxRecDepth 100000 in
set_option maxHeartbeats 4000000 in
theorem vInsert0 (d : VD) (w : World) (h : VP w d) (hv : V0 d) (hlim : 1 ≤ d.limit) : Calls Tryz.prog 103 #[.pointer (some ⟨d.t, 0, none⟩), .int .u64 1] w fun e w' => ∃ d', e = .returned (.int .i64 0) ∧ Hid (VO w w' d d') ∧ Hid (V1 d') ∧ Hid (d'.n = 1) := by
  have H := Lib.hid h
  have HV := Lib.hid hv
  have HN := Lib.hid hv.2.1
  have HLM := Lib.hid h.lim.2
  have HRM := Lib.hid (show (d.ls.length : Int) + 1 ≤ d.limit by rw [hv.1]; simpa using hlim)
  have HTH := Lib.hid (show d.ls.length ≤ 1000 by rw [hv.1]; simp)
  have HL0 := Lib.hid (show d.ls.length = 0 by rw [hv.1]; rfl)
  clear h hv hlim
  go_enter Tryz.func103, Tryz.ntmps103
  go_wp2_with fail
  refine (vHas0 d 1 _ H.out HN.out).mono ?_
  rintro e w1 ⟨rfl, H1, HC1⟩
  have HO1 := Lib.hid (VO.red H1.out HC1.out)
  have p1 := H1.out.cells.2.1
  have q1 : w1.cell? ⟨d.t, 4, none⟩ = some (.int .i64 0) := by have := H1.out.cells.2.2.2.2; rwa [HN.out] at this
  have HD := Lib.hid H1.out.drewn
  have HEND := Lib.hid (show ∀ (w9 w10 : World) (v' : Value), Below w1.drew.heap.size w1.drew w9 → VP w9 d → PoV w10 0 d.p d.m v' (d.ls ++ [⟨1, 1, -1, 0⟩]) d.limit → (v'.ownBlock = d.v.ownBlock ∨ ∃ g, v'.ownBlock = some g ∧ w9.heap.size ≤ g) → Chg (fun k => k = d.p ∨ d.v.ownBlock = some k) w9 w10 →
      VO w w10 d { d with v := v', ls := d.ls ++ [⟨1, 1, -1, 0⟩] } from fun w9 w10 v' hb h9 hp hv hc =>
    (HO1.out.then ⟨h9, rfl, rfl, rfl, fun q hq => .inl hq, (Chg.refl _ _).drew.then (Chg.of_below hb)⟩).then (h9.puts hp hv hc (by simp [HL0.out])))
  clear HC1 HN
  go_wp2
  go_region_held3 (fun w' => w'.cell? ⟨d.t, 1, none⟩ = some (.pointer (some ⟨d.p, 0, none⟩))) (first | exact p1 | exact p9 | exact p10) (first | (go_at_call 120; refine (vFresh 1 64 (.inl rfl) _).mono ?_; rintro e w9 ⟨rfl, HB9⟩; have H9 := Lib.hid (HD.out.below HB9.out); have p9 : w9.cell? ⟨d.t, 1, none⟩ = some (.pointer (some ⟨d.p, 0, none⟩)) := H9.out.cells.2.1) | (go_at_call 119; refine (pvAlloc d.p d.m d.v d.ls d.limit _ H9.out.pool 1 1 (-1) 0 (Nat.zero_le _) HRM.out HLM.out HTH.out).mono ?_; rintro e w10 ⟨v', he, HP10, HV10, HC10⟩; rw [HL0.out] at he; subst he; have HO10 := Lib.hid (HEND.out _ _ _ HB9.out H9.out HP10.out HV10.out HC10.out); have p10 : w10.cell? ⟨d.t, 1, none⟩ = some (.pointer (some ⟨d.p, 0, none⟩)) := HO10.out.vp.cells.2.1))
  clear HP10 HV10 HC10 HB9 H9 p9 p10 HEND p1 q1 HD HRM HTH HO1 H1
  have r3 : w10.frozen? ⟨d.t, 3, none⟩ = false := blk_free HO10.out.vp.head 3
  have r4 : w10.frozen? ⟨d.t, 4, none⟩ = false := blk_free HO10.out.vp.head 4
  have s3 : w10.cell? ⟨d.t, 3, none⟩ = some (.int .i64 d.root) := HO10.out.vp.cells.2.2.2.1
  have s4 : w10.cell? ⟨d.t, 4, none⟩ = some (.int .i64 0) := by
    have h4 : w10.cell? ⟨d.t, 4, none⟩ = some (.int .i64 d.n) := HO10.out.vp.cells.2.2.2.2
    rwa [HV.out.2.1] at h4
  have HO11 := Lib.hid (show VO w ((w10.setCell ⟨d.t, 3, none⟩ (.int .i64 0)).setCell ⟨d.t, 4, none⟩ (.int .i64 1)) d { d with v := v', ls := d.ls ++ [⟨1, 1, -1, 0⟩], root := 0, n := 1 } from
    (HO10.out.then (HO10.out.vp.root 0)).then ((HO10.out.vp.root 0).vp.cnt 1))
  go_wp2
  go_ret
  exact ⟨_, rfl, HO11.out, ⟨by show d.ls ++ _ = _; rw [HV.out.1]; rfl, rfl, HV.out.2.2.1, HV.out.2.2.2⟩, rfl⟩
set_option maxRecDepth 100000 in
set_option maxHeartbeats 4000000 in
theorem vInsertG (d d2 : VD) (k q : Int) (w : World) (h : VP w d) (hn : 0 < d.n ∧ d.n ≤ 100) (hr : d.root = 0)
    (hhas : ∀ V, VP V d → Calls Tryz.prog 102 #[.pointer (some ⟨d.t, 0, none⟩), .int .u64 k] V fun e V' => e = .returned (.bool false) ∧ Hid (VP V' d) ∧ Hid (Chg d.red V V'))
    (hneed : ∀ V, VP V d → Calls Tryz.prog 122 #[.pointer (some ⟨d.t, 0, none⟩), .int .i64 0, .int .i64 64, .int .u64 k] V fun e V' => e = .returned (.int .i64 q) ∧ Hid (VP V' d) ∧ Hid (Chg d.red V V'))
    (hq : q ≤ d.limit - d.ls.length)
    (Q : VD → Prop)
    (hput : ∀ V, VP V d → Calls Tryz.prog 123 #[.pointer (some ⟨d.t, 0, none⟩), .int .i64 0, .int .i64 64, .int .u64 k] V fun e V' => ∃ d', (∃ r, e = .returned r) ∧ Hid (VO V V' d d') ∧ Hid (Q d') ∧ Hid (d'.n = d.n)) :
    Calls Tryz.prog 103 #[.pointer (some ⟨d.t, 0, none⟩), .int .u64 k] w fun e w' => ∃ d', e = .returned (.int .i64 0) ∧ Hid (VO w w' d d') ∧ Hid (∃ d1, Q d1 ∧ d' = { d1 with n := d.n + 1 }) := by
  have H := Lib.hid h
  have HHAS := Lib.hid (hhas w h)
  have HNEED := Lib.hid hneed
  have HPUT := Lib.hid hput
  have HQ := Lib.hid hq
  have HLM := Lib.hid h.lim
  have HTH := Lib.hid (show d.ls.length ≤ 1000 by have := h.len; omega)
  have HNN := Lib.hid hn
  have h3 := Lib.hid (show ∀ V, VP V d → V.cell? ⟨d.t, 3, none⟩ = some (.int .i64 0) ∧ V.cell? ⟨d.t, 1, none⟩ = some (.pointer (some ⟨d.p, 0, none⟩)) from fun V hV => ⟨by have := hV.cells.2.2.2.1; rwa [hr] at this, hV.cells.2.1⟩)
  have hn0 : (d.n == 0) = false := by simp; omega
  clear h hn hr hhas hneed hput hq
  go_enter Tryz.func103, Tryz.ntmps103
  go_wp2_with fail
  refine HHAS.out.mono ?_
  rintro e w1 ⟨rfl, H1, HC1⟩
  have HO1 := Lib.hid (VO.red H1.out HC1.out)
  have p1 := (h3.out _ H1.out.drewn)
  have q1 := H1.out.cells.2.2.2.2
  have HD := Lib.hid H1.out.drewn
  clear HC1
  go_wp2
  go_region_held3 (fun w' => w'.cell? ⟨d.t, 3, none⟩ = some (.int .i64 0) ∧ w'.cell? ⟨d.t, 1, none⟩ = some (.pointer (some ⟨d.p, 0, none⟩))) (first | exact p1 | exact p2 | exact p3) (first | (go_at_call 122; refine (HNEED.out _ HD.out).mono ?_; rintro e w2 ⟨rfl, H2, HC2⟩; have p2 := h3.out _ H2.out) | (go_at_call 121; refine (pvRoom d.p d.m d.v d.ls d.limit _ H2.out.pool q HQ.out HLM.out.1 HLM.out.2 HTH.out).mono ?_; rintro e w3 ⟨rfl, HB3⟩; have H3 := Lib.hid (H2.out.below HB3.out); have p3 := h3.out _ H3.out))
  have HO3 := Lib.hid ((HO1.out.then ⟨HD.out, rfl, rfl, rfl, fun q hq => .inl hq, (Chg.refl _ _).drew⟩).then ((VO.red H2.out HC2.out).then (VO.below H2.out HB3.out)))
  obtain ⟨p3a, p3b⟩ := p3
  clear p1 p2 q1 HD HC2 HB3 H2 H1 HO1 p3b
  go_wp2_with fail
  refine (HPUT.out _ H3.out).mono ?_
  rintro e w4 ⟨d', ⟨r, rfl⟩, HO4, HQ4, HN4⟩
  have HO5 := Lib.hid (HO3.out.then HO4.out)
  have e4 := HN4.out
  have s4 : w4.cell? ⟨d.t, 4, none⟩ = some (.int .i64 d.n) := by
    have h4 := HO5.out.vp.cells.2.2.2.2
    rw [HO5.out.t, e4] at h4
    exact h4
  have r4 : w4.frozen? ⟨d.t, 4, none⟩ = false := by
    have h4 := blk_free HO5.out.vp.head 4
    rwa [HO5.out.t] at h4
  have HO6 := Lib.hid (show VO w (w4.setCell ⟨d.t, 4, none⟩ (.int .i64 (d.n + 1))) d { d' with n := d.n + 1 } from by
    have hc := HO5.out.vp.cnt (d.n + 1)
    have ea : (⟨d'.t, 4, none⟩ : Addr) = ⟨d.t, 4, none⟩ := by rw [HO5.out.t]
    rw [ea] at hc
    exact HO5.out.then hc)
  have hnn := HNN.out
  clear HO3 HO4 H3 p3a e4
  go_wp2
  go_ret
  exact ⟨_, rfl, HO6.out, d', HQ4.out, rfl⟩
end Go.Proofs.YtmpjjehihimadaaGreat
