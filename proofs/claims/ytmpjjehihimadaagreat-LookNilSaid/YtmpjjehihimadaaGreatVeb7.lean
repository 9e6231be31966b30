/-
  veb.VEB: put of the key 7 in the tree of 1, 5 and 9; of 9 in that of 1 and 5; walked.
-/
import Derived.Test.YtmpjjehihimadaaGreatVeb6
namespace Go.Proofs.YtmpjjehihimadaaGreat
set_option linter.unusedVariables false
set_option linter.unusedSimpArgs false
open Go.RowKit

theorem use_sameV {T G : Prop} (rest : T) (main : T → G) : G := main rest
set_option maxRecDepth 100000 in
set_option maxHeartbeats 4000000 in
theorem vPut3 (d : VD) (w : World) (h : VP w d) (hv : V3 d) : Calls Tryz.prog 123 #[.pointer (some ⟨d.t, 0, none⟩), .int .i64 0, .int .i64 64, .int .u64 7] w fun e w' => (∃ r, e = .returned r) ∧ Hid (VO w w' d { d with ls := d.ls.set 1 ⟨5, 7, -1, 0⟩ }) := by
  obtain ⟨h0, hx⟩ := hv.at0
  obtain ⟨h1, hx1⟩ := hv.at1
  have H := Lib.hid h
  have HX := Lib.hid hx
  have HX1 := Lib.hid hx1
  have HE := Lib.hid hv.2.2
  have HSET := Lib.hid (show d.ls.set 0 ⟨1, 9, 2, 0⟩ = d.ls by rw [← hx]; exact List.set_getElem_self h0)
  clear h hv hx hx1
  go_enter Tryz.func123, Tryz.ntmps123
  go_wp2_with fail
  refine (vSee d _ H.out 0 h0 _ HX.out).mono ?_
  rintro e w1 ⟨rfl, HB1⟩
  have hA := (Below.refl w1.heap.size w1).alloc (Nat.le_refl _) (.cells #[.int .u64 1, .int .u64 9, .int .i64 2, .int .u64 0] 112)
  have HN2 := Lib.hid (blk_new w1 #[.int .u64 1, .int .u64 9, .int .i64 2, .int .u64 0] 112)
  have HB2 := Lib.hid (below_then HB1.out hA)
  have hz1 := HB1.out.size
  clear hA
  go_wp2_with fail
  refine (vSingle 1 9 2 0 _).mono ?_
  rintro e w3 ⟨rfl, HB3⟩
  rw [show decide ((1 : Int) = 9) = false from rfl]
  have HN3 := Lib.hid (blk_below HN2.out HB3.out rfl)
  have n0 := blk_cell HN3.out 0 (v := .int .u64 1) rfl
  have n1 := blk_cell HN3.out 1 (v := .int .u64 9) rfl
  have HBT := Lib.hid (below_then HB2.out HB3.out)
  have H3 := Lib.hid (H.out.below HBT.out)
  have HRL := Lib.hid (show ∀ q, d.own q → q ≠ w1.heap.size from fun q hq => by have := H.out.lt q hq; omega)
  clear HN2 HB2 HB3
  go_wp2_with fail
  refine (vHigh 7 (.inr (.inr (.inr rfl))) _).mono ?_
  rintro e w4 ⟨rfl, rfl⟩
  go_wp2_with fail
  refine (vLow 7 (.inr (.inr (.inr rfl))) _).mono ?_
  rintro e w6 ⟨rfl, rfl⟩
  go_wp2_with fail
  refine (vCluster d _ H3.out true (fun ok hf => hf.one HE.out.1) HE.out.2).mono ?_
  rintro e w5 ⟨rfl, H5, HC5⟩
  have HN5 := Lib.hid (HC5.out.blk HN3.out (fun e => HRL.out _ (d.red_own _ e) rfl))
  have HO5 := Lib.hid ((VO.below H.out HBT.out).then (VO.red H5.out HC5.out))
  clear n0 n1 HN3 H3 HC5
  have n0 := blk_cell HN5.out 0 (v := .int .u64 1) rfl
  have n1 := blk_cell HN5.out 1 (v := .int .u64 9) rfl
  have n2 := blk_cell HN5.out 2 (v := .int .i64 2) rfl
  have n3 := blk_cell HN5.out 3 (v := .int .u64 0) rfl
  have p1 := H5.out.cells.2.1
  have HD := Lib.hid H5.out.drewn
  go_wp2
  go_region_law (first | ((with_reducible refine gate_scall (f := 128) rfl ?_); refine step_goes rfl Tryz.func128 (by kernel_rfl) rfl #[.pointer (some ⟨d.p, 0, none⟩), .int .i64 0, .agg #[.int .u64 1, .int .u64 9, .int .i64 2, .int .u64 0]] rfl (by simp only [List.map_toArray, List.map_cons, List.map_nil]; rfl) (pvPut d.p d.m d.v d.ls d.limit _ HD.out.pool 0 1 9 2 0 (Nat.zero_le _)) ?_; rintro e w7 ⟨⟨r, rfl⟩, HP7, HC7⟩; refine ⟨_, rfl, ?_⟩))
  all_goals
    have HO7 := Lib.hid (show VO w w7 d d from by
      have hp : PoV w7 0 d.p d.m d.v (putAt d.ls ((0 : Nat) : Int) ⟨1, 9, 2, 0⟩) d.limit := HP7.out
      rw [← putAt_nat, HSET.out] at hp
      have ho := HD.out.puts (v' := d.v) hp (.inl rfl) (HC7.out.mono (fun b _ e => .inr e)) H.out.len
      exact ⟨ho.vp, rfl, rfl, rfl, fun q hq => .inl hq, (HO5.out.chg.drew).trans ho.chg (fun b _ e => e)⟩)
    clear HP7 HC7 HD HN5 H5 n0 n1 n2 n3 p1
    go_wp2_with fail
    refine (vPutS d _ HO7.out.vp 1 h1 5 (-1) 0 HX1.out 32 7 (.inr rfl) (by decide)).mono ?_
    rintro e w8 ⟨⟨r, rfl⟩, HO8⟩
    have HO9 := Lib.hid (HO7.out.then HO8.out)
    clear HO8 HO7
    go_wp2
    refine bodyPost_ret (results_none rfl _ _ _) rfl ?_
    exact ⟨⟨_, rfl⟩, HO9.out⟩
set_option maxRecDepth 100000 in
set_option maxHeartbeats 10000000 in
theorem vPut2 (d : VD) (w : World) (h : VP w d) (hv : V2 d) (hlim : 3 ≤ d.limit) : Calls Tryz.prog 123 #[.pointer (some ⟨d.t, 0, none⟩), .int .i64 0, .int .i64 64, .int .u64 9] w fun e w' => ∃ d', (∃ r, e = .returned r) ∧ Hid (VO w w' d d') ∧ Hid (V3 d') ∧ Hid (d'.n = d.n) := by
  obtain ⟨h0, hx⟩ := hv.at0
  have H := Lib.hid h
  have HX := Lib.hid hx
  have HE := Lib.hid hv.2.2
  have HLS := Lib.hid hv.1
  have HRT := Lib.hid hv.2.1
  have hl1 : d.ls.length = 1 := by rw [hv.1]; rfl
  have HL1 := Lib.hid hl1
  have HLM := Lib.hid h.lim.2
  have HLI := Lib.hid hlim
  clear h hv hx hlim hl1
  go_enter Tryz.func123, Tryz.ntmps123
  go_wp2_with fail
  refine (vSee d _ H.out 0 h0 _ HX.out).mono ?_
  rintro e w1 ⟨rfl, HB1⟩
  have hA := (Below.refl w1.heap.size w1).alloc (Nat.le_refl _) (.cells #[.int .u64 1, .int .u64 5, .int .i64 (-1), .int .u64 0] 112)
  have HN2 := Lib.hid (blk_new w1 #[.int .u64 1, .int .u64 5, .int .i64 (-1), .int .u64 0] 112)
  have HB2 := Lib.hid (below_then HB1.out hA)
  have hz1 := HB1.out.size
  obtain ⟨b, hb⟩ : ∃ b, b = w1.heap.size := ⟨_, rfl⟩
  clear hA
  go_wp2_with fail
  refine (vSingle 1 5 (-1) 0 _).mono ?_
  rintro e w3 ⟨rfl, HB3⟩
  rw [show decide ((1 : Int) = 5) = false from rfl]
  have HN3 := Lib.hid (blk_below HN2.out HB3.out rfl)
  have HBT := Lib.hid (below_then HB2.out HB3.out)
  have H3 := Lib.hid (H.out.below HBT.out)
  rw [← hb] at HN3 hz1 ⊢
  have HRL := Lib.hid (show ∀ q, d.own q → q < b from fun q hq => by have := H.out.lt q hq; omega)
  have HZB := Lib.hid hz1
  clear HN2 HB2 HB3 hb hz1
  have n0 := blk_cell HN3.out 0 (v := .int .u64 1) rfl
  have n1 := blk_cell HN3.out 1 (v := .int .u64 5) rfl
  have f1 := blk_free HN3.out 1
  have HN4 := Lib.hid (show (w3.setCell ⟨b, 1, none⟩ (.int .u64 9)).heap[b]? = some (.cells #[.int .u64 1, .int .u64 9, .int .i64 (-1), .int .u64 0] 112 (0, 0)) from by simpa using blk_set HN3.out 1 (.int .u64 9))
  have HC4 := Lib.hid ((Chg.refl (· = b) w3).set (b := b) (i := 1) (.int .u64 9) (.inl rfl))
  have H4 := Lib.hid (H3.out.chg HC4.out (fun q hq e => by have := HRL.out q hq; have e' : q = b := e; omega))
  have HO4 := Lib.hid (show VO w (w3.setCell ⟨b, 1, none⟩ (.int .u64 9)) d d from ⟨H4.out, rfl, rfl, rfl, fun q hq => .inl hq, (Chg.of_below HBT.out).set _ (.inr HZB.out)⟩)
  go_wp2_with fail
  refine (vHigh 5 (.inr (.inl rfl)) _).mono ?_
  rintro e w4 ⟨rfl, rfl⟩
  go_wp2_with fail
  refine (vLow 5 (.inr (.inl rfl)) _).mono ?_
  rintro e w6 ⟨rfl, rfl⟩
  generalize w3.setCell ⟨b, 1, none⟩ (.int .u64 9) = w7 at *
  clear n0 n1 f1 HN3 H3 HC4 HBT
  go_wp2_with fail
  refine (vCluster d _ H4.out false (noFn HE.out.2) (noVal HE.out.2)).mono ?_
  rintro e w8 ⟨rfl, H8, HC8⟩
  have HN8 := Lib.hid (HC8.out.blk HN4.out (fun e => by have := HRL.out _ (d.red_own _ e); omega))
  have HO8 := Lib.hid (HO4.out.then (VO.red H8.out HC8.out))
  clear HN4 HC8 H4 HO4 HX
  have p8 := H8.out.cells.2.1
  have HD := Lib.hid H8.out.drewn
  have hroom : (d.ls.length : Int) + 1 ≤ d.limit := by have := HL1.out; have := HLI.out; omega
  have HRM := Lib.hid hroom
  have HTH := Lib.hid (show d.ls.length ≤ 1000 by have := HL1.out; omega)
  clear hroom
  have HEND := Lib.hid (show ∀ (w9 w10 : World) (v' : Value), Below w8.drew.heap.size w8.drew w9 → VP w9 d → PoV w10 0 d.p d.m v' (d.ls ++ [⟨5, 5, -1, 0⟩]) d.limit → (v'.ownBlock = d.v.ownBlock ∨ ∃ g, v'.ownBlock = some g ∧ w9.heap.size ≤ g) → Chg (fun k => k = d.p ∨ d.v.ownBlock = some k) w9 w10 →
      VO w w10 d { d with v := v', ls := d.ls ++ [⟨5, 5, -1, 0⟩] } ∧ w10.heap[b]? = some (.cells #[.int .u64 1, .int .u64 9, .int .i64 (-1), .int .u64 0] 112 (0, 0)) from fun w9 w10 v' hb h9 hp hv hc => by
    refine ⟨(HO8.out.then ⟨h9, rfl, rfl, rfl, fun q hq => .inl hq, (Chg.refl _ _).drew.then (Chg.of_below hb)⟩).then (h9.puts hp hv hc (by simp [HL1.out])), hc.blk (blk_below (show w8.drew.heap[b]? = _ from HN8.out) hb rfl) (fun e => ?_)⟩
    have h1 : d.own b := e.elim (fun e => .inr (.inl e)) (fun e => .inr (.inr (.inr (.inr (.inr e)))))
    have := HRL.out b h1
    omega)
  go_wp2
  go_region_held3 (fun w' => w'.cell? ⟨d.t, 1, none⟩ = some (.pointer (some ⟨d.p, 0, none⟩))) (first | exact p8 | exact p9 | exact p10) (first | (go_at_call 120; refine (vFresh 5 32 (.inr rfl) _).mono ?_; rintro e w9 ⟨rfl, HB9⟩; have H9 := Lib.hid (HD.out.below HB9.out); have p9 : w9.cell? ⟨d.t, 1, none⟩ = some (.pointer (some ⟨d.p, 0, none⟩)) := H9.out.cells.2.1) | (go_at_call 119; refine (pvAlloc d.p d.m d.v d.ls d.limit _ H9.out.pool 5 5 (-1) 0 (Nat.zero_le _) HRM.out HLM.out HTH.out).mono ?_; rintro e w10 ⟨v', he, HP10, HV10, HC10⟩; rw [HL1.out] at he; subst he; have h10 := HEND.out _ _ _ HB9.out H9.out HP10.out HV10.out HC10.out; have HO10 := Lib.hid h10.1; have HN10 := Lib.hid h10.2; have p10 : w10.cell? ⟨d.t, 1, none⟩ = some (.pointer (some ⟨d.p, 0, none⟩)) := h10.1.vp.cells.2.1; clear h10))
  clear HP10 HV10 HC10 HB9 H9 p9 p10 HEND p8 HD HRM HTH HO8 HN8
  have p10 : w10.cell? ⟨d.t, 2, none⟩ = some (.pointer (some ⟨d.h, 0, none⟩)) := HO10.out.vp.cells.2.2.1
  have HD1 := Lib.hid HO10.out.vp.drewn
  have HTB := Lib.hid (show ∀ W, VP W { d with v := v', ls := d.ls ++ [⟨5, 5, -1, 0⟩] } → Tb W d.h d.g d.m d.es d.seed ((0 : Nat) : Int) from fun W h => by
    have ht : Tb W d.h d.g d.m d.es d.seed (d.tn : Nat) := h.tb
    rw [HE.out.1] at ht
    exact ht)
  have HTI := Lib.hid (show Ti d.es ((0 : Nat) : Int) from by
    have ht := H8.out.ti
    rw [HE.out.1] at ht
    exact ht)
  have HEND2 := Lib.hid (show ∀ (w11 w12 : World) (es' : List En), Below w10.drew.heap.size w10.drew w11 → VP w11 { d with v := v', ls := d.ls ++ [⟨5, 5, -1, 0⟩] } → Tb w12 d.h d.g d.m es' d.seed ((1 : Nat) : Int) → Ti es' ((1 : Nat) : Int) → Chg (fun k => k = d.h ∨ k = d.g) w11 w12 →
      VO w w12 d { d with v := v', ls := d.ls ++ [⟨5, 5, -1, 0⟩], es := es', tn := 1 } ∧ w12.heap[b]? = some (.cells #[.int .u64 1, .int .u64 9, .int .i64 (-1), .int .u64 0] 112 (0, 0)) from fun w11 w12 es' hb h11 ht hi hc => by
    refine ⟨(HO10.out.then ⟨h11, rfl, rfl, rfl, fun q hq => .inl hq, (Chg.refl _ _).drew.then (Chg.of_below hb)⟩).then (h11.tput ht hi hc), hc.blk (blk_below (show w10.drew.heap[b]? = _ from HN10.out) hb rfl) (fun e => ?_)⟩
    have h1 : d.own b := e.elim (fun e => .inr (.inr (.inl e))) (fun e => .inr (.inr (.inr (.inl e))))
    have := HRL.out b h1
    omega)
  go_wp2
  go_region_held3 (fun w' => w'.cell? ⟨d.t, 2, none⟩ = some (.pointer (some ⟨d.h, 0, none⟩))) (first | exact p10 | exact p11 | exact p12) (first | (go_at_call 143; refine (vKey _).mono ?_; rintro e w11 ⟨rfl, HB11⟩; have H11 := Lib.hid (HD1.out.below HB11.out); have p11 : w11.cell? ⟨d.t, 2, none⟩ = some (.pointer (some ⟨d.h, 0, none⟩)) := H11.out.cells.2.2.1) | (go_at_call 142; refine (hPut0 d.h d.g d.m d.es d.seed 64 0 1 _ (HTB.out _ H11.out) HTI.out HE.out.2).mono ?_; rintro e w12 ⟨es', rfl, HT12, HI12, HF12, HV12, HC12⟩; have h12 := HEND2.out _ _ _ HB11.out H11.out HT12.out HI12.out HC12.out; have HO12 := Lib.hid h12.1; have HN12 := Lib.hid h12.2; have p12 : w12.cell? ⟨d.t, 2, none⟩ = some (.pointer (some ⟨d.h, 0, none⟩)) := h12.1.vp.cells.2.2.1; clear h12))
  clear HT12 HI12 HC12 HB11 H11 p11 p12 HEND2 p10 HD1 HTB HTI HN10
  have p12 : w12.cell? ⟨d.t, 1, none⟩ = some (.pointer (some ⟨d.p, 0, none⟩)) := HO12.out.vp.cells.2.1
  have n2 := blk_cell HN12.out 2 (v := .int .i64 (-1)) rfl
  have HD2 := Lib.hid HO12.out.vp.drewn
  have HL2 := Lib.hid (show (d.ls ++ [(⟨5, 5, -1, 0⟩ : Ve)]).length = 2 by rw [List.length_append, HL1.out]; rfl)
  have HRM := Lib.hid (show ((d.ls ++ [(⟨5, 5, -1, 0⟩ : Ve)]).length : Int) + 1 ≤ d.limit by have := HL2.out; have := HLI.out; omega)
  have HTH := Lib.hid (show (d.ls ++ [(⟨5, 5, -1, 0⟩ : Ve)]).length ≤ 1000 by have := HL2.out; omega)
  have HVB := Lib.hid (show ∀ q, v'.ownBlock = some q → q ≠ b from fun q hq => (HO12.out.vp.tys.2.2.2.2.2 q hq).ne (⟨_, HN12.out⟩ : tyV w12 b 112) (by decide))
  have HEND3 := Lib.hid (show ∀ (w13 w14 : World) (v2 : Value), Below w12.drew.heap.size w12.drew w13 → VP w13 { d with v := v', ls := d.ls ++ [⟨5, 5, -1, 0⟩], es := es', tn := 1 } → PoV w14 0 d.p d.m v2 (d.ls ++ [⟨5, 5, -1, 0⟩] ++ [⟨0, 0, -1, 0⟩]) d.limit → (v2.ownBlock = v'.ownBlock ∨ ∃ g, v2.ownBlock = some g ∧ w13.heap.size ≤ g) → Chg (fun k => k = d.p ∨ v'.ownBlock = some k) w13 w14 →
      VO w w14 d { d with v := v2, ls := d.ls ++ [⟨5, 5, -1, 0⟩] ++ [⟨0, 0, -1, 0⟩], es := es', tn := 1 } ∧ w14.heap[b]? = some (.cells #[.int .u64 1, .int .u64 9, .int .i64 (-1), .int .u64 0] 112 (0, 0)) from fun w13 w14 v2 hb h13 hp hv hc => by
    refine ⟨(HO12.out.then ⟨h13, rfl, rfl, rfl, fun q hq => .inl hq, (Chg.refl _ _).drew.then (Chg.of_below hb)⟩).then (h13.puts hp hv hc (by rw [List.length_append, HL2.out]; decide)), hc.blk (blk_below (show w12.drew.heap[b]? = _ from HN12.out) hb rfl) (fun e => ?_)⟩
    rcases e with e | e
    · have := HRL.out b (.inr (.inl e)); omega
    · exact HVB.out b e rfl)
  have HEND4 := Lib.hid (show ∀ (w14 : World) (v2 : Value), VO w w14 d { d with v := v2, ls := d.ls ++ [⟨5, 5, -1, 0⟩] ++ [⟨0, 0, -1, 0⟩], es := es', tn := 1 } → w14.heap[b]? = some (.cells #[.int .u64 1, .int .u64 9, .int .i64 (-1), .int .u64 0] 112 (0, 0)) →
      VO w (w14.setCell ⟨b, 2, none⟩ (.int .i64 2)) d { d with v := v2, ls := d.ls ++ [⟨5, 5, -1, 0⟩] ++ [⟨0, 0, -1, 0⟩], es := es', tn := 1 } ∧ (w14.setCell ⟨b, 2, none⟩ (.int .i64 2)).heap[b]? = some (.cells #[.int .u64 1, .int .u64 9, .int .i64 2, .int .u64 0] 112 (0, 0)) from fun w14 v2 ho hn => by
    have hc := (Chg.refl (· = b) w14).set (b := b) (i := 2) (.int .i64 2) (.inl rfl)
    refine ⟨⟨ho.vp.chg hc (fun q hq e => ?_), ho.t, ho.limit, ho.seed, ho.own, ho.chg.set _ (.inr HZB.out)⟩, by simpa using blk_set hn 2 (.int .i64 2)⟩
    have e' : q = b := e
    rw [e'] at hq
    obtain ⟨t1, t2, t3, t4, t5, t6⟩ := ho.vp.tys
    have hb : tyV w14 b 112 := ⟨_, hn⟩
    rcases hq with e | e | e | e | e | e
    · exact t1.ne hb (by decide) e.symm
    · exact t2.ne hb (by decide) e.symm
    · exact t3.ne hb (by decide) e.symm
    · exact t4.ne hb (by decide) e.symm
    · exact t5.ne hb (by decide) e.symm
    · exact (t6 b e).ne hb (by decide) rfl)
  go_wp2
  go_region_held3 (fun w' => w'.cell? ⟨d.t, 1, none⟩ = some (.pointer (some ⟨d.p, 0, none⟩))) (first | exact p12 | exact p13 | exact p14 | exact p15) (first | (go_at_call 120; refine (vFresh 0 32 (.inr rfl) _).mono ?_; rintro e w13 ⟨rfl, HB13⟩; have H13 := Lib.hid (HD2.out.below HB13.out); have p13 : w13.cell? ⟨d.t, 1, none⟩ = some (.pointer (some ⟨d.p, 0, none⟩)) := H13.out.cells.2.1) | (go_at_call 119; refine (pvAlloc d.p d.m v' _ d.limit _ H13.out.pool 0 0 (-1) 0 (Nat.zero_le _) HRM.out HLM.out HTH.out).mono ?_; rintro e w14 ⟨v2, he, HP14, HV14, HC14⟩; rw [HL2.out] at he; subst he; have h14 := HEND3.out _ _ _ HB13.out H13.out HP14.out HV14.out HC14.out; have HO14 := Lib.hid h14.1; have HN14 := Lib.hid h14.2; have p14 : w14.cell? ⟨d.t, 1, none⟩ = some (.pointer (some ⟨d.p, 0, none⟩)) := h14.1.vp.cells.2.1; have q14 := blk_cell h14.2 2 (v := .int .i64 (-1)) rfl; have f14 := blk_free h14.2 2; have HO15 := Lib.hid (HEND4.out _ _ h14.1 h14.2); have p15 : (w14.setCell ⟨b, 2, none⟩ (.int .i64 2)).cell? ⟨d.t, 1, none⟩ = some (.pointer (some ⟨d.p, 0, none⟩)) := HO15.out.1.vp.cells.2.1; clear h14))
  clear HP14 HV14 HC14 HB13 H13 p13 p14 q14 f14 p15 HEND3 HEND4 p12 n2 HD2 HRM HTH HO12 HN12 HO14 HN14 HO10
  generalize w14.setCell ⟨b, 2, none⟩ (.int .i64 2) = w15 at *
  have n0 := blk_cell HO15.out.2 0 (v := .int .u64 1) rfl
  have n1 := blk_cell HO15.out.2 1 (v := .int .u64 9) rfl
  have n2 := blk_cell HO15.out.2 2 (v := .int .i64 2) rfl
  have n3 := blk_cell HO15.out.2 3 (v := .int .u64 0) rfl
  have p15 : w15.cell? ⟨d.t, 1, none⟩ = some (.pointer (some ⟨d.p, 0, none⟩)) := HO15.out.1.vp.cells.2.1
  have HD := Lib.hid HO15.out.1.vp.drewn
  have HSET := Lib.hid (show putAt (d.ls ++ [⟨5, 5, -1, 0⟩] ++ [⟨0, 0, -1, 0⟩]) 0 (⟨1, 9, 2, 0⟩ : Ve) = [⟨1, 9, 2, 0⟩, ⟨5, 5, -1, 0⟩, ⟨0, 0, -1, 0⟩] by rw [HLS.out]; rfl)
  go_wp2
  go_region_law (first | ((with_reducible refine gate_scall (f := 128) rfl ?_); refine step_goes rfl Tryz.func128 (by kernel_rfl) rfl #[.pointer (some ⟨d.p, 0, none⟩), .int .i64 0, .agg #[.int .u64 1, .int .u64 9, .int .i64 2, .int .u64 0]] rfl (by simp only [List.map_toArray, List.map_cons, List.map_nil]; rfl) (pvPut d.p d.m v2 _ d.limit _ HD.out.pool 0 1 9 2 0 (Nat.zero_le _)) ?_; rintro e w16 ⟨⟨r, rfl⟩, HP16, HC16⟩; refine ⟨_, rfl, ?_⟩))
  all_goals
    have HO16 := Lib.hid (show VO w w16 d { d with v := v2, ls := [⟨1, 9, 2, 0⟩, ⟨5, 5, -1, 0⟩, ⟨0, 0, -1, 0⟩], es := es', tn := 1 } from by
      have hp := HP16.out
      rw [HSET.out] at hp
      exact (HO15.out.1.then ⟨HD.out, rfl, rfl, rfl, fun q hq => .inl hq, (Chg.refl _ _).drew⟩).then (HD.out.puts (v' := v2) hp (.inl rfl) (HC16.out.mono (fun b _ e => .inr e)) (by decide)))
    clear HP16 HC16 HD HO15 n0 n1 n2 n3 p15
    go_wp2
    refine bodyPost_ret (results_none rfl _ _ _) rfl ?_
    exact ⟨_, ⟨_, rfl⟩, HO16.out, ⟨rfl, HRT.out, HF12.out, HV12.out⟩, rfl⟩
end Go.Proofs.YtmpjjehihimadaaGreat
