/-
  yfast.YFast: Used, New, link, put, walked.
  yfast.YFast: link, put (of the first bucket), walked.
-/
import Derived.Test.YtcnaikoloagbdaaGreatQYfA
namespace Go.Proofs.YtcnaikoloagbdaaGreat
set_option linter.unusedVariables false
set_option linter.unusedSimpArgs false
open Go.RowKit

set_option maxRecDepth 100000 in
set_option maxHeartbeats 2000000 in
theorem yUsed (d : YD) (w : World) (h : YP w d) (hl : d.ls.length ≤ 2) (hn0 : 0 ≤ d.n) (hn : d.n ≤ 200) : Calls Tryz.prog 360 #[.pointer (some ⟨d.y, 0, none⟩)] w fun e w' => ∃ u : Int, e = .returned (.int .i64 u) ∧ 0 ≤ u ∧ u ≤ 900 ∧ Hid (Below w.heap.size w w') := by
  have H := Lib.hid h.drewn
  obtain ⟨_, c1, _, c3, c4, _⟩ := h.cells
  have hf := h.xf.few
  have hxl := h.xf.len
  have HW0 := Lib.hid (show IntKind.i64.wrap (d.ls.length : Int) = (d.ls.length : Int) from by rw [IntKind.wrap_i64]; omega)
  have HW := Lib.hid (show IntKind.i64.wrap ((d.xd.n : Int) + (d.xd.ls.length : Int) + (d.ls.length : Int)) = (d.xd.n : Int) + (d.xd.ls.length : Int) + (d.ls.length : Int) from by rw [IntKind.wrap_i64]; omega)
  have HW2 := Lib.hid (show IntKind.i64.wrap ((d.xd.n : Int) + (d.xd.ls.length : Int) + (d.ls.length : Int) + d.n) = (d.xd.n : Int) + (d.xd.ls.length : Int) + (d.ls.length : Int) + d.n from by rw [IntKind.wrap_i64]; omega)
  clear h
  go_enter Tryz.func360, Tryz.ntmps360
  go_wp2
  go_region_law (first | ((with_reducible refine gate_scall (f := 313) rfl ?_); refine step_goes rfl Tryz.func313 (by kernel_rfl) rfl #[.pointer (some ⟨d.xd.x, 0, none⟩)] rfl (by simp only [List.map_toArray, List.map_cons, List.map_nil]; rfl) (xUsed d.xd _ H.out.xf) ?_; rintro e w2 ⟨rfl, HB2⟩; have H2 := Lib.hid (H.out.below HB2.out); have c32 := H2.out.cells.2.2.2.1; have c42 := H2.out.cells.2.2.2.2.1; refine ⟨_, rfl, ?_⟩) | ((with_reducible refine gate_scall (f := 377) rfl ?_); refine step_goes rfl Tryz.func377 (by kernel_rfl) rfl #[.pointer (some ⟨d.p, 0, none⟩)] rfl (by simp only [List.map_toArray, List.map_cons, List.map_nil]; rfl) (pcLen d.p d.xd.m d.v d.ls d.limit _ H2.out.pool) ?_; rintro e w3 ⟨rfl, rfl⟩; have hw0 := HW0.out; have hw1 := HW.out; have hw2 := HW2.out; refine ⟨_, rfl, ?_⟩))
  all_goals
    go_wp2
    go_ret
    exact ⟨_, rfl, by omega, by omega, (Below.refl _ _).drew.trans HB2.out⟩
set_option maxRecDepth 100000 in
set_option maxHeartbeats 2000000 in
theorem yNew (seed limit : Int) (w : World) (h0 : 0 ≤ limit) (h1 : limit ≤ 1048576) : Calls Tryz.prog 114 #[.int .u64 seed, .int .i64 limit] w fun e w' => ∃ d : YD, e = .returned (.tuple #[.pointer (some ⟨d.y, 0, none⟩), .int .i64 0]) ∧ Hid (YF w' d) ∧ Hid (d.ks = [] ∧ d.limit = limit ∧ d.xd.limit = limit) ∧ Hid (∀ q, d.own q → w.heap.size ≤ q) ∧ Hid (Below w.heap.size w w') := by
  go_enter Tryz.func114, Tryz.ntmps114
  go_wp2_with fail
  refine (xNew seed limit _ h0 h1).mono ?_
  rintro e w1 ⟨xd, rfl, HX1, HXP, HXO, HB1⟩
  have hz1 := HB1.out.size
  have c0 := HX1.out.cells.1
  go_wp2_with fail
  refine (pcNew xd.m limit _ h0 h1).mono ?_
  rintro e w2 ⟨p, rfl, hp, HP2, hb2⟩
  have HX2 := Lib.hid (HX1.out.below hb2)
  have HB2 := Lib.hid hb2
  have hz2 := hb2.size
  have c02 := HX2.out.cells.1
  have HXD := Lib.hid HX2.out.drewn
  clear hb2 c0
  go_wp2
  go_region_law (first | ((with_reducible refine gate_scall (f := 143) rfl ?_); refine step_goes rfl Tryz.func143 (by kernel_rfl) rfl #[.pointer (some ⟨xd.m, 0, none⟩), .int .u64 seed] rfl (by simp only [List.map_toArray, List.map_cons, List.map_nil]; rfl) (hNew xd.m seed _) ?_; rintro e w3 ⟨t, g, es, rfl, ht, hg, HT, HI, HE, hb3⟩; have HB3 := Lib.hid hb3; have c03 := (HXD.out.below hb3).cells.1; clear hb3; refine ⟨_, rfl, ?_⟩))
  all_goals
    have hz3 := HB3.out.size
    have ezd : w2.drew.heap.size = w2.heap.size := rfl
    have hA := (Below.refl w3.heap.size w3).alloc (Nat.le_refl _) (.cells #[.pointer (some ⟨xd.m, 0, none⟩), .pointer (some ⟨xd.x, 0, none⟩), .pointer (some ⟨t, 0, none⟩), .pointer (some ⟨p, 0, none⟩), .int .i64 0, .int .i64 limit] 234)
    have HX3 := Lib.hid ((HXD.out.below HB3.out).below hA)
    have HXL := Lib.hid (fun q hq => HX2.out.lt q hq)
    have hpd : (w3.alloc (.cells #[.pointer (some ⟨xd.m, 0, none⟩), .pointer (some ⟨xd.x, 0, none⟩), .pointer (some ⟨t, 0, none⟩), .pointer (some ⟨p, 0, none⟩), .int .i64 0, .int .i64 limit] 234)).heap[p]? = _ := (blk_below (blk_below (show w2.drew.heap[p]? = _ from HP2.out.head) HB3.out rfl) hA rfl)
    have HY := Lib.hid (show YF (w3.alloc (.cells #[.pointer (some ⟨xd.m, 0, none⟩), .pointer (some ⟨xd.x, 0, none⟩), .pointer (some ⟨t, 0, none⟩), .pointer (some ⟨p, 0, none⟩), .int .i64 0, .int .i64 limit] 234)) ⟨w3.heap.size, xd, t, g, es, 0, p, .slice none 0 0, [], 0, none, 0, [], limit⟩ from
      ⟨⟨blk_new _ _ _, HX3.out, by rw [HXP.out.2.2.1]; exact HT.out.chg (S := fun _ => False) (Chg.of_below hA) (fun h => h) (fun h => h), HI.out, fun x hx => .inl (HE.out x hx), by show (0 : Nat) ≤ 8; omega, ⟨hpd, rfl, .inl ⟨rfl, rfl⟩⟩, ⟨rfl, .inl ⟨rfl, rfl⟩⟩, ⟨h0, h1⟩, fun e => by have := HXL.out t (.inr (.inl e)); omega, fun e => by have := HXL.out g (.inr (.inr (.inl e))); omega⟩,
       ⟨.inl ⟨rfl, rfl, HXP.out.1⟩, ⟨Int.le_refl _, ⟨fun _ => rfl, fun _ => rfl⟩⟩, by simp, by show (0 : Int) ≤ 100; omega, by show xd.ls.length ≤ 1; rw [HXP.out.1]; simp, fun _ => rfl, U64.nil⟩⟩)
    have HBB := Lib.hid (below_then (below_then (below_then HB1.out HB2.out) ((Below.refl _ w2).drew.trans HB3.out)) hA)
    clear hA hpd
    go_wp2
    go_ret2
    refine ⟨⟨w3.heap.size, xd, t, g, es, 0, p, .slice none 0 0, [], 0, none, 0, [], limit⟩, rfl, HY.out, ⟨rfl, rfl, HXP.out.2.1⟩, ?_, HBB.out⟩
    rintro q (e | e | e | e | e | e | e)
    · simp only at e; omega
    · exact HXO.out q e
    · simp only at e; omega
    · simp only at e; omega
    · simp only at e; omega
    · cases e
    · cases e
end Go.Proofs.YtcnaikoloagbdaaGreat
namespace Go.Proofs.YtcnaikoloagbdaaGreat
set_option linter.unusedVariables false
set_option linter.unusedSimpArgs false
open Go.RowKit

theorem YP.setP {S : Nat → Prop} {w w' : World} {d : YD} {v : Value} {ls : List Ce} (h : YP w d) (hc : Chg S w w') (hS : ∀ k, S k → k = d.p ∨ d.v.ownBlock = some k) (hp : PoC w' 0 d.p d.xd.m v ls d.limit) : YP w' { d with v := v, ls := ls } := by
  obtain ⟨t1, t2, t3, t4, t5, t6⟩ := h.tys
  have ne : ∀ q t, ty w q t → t ≠ 279 → t ≠ 401 → ¬ S q := fun q t hq h1 h2 e => by
    rcases hS _ e with e | e
    · exact hq.ne t4 h1 e
    · exact hq.ne (t5 q e) h2 rfl
  exact ⟨hc.blk h.head (ne _ _ t1 (by decide) (by decide)), h.xf.chg hc (fun k hk e => by
      rcases hS _ e with e | e
      · exact (h.xne k hk).2.2.2.1 e
      · exact (h.xne k hk).2.2.2.2.1 k e rfl), h.tb.chg hc (ne _ _ t2 (by decide) (by decide)) (ne _ _ t3 (by decide) (by decide)), h.ti, h.vals, h.few, hp, rowG_chg h.row hc (fun g hg => ne _ _ (t6 g hg) (by decide) (by decide)), h.lim, h.nt, h.ng⟩
theorem YP.setX {w w' : World} {d : YD} {xd : XD} (h : YP w d) (hs : XStep w w' d.xd xd) : YP w' { d with xd := xd } := by
  have hn : ∀ k, (k = d.t ∨ k = d.g ∨ k = d.y ∨ k = d.p ∨ d.v.ownBlock = some k ∨ d.kv.ownBlock = some k) → ¬ d.xd.own k := fun k hk e => by
    obtain ⟨h1, h2, h3, h4, h5, h6⟩ := h.xne k e
    rcases hk with hk | hk | hk | hk | hk | hk
    · exact h1 hk
    · exact h2 hk
    · exact h3 hk
    · exact h4 hk
    · exact h5 k hk rfl
    · exact h6 k hk rfl
  have hg := h.tb.rows.lt
  refine ⟨?_, hs.xf, ?_, h.ti, h.vals, h.few, ?_, rowG_chg h.row hs.chg (fun g hg => hn g (.inr (.inr (.inr (.inr (.inr hg)))))), h.lim, ?_, ?_⟩
  · show w'.heap[d.y]? = some (.cells #[.pointer (some ⟨xd.m, 0, none⟩), .pointer (some ⟨xd.x, 0, none⟩), _, _, _, _] _ _)
    rw [hs.m, hs.x]
    exact hs.chg.blk h.head (hn _ (.inr (.inr (.inl rfl))))
  · show Tb w' d.t d.g xd.m d.es xd.seed (d.tn : Nat)
    rw [hs.m, hs.seed]
    exact h.tb.chg hs.chg (hn _ (.inl rfl)) (hn _ (.inr (.inl rfl)))
  · show PoC w' 0 d.p xd.m d.v d.ls d.limit
    rw [hs.m]
    exact h.pool.chg hs.chg (hn _ (.inr (.inr (.inr (.inl rfl))))) (fun g hg => hn g (.inr (.inr (.inr (.inr (.inl hg))))))
  · show d.t ≠ xd.h
    rw [hs.h]
    exact h.nt
  · show d.g ≠ xd.g
    intro e
    rcases hs.own xd.g (.inr (.inr (.inl rfl))) with h1 | h1
    · exact hn d.g (.inr (.inl rfl)) (by rw [e]; exact h1)
    · omega
theorem YP.setT {w w' : World} {d : YD} {g : Nat} {es : List En} {n : Nat} (h : YP w d) (ht : Tb w' d.t g d.xd.m es d.xd.seed (n : Nat)) (hi : Ti es (n : Nat)) (hv : Vals es (· = 0)) (hn : n ≤ 8) (hg : g = d.g ∨ w.heap.size ≤ g) (hc : Chg (fun k => k = d.t ∨ k = d.g) w w') : YP w' { d with g := g, es := es, tn := n } := by
  obtain ⟨t1, t2, t3, t4, t5, t6⟩ := h.tys
  have ne : ∀ q t, ty w q t → t ≠ 252 → t ≠ 255 → ¬ (q = d.t ∨ q = d.g) := by
    rintro q t hq h1 h2 (e | e)
    · exact hq.ne t2 h1 e
    · exact hq.ne t3 h2 e
  refine ⟨hc.blk h.head (ne _ _ t1 (by decide) (by decide)), h.xf.chg hc (fun k hk e => ?_), ht, hi, hv, hn, h.pool.chg hc (ne _ _ t4 (by decide) (by decide)) (fun q hq => ne _ _ (t5 q hq) (by decide) (by decide)), rowG_chg h.row hc (fun q hq => ne _ _ (t6 q hq) (by decide) (by decide)), h.lim, h.nt, ?_⟩
  · rcases e with e | e
    · exact (h.xne k hk).1 e
    · exact (h.xne k hk).2.1 e
  · show g ≠ d.xd.g
    rcases hg with e | e
    · rw [e]; exact h.ng
    · have := h.xf.tb.rows.lt; omega
theorem YP.setK {w : World} {d : YD} {A : Option Addr} {c : Nat} {ks : List Int} (h : YP w d) (hr : Own .u64 22 w 0 (.slice A ks.length c) ks) : YP w { d with kA := A, kc := c, ks := ks } := ⟨h.head, h.xf, h.tb, h.ti, h.vals, h.few, h.pool, hr, h.lim, h.nt, h.ng⟩
theorem YP.setN {w : World} {d : YD} (h : YP w d) (x : Int) : YP (w.setCell ⟨d.y, 4, none⟩ (.int .i64 x)) { d with n := x } := by
  obtain ⟨t1, t2, t3, t4, t5, t6⟩ := h.tys
  have hc := (Chg.refl (fun k => k = d.y) w).set (b := d.y) (i := 4) (.int .i64 x) (.inl rfl)
  exact ⟨blk_set h.head 4 _, h.xf.chg hc (fun k hk e => (h.xne k hk).2.2.1 e), h.tb.chg hc (t2.ne t1 (by decide)) (t3.ne t1 (by decide)), h.ti, h.vals, h.few, h.pool.chg hc (t4.ne t1 (by decide)) (fun q hq => (t5 q hq).ne t1 (by decide)), rowG_chg h.row hc (fun q hq => (t6 q hq).ne t1 (by decide)), h.lim, h.nt, h.ng⟩
theorem YD.own_v (d : YD) : ∀ k, (fun g => d.v.ownBlock = some g) k → d.own k := fun k h => .inr (.inr (.inr (.inr (.inr (.inl h)))))
set_option maxRecDepth 100000 in
set_option maxHeartbeats 2000000 in
theorem yLink1 (d : YD) (A : Option Addr) (kn kc : Nat) (w : World) (h : YP w d) (hls : d.ls = [⟨0, A, kn, kc, -1, -1⟩]) : Calls Tryz.prog 383 #[.pointer (some ⟨d.y, 0, none⟩), .int .i64 (-1), .int .i64 0] w fun e w' => e = .returned (.tuple #[]) ∧ Hid (YP w' d) ∧ Hid (Chg (fun g => d.v.ownBlock = some g) w w') := by
  have H := Lib.hid h
  have HLS := Lib.hid hls
  have hd1 : decide (0 ≤ (-1 : Int) ∧ (-1 : Int) < (d.ls.length : Int)) = false := by simp
  have hd2 : decide (0 ≤ (0 : Int) ∧ (0 : Int) < (d.ls.length : Int)) = true := by rw [hls]; rfl
  have HD1 := Lib.hid hd1
  have HD2 := Lib.hid hd2
  obtain ⟨_, _, _, c3, _⟩ := h.cells
  clear h hls hd1 hd2
  go_enter Tryz.func383, Tryz.ntmps383
  skip
  skip
  go_wp2_with fail
  refine (pcPeek d.p d.xd.m d.v d.ls d.limit _ H.out.pool (-1) (Nat.zero_le _)).mono ?_
  rintro e w1 ⟨y, rfl, HY, HZ, HB⟩
  skip
  rw [HD1.out]
  obtain rfl := HZ.out (of_decide_eq_false HD1.out)
  have hA := (Below.refl w1.heap.size w1).alloc (Nat.le_refl _) (.cells #[.int .u64 0, .slice none 0 0, .int .i64 0, .int .i64 0] 232)
  have H2 := Lib.hid ((H.out.below HB.out).below hA)
  have HH2C := Lib.hid ((Chg.refl (fun g => d.v.ownBlock = some g) w).then (Chg.of_below (below_then HB.out hA)))
  clear hA HB HY HZ
  have c32 := H2.out.cells.2.2.2.1
  skip
  go_wp2_with fail
  refine (pcPeek d.p d.xd.m d.v d.ls d.limit _ H2.out.pool 0 (Nat.zero_le _)).mono ?_
  rintro e w3 ⟨y, rfl, HY, HZ, HB⟩
  skip
  rw [HD2.out]
  obtain ⟨hn, hy⟩ := HY.out (of_decide_eq_true HD2.out)
  obtain rfl : y = ⟨0, A, kn, kc, -1, -1⟩ := by rw [hy]; simp [HLS.out]
  clear hn hy HY HZ
  have hA := (Below.refl w3.heap.size w3).alloc (Nat.le_refl _) (.cells #[.int .u64 0, .slice A kn kc, .int .i64 (-1), .int .i64 (-1)] 232)
  have H5 := Lib.hid ((H2.out.below HB.out).below hA)
  have HC5 := Lib.hid (HH2C.out.then (Chg.of_below (below_then HB.out hA)))
  have HN5 := Lib.hid (blk_new w3 #[.int .u64 0, .slice A kn kc, .int .i64 (-1), .int .i64 (-1)] 232)
  have n0 := blk_cell HN5.out 0 rfl
  have n1 := blk_cell HN5.out 1 rfl
  have n2 := blk_cell HN5.out 2 rfl
  have n3 := blk_cell HN5.out 3 rfl
  have f2 := blk_free HN5.out 2
  have f3 := blk_free HN5.out 3
  have c35 := H5.out.cells.2.2.2.1
  have HPD := Lib.hid H5.out.drewn
  clear hA HB
  go_wp2
  go_region_law (first | ((with_reducible refine gate_scall (f := 367) rfl ?_); refine step_goes rfl Tryz.func367 (by kernel_rfl) rfl #[.pointer (some ⟨d.p, 0, none⟩), .int .i64 0, .agg #[.int .u64 0, .slice A kn kc, .int .i64 (-1), .int .i64 (-1)]] rfl (by simp only [List.map_toArray, List.map_cons, List.map_nil]; rfl) (pcPut d.p d.xd.m d.v d.ls d.limit _ HPD.out.pool 0 _ _ _ _ _ _ (Nat.zero_le _)) ?_; rintro e w7 ⟨⟨r, rfl⟩, HP7, HC7⟩; refine ⟨_, rfl, ?_⟩))
  all_goals
    skip
    have H7 := Lib.hid (show YP w7 d from by
      have h1 := HPD.out.setP HC7.out (fun k e => .inr e) HP7.out
      have e : putAt d.ls 0 ⟨0, A, kn, kc, -1, -1⟩ = d.ls := by rw [HLS.out]; rfl
      rw [e] at h1
      exact h1)
    have HC8 := Lib.hid (HC5.out.drew.then HC7.out)
    clear HP7 HC7 HPD H5 HC5 HN5
    go_wp2
    go_end0
    exact ⟨rfl, H7.out, HC8.out⟩
set_option maxRecDepth 100000 in
set_option maxHeartbeats 2000000 in
theorem yLink2 (d : YD) (A : Option Addr) (kn kc : Nat) (w : World) (h : YP w d) (hls : d.ls = [⟨0, A, kn, kc, -1, -1⟩]) : Calls Tryz.prog 383 #[.pointer (some ⟨d.y, 0, none⟩), .int .i64 0, .int .i64 (-1)] w fun e w' => e = .returned (.tuple #[]) ∧ Hid (YP w' d) ∧ Hid (Chg (fun g => d.v.ownBlock = some g) w w') := by
  have H := Lib.hid h
  have HLS := Lib.hid hls
  have hd1 : decide (0 ≤ (-1 : Int) ∧ (-1 : Int) < (d.ls.length : Int)) = false := by simp
  have hd2 : decide (0 ≤ (0 : Int) ∧ (0 : Int) < (d.ls.length : Int)) = true := by rw [hls]; rfl
  have HD1 := Lib.hid hd1
  have HD2 := Lib.hid hd2
  obtain ⟨_, _, _, c3, _⟩ := h.cells
  clear h hls hd1 hd2
  go_enter Tryz.func383, Tryz.ntmps383
  skip
  skip
  go_wp2_with fail
  refine (pcPeek d.p d.xd.m d.v d.ls d.limit _ H.out.pool 0 (Nat.zero_le _)).mono ?_
  rintro e w3 ⟨y, rfl, HY, HZ, HB⟩
  skip
  rw [HD2.out]
  obtain ⟨hn, hy⟩ := HY.out (of_decide_eq_true HD2.out)
  obtain rfl : y = ⟨0, A, kn, kc, -1, -1⟩ := by rw [hy]; simp [HLS.out]
  clear hn hy HY HZ
  have hA := (Below.refl w3.heap.size w3).alloc (Nat.le_refl _) (.cells #[.int .u64 0, .slice A kn kc, .int .i64 (-1), .int .i64 (-1)] 232)
  have H5 := Lib.hid ((H.out.below HB.out).below hA)
  have HC5 := Lib.hid ((Chg.refl (fun g => d.v.ownBlock = some g) w).then (Chg.of_below (below_then HB.out hA)))
  have HN5 := Lib.hid (blk_new w3 #[.int .u64 0, .slice A kn kc, .int .i64 (-1), .int .i64 (-1)] 232)
  have n0 := blk_cell HN5.out 0 rfl
  have n1 := blk_cell HN5.out 1 rfl
  have n2 := blk_cell HN5.out 2 rfl
  have n3 := blk_cell HN5.out 3 rfl
  have f2 := blk_free HN5.out 2
  have f3 := blk_free HN5.out 3
  have c35 := H5.out.cells.2.2.2.1
  have HPD := Lib.hid H5.out.drewn
  clear hA HB
  go_wp2
  go_region_law (first | ((with_reducible refine gate_scall (f := 367) rfl ?_); refine step_goes rfl Tryz.func367 (by kernel_rfl) rfl #[.pointer (some ⟨d.p, 0, none⟩), .int .i64 0, .agg #[.int .u64 0, .slice A kn kc, .int .i64 (-1), .int .i64 (-1)]] rfl (by simp only [List.map_toArray, List.map_cons, List.map_nil]; rfl) (pcPut d.p d.xd.m d.v d.ls d.limit _ HPD.out.pool 0 _ _ _ _ _ _ (Nat.zero_le _)) ?_; rintro e w7 ⟨⟨r, rfl⟩, HP7, HC7⟩; refine ⟨_, rfl, ?_⟩))
  all_goals
    skip
    have H7 := Lib.hid (show YP w7 d from by
      have h1 := HPD.out.setP HC7.out (fun k e => .inr e) HP7.out
      have e : putAt d.ls 0 ⟨0, A, kn, kc, -1, -1⟩ = d.ls := by rw [HLS.out]; rfl
      rw [e] at h1
      exact h1)
    have HC8 := Lib.hid (HC5.out.drew.then HC7.out)
    clear HP7 HC7 HPD H5 HC5 HN5
    have c32 := H7.out.cells.2.2.2.1
    skip
    go_wp2_with fail
    refine (pcPeek d.p d.xd.m d.v d.ls d.limit _ H7.out.pool (-1) (Nat.zero_le _)).mono ?_
    rintro e w9 ⟨y, rfl, HY, HZ, HB⟩
    skip
    rw [HD1.out]
    obtain rfl := HZ.out (of_decide_eq_false HD1.out)
    have hA := (Below.refl w9.heap.size w9).alloc (Nat.le_refl _) (.cells #[.int .u64 0, .slice none 0 0, .int .i64 0, .int .i64 0] 232)
    have H10 := Lib.hid ((H7.out.below HB.out).below hA)
    have HH10C := Lib.hid (HC8.out.then (Chg.of_below (below_then HB.out hA)))
    clear hA HB HY HZ
    go_wp2
    go_end0
    exact ⟨rfl, H10.out, HH10C.out⟩
end Go.Proofs.YtcnaikoloagbdaaGreat
