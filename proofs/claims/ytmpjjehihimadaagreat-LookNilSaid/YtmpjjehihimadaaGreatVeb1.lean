/-
  veb.VEB: what it is in memory; start, read, see, the halves of a key, walked.
-/
import Derived.Test.YtmpjjehihimadaaGreatPoolV5
import Derived.Test.YtmpjjehihimadaaGreatHash7
namespace Go.Proofs.YtmpjjehihimadaaGreat
set_option linter.unusedVariables false
set_option linter.unusedSimpArgs false
open Go.RowKit

/-- a block of this type -/
def tyV (w : World) (b : Nat) (t : TypeId) : Prop := ∃ cs, w.heap[b]? = some (.cells cs t (0, 0))
theorem tyV.ne {w : World} {a b : Nat} {s t : TypeId} (h : tyV w a s) (k : tyV w b t) (hst : s ≠ t) : a ≠ b := by
  rintro rfl
  obtain ⟨cs, h⟩ := h
  obtain ⟨ds, k⟩ := k
  rw [h] at k
  cases k
  exact hst rfl

/-- a tree's blocks and what they hold -/
structure VD where
  t : Nat
  p : Nat
  h : Nat
  g : Nat
  m : Nat
  es : List En
  seed : Int
  tn : Nat
  v : Value
  ls : List Ve
  limit : Int
  root : Int
  n : Int
/-- the blocks that are its own -/
def VD.own (d : VD) : Nat → Prop := fun k => k = d.t ∨ k = d.p ∨ k = d.h ∨ k = d.g ∨ k = d.m ∨ d.v.ownBlock = some k
/-- those that its lookups change -/
def VD.red (d : VD) : Nat → Prop := fun k => k = d.h ∨ k = d.m
theorem VD.red_own (d : VD) : ∀ k, d.red k → d.own k := fun k h => h.elim (fun e => .inr (.inr (.inl e))) (fun e => .inr (.inr (.inr (.inr (.inl e)))))
structure VP (w : World) (d : VD) : Prop where
  head : w.heap[d.t]? = some (.cells #[.pointer (some ⟨d.m, 0, none⟩), .pointer (some ⟨d.p, 0, none⟩), .pointer (some ⟨d.h, 0, none⟩), .int .i64 d.root, .int .i64 d.n] 116 (0, 0))
  pool : PoV w 0 d.p d.m d.v d.ls d.limit
  tb : Tb w d.h d.g d.m d.es d.seed (d.tn : Nat)
  mt : Mt w d.m
  ti : Ti d.es (d.tn : Nat)
  lim : 0 ≤ d.limit ∧ d.limit ≤ 1048576
  len : d.ls.length ≤ 10
theorem VP.tys {w : World} {d : VD} (h : VP w d) : tyV w d.t 116 ∧ tyV w d.p 154 ∧ tyV w d.h 157 ∧ tyV w d.g 229 ∧ tyV w d.m 151 ∧ ∀ g, d.v.ownBlock = some g → tyV w g 214 := by
  obtain ⟨a, b, c, d', e, hm⟩ := h.mt
  obtain ⟨pr, ht⟩ := h.tb.head
  obtain ⟨cs, hg, _⟩ := h.tb.rows
  exact ⟨⟨_, h.head⟩, ⟨_, h.pool.head⟩, ⟨_, ht⟩, ⟨_, hg⟩, ⟨_, hm⟩, fun g hg => rowG_ty h.pool.row g hg⟩
theorem VP.lt {w : World} {d : VD} (h : VP w d) : ∀ k, d.own k → k < w.heap.size := by
  obtain ⟨⟨_, h1⟩, ⟨_, h2⟩, ⟨_, h3⟩, ⟨_, h4⟩, ⟨_, h5⟩, h6⟩ := h.tys
  rintro k (rfl | rfl | rfl | rfl | rfl | hk)
  · exact blk_lt h1
  · exact blk_lt h2
  · exact blk_lt h3
  · exact blk_lt h4
  · exact blk_lt h5
  · obtain ⟨_, h8⟩ := h6 k hk; exact blk_lt h8
theorem VP.stay {w w' : World} {d : VD} (h : VP w d) (hs : ∀ b, d.own b → w'.heap[b]? = w.heap[b]?) : VP w' d := by
  obtain ⟨a, b, c, d', e, hm⟩ := h.mt
  obtain ⟨pr, ht⟩ := h.tb.head
  obtain ⟨cs, hg, hr⟩ := h.tb.rows
  refine ⟨(hs _ (.inl rfl)).trans h.head, ⟨(hs _ (.inr (.inl rfl))).trans h.pool.head, ?_⟩, ⟨⟨pr, (hs _ (.inr (.inr (.inl rfl)))).trans ht⟩, ⟨cs, (hs _ (.inr (.inr (.inr (.inl rfl))))).trans hg, hr⟩⟩, ⟨a, b, c, d', e, (hs _ (.inr (.inr (.inr (.inr (.inl rfl)))))).trans hm⟩, h.ti, h.lim, h.len⟩
  obtain ⟨h1, h2⟩ := h.pool.row
  refine ⟨h1, ?_⟩
  rcases h2 with h2 | ⟨g, cap, cur, hv, hb, hh, hr'⟩
  · exact .inl h2
  · exact .inr ⟨g, cap, cur, hv, hb, (hs _ (.inr (.inr (.inr (.inr (.inr (by rw [hv]; rfl))))))).trans hh, hr'⟩
theorem VP.below {w w' : World} {d : VD} (h : VP w d) (hb : Below w.heap.size w w') : VP w' d := h.stay (fun b hb' => hb.block b (h.lt b hb'))
theorem VP.chg {S : Nat → Prop} {w w' : World} {d : VD} (h : VP w d) (hc : Chg S w w') (hn : ∀ k, d.own k → ¬ S k) : VP w' d := h.stay (fun b hb => hc.block b (h.lt b hb) (hn b hb))
theorem VP.drewn {w : World} {d : VD} (h : VP w d) : VP w.drew d := h.stay (fun _ _ => rfl)
theorem VP.drewsN {w : World} {d : VD} (h : VP w d) (n : Nat) : VP (w.drewN n) d := h.stay (fun _ _ => rfl)
/-- behind a step of the meter, and a look into the table -/
theorem VP.reads {w w' : World} {d : VD} (h : VP w d) (ht : Tb w' d.h d.g d.m d.es d.seed (d.tn : Nat)) (hm : Mt w' d.m) (hc : Chg d.red w w') : VP w' d := by
  obtain ⟨t1, t2, t3, t4, t5, t6⟩ := h.tys
  refine ⟨hc.blk h.head (fun e => e.elim (t1.ne t3 (by decide)) (t1.ne t5 (by decide))), h.pool.chg hc (fun e => e.elim (t2.ne t3 (by decide)) (t2.ne t5 (by decide))) (fun g hg e => e.elim ((t6 g hg).ne t3 (by decide)) ((t6 g hg).ne t5 (by decide))), ht, hm, h.ti, h.lim, h.len⟩
theorem VP.readm {w w' : World} {d : VD} (h : VP w d) (hm : Mt w' d.m) (hc : Chg (fun k => k = d.m) w w') : VP w' d := by
  obtain ⟨t1, t2, t3, t4, t5, t6⟩ := h.tys
  exact h.reads (h.tb.chg hc (t3.ne t5 (by decide)) (t4.ne t5 (by decide))) hm (hc.mono (fun _ _ e => .inr e))
theorem VP.cells {w : World} {d : VD} (h : VP w d) : w.cell? ⟨d.t, 0, none⟩ = some (.pointer (some ⟨d.m, 0, none⟩)) ∧ w.cell? ⟨d.t, 1, none⟩ = some (.pointer (some ⟨d.p, 0, none⟩)) ∧ w.cell? ⟨d.t, 2, none⟩ = some (.pointer (some ⟨d.h, 0, none⟩)) ∧ w.cell? ⟨d.t, 3, none⟩ = some (.int .i64 d.root) ∧ w.cell? ⟨d.t, 4, none⟩ = some (.int .i64 d.n) :=
  ⟨blk_cell h.head 0 rfl, blk_cell h.head 1 rfl, blk_cell h.head 2 rfl, blk_cell h.head 3 rfl, blk_cell h.head 4 rfl⟩
set_option maxRecDepth 100000 in
theorem vStart (d : VD) (w : World) (h : VP w d) : Calls Tryz.prog 116 #[.pointer (some ⟨d.t, 0, none⟩)] w fun e w' => e = .returned (.bool (decide (0 < d.n))) ∧ Hid (VP w' d) ∧ Hid (Chg d.red w w') := by
  have H := Lib.hid h
  obtain ⟨c0, c1, c2, c3, c4⟩ := h.cells
  clear h
  go_enter Tryz.func116, Tryz.ntmps116
  go_wp2_with fail
  refine (mtStart d.m _ H.out.mt).mono ?_
  rintro e w1 ⟨rfl, HM1, HC1⟩
  have H1 := Lib.hid (H.out.readm HM1.out HC1.out)
  have HC := Lib.hid (HC1.out.mono (T := d.red) (fun _ _ e => .inr e))
  clear c0 c1 c2 c3 c4 HM1 HC1
  obtain ⟨c0, c1, c2, c3, c4⟩ := H1.out.cells
  go_wp2
  go_ret
  exact ⟨by first | rfl | exact ret_bool (by simp), H1.out, HC.out⟩
set_option maxRecDepth 100000 in
set_option maxHeartbeats 1000000 in
theorem vSee (d : VD) (w : World) (h : VP w d) (j : Nat) (hj : j < d.ls.length) (x : Ve) (hx : d.ls[j] = x) : Calls Tryz.prog 126 #[.pointer (some ⟨d.t, 0, none⟩), .int .i64 j] w fun e w' => e = .returned (.agg #[.int .u64 x.min, .int .u64 x.max, .int .i64 x.sum, .int .u64 x.bits]) ∧ Hid (Below w.heap.size w w') := by
  have hA := (Below.refl w.heap.size w).alloc (Nat.le_refl _) (.cells #[.int .u64 0, .int .u64 0, .int .i64 0, .int .u64 0] 112)
  have H0 := Lib.hid (h.below hA)
  have HB0 := Lib.hid hA
  have HK0 := Lib.hid (blk_new w #[.int .u64 0, .int .u64 0, .int .i64 0, .int .u64 0] 112)
  have HLT := Lib.hid (fun q hq => h.lt q hq)
  obtain ⟨_, d3, _⟩ := H0.out.cells
  have HXX := Lib.hid hx
  clear h hA hx
  go_enter Tryz.func126, Tryz.ntmps126
  go_wp2_with fail
  generalize w.alloc (.cells #[.int .u64 0, .int .u64 0, .int .i64 0, .int .u64 0] 112) = w0 at *
  have hok : decide (0 ≤ (j : Int) ∧ (j : Int) < (d.ls.length : Int)) = true := decide_eq_true ⟨by omega, by omega⟩
  refine (pvPeek d.p d.m d.v d.ls d.limit _ H0.out.pool j (Nat.zero_le _)).mono ?_
  rintro e w5 ⟨y, rfl, HY, _, HB5⟩
  rw [hok]
  obtain ⟨hn, hy⟩ := HY.out (of_decide_eq_true hok)
  obtain rfl : y = x := hy.trans HXX.out
  clear hn hy HY hok HXX
  obtain ⟨y0, y1, y2, y3⟩ := y
  have hA := (Below.refl w5.heap.size w5).alloc (Nat.le_refl _) (.cells #[.int .u64 y0, .int .u64 y1, .int .i64 y2, .int .u64 y3] 112)
  have HK6 := Lib.hid (blk_below (blk_below HK0.out HB5.out rfl) hA rfl)
  have HN6 := Lib.hid (blk_new w5 #[.int .u64 y0, .int .u64 y1, .int .i64 y2, .int .u64 y3] 112)
  have HB6 := Lib.hid (below_then (below_then HB0.out HB5.out) hA)
  have f0 := blk_free HK6.out 0
  have f1 := blk_free HK6.out 1
  have f2 := blk_free HK6.out 2
  have f3 := blk_free HK6.out 3
  have s0 := blk_cell HK6.out 0 rfl
  have s1 := blk_cell HK6.out 1 rfl
  have s2 := blk_cell HK6.out 2 rfl
  have s3 := blk_cell HK6.out 3 rfl
  have n0 := blk_cell HN6.out 0 rfl
  have n1 := blk_cell HN6.out 1 rfl
  have n2 := blk_cell HN6.out 2 rfl
  have n3 := blk_cell HN6.out 3 rfl
  have HC8 := Lib.hid (below_of_none (putV (Chg.of_below (S := fun _ => False) HB6.out) (b := w.heap.size) (.int .u64 y0) (.int .u64 y1) (.int .i64 y2) (.int .u64 y3) (.inr (Nat.le_refl _))))
  have HK8 := Lib.hid (blk_set (blk_set (blk_set (blk_set HK6.out 0 (.int .u64 y0)) 1 (.int .u64 y1)) 2 (.int .i64 y2)) 3 (.int .u64 y3))
  clear hA d3
  go_wp2
  have hk8 := HK8.out
  have k0 := blk_cell hk8 0 rfl
  have k1 := blk_cell hk8 1 rfl
  have k2 := blk_cell hk8 2 rfl
  have k3 := blk_cell hk8 3 rfl
  refine bodyPost_ret (v := .agg #[.int .u64 y0, .int .u64 y1, .int .i64 y2, .int .u64 y3]) (by simp [results, Tryz.results126, go_sem, k0, k1, k2, k3]) rfl ⟨rfl, HC8.out⟩
set_option maxRecDepth 100000 in
set_option maxHeartbeats 1000000 in
theorem vRead (d : VD) (w : World) (h : VP w d) (j : Nat) (hj : j < d.ls.length) (x : Ve) (hx : d.ls[j] = x) : Calls Tryz.prog 118 #[.pointer (some ⟨d.t, 0, none⟩), .int .i64 j] w fun e w' => e = .returned (.agg #[.int .u64 x.min, .int .u64 x.max, .int .i64 x.sum, .int .u64 x.bits]) ∧ Hid (VP w' d) ∧ Hid (Chg d.red w w') := by
  have hA := (Below.refl w.heap.size w).alloc (Nat.le_refl _) (.cells #[.int .u64 0, .int .u64 0, .int .i64 0, .int .u64 0] 112)
  have H0 := Lib.hid (h.below hA)
  have HB0 := Lib.hid hA
  have HK0 := Lib.hid (blk_new w #[.int .u64 0, .int .u64 0, .int .i64 0, .int .u64 0] 112)
  have HLT := Lib.hid (fun q hq => h.lt q hq)
  obtain ⟨_, d3, _⟩ := H0.out.cells
  have HXX := Lib.hid hx
  clear h hA hx
  go_enter Tryz.func118, Tryz.ntmps118
  go_wp2_with fail
  generalize w.alloc (.cells #[.int .u64 0, .int .u64 0, .int .i64 0, .int .u64 0] 112) = w0 at *
  have hok : decide (0 ≤ (j : Int) ∧ (j : Int) < (d.ls.length : Int)) = true := decide_eq_true ⟨by omega, by omega⟩
  refine (pvAt d.p d.m d.v d.ls d.limit _ H0.out.pool j H0.out.mt (Nat.zero_le _)).mono ?_
  rintro e w5 ⟨y, b, rfl, HB, HY, _, HP5, HM5, HC5⟩
  obtain rfl : b = true := HB.out.trans hok
  obtain ⟨hn, hy⟩ := HY.out rfl
  obtain rfl : y = x := hy.trans HXX.out
  clear hn hy HY hok HXX
  obtain ⟨y0, y1, y2, y3⟩ := y
  have hA := (Below.refl w5.heap.size w5).alloc (Nat.le_refl _) (.cells #[.int .u64 y0, .int .u64 y1, .int .i64 y2, .int .u64 y3] 112)
  have HK6 := Lib.hid (blk_below (HC5.out.blk HK0.out (fun e => by have := HLT.out _ (.inr (.inr (.inr (.inr (.inl e))))); omega)) hA rfl)
  have HN6 := Lib.hid (blk_new w5 #[.int .u64 y0, .int .u64 y1, .int .i64 y2, .int .u64 y3] 112)
  have H5 := Lib.hid ((H0.out.readm HM5.out (HC5.out.mono (fun _ _ e => e))).below hA)
  have HC6 := Lib.hid (((Chg.of_below (S := d.red) HB0.out).then (HC5.out.mono (T := d.red) (fun _ _ e => .inr e))).then (Chg.of_below hA))
  have f0 := blk_free HK6.out 0
  have f1 := blk_free HK6.out 1
  have f2 := blk_free HK6.out 2
  have f3 := blk_free HK6.out 3
  have s0 := blk_cell HK6.out 0 rfl
  have s1 := blk_cell HK6.out 1 rfl
  have s2 := blk_cell HK6.out 2 rfl
  have s3 := blk_cell HK6.out 3 rfl
  have n0 := blk_cell HN6.out 0 rfl
  have n1 := blk_cell HN6.out 1 rfl
  have n2 := blk_cell HN6.out 2 rfl
  have n3 := blk_cell HN6.out 3 rfl
  have HC8 := Lib.hid (putV HC6.out (b := w.heap.size) (.int .u64 y0) (.int .u64 y1) (.int .i64 y2) (.int .u64 y3) (.inr (Nat.le_refl _)))
  have HF8 := Lib.hid (H5.out.chg (S := (· = w.heap.size)) (putV (Chg.refl _ _) (.int .u64 y0) (.int .u64 y1) (.int .i64 y2) (.int .u64 y3) (.inl rfl)) (fun q hq e => by have := HLT.out _ hq; have e' : q = w.heap.size := e; omega))
  have HK8 := Lib.hid (blk_set (blk_set (blk_set (blk_set HK6.out 0 (.int .u64 y0)) 1 (.int .u64 y1)) 2 (.int .i64 y2)) 3 (.int .u64 y3))
  clear hA d3
  go_wp2
  have hk8 := HK8.out
  have k0 := blk_cell hk8 0 rfl
  have k1 := blk_cell hk8 1 rfl
  have k2 := blk_cell hk8 2 rfl
  have k3 := blk_cell hk8 3 rfl
  refine bodyPost_ret (v := .agg #[.int .u64 y0, .int .u64 y1, .int .i64 y2, .int .u64 y3]) (by simp [results, Tryz.results118, go_sem, k0, k1, k2, k3]) rfl ⟨rfl, HF8.out, HC8.out⟩
theorem vHigh (k : Int) (hk : k = 2 ∨ k = 5 ∨ k = 6 ∨ k = 7) (w : World) : Calls Tryz.prog 137 #[.int .u64 k, .int .i64 64] w fun e w' => e = .returned (.int .u64 0) ∧ w' = w := by
  rcases hk with rfl | rfl | rfl | rfl
  all_goals
    go_enter Tryz.func137, Tryz.ntmps137
    go_wp2
    go_ret
    exact ⟨by first | rfl | exact ret_int (by decide +kernel), rfl⟩
theorem vLow (k : Int) (hk : k = 2 ∨ k = 5 ∨ k = 6 ∨ k = 7) (w : World) : Calls Tryz.prog 138 #[.int .u64 k, .int .i64 64] w fun e w' => e = .returned (.int .u64 k) ∧ w' = w := by
  rcases hk with rfl | rfl | rfl | rfl
  all_goals
    go_enter Tryz.func138, Tryz.ntmps138
    go_wp2
    go_ret
    exact ⟨by first | rfl | exact ret_int (by decide +kernel), rfl⟩
theorem vJoin (w : World) : Calls Tryz.prog 146 #[.int .u64 0, .int .u64 5, .int .i64 64] w fun e w' => e = .returned (.int .u64 5) ∧ w' = w := by
  go_enter Tryz.func146, Tryz.ntmps146
  go_wp2
  go_ret
  exact ⟨by first | rfl | exact ret_int (by decide +kernel), rfl⟩
end Go.Proofs.YtmpjjehihimadaaGreat
