/-
  trie.Trie with no key, or with the key 5 alone: what it is in memory; New, start, at, see, grown, walked.
  trie.Trie of one key: see, grown, Rank of bits, Clone and Insert of children; walked.
-/
import Derived.Test.YtcnaikoloagbdaaGreatQPoolN
import Derived.Test.YtcnaikoloagbdaaGreatQBitW
import Derived.Test.YtcnaikoloagbdaaGreatQXfA
import Derived.Test.YtcnaikoloagbdaaGreatQRowM
namespace Go.Proofs.YtcnaikoloagbdaaGreat
set_option linter.unusedVariables false
set_option linter.unusedSimpArgs false
open Go.RowKit
attribute [local go_sem] gmax2_int gmin2_int gmax_two gmin_two

/-- a trie's blocks and what they hold -/
structure TD where
  t : Nat
  p : Nat
  m : Nat
  v : Value
  ls : List No
  limit : Int
  root : Int
  n : Int
  kb : Nat → Prop
/-- the blocks that are its own -/
def TD.own (d : TD) : Nat → Prop := fun k => k = d.t ∨ k = d.p ∨ k = d.m ∨ d.v.ownBlock = some k ∨ d.kb k
def TD.red (d : TD) : Nat → Prop := fun k => k = d.m
/-- its parts -/
structure TP (w : World) (d : TD) : Prop where
  head : w.heap[d.t]? = some (.cells #[.pointer (some ⟨d.m, 0, none⟩), .pointer (some ⟨d.p, 0, none⟩), .int .i64 d.root, .int .i64 d.n] 241 (0, 0))
  pool : PoN w 0 d.p d.m d.v d.ls d.limit
  mt : Mt w d.m
  kids : ∀ k, d.kb k → ty w k 3
  lim : 0 ≤ d.limit ∧ d.limit ≤ 1048576
theorem TP.tys {w : World} {d : TD} (h : TP w d) : ty w d.t 241 ∧ ty w d.p 282 ∧ ty w d.m 259 ∧ (∀ g, d.v.ownBlock = some g → ty w g 421) ∧ ∀ g, d.kb g → ty w g 3 := by
  obtain ⟨a, b, c, d', e, hm⟩ := h.mt
  exact ⟨⟨_, h.head⟩, ⟨_, h.pool.head⟩, ⟨_, hm⟩, fun g hg => rowG_ty h.pool.row g hg, h.kids⟩
theorem TP.lt {w : World} {d : TD} (h : TP w d) : ∀ k, d.own k → k < w.heap.size := by
  obtain ⟨⟨_, h1⟩, ⟨_, h2⟩, ⟨_, h3⟩, h4, h5⟩ := h.tys
  rintro k (rfl | rfl | rfl | hk | hk)
  · exact blk_lt h1
  · exact blk_lt h2
  · exact blk_lt h3
  · obtain ⟨_, h8⟩ := h4 k hk; exact blk_lt h8
  · obtain ⟨_, h8⟩ := h5 k hk; exact blk_lt h8
theorem TP.stay {w w' : World} {d : TD} (h : TP w d) (hs : ∀ b, d.own b → w'.heap[b]? = w.heap[b]?) : TP w' d := by
  obtain ⟨a, b, c, d', e, hm⟩ := h.mt
  refine ⟨(hs _ (.inl rfl)).trans h.head, ⟨(hs _ (.inr (.inl rfl))).trans h.pool.head, ?_⟩, ⟨a, b, c, d', e, (hs _ (.inr (.inr (.inl rfl)))).trans hm⟩, fun k hk => ?_, h.lim⟩
  · obtain ⟨h1, h2⟩ := h.pool.row
    refine ⟨h1, ?_⟩
    rcases h2 with h2 | ⟨g, cap, cur, hv, hb, hh, hr'⟩
    · exact .inl h2
    · exact .inr ⟨g, cap, cur, hv, hb, (hs _ (.inr (.inr (.inr (.inl (by rw [hv]; rfl)))))).trans hh, hr'⟩
  · obtain ⟨cs, h1⟩ := h.kids k hk
    exact ⟨cs, (hs _ (.inr (.inr (.inr (.inr hk))))).trans h1⟩
theorem TP.below {w w' : World} {d : TD} (h : TP w d) (hb : Below w.heap.size w w') : TP w' d := h.stay (fun b hb' => hb.block b (h.lt b hb'))
theorem TP.chg {S : Nat → Prop} {w w' : World} {d : TD} (h : TP w d) (hc : Chg S w w') (hn : ∀ k, d.own k → ¬ S k) : TP w' d := h.stay (fun b hb => hc.block b (h.lt b hb) (hn b hb))
theorem TP.drewn {w : World} {d : TD} (h : TP w d) : TP w.drew d := h.stay (fun _ _ => rfl)
theorem TP.drewsN {w : World} {d : TD} (h : TP w d) (n : Nat) : TP (w.drewN n) d := h.stay (fun _ _ => rfl)
theorem TP.readm {w w' : World} {d : TD} (h : TP w d) (hm : Mt w' d.m) (hc : Chg (fun k => k = d.m) w w') : TP w' d := by
  obtain ⟨t1, t2, t3, t4, t5⟩ := h.tys
  refine ⟨hc.blk h.head (t1.ne t3 (by decide)), h.pool.chg hc (t2.ne t3 (by decide)) (fun g hg => (t4 g hg).ne t3 (by decide)), hm, fun k hk => ?_, h.lim⟩
  obtain ⟨cs, h1⟩ := h.kids k hk
  exact ⟨cs, hc.blk h1 ((t5 k hk).ne t3 (by decide))⟩
theorem TP.cells {w : World} {d : TD} (h : TP w d) : w.cell? ⟨d.t, 0, none⟩ = some (.pointer (some ⟨d.m, 0, none⟩)) ∧ w.cell? ⟨d.t, 1, none⟩ = some (.pointer (some ⟨d.p, 0, none⟩)) ∧ w.cell? ⟨d.t, 2, none⟩ = some (.int .i64 d.root) ∧ w.cell? ⟨d.t, 3, none⟩ = some (.int .i64 d.n) :=
  ⟨blk_cell h.head 0 rfl, blk_cell h.head 1 rfl, blk_cell h.head 2 rfl, blk_cell h.head 3 rfl⟩
/-- the node that lies at place j, of the key 5 -/
def Nd (w : World) (kb : Nat → Prop) (x : No) (j : Nat) : Prop := x.bits = (if j = 0 then 32 else 1) ∧ x.n = 1 ∧ x.min = 5 ∧ x.max = 5 ∧ (1 ≤ j → ∃ g, x.kA = some ⟨g, 0, none⟩ ∧ x.kn = 1 ∧ 1 ≤ x.kc ∧ kb g ∧ ∃ cur, w.heap[g]? = some (.cells cur 3 (0, 0)) ∧ cur[0]? = some (.int .i64 ((j : Int) - 1)))
theorem Nd.stay {w w' : World} {kb kb' : Nat → Prop} {x : No} {j : Nat} (h : Nd w kb x j) (hk : ∀ g, kb g → kb' g) (hs : ∀ g, kb g → w'.heap[g]? = w.heap[g]?) : Nd w' kb' x j := by
  obtain ⟨h1, h2, h3, h4, h5⟩ := h
  refine ⟨h1, h2, h3, h4, fun hj => ?_⟩
  obtain ⟨g, e1, e2, e3, e4, cur, e5, e6⟩ := h5 hj
  exact ⟨g, e1, e2, e3, hk g e4, cur, (hs g e4).trans e5, e6⟩
set_option maxRecDepth 100000 in
theorem tAt (L : Nat) (hL : L ≤ 10) (w : World) : Calls Tryz.prog 408 #[.int .u64 5, .int .i64 L] w fun e w' => e = .returned (.int .i64 (if L = 10 then 5 else 0)) ∧ w' = w := by
  rcases (show L = 0 ∨ L = 1 ∨ L = 2 ∨ L = 3 ∨ L = 4 ∨ L = 5 ∨ L = 6 ∨ L = 7 ∨ L = 8 ∨ L = 9 ∨ L = 10 by omega) with rfl | rfl | rfl | rfl | rfl | rfl | rfl | rfl | rfl | rfl | rfl
  all_goals
    go_enter Tryz.func408, Tryz.ntmps408
    go_wp2
    go_ret
    exact ⟨by first | rfl | exact ret_int (by decide +kernel), rfl⟩
set_option maxRecDepth 100000 in
theorem tStart (d : TD) (w : World) (h : TP w d) : Calls Tryz.prog 415 #[.pointer (some ⟨d.t, 0, none⟩)] w fun e w' => e = .returned (.bool (decide (0 < d.n))) ∧ Hid (TP w' d) ∧ Hid (Chg d.red w w') := by
  have H := Lib.hid h
  obtain ⟨c0, c1, c2, c3⟩ := h.cells
  clear h
  go_enter Tryz.func415, Tryz.ntmps415
  go_wp2_with fail
  refine (mtStart d.m _ H.out.mt).mono ?_
  rintro e w1 ⟨rfl, HM1, HC1⟩
  have H1 := Lib.hid (H.out.readm HM1.out HC1.out)
  have HC := Lib.hid (HC1.out.mono (T := d.red) (fun _ _ e => e))
  clear c0 c1 c2 c3 HM1 HC1
  obtain ⟨c0, c1, c2, c3⟩ := H1.out.cells
  go_wp2
  go_ret
  exact ⟨by first | rfl | exact ret_bool (by simp), H1.out, HC.out⟩
set_option maxRecDepth 100000 in
theorem tNew (limit : Int) (w : World) (h0 : 0 ≤ limit) (h1 : limit ≤ 1048576) : Calls Tryz.prog 116 #[.int .i64 limit] w fun e w' => ∃ d : TD, e = .returned (.tuple #[.pointer (some ⟨d.t, 0, none⟩), .int .i64 0]) ∧ Hid (TP w' d) ∧ Hid (d.ls = [] ∧ d.limit = limit ∧ d.n = 0 ∧ ∀ g, ¬ d.kb g) ∧ Hid (∀ q, d.own q → w.heap.size ≤ q) ∧ Hid (Below w.heap.size w w') := by
  go_enter Tryz.func116, Tryz.ntmps116
  go_wp2_with fail
  refine (mtNew _).mono ?_
  rintro e w1 ⟨rfl, hw1⟩
  have HM1 := Lib.hid (show Mt w1 w.heap.size from ⟨_, _, _, _, _, by rw [hw1]; exact blk_new w _ _⟩)
  have HB1 := Lib.hid (show Below w.heap.size w w1 by rw [hw1]; exact (Below.refl _ w).alloc (Nat.le_refl _) _)
  have hz1 : w.heap.size < w1.heap.size := by rw [hw1]; simp
  clear hw1
  go_wp2_with fail
  refine (pnNew w.heap.size limit _ h0 h1).mono ?_
  rintro e w2 ⟨p, rfl, hp, HP2, hb2⟩
  have HB2 := Lib.hid hb2
  have hz2 := hb2.size
  clear hb2
  have hA := (Below.refl w2.heap.size w2).alloc (Nat.le_refl _) (.cells #[.pointer (some ⟨w.heap.size, 0, none⟩), .pointer (some ⟨p, 0, none⟩), .int .i64 0, .int .i64 0] 241)
  have HT := Lib.hid (show TP (w2.alloc (.cells #[.pointer (some ⟨w.heap.size, 0, none⟩), .pointer (some ⟨p, 0, none⟩), .int .i64 0, .int .i64 0] 241)) ⟨w2.heap.size, p, w.heap.size, .slice none 0 0, [], limit, 0, 0, fun _ => False⟩ from
    ⟨blk_new _ _ _, ⟨blk_below HP2.out.head hA rfl, rfl, .inl ⟨rfl, rfl⟩⟩, (HM1.out.below HB2.out).below hA, fun _ h => h.elim, ⟨h0, h1⟩⟩)
  have HBB := Lib.hid (below_then (below_then HB1.out HB2.out) hA)
  clear hA
  go_wp2
  go_ret2
  refine ⟨⟨w2.heap.size, p, w.heap.size, .slice none 0 0, [], limit, 0, 0, fun _ => False⟩, rfl, HT.out, ⟨rfl, rfl, rfl, fun _ h => h⟩, ?_, HBB.out⟩
  rintro q (e | e | e | e | e)
  · simp only at e; omega
  · simp only at e; omega
  · simp only at e; omega
  · cases e
  · exact e.elim
end Go.Proofs.YtcnaikoloagbdaaGreat
namespace Go.Proofs.YtcnaikoloagbdaaGreat
set_option linter.unusedVariables false
set_option linter.unusedSimpArgs false
open Go.RowKit
attribute [local go_sem] gmax2_int gmin2_int gmax_two gmin_two

set_option maxRecDepth 100000 in
set_option maxHeartbeats 1000000 in
theorem tSee (d : TD) (w : World) (h : TP w d) (j : Nat) (hj : j < d.ls.length) (x : No) (hx : d.ls[j] = x) : Calls Tryz.prog 407 #[.pointer (some ⟨d.t, 0, none⟩), .int .i64 j] w fun e w' => e = .returned (.agg #[.int .u64 x.bits, .slice x.kA x.kn x.kc, .int .i64 x.n, .int .u64 x.min, .int .u64 x.max]) ∧ Hid (Below w.heap.size w w') := by
  have hA := (Below.refl w.heap.size w).alloc (Nat.le_refl _) (.cells #[.int .u64 0, .slice none 0 0, .int .i64 0, .int .u64 0, .int .u64 0] 239)
  have H0 := Lib.hid (h.below hA)
  have HB0 := Lib.hid hA
  have HK0 := Lib.hid (blk_new w #[.int .u64 0, .slice none 0 0, .int .i64 0, .int .u64 0, .int .u64 0] 239)
  obtain ⟨_, d3, _⟩ := H0.out.cells
  have HXX := Lib.hid hx
  clear h hA hx
  go_enter Tryz.func407, Tryz.ntmps407
  go_wp2_with fail
  generalize w.alloc (.cells #[.int .u64 0, .slice none 0 0, .int .i64 0, .int .u64 0, .int .u64 0] 239) = w0 at *
  refine (pnPeek d.p d.m d.v d.ls d.limit _ H0.out.pool j (Nat.zero_le _)).mono ?_
  rintro e w5 ⟨y, rfl, HY, _, HB5⟩
  have hok : decide (0 ≤ (j : Int) ∧ (j : Int) < (d.ls.length : Int)) = true := decide_eq_true ⟨by omega, by omega⟩
  rw [hok]
  obtain ⟨hn, hy⟩ := HY.out (of_decide_eq_true hok)
  obtain rfl : y = x := hy.trans HXX.out
  clear hn hy HY hok HXX
  obtain ⟨yb, yA, yn, yc, yk, ym, yx⟩ := y
  have hA := (Below.refl w5.heap.size w5).alloc (Nat.le_refl _) (.cells #[.int .u64 yb, .slice yA yn yc, .int .i64 yk, .int .u64 ym, .int .u64 yx] 239)
  have HK6 := Lib.hid (blk_below (blk_below HK0.out HB5.out rfl) hA rfl)
  have HN6 := Lib.hid (blk_new w5 #[.int .u64 yb, .slice yA yn yc, .int .i64 yk, .int .u64 ym, .int .u64 yx] 239)
  have HB6 := Lib.hid (below_then (below_then HB0.out HB5.out) hA)
  have f0 := blk_free HK6.out 0
  have f1 := blk_free HK6.out 1
  have f2 := blk_free HK6.out 2
  have f3 := blk_free HK6.out 3
  have f4 := blk_free HK6.out 4
  have s0 := blk_cell HK6.out 0 rfl
  have s1 := blk_cell HK6.out 1 rfl
  have s2 := blk_cell HK6.out 2 rfl
  have s3 := blk_cell HK6.out 3 rfl
  have s4 := blk_cell HK6.out 4 rfl
  have n0 := blk_cell HN6.out 0 rfl
  have n1 := blk_cell HN6.out 1 rfl
  have n2 := blk_cell HN6.out 2 rfl
  have n3 := blk_cell HN6.out 3 rfl
  have n4 := blk_cell HN6.out 4 rfl
  have HC8 := Lib.hid (below_of_none (putN (Chg.of_below (S := fun _ => False) HB6.out) (b := w.heap.size) (.int .u64 yb) (.slice yA yn yc) (.int .i64 yk) (.int .u64 ym) (.int .u64 yx) (.inr (Nat.le_refl _))))
  have HK8 := Lib.hid (blk_set (blk_set (blk_set (blk_set (blk_set HK6.out 0 (.int .u64 yb)) 1 (.slice yA yn yc)) 2 (.int .i64 yk)) 3 (.int .u64 ym)) 4 (.int .u64 yx))
  clear hA d3
  go_wp2
  have hk8 := HK8.out
  have k0 := blk_cell hk8 0 rfl
  have k1 := blk_cell hk8 1 rfl
  have k2 := blk_cell hk8 2 rfl
  have k3 := blk_cell hk8 3 rfl
  have k4 := blk_cell hk8 4 rfl
  refine bodyPost_ret (v := .agg #[.int .u64 yb, .slice yA yn yc, .int .i64 yk, .int .u64 ym, .int .u64 yx]) (by simp [results, Tryz.results407, go_sem, k0, k1, k2, k3, k4]) rfl ⟨rfl, HC8.out⟩
set_option maxRecDepth 100000 in
set_option maxHeartbeats 1000000 in
theorem tGrown (b : Int) (A : Option Addr) (kn kc : Nat) (w : World) : Calls Tryz.prog 419 #[.agg #[.int .u64 b, .slice A kn kc, .int .i64 0, .int .u64 0, .int .u64 0], .int .u64 5] w fun e w' => e = .returned (.agg #[.int .u64 b, .slice A kn kc, .int .i64 1, .int .u64 5, .int .u64 5]) ∧ Hid (Below w.heap.size w w') := by
  go_enter Tryz.func419, Tryz.ntmps419
  go_wp2
  have hn := blk_new (w.alloc (.cells #[.int .u64 b, .slice A kn kc, .int .i64 1, .int .u64 5, .int .u64 5] 239)) #[.int .u64 b, .slice A kn kc, .int .i64 1, .int .u64 5, .int .u64 5] 239
  rw [World.size_alloc] at hn
  have k0 := blk_cell hn 0 rfl
  have k1 := blk_cell hn 1 rfl
  have k2 := blk_cell hn 2 rfl
  have k3 := blk_cell hn 3 rfl
  have k4 := blk_cell hn 4 rfl
  refine bodyPost_ret (v := .agg #[.int .u64 b, .slice A kn kc, .int .i64 1, .int .u64 5, .int .u64 5]) (by simp [results, Tryz.results419, go_sem, k0, k1, k2, k3, k4]) rfl ⟨rfl, ((Below.refl _ w).alloc (Nat.le_refl _) _).alloc (by simp) _⟩
theorem getZ (i : Nat) (hi : i < 64) (w : World) : Calls Tryz.prog 282 #[.int .u64 0, .int .i64 i] w fun e w' => e = .returned (.bool false) ∧ w' = w := by
  have := bitGet 0 i w (by decide) hi
  rwa [Nat.zero_testBit] at this
theorem get1 (w : World) : Calls Tryz.prog 282 #[.int .u64 1, .int .i64 0] w fun e w' => e = .returned (.bool true) ∧ w' = w := bitGet 1 0 w (by decide) (by decide)
theorem get32 (w : World) : Calls Tryz.prog 282 #[.int .u64 32, .int .i64 5] w fun e w' => e = .returned (.bool true) ∧ w' = w := bitGet 32 5 w (by decide) (by decide)
theorem set0 (w : World) : Calls Tryz.prog 288 #[.int .u64 0, .int .i64 0] w fun e w' => e = .returned (.int .u64 1) ∧ w' = w := bitSet 0 0 w (by decide) (by decide)
theorem set5 (w : World) : Calls Tryz.prog 288 #[.int .u64 0, .int .i64 5] w fun e w' => e = .returned (.int .u64 32) ∧ w' = w := bitSet 0 5 w (by decide) (by decide)
set_option maxRecDepth 100000 in
theorem rankZ (x : Int) (hx : x = 0 ∨ x = 1) (w : World) : Calls Tryz.prog 409 #[.int .u64 x, .int .i64 0] w fun e w' => e = .returned (.int .i64 0) ∧ w' = w := by
  have hb : bits .and .u64 x 0 = 0 := by rcases hx with rfl | rfl <;> decide +kernel
  have HB := Lib.hid (fun w => (bitBelow 0 w (by decide) : Calls Tryz.prog 299 #[.int .i64 0] w fun e w' => e = .returned (.int .u64 0) ∧ w' = w))
  have HC := Lib.hid (fun w => (bitCount 0 w (by decide) : Calls Tryz.prog 427 #[.int .u64 0] w fun e w' => e = .returned (.int .i64 0) ∧ w' = w))
  clear hx
  go_enter Tryz.func409, Tryz.ntmps409
  go_wp2_with fail
  refine (HB.out _).mono ?_
  rintro e w1 ⟨rfl, rfl⟩
  go_wp2_with fail
  refine (HC.out _).mono ?_
  rintro e w1 ⟨rfl, rfl⟩
  go_wp2
  go_ret
  exact ⟨rfl, rfl⟩
theorem int_info : (Tryz.prog.info? 3).map (fun i => (i.zero, i.size, i.bytes)) = some (some (.int .i64 0), 1, 8) := by kernel_rfl
set_option maxRecDepth 100000 in
theorem cloneNilI (w : World) : Calls Tryz.prog 411 #[.slice none 0 0] w fun e w' => e = .returned (.slice none 0 0) ∧ w' = w := by
  have hq := fun w => Lib.run_eql_slice_nil (P := Tryz.prog) w 94 3 none 0 0 0 0 Tryz.underlying94
  go_enter Tryz.func411, Tryz.ntmps411
  go_wp2
  go_ret
  exact ⟨rfl, rfl⟩
set_option maxRecDepth 100000 in
set_option maxHeartbeats 1000000 in
theorem insI (B : Nat) (x : Int) (w : World) (hB : w.heap[B]? = some (.cells #[.int .i64 x] 3 (0, 0))) :
    Calls Tryz.prog 418 #[.slice none 0 0, .int .i64 0, .slice (some ⟨B, 0, none⟩) 1 1] w fun e w' => ∃ g c, e = .returned (.slice (some ⟨g, 0, none⟩) 1 c) ∧ 1 ≤ c ∧ w.heap.size ≤ g ∧ Hid (∃ cur, w'.heap[g]? = some (.cells cur 3 (0, 0)) ∧ cur[0]? = some (.int .i64 x)) ∧ Hid (Below w.heap.size w w') := by
  obtain ⟨i0, hi, hz0, hz1, hz2⟩ := info_parts int_info
  have HB := Lib.hid hB
  have HN := Lib.hid (World.ownsRow_nil w w.heap.size 3 1)
  clear hB
  go_enter Tryz.func418, Tryz.ntmps418
  go_wp2_with (at_builtin; refine wpList_pushR w.heap.size _ 0 [] [.int .i64 x] _ _ _ rfl rfl Tryz.underlying94 hi hz0 hz1 hz2 rfl (by decide) rfl rfl HB.out rfl (fun u hu => by simp at hu; subst hu; rfl) HN.out (Nat.le_refl _) (by decide) (by decide) ?_; intro v2 w2 ho2 hg2 hv2; obtain ⟨g', cap', rfl⟩ := row_succ ho2; have HO := Lib.hid ho2; have HG := Lib.hid hg2; clear ho2 hg2 hv2)
  go_ret
  rcases HO.out.2 with ⟨e, _⟩ | ⟨g, cap, cur, e, hg, hh, hn, _, _, ht⟩
  · cases e
  · simp only [Value.slice.injEq, Option.some.injEq, Addr.mk.injEq, true_and, and_true] at e
    obtain ⟨rfl, rfl⟩ := e
    refine ⟨g', cap', rfl, hn, hg, ⟨cur, hh, ?_⟩, ⟨HG.out.os, HG.out.tape, HG.out.output, HG.out.size, fun k hk => HG.out.block k hk (by intro e; cases e)⟩⟩
    have := congrArg (fun l => l[0]?) ht
    simp only [List.getElem?_take] at this
    simpa using this
end Go.Proofs.YtcnaikoloagbdaaGreat
