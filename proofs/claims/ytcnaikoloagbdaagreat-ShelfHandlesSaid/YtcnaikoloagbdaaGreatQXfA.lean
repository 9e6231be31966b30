/-
  xfast.XFast: what it is in memory (XF).
  xfast.XFast: New, prefix, find, start, walked.
  xfast.XFast: longest, walked.
-/
import Derived.Test.YtcnaikoloagbdaaGreatQChn
import Derived.Test.YtcnaikoloagbdaaGreatQHashB
namespace Go.Proofs.YtcnaikoloagbdaaGreat
set_option linter.unusedVariables false
set_option linter.unusedSimpArgs false
open Go.RowKit

/-- an XFast's blocks and what they hold -/
structure XD where
  x : Nat
  h : Nat
  g : Nat
  c : Nat
  p : Nat
  m : Nat
  es : List En
  seed : Int
  n : Nat
  v : Value
  ls : List Lk
  limit : Int
  fst : Int
  R : Nat
/-- the blocks that are its own -/
def XD.own (d : XD) : Nat → Prop := fun k => k = d.x ∨ k = d.h ∨ k = d.g ∨ k = d.c ∨ k = d.p ∨ k = d.m ∨ d.v.ownBlock = some k
/-- those that its lookups change -/
def XD.red (d : XD) : Nat → Prop := fun k => k = d.h ∨ k = d.m
structure XF (w : World) (d : XD) : Prop where
  head : w.heap[d.x]? = some (.cells #[.pointer (some ⟨d.m, 0, none⟩), .pointer (some ⟨d.h, 0, none⟩), .pointer (some ⟨d.c, 0, none⟩), .int .i64 d.limit] 227 (0, 0))
  tb : Tb w d.h d.g d.m d.es d.seed (d.n : Nat)
  ti : Ti d.es (d.n : Nat)
  ch : Ch w d.c d.m d.p d.v d.ls d.limit d.fst
  rk : Rk d.ls d.fst d.R
  few : d.n ≤ 65 * d.ls.length
  len : d.ls.length ≤ 8
  lim : 0 ≤ d.limit ∧ d.limit ≤ 1048576
/-- a block of this type -/
def ty (w : World) (b : Nat) (t : TypeId) : Prop := ∃ cs, w.heap[b]? = some (.cells cs t (0, 0))
theorem ty.ne {w : World} {a b : Nat} {s t : TypeId} (h : ty w a s) (k : ty w b t) (hst : s ≠ t) : a ≠ b := by
  rintro rfl
  obtain ⟨cs, h⟩ := h
  obtain ⟨ds, k⟩ := k
  rw [h] at k
  cases k
  exact hst rfl
theorem XF.tys {w : World} {d : XD} (h : XF w d) : ty w d.x 227 ∧ ty w d.h 252 ∧ ty w d.g 255 ∧ ty w d.c 276 ∧ ty w d.p 274 ∧ ty w d.m 259 ∧ ∀ g, d.v.ownBlock = some g → ty w g 385 := by
  obtain ⟨pr, ht⟩ := h.tb.head
  obtain ⟨cs, hg, _⟩ := h.tb.rows
  obtain ⟨lst, hc⟩ := h.ch.head
  obtain ⟨a, b, c, d', e, hm⟩ := h.ch.mt
  exact ⟨⟨_, h.head⟩, ⟨_, ht⟩, ⟨_, hg⟩, ⟨_, hc⟩, ⟨_, h.ch.pool.head⟩, ⟨_, hm⟩, fun g hg => rowG_ty h.ch.pool.row g hg⟩
theorem XF.lt {w : World} {d : XD} (h : XF w d) : ∀ k, d.own k → k < w.heap.size := by
  obtain ⟨⟨_, h1⟩, ⟨_, h2⟩, ⟨_, h3⟩, ⟨_, h4⟩, ⟨_, h5⟩, ⟨_, h6⟩, h7⟩ := h.tys
  rintro k (rfl | rfl | rfl | rfl | rfl | rfl | hk)
  · exact blk_lt h1
  · exact blk_lt h2
  · exact blk_lt h3
  · exact blk_lt h4
  · exact blk_lt h5
  · exact blk_lt h6
  · obtain ⟨_, h8⟩ := h7 k hk; exact blk_lt h8
theorem XF.chg {S : Nat → Prop} {w w' : World} {d : XD} (h : XF w d) (hc : Chg S w w') (hn : ∀ k, d.own k → ¬ S k) : XF w' d :=
  ⟨hc.blk h.head (hn _ (.inl rfl)), h.tb.chg hc (hn _ (.inr (.inl rfl))) (hn _ (.inr (.inr (.inl rfl)))), h.ti,
    h.ch.chg hc (hn _ (.inr (.inr (.inr (.inl rfl))))) (hn _ (.inr (.inr (.inr (.inr (.inr (.inl rfl))))))) (hn _ (.inr (.inr (.inr (.inr (.inl rfl)))))) (fun g hg => hn _ (.inr (.inr (.inr (.inr (.inr (.inr hg))))))), h.rk, h.few, h.len, h.lim⟩
theorem XF.stay {w w' : World} {d : XD} (h : XF w d) (hs : ∀ b, d.own b → w'.heap[b]? = w.heap[b]?) : XF w' d := by
  obtain ⟨pr, ht⟩ := h.tb.head
  obtain ⟨cs, hg, hr⟩ := h.tb.rows
  obtain ⟨lst, hc⟩ := h.ch.head
  obtain ⟨a, b, c, d', e, hm⟩ := h.ch.mt
  refine ⟨(hs _ (.inl rfl)).trans h.head, ⟨⟨pr, (hs _ (.inr (.inl rfl))).trans ht⟩, ⟨cs, (hs _ (.inr (.inr (.inl rfl)))).trans hg, hr⟩⟩, h.ti, ⟨⟨lst, (hs _ (.inr (.inr (.inr (.inl rfl))))).trans hc⟩, ⟨(hs _ (.inr (.inr (.inr (.inr (.inl rfl)))))).trans h.ch.pool.head, ?_⟩, ⟨a, b, c, d', e, (hs _ (.inr (.inr (.inr (.inr (.inr (.inl rfl))))))).trans hm⟩⟩, h.rk, h.few, h.len, h.lim⟩
  obtain ⟨h1, h2⟩ := h.ch.pool.row
  refine ⟨h1, ?_⟩
  rcases h2 with h2 | ⟨g, cap, cur, hv, hb, hh, hr'⟩
  · exact .inl h2
  · exact .inr ⟨g, cap, cur, hv, hb, (hs _ (.inr (.inr (.inr (.inr (.inr (.inr (by rw [hv]; rfl)))))))).trans hh, hr'⟩
theorem XF.below {w w' : World} {d : XD} (h : XF w d) (hb : Below w.heap.size w w') : XF w' d := h.stay (fun b hb' => hb.block b (h.lt b hb'))
/-- behind a lookup -/
theorem XF.reads {w w' : World} {d : XD} (h : XF w d) (ht : Tb w' d.h d.g d.m d.es d.seed (d.n : Nat)) (hm : Mt w' d.m) (hc : Chg d.red w w') : XF w' d := by
  obtain ⟨t1, t2, t3, t4, t5, t6, t7⟩ := h.tys
  refine ⟨hc.blk h.head ?_, ht, h.ti, ⟨?_, h.ch.pool.chg hc ?_ (fun g hg => ?_), hm⟩, h.rk, h.few, h.len, h.lim⟩
  · rintro (e | e)
    · exact t1.ne t2 (by decide) e
    · exact t1.ne t6 (by decide) e
  · obtain ⟨lst, hh⟩ := h.ch.head
    refine ⟨lst, hc.blk hh ?_⟩
    rintro (e | e)
    · exact t4.ne t2 (by decide) e
    · exact t4.ne t6 (by decide) e
  · rintro (e | e)
    · exact t5.ne t2 (by decide) e
    · exact t5.ne t6 (by decide) e
  · rintro (e | e)
    · exact (t7 g hg).ne t2 (by decide) e
    · exact (t7 g hg).ne t6 (by decide) e
theorem XF.readm {w w' : World} {d : XD} (h : XF w d) (hm : Mt w' d.m) (hc : Chg (fun k => k = d.m) w w') : XF w' d := by
  obtain ⟨t1, t2, t3, t4, t5, t6, t7⟩ := h.tys
  exact h.reads (h.tb.chg hc (t2.ne t6 (by decide)) (t3.ne t6 (by decide))) hm (hc.mono (fun b _ e => .inr e))
theorem XD.red_own (d : XD) : ∀ k, d.red k → d.own k := fun k hk => by
  rcases hk with rfl | rfl
  · exact .inr (.inl rfl)
  · exact .inr (.inr (.inr (.inr (.inr (.inl rfl)))))
theorem XF.cells {w : World} {d : XD} (h : XF w d) : w.cell? ⟨d.x, 0, none⟩ = some (.pointer (some ⟨d.m, 0, none⟩)) ∧ w.cell? ⟨d.x, 1, none⟩ = some (.pointer (some ⟨d.h, 0, none⟩)) ∧ w.cell? ⟨d.x, 2, none⟩ = some (.pointer (some ⟨d.c, 0, none⟩)) ∧ w.cell? ⟨d.x, 3, none⟩ = some (.int .i64 d.limit) :=
  ⟨blk_cell h.head 0 rfl, blk_cell h.head 1 rfl, blk_cell h.head 2 rfl, blk_cell h.head 3 rfl⟩
end Go.Proofs.YtcnaikoloagbdaaGreat
namespace Go.Proofs.YtcnaikoloagbdaaGreat
set_option linter.unusedVariables false
set_option linter.unusedSimpArgs false
open Go.RowKit

/-- a key's first bits -/
def pfx (k : Int) (b : Nat) : Int := k / 2 ^ (64 - b)
theorem pfx_64 (k : Int) : pfx k 64 = k := by
  unfold pfx
  simp
theorem XF.drewn {w : World} {d : XD} (h : XF w d) : XF w.drew d := h.stay (fun _ _ => rfl)
theorem XF.drewsN {w : World} {d : XD} (h : XF w d) (n : Nat) : XF (w.drewN n) d := h.stay (fun _ _ => rfl)
set_option maxRecDepth 100000 in
theorem xPrefix (k : Int) (b : Nat) (hb : b ≤ 64) (w : World) : Calls Tryz.prog 320 #[.int .u64 k, .int .i64 (b : Nat)] w fun e w' => e = .returned (.agg #[.int .u8 (b : Nat), .int .u64 (pfx k b)]) ∧ Hid (Below w.heap.size w w') := by
  have h1 : ((64 : Int) - b < 0) = False := eq_false (by omega)
  have h2 : IntKind.u8.wrap (b : Int) = b := by rw [show IntKind.u8.wrap (b : Int) = (b : Int) % 256 from rfl]; omega
  go_enter Tryz.func320, Tryz.ntmps320
  go_wp2
  have hn := blk_new w #[.int .u8 (b : Nat), .int .u64 (k / 2 ^ (64 - b))] 201
  have k0 := blk_cell hn 0 rfl
  have k1 := blk_cell hn 1 rfl
  refine bodyPost_ret (v := .agg #[.int .u8 (b : Nat), .int .u64 (pfx k b)]) (by simp [results, Tryz.results320, go_sem, k0, k1, pfx]) rfl ⟨rfl, (Below.refl _ w).alloc (Nat.le_refl _) _⟩
theorem put2 {S : Nat → Prop} {w w' : World} (h : Chg S w w') {b : Nat} (x0 x1 : Value) (hb : S b ∨ w.heap.size ≤ b) : Chg S w ((w'.setCell ⟨b, 0, none⟩ x0).setCell ⟨b, 1, none⟩ x1) := (h.set x0 hb).set x1 hb
set_option maxRecDepth 100000 in
set_option maxHeartbeats 1000000 in
theorem xFind (d : XD) (k : Int) (b : Nat) (hb : b ≤ 64) (w : World) (h : XF w d) : Calls Tryz.prog 317 #[.pointer (some ⟨d.x, 0, none⟩), .int .u64 k, .int .i64 (b : Nat)] w fun e w' => ∃ (lo hi : Int) (ok : Bool), e = .returned (.tuple #[.agg #[.int .i64 lo, .int .i64 hi], .bool ok]) ∧ Hid (Fn d.es d.seed (b : Nat) (pfx k b) ok) ∧ Hid (XF w' d) ∧ Hid (Chg d.red w w') := by
  have hA := (Below.refl w.heap.size w).alloc (Nat.le_refl _) (.cells #[.int .i64 0, .int .i64 0] 371)
  have H0 := Lib.hid (h.below hA)
  have HC0 := Lib.hid (Chg.of_below (S := d.red) hA)
  have HK0 := Lib.hid (blk_new w #[.int .i64 0, .int .i64 0] 371)
  obtain ⟨c0, c1, _⟩ := H0.out.cells
  have HLT := Lib.hid (fun q hq => h.lt q hq)
  have hred : ¬ d.red w.heap.size := fun e => by have := HLT.out _ (d.red_own _ e); omega
  have hown : ∀ q, d.own q → ¬ (q = w.heap.size) := fun q hq e => by have := HLT.out _ hq; omega
  have HOWN := Lib.hid hown
  clear h hA hown
  go_enter Tryz.func317, Tryz.ntmps317
  go_wp2
  generalize w.alloc (.cells #[.int .i64 0, .int .i64 0] 371) = w0 at *
  have HTD := Lib.hid H0.out.drewn
  obtain ⟨j, hj⟩ := H0.out.ti.size
  have HJ := Lib.hid hj
  have HFR := Lib.hid H0.out.ti.free
  clear hj
  go_region_law (first | ((with_reducible refine gate_scall (f := 320) rfl ?_); refine step_goes rfl Tryz.func320 (by kernel_rfl) rfl #[.int .u64 k, .int .i64 (b : Nat)] rfl (by simp only [List.map_toArray, List.map_cons, List.map_nil]; rfl) (xPrefix k b hb _) ?_; rintro e w1 ⟨rfl, HB1⟩; have H1 := Lib.hid (HTD.out.below HB1.out); have q1 := H1.out.cells.2.1; refine ⟨_, rfl, ?_⟩) | ((with_reducible refine gate_scall (f := 124) rfl ?_); refine step_goes rfl Tryz.func124 (by kernel_rfl) rfl #[.pointer (some ⟨d.h, 0, none⟩), .agg #[.int .u8 (b : Nat), .int .u64 (pfx k b)]] rfl (by simp only [List.map_toArray, List.map_cons, List.map_nil]; rfl) (hGet d.h d.g d.m j d.es d.seed d.n _ _ _ H1.out.tb H1.out.ch.mt HJ.out HFR.out) ?_; rintro e w2 ⟨v, ok, rfl, _, HFN, HT2, HM2, HC2⟩; refine ⟨_, rfl, ?_⟩))
  all_goals
    have HX2 := Lib.hid (H1.out.reads HT2.out HM2.out (HC2.out.mono (fun _ _ e => e)))
    have HCC := Lib.hid (((HC0.out.drew).then (Chg.of_below HB1.out)).then (HC2.out.mono (T := d.red) (fun _ _ e => e)))
    have HK1 := Lib.hid ((Chg.of_below (S := d.red) HB1.out).blk (show w0.drew.heap[w.heap.size]? = _ from HK0.out) hred)
    have HK2 := Lib.hid ((HC2.out.mono (T := d.red) (fun _ _ e => e)).blk HK1.out hred)
    have f0 := blk_free HK2.out 0
    have f1 := blk_free HK2.out 1
    have s0 := blk_cell HK2.out 0 rfl
    have s1 := blk_cell HK2.out 1 rfl
    have HPUT := Lib.hid (fun lo hi => HX2.out.chg (S := (· = w.heap.size)) (put2 (Chg.refl _ _) (.int .i64 lo) (.int .i64 hi) (.inl rfl)) HOWN.out)
    have HCP := Lib.hid (fun lo hi => put2 HCC.out (b := w.heap.size) (.int .i64 lo) (.int .i64 hi) (.inr (Nat.le_refl _)))
    have HKP := Lib.hid (fun lo hi => blk_set (blk_set HK2.out 0 (.int .i64 lo)) 1 (.int .i64 hi))
    clear HTD H1 HT2 HM2 HC2 HCC HK1 q1 c0 c1 H0 HC0 HK0
    go_wp2
    have k0 := blk_cell (HKP.out (wrap64 (v / 4294967296)) (wrap64 (bits .and .u64 v 4294967295))) 0 rfl
    have k1 := blk_cell (HKP.out (wrap64 (v / 4294967296)) (wrap64 (bits .and .u64 v 4294967295))) 1 rfl
    refine bodyPost_ret (v := .tuple #[.agg #[.int .i64 (wrap64 (v / 4294967296)), .int .i64 (wrap64 (bits .and .u64 v 4294967295))], .bool ok]) (by simp [results, Tryz.results317, go_sem, k0, k1]) rfl ⟨_, _, ok, rfl, HFN.out, HPUT.out _ _, HCP.out _ _⟩
set_option maxRecDepth 100000 in
set_option maxHeartbeats 1000000 in
theorem xStart (d : XD) (w : World) (h : XF w d) : Calls Tryz.prog 323 #[.pointer (some ⟨d.x, 0, none⟩)] w fun e w' => e = .returned (.bool (decide (0 < (d.ls.length : Int)))) ∧ Hid (XF w' d) ∧ Hid (Chg d.red w w') := by
  have H := Lib.hid h
  obtain ⟨c0, c1, c2, _⟩ := h.cells
  clear h
  go_enter Tryz.func323, Tryz.ntmps323
  go_wp2_with fail
  refine (mtStart d.m _ H.out.ch.mt).mono ?_
  rintro e w1 ⟨rfl, HM1, HC1⟩
  have H1 := Lib.hid (H.out.readm HM1.out HC1.out)
  have HC := Lib.hid (HC1.out.mono (T := d.red) (fun _ _ e => .inr e))
  clear c0 c1 c2 HM1 HC1
  obtain ⟨c0, c1, c2, _⟩ := H1.out.cells
  go_wp2_with fail
  refine (chLen d.c d.m d.p d.v d.ls d.limit d.fst _ H1.out.ch).mono ?_
  rintro e w2 ⟨rfl, rfl⟩
  go_wp2
  go_ret
  exact ⟨by first | rfl | exact ret_bool (by simp), H1.out, HC.out⟩
end Go.Proofs.YtcnaikoloagbdaaGreat
namespace Go.Proofs.YtcnaikoloagbdaaGreat
set_option linter.unusedVariables false
set_option linter.unusedSimpArgs false
open Go.RowKit

set_option maxRecDepth 100000 in
set_option maxHeartbeats 4000000 in
theorem xLongest (d : XD) (k : Int) (w : World) (h : XF w d) : Calls Tryz.prog 328 #[.pointer (some ⟨d.x, 0, none⟩), .int .u64 k] w fun e w' => ∃ (b : Int) (lo hi : Int), e = .returned (.tuple #[.int .i64 b, .agg #[.int .i64 lo, .int .i64 hi]]) ∧ -1 ≤ b ∧ b ≤ 64 ∧ Hid (b = 64 → Fn d.es d.seed 64 k true) ∧ Hid (XF w' d) ∧ Hid (Chg d.red w w') := by
  obtain ⟨w1, hw1⟩ : ∃ w1, w1 = w.alloc (.cells #[.int .i64 0, .int .i64 0] 371) := ⟨_, rfl⟩
  obtain ⟨w2, hw2⟩ : ∃ w2, w2 = w1.alloc (.cells #[.int .i64 (-1), .int .i64 (-1)] 371) := ⟨_, rfl⟩
  have s1 : w1.heap.size = w.heap.size + 1 := by rw [hw1]; simp
  have hA : Below w.heap.size w w2 := by rw [hw2, hw1]; exact ((Below.refl _ w).alloc (Nat.le_refl _) _).alloc (by simp) _
  have H0 := Lib.hid (h.below hA)
  have HC0 := Lib.hid (Chg.of_below (S := d.red) hA)
  have HK0 := Lib.hid (show w2.heap[w.heap.size]? = some (.cells #[.int .i64 0, .int .i64 0] 371 (0, 0)) by rw [hw2, hw1]; exact blk_old (blk_new w _ _) _)
  have HB0 := Lib.hid (show w2.heap[w.heap.size + 1]? = some (.cells #[.int .i64 (-1), .int .i64 (-1)] 371 (0, 0)) by rw [hw2, ← s1]; exact blk_new w1 _ _)
  have HLT := Lib.hid (fun q hq => h.lt q hq)
  have HRED := Lib.hid (show ∀ q, w.heap.size ≤ q → ¬ d.red q from fun q hq e => by have := h.lt _ (d.red_own _ e); omega)
  have HOWN := Lib.hid (show ∀ q n, w.heap.size ≤ n → d.own q → ¬ (q = n) from fun q n hn hq e => by have := h.lt _ hq; omega)
  clear h hA
  go_enter Tryz.func328, Tryz.ntmps328
  go_wp2
  rw [← hw1, ← hw2]
  try simp only [World.size_alloc]
  clear hw1 hw2
  go_loopw [6, 8, 9, 10, 11, 12] (fun v6 v8 v9 _ _ _ wr => ∃ (b lo hi p q : Int), v6 = .int .i64 b ∧ v8 = .int .i64 lo ∧ v9 = .int .i64 hi ∧ -1 ≤ b ∧ b ≤ 64 ∧ 0 ≤ lo ∧ hi ≤ 64 ∧ lo ≤ hi + 1 ∧ Hid (b = 64 → Fn d.es d.seed 64 k true) ∧ Hid (XF wr d) ∧ Hid (Chg d.red w wr) ∧ Hid (wr.heap[w.heap.size]? = some (.cells #[.int .i64 0, .int .i64 0] 371 (0, 0))) ∧ Hid (wr.heap[w.heap.size + 1]? = some (.cells #[.int .i64 p, .int .i64 q] 371 (0, 0)))) (fun _ v8 v9 _ _ _ _ => (intOf v9 + 1 - intOf v8).toNat)
  case atStart => exact ⟨-1, 0, 64, -1, -1, rfl, rfl, rfl, by omega, by omega, by omega, by omega, by omega, fun h => by omega, H0.out, HC0.out, HK0.out, HB0.out⟩
  case round =>
    clear H0 HC0 HK0 HB0 s1 HLT
    obtain ⟨b, lo, hi, p, q, rfl, rfl, rfl, hb1, hb2, hlo, hhi, hlh, HF, HX, HC, HK, HB⟩ := hrel
    have r0 := blk_cell HB.out 0 rfl
    have r1 := blk_cell HB.out 1 rfl
    have t0 := blk_cell HK.out 0 rfl
    have t1 := blk_cell HK.out 1 rfl
    have f0 := blk_free HK.out 0
    have f1 := blk_free HK.out 1
    by_cases hle : lo ≤ hi
    · obtain ⟨md, hmd⟩ : ∃ md : Nat, (lo + hi) / 2 = (md : Int) := ⟨((lo + hi) / 2).toNat, by omega⟩
      have hm1 : lo ≤ md := by omega
      have hm2 : (md : Int) ≤ hi := by omega
      have hm3 : md ≤ 64 := by omega
      have hq2 : (lo + hi).tdiv 2 = (md : Int) := by rw [Int.tdiv_eq_ediv_of_nonneg (by omega)]; exact hmd
      clear r0 r1 t0 t1 f0 f1
      go_wp2_with fail
      refine (xFind d k md hm3 _ HX.out).mono ?_
      rintro e w3 ⟨l2, h2, ok, rfl, HFN, HX3, HC3⟩
      have HK3 := Lib.hid (HC3.out.blk HK.out (HRED.out _ (Nat.le_refl _)))
      have HB3 := Lib.hid (HC3.out.blk HB.out (HRED.out _ (by omega)))
      have hA := (Below.refl w3.heap.size w3).alloc (Nat.le_refl _) (.cells #[.int .i64 l2, .int .i64 h2] 371)
      have HX4 := Lib.hid (HX3.out.below hA)
      have HC4 := Lib.hid ((HC.out.then HC3.out).then (Chg.of_below hA))
      have HK4 := Lib.hid (blk_below HK3.out hA rfl)
      have HB4 := Lib.hid (blk_below HB3.out hA rfl)
      have HN4 := Lib.hid (blk_new w3 #[.int .i64 l2, .int .i64 h2] 371)
      have f0 := blk_free HB4.out 0
      have f1 := blk_free HB4.out 1
      have r0 := blk_cell HB4.out 0 rfl
      have r1 := blk_cell HB4.out 1 rfl
      have n0 := blk_cell HN4.out 0 rfl
      have n1 := blk_cell HN4.out 1 rfl
      have HX5 := Lib.hid (HX4.out.chg (S := (· = w.heap.size + 1)) (put2 (Chg.refl _ _) (.int .i64 l2) (.int .i64 h2) (.inl rfl)) (fun q hq => HOWN.out q _ (by omega) hq))
      have HC5 := Lib.hid (put2 HC4.out (b := w.heap.size + 1) (.int .i64 l2) (.int .i64 h2) (.inr (by omega)))
      have HK5 := Lib.hid (((put2 (Chg.refl (· = w.heap.size + 1) _) (.int .i64 l2) (.int .i64 h2) (.inl rfl))).blk HK4.out (by omega))
      have HB5 := Lib.hid (blk_set (blk_set HB4.out 0 (.int .i64 l2)) 1 (.int .i64 h2))
      clear hA HX HC HK HB HX3 HC3 HK3 HB3
      cases ok
      · go_wp2
        go_roundw
        case rel => exact ⟨b, lo, (md : Int) - 1, p, q, rfl, rfl, rfl, hb1, hb2, hlo, by omega, by omega, HF.out, HX4.out, HC4.out, HK4.out, HB4.out⟩
        case measure => simp [intOf]; omega
      · have HF2 := Lib.hid (show (md : Int) = 64 → Fn d.es d.seed 64 k true from fun e => by
          have h1 := HFN.out
          obtain rfl : md = 64 := by omega
          rw [pfx_64] at h1
          exact h1)
        go_wp2
        go_region
        go_wp2
        go_roundw
        case rel => exact ⟨md, (md : Int) + 1, hi, l2, h2, rfl, rfl, rfl, by omega, by omega, by omega, hhi, by omega, HF2.out, HX5.out.drewn, HC5.out.drew, HK5.out, HB5.out⟩
        case measure => simp [intOf]; omega
    · have HX5 := Lib.hid (HX.out.chg (S := (· = w.heap.size)) (put2 (Chg.refl _ _) (.int .i64 p) (.int .i64 q) (.inl rfl)) (fun z hz => HOWN.out z _ (Nat.le_refl _) hz))
      have HC5 := Lib.hid (put2 HC.out (b := w.heap.size) (.int .i64 p) (.int .i64 q) (.inr (Nat.le_refl _)))
      have HK5 := Lib.hid (blk_set (blk_set HK.out 0 (.int .i64 p)) 1 (.int .i64 q))
      go_wp2
      go_region
      go_wp2
      have k0 := blk_cell (show ((wr.setCell ⟨w.heap.size, 0, none⟩ (.int .i64 p)).setCell ⟨w.heap.size, 1, none⟩ (.int .i64 q)).drew.heap[w.heap.size]? = _ from HK5.out) 0 rfl
      have k1 := blk_cell (show ((wr.setCell ⟨w.heap.size, 0, none⟩ (.int .i64 p)).setCell ⟨w.heap.size, 1, none⟩ (.int .i64 q)).drew.heap[w.heap.size]? = _ from HK5.out) 1 rfl
      refine bodyPost_ret (v := .tuple #[.int .i64 b, .agg #[.int .i64 p, .int .i64 q]]) (by simp [results, Tryz.results328, go_sem, k0, k1]) rfl ⟨b, p, q, rfl, hb1, hb2, HF.out, HX5.out.drewn, HC5.out.drew⟩
end Go.Proofs.YtcnaikoloagbdaaGreat
