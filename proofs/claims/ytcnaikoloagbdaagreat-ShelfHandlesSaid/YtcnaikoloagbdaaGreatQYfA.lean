/-
  yfast.YFast with one bucket at most: what it is in memory (YF).
  yfast.YFast: start, key, find, Has, Len, Next, Prev, walked.
  yfast.YFast: see, Has, Len, Next, Prev, Used, New, walked.
-/
import Derived.Test.YtcnaikoloagbdaaGreatQXf6
import Derived.Test.YtcnaikoloagbdaaGreatQPoolC
import Derived.Test.YtcnaikoloagbdaaGreatQBuk
namespace Go.Proofs.YtcnaikoloagbdaaGreat
set_option linter.unusedVariables false
set_option linter.unusedSimpArgs false
open Go.RowKit

/-- a YFast's blocks and what they hold -/
structure YD where
  y : Nat
  xd : XD
  t : Nat
  g : Nat
  es : List En
  tn : Nat
  p : Nat
  v : Value
  ls : List Ce
  n : Int
  kA : Option Addr
  kc : Nat
  ks : List Int
  limit : Int
abbrev YD.kv (d : YD) : Value := .slice d.kA d.ks.length d.kc
def YD.own (d : YD) : Nat → Prop := fun k => k = d.y ∨ d.xd.own k ∨ k = d.t ∨ k = d.g ∨ k = d.p ∨ d.v.ownBlock = some k ∨ d.kv.ownBlock = some k
def YD.red (d : YD) : Nat → Prop := fun k => d.xd.red k ∨ k = d.t
/-- its parts, whatever its buckets are -/
structure YP (w : World) (d : YD) : Prop where
  head : w.heap[d.y]? = some (.cells #[.pointer (some ⟨d.xd.m, 0, none⟩), .pointer (some ⟨d.xd.x, 0, none⟩), .pointer (some ⟨d.t, 0, none⟩), .pointer (some ⟨d.p, 0, none⟩), .int .i64 d.n, .int .i64 d.limit] 234 (0, 0))
  xf : XF w d.xd
  tb : Tb w d.t d.g d.xd.m d.es d.xd.seed (d.tn : Nat)
  ti : Ti d.es (d.tn : Nat)
  vals : Vals d.es (· = 0)
  few : d.tn ≤ 8
  pool : PoC w 0 d.p d.xd.m d.v d.ls d.limit
  row : Own .u64 22 w 0 d.kv d.ks
  lim : 0 ≤ d.limit ∧ d.limit ≤ 1048576
  nt : d.t ≠ d.xd.h
  ng : d.g ≠ d.xd.g
/-- one bucket at most -/
structure YS (d : YD) : Prop where
  shape : (d.ks = [] ∧ d.ls = [] ∧ d.xd.ls = []) ∨ (d.ls = [⟨0, d.kA, d.ks.length, d.kc, -1, -1⟩] ∧ d.ks ≠ [])
  cnt : 0 ≤ d.n ∧ (d.n = 0 ↔ d.ks = [])
  len : d.ks.length ≤ 100
  nb : d.n ≤ 100
  xl : d.xd.ls.length ≤ 1
  t0 : d.ks = [] → d.tn = 0
  u : U64 d.ks
def YF (w : World) (d : YD) : Prop := YP w d ∧ YS d
theorem YP.tys {w : World} {d : YD} (h : YP w d) : ty w d.y 234 ∧ ty w d.t 252 ∧ ty w d.g 255 ∧ ty w d.p 279 ∧ (∀ g, d.v.ownBlock = some g → ty w g 401) ∧ ∀ g, d.kv.ownBlock = some g → ty w g 22 := by
  obtain ⟨pr, ht⟩ := h.tb.head
  obtain ⟨cs, hg, _⟩ := h.tb.rows
  exact ⟨⟨_, h.head⟩, ⟨_, ht⟩, ⟨_, hg⟩, ⟨_, h.pool.head⟩, fun g hg => rowG_ty h.pool.row g hg, fun g hg => rowG_ty h.row g hg⟩
theorem YP.lt {w : World} {d : YD} (h : YP w d) : ∀ k, d.own k → k < w.heap.size := by
  obtain ⟨⟨_, h1⟩, ⟨_, h2⟩, ⟨_, h3⟩, ⟨_, h4⟩, h5, h6⟩ := h.tys
  rintro k (rfl | hk | rfl | rfl | rfl | hk | hk)
  · exact blk_lt h1
  · exact h.xf.lt k hk
  · exact blk_lt h2
  · exact blk_lt h3
  · exact blk_lt h4
  · obtain ⟨_, h8⟩ := h5 k hk; exact blk_lt h8
  · obtain ⟨_, h8⟩ := h6 k hk; exact blk_lt h8
theorem row_stay {w w' : World} {base n : Nat} {e : TypeId} {k : Nat} {v : Value} {cs : List Value} (h : w.ownsRow base e k v n cs) (hs : ∀ g, v.ownBlock = some g → w'.heap[g]? = w.heap[g]?) : w'.ownsRow base e k v n cs := by
  obtain ⟨h1, h2⟩ := h
  refine ⟨h1, ?_⟩
  rcases h2 with h2 | ⟨g, cap, cur, rfl, hb, hh, hr'⟩
  · exact .inl h2
  · exact .inr ⟨g, cap, cur, rfl, hb, (hs _ rfl).trans hh, hr'⟩
theorem YP.stay {w w' : World} {d : YD} (h   : YP w d) (hs : ∀ b, d.own b → w'.heap[b]? = w.heap[b]?)   : YP w' d := by
  obtain ⟨pr, ht⟩ := h.tb.head
  obtain ⟨cs, hg, hr⟩ := h.tb.rows
  exact ⟨(hs _ (.inl rfl)).trans h.head, h.xf.stay (fun b hb => hs _ (.inr (.inl hb))), ⟨⟨pr, (hs _ (.inr (.inr (.inl rfl)))).trans ht⟩, ⟨cs, (hs _ (.inr (.inr (.inr (.inl rfl))))).trans hg, hr⟩⟩, h.ti, h.vals, h.few, ⟨(hs _ (.inr (.inr (.inr (.inr (.inl rfl)))))).trans h.pool.head, row_stay h.pool.row (fun g hg => hs _ (.inr (.inr (.inr (.inr (.inr (.inl hg)))))))⟩, row_stay h.row (fun g hg => hs _ (.inr (.inr (.inr (.inr (.inr (.inr hg))))))), h.lim, h.nt, h.ng⟩
theorem YP.below {w w' : World} {d : YD} (h   : YP w d) (hb : Below w.heap.size w w')   : YP w' d := h.stay (fun b hb' => hb.block b (h.lt b hb'))
theorem YP.chg {S : Nat → Prop} {w w' : World} {d : YD} (h   : YP w d) (hc : Chg S w w') (hn : ∀ k, d.own k → ¬ S k)   : YP w' d := h.stay (fun b hb => hc.block b (h.lt b hb) (hn b hb))
theorem YD.red_own (d : YD) : ∀ k, d.red k → d.own k := fun k hk => by
  rcases hk with hk | rfl
  · exact .inr (.inl (d.xd.red_own k hk))
  · exact .inr (.inr (.inl rfl))
/-- behind a lookup in its table, or its pool -/
theorem YP.reads {w w' : World} {d : YD} (h   : YP w d) (hx : XF w' d.xd) (ht : Tb w' d.t d.g d.xd.m d.es d.xd.seed (d.tn : Nat)) (hc : Chg d.red w w')   : YP w' d := by
  obtain ⟨t1, t2, t3, t4, t5, t6⟩ := h.tys
  obtain ⟨x1, x2, x3, x4, x5, x6, x7⟩ := h.xf.tys
  have ne : ∀ k t, ty w k t → t ≠ 252 → t ≠ 259 → ¬ d.red k := by
    rintro k t hk h1 h2 ((e | e) | e)
    · exact hk.ne x2 h1 e
    · exact hk.ne x6 h2 e
    · exact hk.ne t2 h1 e
  exact ⟨hc.blk h.head (ne _ _ t1 (by decide) (by decide)), hx, ht, h.ti, h.vals, h.few, ⟨hc.blk h.pool.head (ne _ _ t4 (by decide) (by decide)), rowG_chg h.pool.row hc (fun g hg => ne _ _ (t5 g hg) (by decide) (by decide))⟩, rowG_chg h.row hc (fun g hg => ne _ _ (t6 g hg) (by decide) (by decide)), h.lim, h.nt, h.ng⟩
/-- behind a lookup in its XFast -/
theorem YP.readx {w w' : World} {d : YD} (h   : YP w d) (hx : XF w' d.xd) (hc : Chg d.xd.red w w')   : YP w' d := by
  obtain ⟨t1, t2, t3, t4, t5, t6⟩ := h.tys
  obtain ⟨x1, x2, x3, x4, x5, x6, x7⟩ := h.xf.tys
  refine h.reads hx (h.tb.chg hc ?_ ?_) (hc.mono (fun b _ e => .inl e))
  · rintro (e | e)
    · exact h.nt e
    · exact t2.ne x6 (by decide) e
  · rintro (e | e)
    · exact t3.ne x2 (by decide) e
    · exact t3.ne x6 (by decide) e
theorem YP.readm {w w' : World} {d : YD} (h   : YP w d) (hm : Mt w' d.xd.m) (hc : Chg (fun k => k = d.xd.m) w w')   : YP w' d := h.readx (h.xf.readm hm hc) (hc.mono (fun b _ e => .inr e))
theorem YP.cells {w : World} {d : YD} (h   : YP w d) : w.cell? ⟨d.y, 0, none⟩ = some (.pointer (some ⟨d.xd.m, 0, none⟩)) ∧ w.cell? ⟨d.y, 1, none⟩ = some (.pointer (some ⟨d.xd.x, 0, none⟩)) ∧ w.cell? ⟨d.y, 2, none⟩ = some (.pointer (some ⟨d.t, 0, none⟩)) ∧ w.cell? ⟨d.y, 3, none⟩ = some (.pointer (some ⟨d.p, 0, none⟩)) ∧ w.cell? ⟨d.y, 4, none⟩ = some (.int .i64 d.n) ∧ w.cell? ⟨d.y, 5, none⟩ = some (.int .i64 d.limit) :=
  ⟨blk_cell h.head 0 rfl, blk_cell h.head 1 rfl, blk_cell h.head 2 rfl, blk_cell h.head 3 rfl, blk_cell h.head 4 rfl, blk_cell h.head 5 rfl⟩
theorem YP.drewn {w : World} {d : YD} (h : YP w d) : YP w.drew d := h.stay (fun _ _ => rfl)
theorem YP.drewsN {w : World} {d : YD} (h : YP w d) (n : Nat) : YP (w.drewN n) d := h.stay (fun _ _ => rfl)
theorem XF.readS {S : Nat → Prop} {w w' : World} {d : XD} (h : XF w d) (hn : ∀ k, d.own k → k ≠ d.m → ¬ S k) (hm : Mt w' d.m) (hc : Chg S w w') : XF w' d := by
  obtain ⟨t1, t2, t3, t4, t5, t6, t7⟩ := h.tys
  have n1 := hn _ (.inl rfl) (t1.ne t6 (by decide))
  have n2 := hn _ (.inr (.inl rfl)) (t2.ne t6 (by decide))
  have n3 := hn _ (.inr (.inr (.inl rfl))) (t3.ne t6 (by decide))
  have n4 := hn _ (.inr (.inr (.inr (.inl rfl)))) (t4.ne t6 (by decide))
  have n5 := hn _ (.inr (.inr (.inr (.inr (.inl rfl))))) (t5.ne t6 (by decide))
  obtain ⟨lst, hh⟩ := h.ch.head
  exact ⟨hc.blk h.head n1, h.tb.chg hc n2 n3, h.ti, ⟨⟨lst, hc.blk hh n4⟩, h.ch.pool.chg hc n5 (fun g hg => hn _ (.inr (.inr (.inr (.inr (.inr (.inr hg)))))) ((t7 g hg).ne t6 (by decide))), hm⟩, h.rk, h.few, h.len, h.lim⟩
/-- its XFast's blocks are not its table's -/
theorem YP.xne {w : World} {d : YD} (h : YP w d) : ∀ k, d.xd.own k → k ≠ d.t ∧ k ≠ d.g ∧ k ≠ d.y ∧ k ≠ d.p ∧ (∀ g, d.v.ownBlock = some g → k ≠ g) ∧ ∀ g, d.kv.ownBlock = some g → k ≠ g := by
  obtain ⟨t1, t2, t3, t4, t5, t6⟩ := h.tys
  obtain ⟨x1, x2, x3, x4, x5, x6, x7⟩ := h.xf.tys
  rintro k (rfl | rfl | rfl | rfl | rfl | rfl | hk)
  · exact ⟨x1.ne t2 (by decide), x1.ne t3 (by decide), x1.ne t1 (by decide), x1.ne t4 (by decide), fun g hg => x1.ne (t5 g hg) (by decide), fun g hg => x1.ne (t6 g hg) (by decide)⟩
  · exact ⟨h.nt.symm, x2.ne t3 (by decide), x2.ne t1 (by decide), x2.ne t4 (by decide), fun g hg => x2.ne (t5 g hg) (by decide), fun g hg => x2.ne (t6 g hg) (by decide)⟩
  · exact ⟨x3.ne t2 (by decide), h.ng.symm, x3.ne t1 (by decide), x3.ne t4 (by decide), fun g hg => x3.ne (t5 g hg) (by decide), fun g hg => x3.ne (t6 g hg) (by decide)⟩
  · exact ⟨x4.ne t2 (by decide), x4.ne t3 (by decide), x4.ne t1 (by decide), x4.ne t4 (by decide), fun g hg => x4.ne (t5 g hg) (by decide), fun g hg => x4.ne (t6 g hg) (by decide)⟩
  · exact ⟨x5.ne t2 (by decide), x5.ne t3 (by decide), x5.ne t1 (by decide), x5.ne t4 (by decide), fun g hg => x5.ne (t5 g hg) (by decide), fun g hg => x5.ne (t6 g hg) (by decide)⟩
  · exact ⟨x6.ne t2 (by decide), x6.ne t3 (by decide), x6.ne t1 (by decide), x6.ne t4 (by decide), fun g hg => x6.ne (t5 g hg) (by decide), fun g hg => x6.ne (t6 g hg) (by decide)⟩
  · have := x7 k hk
    exact ⟨this.ne t2 (by decide), this.ne t3 (by decide), this.ne t1 (by decide), this.ne t4 (by decide), fun g hg => this.ne (t5 g hg) (by decide), fun g hg => this.ne (t6 g hg) (by decide)⟩
theorem YP.readt {w w' : World} {d : YD} (h : YP w d) (ht : Tb w' d.t d.g d.xd.m d.es d.xd.seed (d.tn : Nat)) (hm : Mt w' d.xd.m) (hc : Chg (fun k => k = d.t ∨ k = d.xd.m) w w') : YP w' d :=
  h.reads (h.xf.readS (fun k hk hne e => by rcases e with e | e; exact (h.xne k hk).1 e; exact hne e) hm hc) ht (hc.mono (fun _ _ e => by rcases e with e | e; exact .inr e; exact .inl (.inr e)))
end Go.Proofs.YtcnaikoloagbdaaGreat
namespace Go.Proofs.YtcnaikoloagbdaaGreat
set_option linter.unusedVariables false
set_option linter.unusedSimpArgs false
open Go.RowKit

set_option maxRecDepth 100000 in
theorem yStart (d : YD) (w : World) (h : YP w d) : Calls Tryz.prog 362 #[.pointer (some ⟨d.y, 0, none⟩)] w fun e w' => e = .returned (.bool (decide (0 < d.n))) ∧ Hid (YP w' d) ∧ Hid (Chg d.red w w') := by
  have H := Lib.hid h
  obtain ⟨c0, c1, c2, c3, c4, _⟩ := h.cells
  clear h
  go_enter Tryz.func362, Tryz.ntmps362
  go_wp2_with fail
  refine (mtStart d.xd.m _ H.out.xf.ch.mt).mono ?_
  rintro e w1 ⟨rfl, HM1, HC1⟩
  have H1 := Lib.hid (H.out.readm HM1.out HC1.out)
  have HC := Lib.hid (HC1.out.mono (T := d.red) (fun _ _ e => .inl (.inr e)))
  clear c0 c1 c2 c3 c4 HM1 HC1
  obtain ⟨c0, c1, c2, c3, c4, _⟩ := H1.out.cells
  go_wp2
  go_ret
  exact ⟨by first | rfl | exact ret_bool (by simp), H1.out, HC.out⟩
set_option maxRecDepth 100000 in
theorem yKey (k : Int) (w : World) : Calls Tryz.prog 378 #[.int .u64 k] w fun e w' => e = .returned (.agg #[.int .u8 0, .int .u64 k]) ∧ Hid (Below w.heap.size w w') := by
  go_enter Tryz.func378, Tryz.ntmps378
  go_wp2
  have hn := blk_new w #[.int .u8 0, .int .u64 k] 201
  have k0 := blk_cell hn 0 rfl
  have k1 := blk_cell hn 1 rfl
  refine bodyPost_ret (v := .agg #[.int .u8 0, .int .u64 k]) (by simp [results, Tryz.results378, go_sem, k0, k1]) rfl ⟨rfl, (Below.refl _ w).alloc (Nat.le_refl _) _⟩
theorem YP.zero {w : World} {d : YD} (h : YP w d) {lv pf v : Int} {b : Bool} (hv : (b = false ∧ v = 0) ∨ (b = true ∧ ∃ (i : Nat) (hi : i < d.es.length), d.es[i].full = true ∧ d.es[i].lv = lv ∧ d.es[i].pf = pf ∧ d.es[i].v = v)) : v = 0 := by
  rcases hv with ⟨_, h⟩ | ⟨_, i, hi, h1, _, _, h2⟩
  · exact h
  · rcases h.vals _ (List.getElem_mem hi) with e | e
    · rw [← h2, e]; rfl
    · rw [← h2]; exact e
set_option maxRecDepth 100000 in
set_option maxHeartbeats 2000000 in
theorem yFind (d : YD) (k : Int) (w : World) (h : YP w d) (x : Ce) (hls : d.ls = [x]) : Calls Tryz.prog 363 #[.pointer (some ⟨d.y, 0, none⟩), .int .u64 k] w fun e w' => e = .returned (.tuple #[.int .i64 0, .agg #[.int .u64 x.rep, .slice x.kA x.kn x.kc, .int .i64 x.prev, .int .i64 x.next]]) ∧ Hid (YP w' d) ∧ Hid (Chg d.red w w') := by
  have hA := (Below.refl w.heap.size w).alloc (Nat.le_refl _) (.cells #[.int .u64 0, .slice none 0 0, .int .i64 0, .int .i64 0] 232)
  have H0 := Lib.hid (h.below hA)
  have HC0 := Lib.hid (Chg.of_below (S := d.red) hA)
  have HK0 := Lib.hid (blk_new w #[.int .u64 0, .slice none 0 0, .int .i64 0, .int .i64 0] 232)
  have HLT := Lib.hid h.lt
  have HRED := Lib.hid (show ∀ q, w.heap.size ≤ q → ¬ d.red q from fun q hq e => by have := h.lt _ (d.red_own _ e); omega)
  have HOWN := Lib.hid (show ∀ q n, w.heap.size ≤ n → d.own q → ¬ (q = n) from fun q n hn hq e => by have := h.lt _ hq; omega)
  have HLS := Lib.hid hls
  obtain ⟨c0, c1, _⟩ := H0.out.cells
  clear h hA hls
  go_enter Tryz.func363, Tryz.ntmps363
  go_wp2_with fail
  generalize w.alloc (.cells #[.int .u64 0, .slice none 0 0, .int .i64 0, .int .i64 0] 232) = w0 at *
  refine (xPrev d.xd k _ H0.out.xf).mono ?_
  rintro e w1 ⟨rep, rb, rfl, HX1, HC1⟩
  have H1 := Lib.hid (H0.out.readx HX1.out HC1.out)
  have HC1' := Lib.hid (HC0.out.then (HC1.out.mono (T := d.red) (fun _ _ e => .inl e)))
  have HK1 := Lib.hid ((HC1.out.mono (T := d.red) (fun _ _ e => .inl e)).blk HK0.out (HRED.out _ (Nat.le_refl _)))
  have HTD := Lib.hid H1.out.drewn
  obtain ⟨d0, d1, d2, _⟩ := H1.out.cells
  obtain ⟨j, hj⟩ := H1.out.ti.size
  have HJ := Lib.hid hj
  have HFR := Lib.hid H1.out.ti.free
  clear hj H0 HC0 HK0 HX1 HC1 c0 c1
  go_wp2
  go_region_law (first | ((with_reducible refine gate_scall (f := 378) rfl ?_); refine step_goes rfl Tryz.func378 (by kernel_rfl) rfl #[.int .u64 rep] rfl (by simp only [List.map_toArray, List.map_cons, List.map_nil]; rfl) (yKey rep _) ?_; rintro e w2 ⟨rfl, HB2⟩; have H2 := Lib.hid (HTD.out.below HB2.out); have q2 := H2.out.cells.2.2.1; refine ⟨_, rfl, ?_⟩) | ((with_reducible refine gate_scall (f := 124) rfl ?_); refine step_goes rfl Tryz.func124 (by kernel_rfl) rfl #[.pointer (some ⟨d.t, 0, none⟩), .agg #[.int .u8 0, .int .u64 rep]] rfl (by simp only [List.map_toArray, List.map_cons, List.map_nil]; rfl) (hGet d.t d.g d.xd.m j d.es d.xd.seed d.tn _ _ _ H2.out.tb H2.out.xf.ch.mt HJ.out HFR.out) ?_; rintro e w3 ⟨v, ok, rfl, HV, _, HT3, HM3, HC3⟩; obtain rfl := H2.out.zero HV.out; refine ⟨_, rfl, ?_⟩))
  all_goals
    have H3 := Lib.hid (H2.out.readt HT3.out HM3.out HC3.out)
    have HC3r := Lib.hid (HC3.out.mono (T := d.red) (fun _ _ e => by rcases e with e | e; exact .inr e; exact .inl (.inr e)))
    have HC4 := Lib.hid ((HC1'.out.drew.then (Chg.of_below HB2.out)).then HC3r.out)
    have HK3 := Lib.hid (HC3r.out.blk ((Chg.of_below (S := d.red) HB2.out).blk (show w1.drew.heap[w.heap.size]? = _ from HK1.out) (HRED.out _ (Nat.le_refl _))) (HRED.out _ (Nat.le_refl _)))
    have d3 := H3.out.cells.2.2.2.1
    clear HTD H2 HT3 HM3 HC3 HC1' HB2 HK1 q2 H1 HC3r
    go_wp2_with fail
    refine (pcAt d.p d.xd.m d.v d.ls d.limit _ H3.out.pool 0 H3.out.xf.ch.mt (Nat.zero_le _)).mono ?_
    rintro e w5 ⟨y, ok2, rfl, HOK, HY, _, HP5, HM5, HC5⟩
    have hok : ok2 = true := by rw [HOK.out, HLS.out]; rfl
    subst hok
    obtain ⟨hn, hy⟩ := HY.out rfl
    obtain rfl : y = x := by rw [hy]; simp [HLS.out]
    have H5 := Lib.hid (H3.out.readm HM5.out HC5.out)
    have HC5r := Lib.hid (HC5.out.mono (T := d.red) (fun _ _ e => .inl (.inr e)))
    have HC6 := Lib.hid (HC4.out.then HC5r.out)
    have HK5 := Lib.hid (HC5r.out.blk HK3.out (HRED.out _ (Nat.le_refl _)))
    clear hn hy HY HOK HP5 HM5 HC5 H3 HC4 HK3 d3 HC5r
    obtain ⟨yr, yA, yn, yc, yp, yx⟩ := y
    have hA := (Below.refl w5.heap.size w5).alloc (Nat.le_refl _) (.cells #[.int .u64 yr, .slice yA yn yc, .int .i64 yp, .int .i64 yx] 232)
    have H6 := Lib.hid (H5.out.below hA)
    have HC7 := Lib.hid (HC6.out.then (Chg.of_below hA))
    have HK6 := Lib.hid (blk_below HK5.out hA rfl)
    have HN6 := Lib.hid (blk_new w5 #[.int .u64 yr, .slice yA yn yc, .int .i64 yp, .int .i64 yx] 232)
    have f0 := blk_free HK6.out 0
    have f1 := blk_free HK6.out 1
    have f2 := blk_free HK6.out 2
    have f3 := blk_free HK6.out 3
    have s0 := blk_cell HK6.out 0 rfl
    have s1 := blk_cell HK6.out 1 rfl
    have s2 := blk_cell HK6.out 2 rfl
    have s3 := blk_cell HK6.out 3 rfl
    have n0 := blk_cell HN6.out 0 rfl
    have n1 := blk_cell HN6.out 1 rfl
    have n2 := blk_cell HN6.out 2 rfl
    have n3 := blk_cell HN6.out 3 rfl
    have hle := HC7.out.size
    have H8 := Lib.hid ((H6.out.chg (S := (· = w.heap.size)) (putC (Chg.refl _ _) (.int .u64 yr) (.slice yA yn yc) (.int .i64 yp) (.int .i64 yx) (.inl rfl)) (fun q hq => HOWN.out q _ (Nat.le_refl _) hq)).drewn)
    have HC8 := Lib.hid ((putC HC7.out (b := w.heap.size) (.int .u64 yr) (.slice yA yn yc) (.int .i64 yp) (.int .i64 yx) (.inr (Nat.le_refl _))).drew)
    have HK8 := Lib.hid (blk_set (blk_set (blk_set (blk_set HK6.out 0 (.int .u64 yr)) 1 (.slice yA yn yc)) 2 (.int .i64 yp)) 3 (.int .i64 yx))
    clear hA H5 HC6 HK5 H6 HC7
    go_wp2
    go_region
    go_wp2
    have hk8 : ((((((w5.alloc (.cells #[.int .u64 yr, .slice yA yn yc, .int .i64 yp, .int .i64 yx] 232)).setCell ⟨w.heap.size, 0, none⟩ (.int .u64 yr)).setCell ⟨w.heap.size, 1, none⟩ (.slice yA yn yc)).setCell ⟨w.heap.size, 2, none⟩ (.int .i64 yp)).setCell ⟨w.heap.size, 3, none⟩ (.int .i64 yx)).drew).heap[w.heap.size]? = _ := HK8.out
    have k0 := blk_cell hk8 0 rfl
    have k1 := blk_cell hk8 1 rfl
    have k2 := blk_cell hk8 2 rfl
    have k3 := blk_cell hk8 3 rfl
    refine bodyPost_ret (v := .tuple #[.int .i64 0, .agg #[.int .u64 yr, .slice yA yn yc, .int .i64 yp, .int .i64 yx]]) (by simp [results, Tryz.results363, go_sem, k0, k1, k2, k3]) rfl ⟨rfl, H8.out, HC8.out⟩
end Go.Proofs.YtcnaikoloagbdaaGreat
namespace Go.Proofs.YtcnaikoloagbdaaGreat
set_option linter.unusedVariables false
set_option linter.unusedSimpArgs false
open Go.RowKit

theorem YP.rd {w : World} {d : YD} (h : YP w d) : Rd .u64 w d.kA d.ks ∧ d.ks.length ≤ d.kc := by
  obtain ⟨A, c, e, h1, _, h2⟩ := h.row.form
  unfold YD.kv at e
  injection e with e1 e2 e3
  subst e1; subst e3
  exact ⟨h2, h1⟩
/-- the bucket -/
abbrev YD.ce (d : YD) : Ce := ⟨0, d.kA, d.ks.length, d.kc, -1, -1⟩
theorem YS.one {d : YD} (h : YS d) (hn : 0 < d.n) : d.ls = [d.ce] := by
  rcases h.shape with ⟨e, _, _⟩ | ⟨e, _⟩
  · have := h.cnt.2.2 e; omega
  · exact e
theorem YS.zero {d : YD} (h : YS d) (hn : ¬ 0 < d.n) : d.ks = [] ∧ d.ls = [] ∧ d.xd.ls = [] := by
  have h0 := h.cnt.1
  have e := h.cnt.2.1 (by omega)
  rcases h.shape with e' | ⟨_, e'⟩
  · exact e'
  · exact absurd e e'
set_option maxRecDepth 100000 in
set_option maxHeartbeats 1000000 in
theorem ySee (d : YD) (w : World) (h : YP w d) (x : Ce) (hls : d.ls = [x]) : Calls Tryz.prog 364 #[.pointer (some ⟨d.y, 0, none⟩), .int .i64 0] w fun e w' => e = .returned (.agg #[.int .u64 x.rep, .slice x.kA x.kn x.kc, .int .i64 x.prev, .int .i64 x.next]) ∧ Hid (Below w.heap.size w w') := by
  have hA := (Below.refl w.heap.size w).alloc (Nat.le_refl _) (.cells #[.int .u64 0, .slice none 0 0, .int .i64 0, .int .i64 0] 232)
  have H0 := Lib.hid (h.below hA)
  have HB0 := Lib.hid hA
  have HK0 := Lib.hid (blk_new w #[.int .u64 0, .slice none 0 0, .int .i64 0, .int .i64 0] 232)
  have HLS := Lib.hid hls
  obtain ⟨_, _, _, d3, _⟩ := H0.out.cells
  clear h hA hls
  go_enter Tryz.func364, Tryz.ntmps364
  go_wp2_with fail
  generalize w.alloc (.cells #[.int .u64 0, .slice none 0 0, .int .i64 0, .int .i64 0] 232) = w0 at *
  refine (pcPeek d.p d.xd.m d.v d.ls d.limit _ H0.out.pool 0 (Nat.zero_le _)).mono ?_
  rintro e w5 ⟨y, rfl, HY, _, HB5⟩
  have hok : decide (0 ≤ (0 : Int) ∧ (0 : Int) < (d.ls.length : Int)) = true := by rw [HLS.out]; rfl
  rw [hok]
  obtain ⟨hn, hy⟩ := HY.out (of_decide_eq_true hok)
  obtain rfl : y = x := by rw [hy]; simp [HLS.out]
  clear hn hy HY hok
  obtain ⟨yr, yA, yn, yc, yp, yx⟩ := y
  have hA := (Below.refl w5.heap.size w5).alloc (Nat.le_refl _) (.cells #[.int .u64 yr, .slice yA yn yc, .int .i64 yp, .int .i64 yx] 232)
  have HK6 := Lib.hid (blk_below (blk_below HK0.out HB5.out rfl) hA rfl)
  have HN6 := Lib.hid (blk_new w5 #[.int .u64 yr, .slice yA yn yc, .int .i64 yp, .int .i64 yx] 232)
  have HB6 := Lib.hid (below_then (below_then HB0.out HB5.out) hA)
  have f0 := blk_free HK6.out 0
  have f1 := blk_free HK6.out 1
  have f2 := blk_free HK6.out 2
  have f3 := blk_free HK6.out 3
  have s0 := blk_cell HK6.out 0 rfl
  have s1 := blk_cell HK6.out 1 rfl
  have s2 := blk_cell HK6.out 2 rfl
  have s3 := blk_cell HK6.out 3 rfl
  have n0 := blk_cell HN6.out 0 rfl
  have n1 := blk_cell HN6.out 1 rfl
  have n2 := blk_cell HN6.out 2 rfl
  have n3 := blk_cell HN6.out 3 rfl
  have HC8 := Lib.hid (below_of_none (putC (Chg.of_below (S := fun _ => False) HB6.out) (b := w.heap.size) (.int .u64 yr) (.slice yA yn yc) (.int .i64 yp) (.int .i64 yx) (.inr (Nat.le_refl _))))
  have HK8 := Lib.hid (blk_set (blk_set (blk_set (blk_set HK6.out 0 (.int .u64 yr)) 1 (.slice yA yn yc)) 2 (.int .i64 yp)) 3 (.int .i64 yx))
  clear hA d3
  go_wp2
  have hk8 := HK8.out
  have k0 := blk_cell hk8 0 rfl
  have k1 := blk_cell hk8 1 rfl
  have k2 := blk_cell hk8 2 rfl
  have k3 := blk_cell hk8 3 rfl
  refine bodyPost_ret (v := .agg #[.int .u64 yr, .slice yA yn yc, .int .i64 yp, .int .i64 yx]) (by simp [results, Tryz.results364, go_sem, k0, k1, k2, k3]) rfl ⟨rfl, HC8.out⟩
set_option maxRecDepth 100000 in
theorem yHas (d : YD) (k : Int) (w : World) (h : YF w d) : Calls Tryz.prog 352 #[.pointer (some ⟨d.y, 0, none⟩), .int .u64 k] w fun e w' => ∃ (r : Bool) (u : Unit), e = .returned (.bool r) ∧ Hid (YP w' d) ∧ Hid (Chg d.red w w') := by
  have H := Lib.hid h.1
  have HS := Lib.hid h.2
  clear h
  go_enter Tryz.func352, Tryz.ntmps352
  go_wp2_with fail
  refine (yStart d _ H.out).mono ?_
  rintro e w1 ⟨rfl, H1, HC1⟩
  by_cases hl : 0 < d.n
  · rw [decide_eq_true hl]
    go_wp2_with fail
    refine (yFind d k _ H1.out d.ce (HS.out.one hl)).mono ?_
    rintro e w2 ⟨rfl, H2, HC2⟩
    have hA := (Below.refl w2.heap.size w2).alloc (Nat.le_refl _) (.cells #[.int .u64 0, .slice d.kA d.ks.length d.kc, .int .i64 (-1), .int .i64 (-1)] 232)
    have H3 := Lib.hid (H2.out.below hA)
    have HC3 := Lib.hid ((HC1.out.then HC2.out).then (Chg.of_below hA))
    have HL := Lib.hid HS.out.len
    clear hA
    go_wp2_with fail
    refine (bkHas d.kA d.kc d.ks k _ H3.out.rd.1 (by have := HL.out; omega)).mono ?_
    rintro e w4 ⟨r, _, rfl, HB4⟩
    have H4 := Lib.hid (H3.out.below HB4.out)
    have HC4 := Lib.hid (HC3.out.then (Chg.of_below HB4.out))
    go_wp2
    go_ret
    exact ⟨r, (), rfl, H4.out, HC4.out⟩
  · rw [decide_eq_false hl]
    go_wp2
    go_ret
    exact ⟨false, (), rfl, H1.out, HC1.out⟩
set_option maxRecDepth 100000 in
theorem yLen (d : YD) (w : World) (h : YP w d) : Calls Tryz.prog 354 #[.pointer (some ⟨d.y, 0, none⟩)] w fun e w' => e = .returned (.int .i64 d.n) ∧ w' = w := by
  obtain ⟨_, _, _, _, c4, _⟩ := h.cells
  clear h
  go_enter Tryz.func354, Tryz.ntmps354
  go_wp2
  go_ret
  exact ⟨rfl, rfl⟩
/-- behind a look at no bucket: B holds a zero one -/
def YZ (w wf : World) (d : YD) (B : Nat) : Prop := YP wf d ∧ Chg d.red w wf ∧ wf.heap[B]? = some (.cells #[.int .u64 0, .slice none 0 0, .int .i64 0, .int .i64 0] 232 (0, 0))
theorem yz1 {w w4 w5 : World} {d : YD} (h : YP w4 d) (hc : Chg d.red w w4) (hm : Mt w5 d.xd.m) (h5 : Chg (fun k => k = d.xd.m) w4 w5) : YZ w (w5.alloc (.cells #[.int .u64 0, .slice none 0 0, .int .i64 0, .int .i64 0] 232)) d w5.heap.size := by
  have hA := (Below.refl w5.heap.size w5).alloc (Nat.le_refl _) (.cells #[.int .u64 0, .slice none 0 0, .int .i64 0, .int .i64 0] 232)
  exact ⟨(h.readm hm h5).below hA, (hc.then (h5.mono (fun _ _ e => .inl (.inr e)))).then (Chg.of_below hA), blk_new _ _ _⟩
theorem yz2 {w w4 w5 : World} {d : YD} (h : YP w4 d) (hc : Chg d.red w w4) (hm : Mt w5 d.xd.m) (h5 : Chg (fun k => k = d.xd.m) (w4.alloc (.cells #[.int .u64 0, .slice none 0 0, .int .i64 0, .int .i64 0] 232)) w5) : w5.heap[w4.heap.size]? = some (.cells #[.int .u64 0, .slice none 0 0, .int .i64 0, .int .i64 0] 232 (0, 0)) ∧ YZ w ((((w5.setCell ⟨w4.heap.size, 0, none⟩ (.int .u64 0)).setCell ⟨w4.heap.size, 1, none⟩ (.slice none 0 0)).setCell ⟨w4.heap.size, 2, none⟩ (.int .i64 0)).setCell ⟨w4.heap.size, 3, none⟩ (.int .i64 0)) d w4.heap.size := by
  have hA := (Below.refl w4.heap.size w4).alloc (Nat.le_refl _) (.cells #[.int .u64 0, .slice none 0 0, .int .i64 0, .int .i64 0] 232)
  have hml : d.xd.m < w4.heap.size := h.xf.lt _ (.inr (.inr (.inr (.inr (.inr (.inl rfl))))))
  have hb : w5.heap[w4.heap.size]? = _ := h5.blk (blk_new w4 _ _) (by omega)
  have h6 := (h.below hA).readm hm h5
  refine ⟨hb, h6.chg (S := (· = w4.heap.size)) (putC (Chg.refl _ _) _ _ _ _ (.inl rfl)) (fun q hq e => by have := h.lt q hq; omega), putC ((hc.then (Chg.of_below hA)).then (h5.mono (fun _ _ e => .inl (.inr e)))) _ _ _ _ (.inr hc.size), ?_⟩
  exact blk_set (blk_set (blk_set (blk_set hb 0 _) 1 _) 2 _) 3 _
set_option maxRecDepth 100000 in
set_option maxHeartbeats 2000000 in
theorem yNext (d : YD) (k : Int) (w : World) (h : YF w d) : Calls Tryz.prog 358 #[.pointer (some ⟨d.y, 0, none⟩), .int .u64 k] w fun e w' => ∃ (x : Int) (b : Bool), e = .returned (.tuple #[.int .u64 x, .bool b]) ∧ Hid (YP w' d) ∧ Hid (Chg d.red w w') := by
  have H := Lib.hid h.1
  have HS := Lib.hid h.2
  clear h
  go_enter Tryz.func358, Tryz.ntmps358
  go_wp2_with fail
  refine (yStart d _ H.out).mono ?_
  rintro e w1 ⟨rfl, H1, HC1⟩
  by_cases hl : 0 < d.n
  · rw [decide_eq_true hl]
    go_wp2_with fail
    refine (yFind d k _ H1.out d.ce (HS.out.one hl)).mono ?_
    rintro e w2 ⟨rfl, H2, HC2⟩
    have hA := (Below.refl w2.heap.size w2).alloc (Nat.le_refl _) (.cells #[.int .u64 0, .slice d.kA d.ks.length d.kc, .int .i64 (-1), .int .i64 (-1)] 232)
    have H3 := Lib.hid (H2.out.below hA)
    have HC3 := Lib.hid ((HC1.out.then HC2.out).then (Chg.of_below hA))
    have HN3 := Lib.hid (blk_new w2 #[.int .u64 0, .slice d.kA d.ks.length d.kc, .int .i64 (-1), .int .i64 (-1)] 232)
    have HL := Lib.hid HS.out.len
    clear hA
    go_wp2_with fail
    refine (bkNext d.kA d.kc d.ks k _ H3.out.rd.1 (by have := HL.out; omega)).mono ?_
    rintro e w4 ⟨r, ok, _, rfl, HB4⟩
    have H4 := Lib.hid (H3.out.below HB4.out)
    have HC4 := Lib.hid (HC3.out.then (Chg.of_below HB4.out))
    have HN4 := Lib.hid (blk_below HN3.out HB4.out rfl)
    have n0 := blk_cell HN4.out 0 rfl
    have n1 := blk_cell HN4.out 1 rfl
    have n2 := blk_cell HN4.out 2 rfl
    have n3 := blk_cell HN4.out 3 rfl
    have d3 := H4.out.cells.2.2.2.1
    cases ok
    · have HD := Lib.hid H4.out.drewn
      have hA := (Below.refl w4.heap.size w4).alloc (Nat.le_refl _) (.cells #[.int .u64 0, .slice none 0 0, .int .i64 0, .int .i64 0] 232)
      have HD2 := Lib.hid (H4.out.below hA).drewn
      have n2' := blk_cell (blk_below HN4.out hA rfl) 2 (v := .int .i64 (-1)) rfl
      have n3' := blk_cell (blk_below HN4.out hA rfl) 3 (v := .int .i64 (-1)) rfl
      have d3' := (H4.out.below hA).cells.2.2.2.1
      have HB1 := Lib.hid (fun w5 hm hc => yz1 (w5 := w5) H4.out HC4.out hm ((Chg.refl _ _).drew.then hc))
      have HB2 := Lib.hid (fun w5 hm hc => yz2 (w5 := w5) H4.out HC4.out hm ((Chg.refl _ _).drew.then hc))
      go_wp2
      go_region_law (first | ((with_reducible refine gate_scall (f := 375) rfl ?_); refine step_goes rfl Tryz.func375 (by kernel_rfl) rfl #[.pointer (some ⟨d.p, 0, none⟩), .int .i64 (-1)] rfl (by simp only [List.map_toArray, List.map_cons, List.map_nil]; rfl) (pcAt d.p d.xd.m d.v d.ls d.limit _ HD.out.pool (-1) HD.out.xf.ch.mt (Nat.zero_le _)) ?_; rintro e w5 ⟨y, ok2, rfl, HOK, _, HZ, HP5, HM5, HC5⟩; obtain rfl : ok2 = false := HOK.out.trans (by simp); obtain rfl := HZ.out rfl; have HF := Lib.hid (HB1.out _ HM5.out HC5.out); refine ⟨_, rfl, ?_⟩) | ((with_reducible refine gate_scall (f := 375) rfl ?_); refine step_goes rfl Tryz.func375 (by kernel_rfl) rfl #[.pointer (some ⟨d.p, 0, none⟩), .int .i64 (-1)] rfl (by simp only [List.map_toArray, List.map_cons, List.map_nil]; rfl) (pcAt d.p d.xd.m d.v d.ls d.limit _ HD2.out.pool (-1) HD2.out.xf.ch.mt (Nat.zero_le _)) ?_; rintro e w5 ⟨y, ok2, rfl, HOK, _, HZ, HP5, HM5, HC5⟩; obtain rfl : ok2 = false := HOK.out.trans (by simp); obtain rfl := HZ.out rfl; have hb := (HB2.out _ HM5.out HC5.out).1; have HF := Lib.hid (HB2.out _ HM5.out HC5.out).2; have e0 := blk_cell hb 0 (v := .int .u64 0) rfl; have e1 := blk_cell hb 1 (v := .slice none 0 0) rfl; have e2 := blk_cell hb 2 (v := .int .i64 0) rfl; have e3 := blk_cell hb 3 (v := .int .i64 0) rfl; have f0 := blk_free hb 0; have f1 := blk_free hb 1; have f2 := blk_free hb 2; have f3 := blk_free hb 3; clear hb; refine ⟨_, rfl, ?_⟩))
      all_goals
        clear HM5 HC5 HP5 HB1 HB2
        have k1 := blk_cell HF.out.2.2 1 (v := .slice none 0 0) rfl
        go_wp2_with fail
        refine (bkNext none 0 [] 0 _ (Rd.nil _ _ _) (by simp)).mono ?_
        rintro e w6 ⟨r6, ok6, _, rfl, HB6⟩
        have H6 := Lib.hid (HF.out.1.below HB6.out)
        have HC6 := Lib.hid (HF.out.2.1.then (Chg.of_below HB6.out))
        go_wp2
        go_ret2
        exact ⟨r6, ok6, rfl, H6.out, HC6.out⟩
    · go_wp2
      go_ret2
      exact ⟨r, true, rfl, H4.out, HC4.out⟩
  · rw [decide_eq_false hl]
    go_wp2
    go_ret2
    exact ⟨0, false, rfl, H1.out, HC1.out⟩
set_option maxRecDepth 100000 in
set_option maxHeartbeats 2000000 in
theorem yPrev (d : YD) (k : Int) (w : World) (h : YF w d) : Calls Tryz.prog 359 #[.pointer (some ⟨d.y, 0, none⟩), .int .u64 k] w fun e w' => ∃ (x : Int) (b : Bool), e = .returned (.tuple #[.int .u64 x, .bool b]) ∧ Hid (YP w' d) ∧ Hid (Chg d.red w w') := by
  have H := Lib.hid h.1
  have HS := Lib.hid h.2
  clear h
  go_enter Tryz.func359, Tryz.ntmps359
  go_wp2_with fail
  refine (yStart d _ H.out).mono ?_
  rintro e w1 ⟨rfl, H1, HC1⟩
  by_cases hl : 0 < d.n
  · rw [decide_eq_true hl]
    go_wp2_with fail
    refine (yFind d k _ H1.out d.ce (HS.out.one hl)).mono ?_
    rintro e w2 ⟨rfl, H2, HC2⟩
    have hA := (Below.refl w2.heap.size w2).alloc (Nat.le_refl _) (.cells #[.int .u64 0, .slice d.kA d.ks.length d.kc, .int .i64 (-1), .int .i64 (-1)] 232)
    have H3 := Lib.hid (H2.out.below hA)
    have HC3 := Lib.hid ((HC1.out.then HC2.out).then (Chg.of_below hA))
    have HN3 := Lib.hid (blk_new w2 #[.int .u64 0, .slice d.kA d.ks.length d.kc, .int .i64 (-1), .int .i64 (-1)] 232)
    have HL := Lib.hid HS.out.len
    clear hA
    go_wp2_with fail
    refine (bkPrev d.kA d.kc d.ks k _ H3.out.rd.1 (by have := HL.out; omega)).mono ?_
    rintro e w4 ⟨r, ok, _, rfl, HB4⟩
    have H4 := Lib.hid (H3.out.below HB4.out)
    have HC4 := Lib.hid (HC3.out.then (Chg.of_below HB4.out))
    have HN4 := Lib.hid (blk_below HN3.out HB4.out rfl)
    have n0 := blk_cell HN4.out 0 rfl
    have n1 := blk_cell HN4.out 1 rfl
    have n2 := blk_cell HN4.out 2 rfl
    have n3 := blk_cell HN4.out 3 rfl
    have d3 := H4.out.cells.2.2.2.1
    cases ok
    · have HD := Lib.hid H4.out.drewn
      have hA := (Below.refl w4.heap.size w4).alloc (Nat.le_refl _) (.cells #[.int .u64 0, .slice none 0 0, .int .i64 0, .int .i64 0] 232)
      have HD2 := Lib.hid (H4.out.below hA).drewn
      have n2' := blk_cell (blk_below HN4.out hA rfl) 2 (v := .int .i64 (-1)) rfl
      have n3' := blk_cell (blk_below HN4.out hA rfl) 3 (v := .int .i64 (-1)) rfl
      have d3' := (H4.out.below hA).cells.2.2.2.1
      have HB1 := Lib.hid (fun w5 hm hc => yz1 (w5 := w5) H4.out HC4.out hm ((Chg.refl _ _).drew.then hc))
      have HB2 := Lib.hid (fun w5 hm hc => yz2 (w5 := w5) H4.out HC4.out hm ((Chg.refl _ _).drew.then hc))
      go_wp2
      go_region_law (first | ((with_reducible refine gate_scall (f := 375) rfl ?_); refine step_goes rfl Tryz.func375 (by kernel_rfl) rfl #[.pointer (some ⟨d.p, 0, none⟩), .int .i64 (-1)] rfl (by simp only [List.map_toArray, List.map_cons, List.map_nil]; rfl) (pcAt d.p d.xd.m d.v d.ls d.limit _ HD.out.pool (-1) HD.out.xf.ch.mt (Nat.zero_le _)) ?_; rintro e w5 ⟨y, ok2, rfl, HOK, _, HZ, HP5, HM5, HC5⟩; obtain rfl : ok2 = false := HOK.out.trans (by simp); obtain rfl := HZ.out rfl; have HF := Lib.hid (HB1.out _ HM5.out HC5.out); refine ⟨_, rfl, ?_⟩) | ((with_reducible refine gate_scall (f := 375) rfl ?_); refine step_goes rfl Tryz.func375 (by kernel_rfl) rfl #[.pointer (some ⟨d.p, 0, none⟩), .int .i64 (-1)] rfl (by simp only [List.map_toArray, List.map_cons, List.map_nil]; rfl) (pcAt d.p d.xd.m d.v d.ls d.limit _ HD2.out.pool (-1) HD2.out.xf.ch.mt (Nat.zero_le _)) ?_; rintro e w5 ⟨y, ok2, rfl, HOK, _, HZ, HP5, HM5, HC5⟩; obtain rfl : ok2 = false := HOK.out.trans (by simp); obtain rfl := HZ.out rfl; have hb := (HB2.out _ HM5.out HC5.out).1; have HF := Lib.hid (HB2.out _ HM5.out HC5.out).2; have e0 := blk_cell hb 0 (v := .int .u64 0) rfl; have e1 := blk_cell hb 1 (v := .slice none 0 0) rfl; have e2 := blk_cell hb 2 (v := .int .i64 0) rfl; have e3 := blk_cell hb 3 (v := .int .i64 0) rfl; have f0 := blk_free hb 0; have f1 := blk_free hb 1; have f2 := blk_free hb 2; have f3 := blk_free hb 3; clear hb; refine ⟨_, rfl, ?_⟩))
      all_goals
        clear HM5 HC5 HP5 HB1 HB2
        have k1 := blk_cell HF.out.2.2 1 (v := .slice none 0 0) rfl
        go_wp2_with fail
        refine (bkPrev none 0 [] k _ (Rd.nil _ _ _) (by simp)).mono ?_
        rintro e w6 ⟨r6, ok6, _, rfl, HB6⟩
        have H6 := Lib.hid (HF.out.1.below HB6.out)
        have HC6 := Lib.hid (HF.out.2.1.then (Chg.of_below HB6.out))
        go_wp2
        go_ret2
        exact ⟨r6, ok6, rfl, H6.out, HC6.out⟩
    · go_wp2
      go_ret2
      exact ⟨r, true, rfl, H4.out, HC4.out⟩
  · rw [decide_eq_false hl]
    go_wp2
    go_ret2
    exact ⟨0, false, rfl, H1.out, HC1.out⟩
end Go.Proofs.YtcnaikoloagbdaaGreat
