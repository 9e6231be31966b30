/-
  trie.Trie: Insert of the key 5 into an empty one, walked.
-/
import Derived.Test.YtcnaikoloagbdaaGreatQTrA
namespace Go.Proofs.YtcnaikoloagbdaaGreat
set_option linter.unusedVariables false
set_option linter.unusedSimpArgs false
open Go.RowKit

theorem use_sameT {T G : Prop} (rest : T) (main : T → G) : G := main rest
/-- nodes of the key 5 -/
def Nds (w : World) (kb : Nat → Prop) (ls : List No) : Prop := ∀ (j : Nat) (hj : j < ls.length), Nd w kb ls[j] j
theorem Nds.stay {w w' : World} {kb kb' : Nat → Prop} {ls : List No} (h : Nds w kb ls) (hk : ∀ g, kb g → kb' g) (hs : ∀ g, kb g → w'.heap[g]? = w.heap[g]?) : Nds w' kb' ls := fun j hj => (h j hj).stay hk hs
theorem Nds.snoc {w : World} {kb : Nat → Prop} {ls : List No} {x : No} (h : Nds w kb ls) (hx : Nd w kb x ls.length) : Nds w kb (ls ++ [x]) := fun j hj => by
  by_cases e : j < ls.length
  · rw [List.getElem_append_left e]; exact h j e
  · obtain rfl : j = ls.length := by simp at hj; omega
    simpa using hx
set_option maxRecDepth 100000 in
theorem tPath0 (d : TD) (k : Int) (w : World) (h : TP w d) (hn : d.n = 0) : Calls Tryz.prog 406 #[.pointer (some ⟨d.t, 0, none⟩), .int .u64 k] w fun e w' => e = .returned (.slice none 0 0) ∧ w' = w := by
  have c3 := h.cells.2.2.2
  rw [hn] at c3
  clear h hn
  go_enter Tryz.func406, Tryz.ntmps406
  go_wp2
  go_ret
  exact ⟨rfl, rfl⟩
set_option maxRecDepth 100000 in
theorem tHas0 (d : TD) (k : Int) (w : World) (h : TP w d) (hn : d.n = 0) : Calls Tryz.prog 393 #[.pointer (some ⟨d.t, 0, none⟩), .int .u64 k] w fun e w' => e = .returned (.bool false) ∧ Hid (TP w' d) ∧ Hid (Chg d.red w w') := by
  have H := Lib.hid h
  have HN := Lib.hid hn
  clear h hn
  go_enter Tryz.func393, Tryz.ntmps393
  go_wp2_with fail
  refine (tStart d _ H.out).mono ?_
  rintro e w1 ⟨rfl, H1, HC1⟩
  rw [HN.out, decide_eq_false (by omega)]
  go_wp2
  go_ret
  exact ⟨rfl, H1.out, HC1.out⟩
theorem TP.nx {w : World} {d : TD} (h : TP w d) {X : Nat} (hX : ty w X 239) : ∀ k, d.own k → k ≠ X := by
  obtain ⟨t1, t2, t3, t4, t5⟩ := h.tys
  rintro k (rfl | rfl | rfl | hk | hk)
  · exact t1.ne hX (by decide)
  · exact t2.ne hX (by decide)
  · exact t3.ne hX (by decide)
  · exact (t4 k hk).ne hX (by decide)
  · exact (t5 k hk).ne hX (by decide)
/-- with other nodes -/
abbrev TD.ins (d : TD) (v : Value) (ls : List No) (kb : Nat → Prop) : TD := ⟨d.t, d.p, d.m, v, ls, d.limit, d.root, d.n, kb⟩
theorem TP.more {w w' : World} {d : TD} {v v' : Value} {ls ls' : List No} {kb : Nat → Prop} (h : TP w (d.ins v ls kb)) (hp : PoN w' 0 d.p d.m v' ls' d.limit) (hc : Chg (fun k => k = d.p ∨ v.ownBlock = some k) w w') : TP w' (d.ins v' ls' kb) := by
  obtain ⟨t1, t2, t3, t4, t5⟩ := h.tys
  have ne : ∀ q t, ty w q t → t ≠ 282 → t ≠ 421 → ¬ (q = d.p ∨ v.ownBlock = some q) := by
    rintro q t hq h1 h2 (e | e)
    · exact hq.ne t2 h1 e
    · exact hq.ne (t4 q e) h2 rfl
  refine ⟨hc.blk h.head (ne _ _ t1 (by decide) (by decide)), hp, h.mt.chg hc (ne _ _ t3 (by decide) (by decide)), fun k hk => ?_, h.lim⟩
  obtain ⟨cs, h1⟩ := h.kids k hk
  exact ⟨cs, hc.blk h1 (ne _ _ (t5 k hk) (by decide) (by decide))⟩
theorem TP.kidm {w : World} {d : TD} {v : Value} {ls : List No} {kb kb' : Nat → Prop} (h : TP w (d.ins v ls kb)) (hk : ∀ g, kb' g → kb g ∨ ty w g 3) : TP w (d.ins v ls kb') :=
  ⟨h.head, h.pool, h.mt, fun k hk' => (hk k hk').elim (h.kids k) id, h.lim⟩
theorem TP.fin {w w' : World} {d : TD} {v : Value} {ls : List No} {kb : Nat → Prop} (h : TP w (d.ins v ls kb)) (hc : Chg (· = d.t) w w') (hb : w'.heap[d.t]? = some (.cells #[.pointer (some ⟨d.m, 0, none⟩), .pointer (some ⟨d.p, 0, none⟩), .int .i64 10, .int .i64 1] 241 (0, 0))) : TP w' ⟨d.t, d.p, d.m, v, ls, d.limit, 10, 1, kb⟩ := by
  obtain ⟨t1, t2, t3, t4, t5⟩ := h.tys
  refine ⟨hb, h.pool.chg hc (t2.ne t1 (by decide)) (fun g hg => (t4 g hg).ne t1 (by decide)), h.mt.chg hc (t3.ne t1 (by decide)), fun k hk => ?_, h.lim⟩
  obtain ⟨cs, h1⟩ := h.kids k hk
  exact ⟨cs, hc.blk h1 ((t5 k hk).ne t1 (by decide))⟩
set_option maxRecDepth 100000 in
set_option maxHeartbeats 4000000 in
theorem tInsert (d : TD) (w : World) (h : TP w d) (hn : d.n = 0) (hls : d.ls = []) (hlim : 11 ≤ d.limit) (hkb : ∀ g, ¬ d.kb g) : Calls Tryz.prog 394 #[.pointer (some ⟨d.t, 0, none⟩), .int .u64 5] w fun e w' => e = .returned (.int .i64 0) ∧ ∃ d' : TD, Hid (TP w' d') ∧ Hid (d'.t = d.t ∧ d'.n = 1 ∧ d'.root = 10 ∧ d'.ls.length = 11) ∧ Hid (Nds w' d'.kb d'.ls) ∧ Hid (∀ q, d'.own q → d.own q ∨ w.heap.size ≤ q) ∧ Hid (Chg d.own w w') := by
  have H := Lib.hid h
  have HN := Lib.hid hn
  have HLS := Lib.hid hls
  have HKB := Lib.hid hkb
  have hlim2 := h.lim.2
  have HRO := Lib.hid (show ∀ q, d.red q → d.own q from fun q e => .inr (.inr (.inl e)))
  clear h hn hls hkb
  go_enter Tryz.func394, Tryz.ntmps394
  go_wp2_with fail
  refine (tHas0 d 5 _ H.out HN.out).mono ?_
  rintro e w1 ⟨rfl, H1, HC1⟩
  have HC1' := Lib.hid (HC1.out.mono (T := d.own) (fun q _ e => HRO.out q e))
  go_wp2_with fail
  refine (tPath0 d 5 _ H1.out HN.out).mono ?_
  rintro e w2 ⟨rfl, rfl⟩
  have c1 := H1.out.cells.2.1
  have hlen0 : d.ls.length = 0 := by rw [HLS.out]; rfl
  clear HC1
  go_wp2_with fail
  refine (pnRoom d.p d.m d.v d.ls d.limit _ H1.out.pool 11 (by omega) (by omega) hlim2 (by omega)).mono ?_
  rintro e w3 ⟨rfl, HB3⟩
  have H3 := Lib.hid (H1.out.below HB3.out)
  have HC3 := Lib.hid (HC1'.out.then (Chg.of_below HB3.out))
  clear HC1' HB3 H1 c1 hlen0
  go_wp2
  go_loopw [6, 7, 8, 9, 10] (fun v6 v7 _ _ _ wr => ∃ (i : Int) (c : Nat) (ch : Int) (v : Value) (ls : List No) (kb : Nat → Prop), v6 = .int .i64 ch ∧ v7 = .int .i64 i ∧ -1 ≤ i ∧ i ≤ 10 ∧ Hid (i + c = 10) ∧ Hid (ch = if c = 0 then 0 else (c : Int) - 1) ∧ Hid (ls.length = c) ∧ Hid (TP wr (d.ins v ls kb)) ∧ Hid (Nds wr kb ls) ∧ Hid ((∀ g, kb g → w.heap.size ≤ g) ∧ ∀ g, v.ownBlock = some g → d.own g ∨ w.heap.size ≤ g) ∧ Hid (Chg d.own w wr)) (fun _ v7 _ _ _ _ => (intOf v7 + 1).toNat)
  case atStart => exact ⟨10, 0, 0, d.v, d.ls, d.kb, rfl, rfl, by omega, by omega, rfl, rfl, by show _ = _; rw [HLS.out]; rfl, H3.out, (by show Nds _ _ _; rw [HLS.out]; exact fun j hj => absurd hj (by simp)), ⟨fun g hg => absurd hg (HKB.out g), fun g hg => .inl (.inr (.inr (.inr (.inl hg))))⟩, HC3.out⟩
  case round =>
    clear H3 HC3
    obtain ⟨i, c, ch, v, ls, kb, rfl, rfl, hi1, hi2, HIC, HCH, HL, HT, HND, HKV, HC⟩ := hrel
    by_cases hi0 : 0 ≤ i
    · obtain ⟨L, rfl⟩ := Int.eq_ofNat_of_zero_le hi0
      have hL : L ≤ 10 := by omega
      go_wp2_with fail
      refine (tAt L hL _).mono ?_
      rintro e w4 ⟨rfl, rfl⟩
      have hz4 := HC.out.size
      by_cases hL10 : L = 10
      · subst hL10
        obtain rfl : c = 0 := by have := HIC.out; omega
        obtain rfl : ch = 0 := by have := HCH.out; simpa using this
        have hA := (Below.refl w4.heap.size w4).alloc (Nat.le_refl _) (.cells #[.int .u64 32, .slice none 0 0, .int .i64 0, .int .u64 0, .int .u64 0] 239)
        have HT5 := Lib.hid (HT.out.below hA)
        have HND5 := Lib.hid (HND.out.stay (fun _ h => h) (fun g hg => hA.block g (HT.out.lt g (.inr (.inr (.inr (.inr hg)))))))
        have HC5 := Lib.hid (HC.out.then (Chg.of_below hA))
        have HX5 := Lib.hid (blk_new w4 #[.int .u64 32, .slice none 0 0, .int .i64 0, .int .u64 0, .int .u64 0] 239)
        have HKV5 := HKV
        have HNX := Lib.hid (show Nd (w4.alloc (.cells #[.int .u64 32, .slice none 0 0, .int .i64 0, .int .u64 0, .int .u64 0] 239)) kb ⟨32, none, 0, 0, 1, 5, 5⟩ 0 from ⟨rfl, rfl, rfl, rfl, fun h => by omega⟩)
        clear hA HT HND HC HKV
        go_wp2_with fail
        refine (getZ 5 (by decide) _).mono ?_
        rintro e w5 ⟨rfl, rfl⟩
        go_wp2_with fail
        refine (set5 _).mono ?_
        rintro e w5 ⟨rfl, rfl⟩
        have hgr : ∀ wq, Calls Tryz.prog 419 #[.agg #[.int .u64 32, .slice none 0 0, .int .i64 0, .int .u64 0, .int .u64 0], .int .u64 5] wq fun e w' => e = .returned (.agg #[.int .u64 32, .slice none 0 0, .int .i64 1, .int .u64 5, .int .u64 5]) ∧ Hid (Below wq.heap.size wq w') := fun wq => tGrown 32 none 0 0 wq
        have HGR := Lib.hid hgr
        clear hgr
        go_wp2_with fail
        generalize w4.alloc (.cells #[.int .u64 32, .slice none 0 0, .int .i64 0, .int .u64 0, .int .u64 0] 239) = wx at *
        skip
        refine (HGR.out _).mono ?_
        rintro e w6 ⟨rfl, HB6⟩
        have HT6 := Lib.hid (HT5.out.below HB6.out)
        have HND6 := Lib.hid (HND5.out.stay (kb' := kb) (fun _ h => h) (fun g hg => HB6.out.block g (HT5.out.lt g (.inr (.inr (.inr (.inr hg)))))))
        have HNX6 := Lib.hid (HNX.out.stay (kb' := kb) (fun _ h => h) (fun g hg => HB6.out.block g (HT5.out.lt g (.inr (.inr (.inr (.inr hg)))))))
        have HC6 := Lib.hid (HC5.out.then (Chg.of_below HB6.out))
        have HX6 := Lib.hid (blk_below HX5.out HB6.out rfl)
        have f0 := blk_free HX6.out 0
        have f1 := blk_free HX6.out 1
        have f2 := blk_free HX6.out 2
        have f3 := blk_free HX6.out 3
        have f4 := blk_free HX6.out 4
        have s0 := blk_cell HX6.out 0 rfl
        have s1 := blk_cell HX6.out 1 rfl
        have s2 := blk_cell HX6.out 2 rfl
        have s3 := blk_cell HX6.out 3 rfl
        have s4 := blk_cell HX6.out 4 rfl
        have hcs := putN (Chg.refl (· = w4.heap.size) w6) (b := w4.heap.size) (.int .u64 32) (.slice none 0 0) (.int .i64 1) (.int .u64 5) (.int .u64 5) (.inl rfl)
        have HT7 := Lib.hid (HT6.out.chg hcs (HT6.out.nx ⟨_, HX6.out⟩))
        have HND7 := Lib.hid (HND6.out.stay (kb' := kb) (fun _ h => h) (fun g hg => hcs.block g (HT6.out.lt g (.inr (.inr (.inr (.inr hg))))) (HT6.out.nx ⟨_, HX6.out⟩ g (.inr (.inr (.inr (.inr hg)))))))
        have HNX7 := Lib.hid (HNX6.out.stay (kb' := kb) (fun _ h => h) (fun g hg => hcs.block g (HT6.out.lt g (.inr (.inr (.inr (.inr hg))))) (HT6.out.nx ⟨_, HX6.out⟩ g (.inr (.inr (.inr (.inr hg)))))))
        have HC7 := Lib.hid (putN HC6.out (b := w4.heap.size) (.int .u64 32) (.slice none 0 0) (.int .i64 1) (.int .u64 5) (.int .u64 5) (.inr hz4))
        have HX7 := Lib.hid (blk_set (blk_set (blk_set (blk_set (blk_set HX6.out 0 (.int .u64 32)) 1 (.slice none 0 0)) 2 (.int .i64 1)) 3 (.int .u64 5)) 4 (.int .u64 5))
        clear hcs HT5 HND5 HC5 HX5 HT6 HND6 HC6 HX6 HGR HNX HNX6
        go_wp2
        generalize ((((w6.setCell ⟨w4.heap.size, 0, none⟩ (.int .u64 32)).setCell ⟨w4.heap.size, 1, none⟩ (.slice none 0 0)).setCell ⟨w4.heap.size, 2, none⟩ (.int .i64 1)).setCell ⟨w4.heap.size, 3, none⟩ (.int .u64 5)).setCell ⟨w4.heap.size, 4, none⟩ (.int .u64 5) = w7 at *
        clear s0 s1 s2 s3 s4 f0 f1 f2 f3 f4
        have s0 := blk_cell HX7.out 0 (v := .int .u64 32) rfl
        have s1 := blk_cell HX7.out 1 (v := .slice none 0 0) rfl
        have s2 := blk_cell HX7.out 2 (v := .int .i64 1) rfl
        have s3 := blk_cell HX7.out 3 (v := .int .u64 5) rfl
        have s4 := blk_cell HX7.out 4 (v := .int .u64 5) rfl
        have q1 : w7.cell? ⟨d.t, 1, none⟩ = some (.pointer (some ⟨d.p, 0, none⟩)) := HT7.out.cells.2.1
        have HD7 := Lib.hid HT7.out.drewn
        have hlc := HL.out
        have hic := HIC.out
        have hroom : (ls.length : Int) + 1 ≤ d.limit := by omega
        have hl1000 : ls.length ≤ 1000 := by omega
        have HKT := Lib.hid (fun q (hq : (d.ins v ls kb).own q) => HT7.out.lt q hq)
        have hw7 := HC7.out.size
        go_region_law (first | ((with_reducible refine gate_scall (f := 420) rfl ?_); refine step_goes rfl Tryz.func420 (by kernel_rfl) rfl #[.pointer (some ⟨d.p, 0, none⟩), .agg #[.int .u64 32, .slice none 0 0, .int .i64 1, .int .u64 5, .int .u64 5]] rfl (by simp only [List.map_toArray, List.map_cons, List.map_nil]; rfl) (pnAlloc d.p d.m v ls d.limit _ HD7.out.pool _ _ _ _ _ _ _ (Nat.zero_le _) hroom hlim2 hl1000) ?_; rintro e w8 ⟨v', rfl, HP8, HV8, HC8⟩; refine ⟨_, rfl, ?_⟩))
        all_goals
          have HT8 := Lib.hid (HD7.out.more HP8.out HC8.out)
          have hks : ∀ gg, kb gg → w8.heap[gg]? = w7.heap[gg]? := fun g hg => HC8.out.block g (show g < w7.heap.size from HKT.out g (.inr (.inr (.inr (.inr hg))))) (by
            obtain ⟨t1, t2, t3, t4, t5⟩ := HT7.out.tys
            rintro (e | e)
            · exact (t5 g hg).ne t2 (by decide) e
            · exact (t5 g hg).ne (t4 g e) (by decide) rfl)
          have HND8 := Lib.hid ((HND7.out.stay (kb' := kb) (fun _ h => h) hks).snoc (x := ⟨32, none, 0, 0, 1, 5, 5⟩) (by rw [hlc]; exact HNX7.out.stay (kb' := kb) (fun _ h => h) hks))
          have HKV8 := Lib.hid (show (∀ gg, kb gg → w.heap.size ≤ gg) ∧ ∀ g, v'.ownBlock = some g → d.own g ∨ w.heap.size ≤ g from ⟨HKV5.out.1, fun g hg => by
            rcases HV8.out with h | ⟨g2, h, hg2⟩
            · exact HKV5.out.2 g (h.symm.trans hg)
            · rw [h] at hg; cases hg; have e7 : w7.drew.heap.size = w7.heap.size := rfl; right; omega⟩)
          have HC9 := Lib.hid (HC7.out.drew.trans HC8.out (fun q hq e => by
            rcases e with e | e
            · exact .inr (.inl e)
            · exact (HKV5.out.2 q e).resolve_right (by omega)))
          clear HD7 HP8 HC8 HV8 hks
          go_wp2
          go_roundw
          case rel => exact ⟨9, 0 + 1, ((0 : Nat) : Int), v', _, kb, by first | rfl | (congr 1; omega) | (simp; omega), by first | rfl | go_num, by omega, by omega, by show _ = _; omega, by show _ = _; rw [if_neg (by omega)]; simp, by show _ = _; rw [List.length_append, hlc]; rfl, HT8.out, HND8.out, HKV8.out, HC9.out⟩
          case measure => first | (simp [intOf]; done) | (simp [intOf]; omega)
      · rw [if_neg hL10]
        have hLi : (L : Int) < 10 := by omega
        have hc1 : 1 ≤ c := by have := HIC.out; omega
        obtain rfl : ch = (c : Int) - 1 := by have := HCH.out; rw [if_neg (by omega)] at this; exact this
        have hA0 := (Below.refl w4.heap.size w4).alloc (Nat.le_refl _) (.cells #[.int .u64 0, .slice none 0 0, .int .i64 0, .int .u64 0, .int .u64 0] 239)
        have HB0 := Lib.hid hA0
        have HX0 := Lib.hid (blk_new w4 #[.int .u64 0, .slice none 0 0, .int .i64 0, .int .u64 0, .int .u64 0] 239)
        have HT0 := Lib.hid (HT.out.below hA0)
        have HND0 := Lib.hid (HND.out.stay (fun _ h => h) (fun g hg => hA0.block g (HT.out.lt g (.inr (.inr (.inr (.inr hg)))))))
        have HC0 := Lib.hid (HC.out.then (Chg.of_below hA0))
        clear hA0
        have x0 := blk_cell HX0.out 0 rfl
        have x1 := blk_cell HX0.out 1 rfl
        go_wp2_with fail
        refine (getZ 0 (by decide) _).mono ?_
        rintro e w5 ⟨rfl, rfl⟩
        go_wp2
        generalize w4.alloc (.cells #[.int .u64 0, .slice none 0 0, .int .i64 0, .int .u64 0, .int .u64 0] 239) = wx at *
        have hXl := blk_lt HX0.out
        have hzx := HC0.out.size
        have HPRE := Lib.hid (show ∀ (wI : World) (g gc : Nat), 1 ≤ gc → (wx.alloc (.cells #[.int .i64 ((c : Int) - 1)] 3)).heap.size ≤ g → (∃ cur, wI.heap[g]? = some (.cells cur 3 (0, 0)) ∧ cur[0]? = some (.int .i64 ((c : Int) - 1))) → Below (wx.alloc (.cells #[.int .i64 ((c : Int) - 1)] 3)).heap.size (wx.alloc (.cells #[.int .i64 ((c : Int) - 1)] 3)) wI →
          wI.heap[w4.heap.size]? = some (.cells #[.int .u64 0, .slice none 0 0, .int .i64 0, .int .u64 0, .int .u64 0] 239 (0, 0)) ∧ TP ((wI.setCell ⟨w4.heap.size, 1, none⟩ (.slice (some ⟨g, 0, none⟩) 1 gc)).setCell ⟨w4.heap.size, 0, none⟩ (.int .u64 1)) (d.ins v ls (fun q => kb q ∨ q = g)) ∧ Nds ((wI.setCell ⟨w4.heap.size, 1, none⟩ (.slice (some ⟨g, 0, none⟩) 1 gc)).setCell ⟨w4.heap.size, 0, none⟩ (.int .u64 1)) (fun q => kb q ∨ q = g) ls ∧ Chg d.own w ((wI.setCell ⟨w4.heap.size, 1, none⟩ (.slice (some ⟨g, 0, none⟩) 1 gc)).setCell ⟨w4.heap.size, 0, none⟩ (.int .u64 1)) ∧ w.heap.size ≤ g ∧ Nd ((wI.setCell ⟨w4.heap.size, 1, none⟩ (.slice (some ⟨g, 0, none⟩) 1 gc)).setCell ⟨w4.heap.size, 0, none⟩ (.int .u64 1)) (fun q => kb q ∨ q = g) ⟨1, some ⟨g, 0, none⟩, 1, gc, 1, 5, 5⟩ c from fun wI g gc h1 h2 h3 h4 => by
            have hA := (Below.refl wx.heap.size wx).alloc (Nat.le_refl _) (.cells #[.int .i64 ((c : Int) - 1)] 3)
            have hB := below_then hA h4
            rw [World.size_alloc] at h2
            have hX := (hB.block _ hXl).trans HX0.out
            have hcs := ((Chg.refl (· = w4.heap.size) wI).set (b := w4.heap.size) (i := 1) (.slice (some ⟨g, 0, none⟩) 1 gc) (.inl rfl)).set (b := w4.heap.size) (i := 0) (.int .u64 1) (.inl rfl)
            have t1 := HT0.out.below hB
            obtain ⟨cur, hg1, hg2⟩ := h3
            have hgX : ¬ (g = w4.heap.size) := by omega
            have t2 := t1.kidm (kb' := fun q => kb q ∨ q = g) (fun q hq => by rcases hq with hq | hq; exact .inl hq; subst hq; exact .inr ⟨_, hg1⟩)
            have hl : ∀ q, kb q → q < wx.heap.size := fun q hq => HT0.out.lt q (.inr (.inr (.inr (.inr hq))))
            have hnX : ∀ q, kb q → ¬ (q = w4.heap.size) := fun q hq => HT0.out.nx ⟨_, HX0.out⟩ q (.inr (.inr (.inr (.inr hq))))
            refine ⟨hX, t2.chg hcs (t2.nx ⟨_, hX⟩), HND0.out.stay (fun _ h => .inl h) (fun q hq => (hcs.block q (Nat.lt_of_lt_of_le (hl q hq) hB.size) (hnX q hq)).trans (hB.block q (hl q hq))), ((HC0.out.then (Chg.of_below hB)).set _ (.inr hz4)).set _ (.inr hz4), by omega, ?_⟩
            exact ⟨by rw [if_neg (by omega)], rfl, rfl, rfl, fun _ => ⟨g, rfl, rfl, h1, .inr rfl, cur, hcs.blk hg1 hgX, hg2⟩⟩)
        clear HT0 HND0 HC0
        apply use_sameT
        case main =>
          intro K
          go_region_law (first | ((with_reducible refine gate_scall (f := 411) rfl ?_); refine step_goes rfl Tryz.func411 (by kernel_rfl) rfl #[.slice none 0 0] rfl (by simp only [List.map_toArray, List.map_cons, List.map_nil]; rfl) (cloneNilI _) ?_; rintro e wy ⟨rfl, rfl⟩; refine ⟨_, rfl, ?_⟩) | ((with_reducible refine gate_scall (f := 409) rfl ?_); refine step_goes rfl Tryz.func409 (by kernel_rfl) rfl #[.int .u64 0, .int .i64 0] rfl (by simp only [List.map_toArray, List.map_cons, List.map_nil]; rfl) (rankZ 0 (.inl rfl) _) ?_; rintro e wy ⟨rfl, rfl⟩; refine ⟨_, rfl, ?_⟩) | ((with_reducible refine gate_scall (f := 418) rfl ?_); refine step_goes rfl Tryz.func418 (by kernel_rfl) rfl #[.slice none 0 0, .int .i64 0, .slice (some ⟨_, 0, none⟩) 1 1] rfl (by simp only [List.map_toArray, List.map_cons, List.map_nil]; rfl) (insI _ ((c : Int) - 1) _ (blk_new _ _ _)) ?_; rintro e wI ⟨g, gc, rfl, hgc, hg, HG, HBI⟩; have HP := Lib.hid (HPRE.out wI g gc hgc hg HG.out ((Below.refl _ _).drew.trans HBI.out)); have e0 := blk_cell HP.out.1 0 (v := .int .u64 0) rfl; have e1 := blk_cell HP.out.1 1 (v := .slice none 0 0) rfl; have e2 := blk_cell HP.out.1 2 (v := .int .i64 0) rfl; have e3 := blk_cell HP.out.1 3 (v := .int .u64 0) rfl; have e4 := blk_cell HP.out.1 4 (v := .int .u64 0) rfl; have g0 := blk_free HP.out.1 0; have g1 := blk_free HP.out.1 1; refine ⟨_, rfl, ?_⟩))
          all_goals
            clear e0 e1 e2 e3 e4 g0 g1 HG HBI hg
            revert HP hgc
            revert g gc wI
            exact K
        case rest =>
          intro wI g gc hgc HP
          clear HPRE
          have e0 := blk_cell HP.out.1 0 (v := .int .u64 0) rfl
          have e1 := blk_cell HP.out.1 1 (v := .slice none 0 0) rfl
          have e2 := blk_cell HP.out.1 2 (v := .int .i64 0) rfl
          have e3 := blk_cell HP.out.1 3 (v := .int .u64 0) rfl
          have e4 := blk_cell HP.out.1 4 (v := .int .u64 0) rfl
          have g0 := blk_free HP.out.1 0
          have g1 := blk_free HP.out.1 1
          have HX5 := Lib.hid (blk_set (blk_set HP.out.1 1 (.slice (some ⟨g, 0, none⟩) 1 gc)) 0 (.int .u64 1))
          have HT5 := Lib.hid HP.out.2.1
          have HND5 := Lib.hid HP.out.2.2.1
          have HC5 := Lib.hid HP.out.2.2.2.1
          have hgz := HP.out.2.2.2.2.1
          have HNX5 := Lib.hid HP.out.2.2.2.2.2
          clear HP
          go_wp2_with fail
          refine (set0 _).mono ?_
          rintro e w5 ⟨rfl, rfl⟩
          have hgr : ∀ wq, Calls Tryz.prog 419 #[.agg #[.int .u64 1, .slice (some ⟨g, 0, none⟩) 1 gc, .int .i64 0, .int .u64 0, .int .u64 0], .int .u64 5] wq fun e w' => e = .returned (.agg #[.int .u64 1, .slice (some ⟨g, 0, none⟩) 1 gc, .int .i64 1, .int .u64 5, .int .u64 5]) ∧ Hid (Below wq.heap.size wq w') := fun wq => tGrown 1 (some ⟨g, 0, none⟩) 1 gc wq
          have HGR := Lib.hid hgr
          have HKV5 := Lib.hid (show (∀ q, (kb q ∨ q = g) → w.heap.size ≤ q) ∧ ∀ g, v.ownBlock = some g → d.own g ∨ w.heap.size ≤ g from ⟨fun q hq => hq.elim (HKV.out.1 q) (fun e => by subst e; exact hgz), HKV.out.2⟩)
          clear hgr HKV
          go_wp2_with fail
          generalize (wI.setCell ⟨w4.heap.size, 1, none⟩ (.slice (some ⟨g, 0, none⟩) 1 gc)).setCell ⟨w4.heap.size, 0, none⟩ (.int .u64 1) = wy at *
          have HNX := HNX5
          clear HNX5 e0 e1 e2 e3 e4 g0 g1
          skip
          refine (HGR.out _).mono ?_
          rintro e w6 ⟨rfl, HB6⟩
          have HT6 := Lib.hid (HT5.out.below HB6.out)
          have HND6 := Lib.hid (HND5.out.stay (kb' := (fun q => kb q ∨ q = g)) (fun _ h => h) (fun g hg => HB6.out.block g (HT5.out.lt g (.inr (.inr (.inr (.inr hg)))))))
          have HNX6 := Lib.hid (HNX.out.stay (kb' := (fun q => kb q ∨ q = g)) (fun _ h => h) (fun g hg => HB6.out.block g (HT5.out.lt g (.inr (.inr (.inr (.inr hg)))))))
          have HC6 := Lib.hid (HC5.out.then (Chg.of_below HB6.out))
          have HX6 := Lib.hid (blk_below HX5.out HB6.out rfl)
          have f0 := blk_free HX6.out 0
          have f1 := blk_free HX6.out 1
          have f2 := blk_free HX6.out 2
          have f3 := blk_free HX6.out 3
          have f4 := blk_free HX6.out 4
          have s0 := blk_cell HX6.out 0 rfl
          have s1 := blk_cell HX6.out 1 rfl
          have s2 := blk_cell HX6.out 2 rfl
          have s3 := blk_cell HX6.out 3 rfl
          have s4 := blk_cell HX6.out 4 rfl
          have hcs := putN (Chg.refl (· = w4.heap.size) w6) (b := w4.heap.size) (.int .u64 1) (.slice (some ⟨g, 0, none⟩) 1 gc) (.int .i64 1) (.int .u64 5) (.int .u64 5) (.inl rfl)
          have HT7 := Lib.hid (HT6.out.chg hcs (HT6.out.nx ⟨_, HX6.out⟩))
          have HND7 := Lib.hid (HND6.out.stay (kb' := (fun q => kb q ∨ q = g)) (fun _ h => h) (fun g hg => hcs.block g (HT6.out.lt g (.inr (.inr (.inr (.inr hg))))) (HT6.out.nx ⟨_, HX6.out⟩ g (.inr (.inr (.inr (.inr hg)))))))
          have HNX7 := Lib.hid (HNX6.out.stay (kb' := (fun q => kb q ∨ q = g)) (fun _ h => h) (fun g hg => hcs.block g (HT6.out.lt g (.inr (.inr (.inr (.inr hg))))) (HT6.out.nx ⟨_, HX6.out⟩ g (.inr (.inr (.inr (.inr hg)))))))
          have HC7 := Lib.hid (putN HC6.out (b := w4.heap.size) (.int .u64 1) (.slice (some ⟨g, 0, none⟩) 1 gc) (.int .i64 1) (.int .u64 5) (.int .u64 5) (.inr hz4))
          have HX7 := Lib.hid (blk_set (blk_set (blk_set (blk_set (blk_set HX6.out 0 (.int .u64 1)) 1 (.slice (some ⟨g, 0, none⟩) 1 gc)) 2 (.int .i64 1)) 3 (.int .u64 5)) 4 (.int .u64 5))
          clear hcs HT5 HND5 HC5 HX5 HT6 HND6 HC6 HX6 HGR HNX HNX6
          go_wp2
          generalize ((((w6.setCell ⟨w4.heap.size, 0, none⟩ (.int .u64 1)).setCell ⟨w4.heap.size, 1, none⟩ (.slice (some ⟨g, 0, none⟩) 1 gc)).setCell ⟨w4.heap.size, 2, none⟩ (.int .i64 1)).setCell ⟨w4.heap.size, 3, none⟩ (.int .u64 5)).setCell ⟨w4.heap.size, 4, none⟩ (.int .u64 5) = w7 at *
          clear s0 s1 s2 s3 s4 f0 f1 f2 f3 f4
          have s0 := blk_cell HX7.out 0 (v := .int .u64 1) rfl
          have s1 := blk_cell HX7.out 1 (v := .slice (some ⟨g, 0, none⟩) 1 gc) rfl
          have s2 := blk_cell HX7.out 2 (v := .int .i64 1) rfl
          have s3 := blk_cell HX7.out 3 (v := .int .u64 5) rfl
          have s4 := blk_cell HX7.out 4 (v := .int .u64 5) rfl
          have q1 : w7.cell? ⟨d.t, 1, none⟩ = some (.pointer (some ⟨d.p, 0, none⟩)) := HT7.out.cells.2.1
          have HD7 := Lib.hid HT7.out.drewn
          have hlc := HL.out
          have hic := HIC.out
          have hroom : (ls.length : Int) + 1 ≤ d.limit := by omega
          have hl1000 : ls.length ≤ 1000 := by omega
          have HKT := Lib.hid (fun q (hq : (d.ins v ls (fun q => kb q ∨ q = g)).own q) => HT7.out.lt q hq)
          have hw7 := HC7.out.size
          go_region_law (first | ((with_reducible refine gate_scall (f := 420) rfl ?_); refine step_goes rfl Tryz.func420 (by kernel_rfl) rfl #[.pointer (some ⟨d.p, 0, none⟩), .agg #[.int .u64 1, .slice (some ⟨g, 0, none⟩) 1 gc, .int .i64 1, .int .u64 5, .int .u64 5]] rfl (by simp only [List.map_toArray, List.map_cons, List.map_nil]; rfl) (pnAlloc d.p d.m v ls d.limit _ HD7.out.pool _ _ _ _ _ _ _ (Nat.zero_le _) hroom hlim2 hl1000) ?_; rintro e w8 ⟨v', rfl, HP8, HV8, HC8⟩; refine ⟨_, rfl, ?_⟩))
          all_goals
            have HT8 := Lib.hid (HD7.out.more HP8.out HC8.out)
            have hks : ∀ gg, (fun q => kb q ∨ q = g) gg → w8.heap[gg]? = w7.heap[gg]? := fun g hg => HC8.out.block g (show g < w7.heap.size from HKT.out g (.inr (.inr (.inr (.inr hg))))) (by
              obtain ⟨t1, t2, t3, t4, t5⟩ := HT7.out.tys
              rintro (e | e)
              · exact (t5 g hg).ne t2 (by decide) e
              · exact (t5 g hg).ne (t4 g e) (by decide) rfl)
            have HND8 := Lib.hid ((HND7.out.stay (kb' := (fun q => kb q ∨ q = g)) (fun _ h => h) hks).snoc (x := ⟨1, (some ⟨g, 0, none⟩), 1, gc, 1, 5, 5⟩) (by rw [hlc]; exact HNX7.out.stay (kb' := (fun q => kb q ∨ q = g)) (fun _ h => h) hks))
            have HKV8 := Lib.hid (show (∀ gg, (fun q => kb q ∨ q = g) gg → w.heap.size ≤ gg) ∧ ∀ g, v'.ownBlock = some g → d.own g ∨ w.heap.size ≤ g from ⟨HKV5.out.1, fun g hg => by
              rcases HV8.out with h | ⟨g2, h, hg2⟩
              · exact HKV5.out.2 g (h.symm.trans hg)
              · rw [h] at hg; cases hg; have e7 : w7.drew.heap.size = w7.heap.size := rfl; right; omega⟩)
            have HC9 := Lib.hid (HC7.out.drew.trans HC8.out (fun q hq e => by
              rcases e with e | e
              · exact .inr (.inl e)
              · exact (HKV5.out.2 q e).resolve_right (by omega)))
            clear HD7 HP8 HC8 HV8 hks
            go_wp2
            go_roundw
            case rel => exact ⟨((L : Int) - 1), c + 1, ((c : Nat) : Int), v', _, (fun q => kb q ∨ q = g), by first | rfl | (congr 1; omega) | (simp; omega), by first | rfl | go_num, by omega, by omega, by show _ = _; omega, by show _ = _; rw [if_neg (by omega)]; simp, by show _ = _; rw [List.length_append, hlc]; rfl, HT8.out, HND8.out, HKV8.out, HC9.out⟩
            case measure => first | (simp [intOf]; done) | (simp [intOf]; omega)
    · have hi : i = -1 := by omega
      subst hi
      obtain rfl : c = 11 := by have := HIC.out; omega
      obtain rfl : ch = 10 := by have := HCH.out; simpa using this
      have c2 : wr.cell? ⟨d.t, 2, none⟩ = some (.int .i64 d.root) := HT.out.cells.2.2.1
      have c3 : wr.cell? ⟨d.t, 3, none⟩ = some (.int .i64 d.n) := HT.out.cells.2.2.2
      rw [HN.out] at c3
      have f2 := blk_free HT.out.head 2
      have f3 := blk_free HT.out.head 3
      have hcs := ((Chg.refl (· = d.t) wr).set (b := d.t) (i := 2) (.int .i64 10) (.inl rfl)).set (b := d.t) (i := 3) (.int .i64 1) (.inl rfl)
      have HTF := Lib.hid (HT.out.fin hcs (blk_set (blk_set HT.out.head 2 (.int .i64 10)) 3 (.int .i64 1)))
      have HNF := Lib.hid (HND.out.stay (fun _ h => h) (fun q hq => hcs.block q (HT.out.lt q (.inr (.inr (.inr (.inr hq))))) (by
        obtain ⟨t1, t2, t3, t4, t5⟩ := HT.out.tys
        exact (t5 q hq).ne t1 (by decide))))
      have HCF := Lib.hid ((HC.out.set (b := d.t) (i := 2) (.int .i64 10) (.inl (.inl rfl))).set (b := d.t) (i := 3) (.int .i64 1) (.inl (.inl rfl)))
      clear hcs
      go_wp2
      go_ret
      exact ⟨rfl, ⟨d.t, d.p, d.m, v, ls, d.limit, 10, 1, kb⟩, HTF.out, ⟨rfl, rfl, rfl, HL.out⟩, HNF.out, (by
        rintro q (hq | hq | hq | hq | hq)
        · exact .inl (.inl hq)
        · exact .inl (.inr (.inl hq))
        · exact .inl (.inr (.inr (.inl hq)))
        · exact HKV.out.2 q hq
        · exact .inr (HKV.out.1 q hq)), HCF.out⟩
end Go.Proofs.YtcnaikoloagbdaaGreat
