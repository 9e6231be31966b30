/-
  face.fill of a new VEB; walked.
-/
import Derived.Test.YtmpjjehihimadaaGreatKd
import Derived.Handy
namespace Go.Proofs.YtmpjjehihimadaaGreat
set_option linter.unusedVariables false
set_option linter.unusedSimpArgs false
open Go.RowKit Go.Shelf
attribute [local go_sem] Oper.semAt_some k1
attribute [local go_sem ↓] Go.wp_at_zero Go.wp_at_succ

set_option maxRecDepth 100000 in
set_option maxHeartbeats 4000000 in
/-- face.fill of a new veb.VEB -/
theorem fillV {D : Type} (K : Kd D) (t : D → Nat) (hv : ∀ d, K.v d = .iface 83 (.pointer (some ⟨t d, 0, none⟩))) (tag seed limit : Int) (Ins : List Int → D → Prop) {S : List Int → Prop}
    (hnew : ∀ W, Calls Tryz.prog 36 #[.int .i64 tag, .int .u64 seed, .int .i64 limit] W fun e W' => ∃ d, e = .returned (.tuple #[K.v d, .int .i64 0]) ∧ Hid (K.P W' d) ∧ Hid (Ins [] d) ∧ Hid (∀ q, K.own d q → W.heap.size ≤ q) ∧ Hid (Below W.heap.size W W'))
    (hins : ∀ V d pre x, K.P V d → Ins pre d → Yl S pre x → Calls Tryz.prog 103 #[.pointer (some ⟨t d, 0, none⟩), .int .u64 x] V fun e V' => ∃ (er : Int) (d' : D), e = .returned (.int .i64 er) ∧ Hid (er ≠ 5) ∧ Hid (K.P V' d') ∧ Hid (Ins (pre ++ [x]) d') ∧ Hid (t d' = t d) ∧ Hid (∀ q, K.own d' q → K.own d q ∨ V.heap.size ≤ q) ∧ Hid (Chg (K.own d) V V'))
    (it : Value) {St : World → Prop} {R : Nat → Prop} (hit : ItQ Tryz.prog it k1 St (fun _ => False) R S) (w : World) (hSt : St w) (hR : ∀ b, R b → b < w.heap.size) :
    Calls Tryz.prog 31 #[.int .i64 tag, .int .u64 seed, .int .i64 limit, it] w fun e w' => ∃ (d : D) (xs : List Int), S xs ∧ e = .returned (.tuple #[K.v d, .int .i64 0]) ∧ Hid (K.P w' d) ∧ Hid (Ins xs d) ∧ Hid (∀ q, K.own d q → w.heap.size ≤ q) ∧ Hid (Below w.heap.size w w') := by
  obtain ⟨⟨gf, lb, rfl, heg, hseq⟩, hstay, hsub⟩ := hit
  have HST := Lib.hid hSt
  have HSTAY := Lib.hid hstay
  have HRW := Lib.hid hR
  have HVV := Lib.hid hv
  have HINS := Lib.hid hins
  obtain ⟨W1, hW1⟩ : ∃ W1, W1 = (w.alloc (.cells #[.nilIface] 45)).alloc (.cells #[.int .i64 0] 27) := ⟨_, rfl⟩
  have s1 : W1.heap.size = w.heap.size + 1 + 1 := by rw [hW1]; simp
  have HB1 := Lib.hid (show Below w.heap.size w W1 by rw [hW1]; exact ((Below.refl _ w).alloc (Nat.le_refl _) _).alloc (by simp) _)
  have HX1 := Lib.hid (show W1.heap[w.heap.size]? = some (.cells #[.nilIface] 45 (0, 0)) by rw [hW1]; exact blk_old (blk_new w _ _) _)
  have HY1 := Lib.hid (show W1.heap[w.heap.size + 1]? = some (.cells #[.int .i64 0] 27 (0, 0)) by rw [hW1]; have := blk_new (w.alloc (.cells #[.nilIface] 45)) #[.int .i64 0] 27; simpa only [World.size_alloc] using this)
  have HW1 := Lib.hid hW1
  have HNEW := Lib.hid (hnew W1)
  clear hSt hW1 hnew hins hv
  refine (callsIn_wide (n := 9)).1 ?_
  refine callsIn_of_wp_marks Tryz.func31 rfl trivial ?_ rfl
  simp only [Tryz.ntmps31, List.size_toArray, List.length_cons, List.length_nil, Nat.reduceAdd, Nat.reduceSub, Array.replicate_succ, Array.replicate_zero, List.push_toArray, List.append_toArray, List.nil_append, List.cons_append]
  have hfn : Fence.wide.fn 36 := trivial
  gi_wp2
  rw [← HW1.out]
  refine (callsIn_wide.2 HNEW.out).mono ?_
  rintro e W2 ⟨d0, rfl, HP0, HFR, HOW, HB2⟩
  have hz2 := HB2.out.size
  have hd0 := HVV.out d0
  rw [hd0]
  clear HNEW HW1
  gi_wp2
  obtain ⟨W0, hW0⟩ : ∃ W0, W0 = W2.alloc (.cells #[.iface 83 (.pointer (some ⟨t d0, 0, none⟩))] 45) := ⟨_, rfl⟩
  rw [← hW0]
  have s0' : W0.heap.size = W2.heap.size + 1 := by rw [hW0]; simp
  have HB0 := Lib.hid (show Below W2.heap.size W2 W0 by rw [hW0]; exact (Below.refl _ _).alloc (Nat.le_refl _) _)
  have HX0 := Lib.hid (show W0.heap[W2.heap.size]? = some (.cells #[K.v d0] 45 (0, 0)) by rw [hW0, hd0]; exact blk_new _ _ _)
  have HBW := Lib.hid (show Below w.heap.size w W0 from below_then (below_then HB1.out HB2.out) HB0.out)
  have hbs : w.heap.size + 2 ≤ W2.heap.size := by omega
  have HINI := Lib.hid (show KW K w W2.heap.size (Ins []) (fun q => K.own d0 q ∨ q = w.heap.size ∨ q = w.heap.size + 1) W0 d0 from
    ⟨HFR.out, K.below HP0.out HB0.out, HX0.out, fun q hq => ⟨by have := HOW.out q hq; omega, fun e => by have := K.lt HP0.out q hq; omega⟩, fun q => Iff.rfl,
      blk_below (blk_below HX1.out HB2.out rfl) HB0.out rfl, blk_below (blk_below HY1.out HB2.out rfl) HB0.out rfl, Chg.of_below HBW.out⟩)
  have HS0 := Lib.hid (show ∀ q, K.own d0 q → q < W0.heap.size from fun q hq => by have := K.lt HP0.out q hq; omega)
  clear hW0 hd0
  refine range_Q (n := 9) (R := R) (by decide) (gf := gf) (lb := lb) rfl heg hseq hstay (fun b h => by have := hR b h; omega) hsub (hstay _ _ HST.out (fun b h => HBW.out.block b (hR b h))) (fun _ => rfl)
    (fun C pre V => ∃ d, KW K w W2.heap.size (Ins pre) C V d)
    (fun c V => False)
    (fun C => KW.stab hbs (by omega))
    (stab_pure _ _ _)
    (fun q => K.own d0 q ∨ q = w.heap.size ∨ q = w.heap.size + 1) (fun q hq => by rcases hq with h | h | h; exact HS0.out q h; omega; omega)
    ⟨d0, HINI.out⟩
    (fun x a' V => a' = { tmps := #[.int .i64 tag, .int .u64 seed, .int .i64 limit, .func (.func gf) #[] lb, undef, undef, undef, undef, .pointer (some ⟨w.heap.size, 0, none⟩), .pointer (some ⟨w.heap.size + 1, 0, none⟩), .pointer (some ⟨W2.heap.size, 0, none⟩), .int .i64 0, .int .u64 x, .tuple #[.iface 83 (.pointer (some ⟨t d0, 0, none⟩)), .int .i64 0], .int .i64 tag, .int .u64 seed, .int .i64 limit, .tuple #[.iface 83 (.pointer (some ⟨t d0, 0, none⟩)), .int .i64 0], .iface 83 (.pointer (some ⟨t d0, 0, none⟩)), .int .i64 0, .int .i64 0, .bool false, undef, .func (.func gf) #[] lb, .int .u64 x, undef, undef, undef, undef, undef], defers := [] })
    (fun x a' _ _ _ _ h _ _ => h) ?assign ?body ?done ?stop
  case assign =>
    clear hstay hsub hseq hR heg
    intro l2 C pre x V K2 hI hK
    gi_wp2
    exact hK _ _ (KeepsFrom.refl _ _) (Below.refl _ _) hI rfl
  case body =>
    clear hstay hsub hseq hR heg
    rintro l2 C pre x a' V hl2 hV hCb ⟨d, hfw⟩ hst rfl hyl
    have HFW := Lib.hid hfw
    have HSTV := Lib.hid hst
    have c10 := blk_cell hfw.box 0 (v := K.v d) rfl
    have HIN := Lib.hid (HINS.out V d pre x hfw.p hfw.ins hyl)
    rw [HVV.out d] at c10
    clear hfw hst hCb hyl
    have hfn2 : Fence.wide.fn 103 := trivial
    gi_wp2
    refine ⟨fun _ _ => trivial, ?_⟩
    go_invoke
    gi_wp2
    refine (callsIn_wide.2 HIN.out).mono ?_
    rintro e V' ⟨er, d', rfl, HE, HP, HI, HT, HO, HC⟩
    have HSTEP := Lib.hid (HFW.out.step (Ins' := Ins (pre ++ [x])) hbs HI.out HP.out (by rw [HVV.out, HVV.out, HT.out]) HO.out HC.out w.heap.size)
    have HST2 := Lib.hid (HSTAY.out _ _ HSTV.out (fun b hb => HSTEP.out.2.1 b (HRW.out b hb)))
    have h52 : (er == 5) = false := by simpa using HE.out
    clear HIN c10 HE HP HI HO HC
    gi_wp2
    exact ⟨keepsFrom_mono HSTEP.out.1 (by omega), HST2.out, _, ⟨_, HSTEP.out.2.2.1⟩, HSTEP.out.2.2.2.1, HSTEP.out.2.2.2.2⟩
  case done =>
    clear hstay hsub hseq hR heg
    rintro D2 C xs V hD hxs ⟨d, hfw⟩ hst hM hCb hK
    have HFW := Lib.hid hfw
    have HSTV := Lib.hid hst
    have c10 := blk_cell hfw.box 0 (v := K.v d) rfl
    have f8 := blk_free hfw.r8 0
    have f9 := blk_free hfw.r9 0
    have c8 := blk_cell hfw.r8 0 (v := .nilIface) rfl
    have c9 := blk_cell hfw.r9 0 (v := .int .i64 0) rfl
    have HXS := Lib.hid hxs
    have HDV := Lib.hid (HVV.out d)
    rw [HVV.out d] at c10
    clear hfw hst hxs
    gi_wp2
    have h8 := blk_lt HFW.out.r8
    have h9 := blk_lt HFW.out.r9
    have hs8 := blk_set HFW.out.r8 0 (.iface 83 (.pointer (some ⟨t d, 0, none⟩)))
    have hs8' : ((V.setCell ⟨w.heap.size, 0, none⟩ (.iface 83 (.pointer (some ⟨t d, 0, none⟩)))).setCell ⟨w.heap.size + 1, 0, none⟩ (.int .i64 0)).heap[w.heap.size]? = some (.cells #[.iface 83 (.pointer (some ⟨t d, 0, none⟩))] 45 (0, 0)) := (Below.heap_setCell _ ⟨w.heap.size + 1, 0, none⟩ (.int .i64 0) w.heap.size (by show w.heap.size ≠ w.heap.size + 1; omega)).trans (by simpa using hs8)
    have hs9 := blk_set (show (V.setCell ⟨w.heap.size, 0, none⟩ (.iface 83 (.pointer (some ⟨t d, 0, none⟩)))).heap[w.heap.size + 1]? = _ from (Below.heap_setCell V ⟨w.heap.size, 0, none⟩ (.iface 83 (.pointer (some ⟨t d, 0, none⟩))) (w.heap.size + 1) (by show w.heap.size + 1 ≠ w.heap.size; omega)).trans HFW.out.r9) 0 (.int .i64 0)
    have hcs := ((Chg.refl (fun q => q = w.heap.size ∨ q = w.heap.size + 1) V).set (b := w.heap.size) (i := 0) (.iface 83 (.pointer (some ⟨t d, 0, none⟩))) (.inl (.inl rfl))).set (b := w.heap.size + 1) (i := 0) (.int .i64 0) (.inl (.inr rfl))
    have hK2 := hcs.blk hK (fun e => by omega)
    have HCE := Lib.hid ((HFW.out.chg.set (b := w.heap.size) (i := 0) (.iface 83 (.pointer (some ⟨t d, 0, none⟩))) (.inr (by omega))).set (b := w.heap.size + 1) (i := 0) (.int .i64 0) (.inr (by omega)))
    have HP2 := Lib.hid (K.stay HFW.out.p (Y := ((V.setCell ⟨w.heap.size, 0, none⟩ (.iface 83 (.pointer (some ⟨t d, 0, none⟩)))).setCell ⟨w.heap.size + 1, 0, none⟩ (.int .i64 0)).putObj D2 (.deferred none)) (fun q hq => (World.putObj_heap_other (fun e => by
      obtain ⟨cs, t2, h1⟩ := K.cells HFW.out.p q hq
      rw [e, hK] at h1; cases h1)).trans (hcs.block q (K.lt HFW.out.p q hq) (fun e => by have := HFW.out.own q hq; omega))))
    refine ⟨by simp, .inl ⟨_, _, rfl, run_takeDeferred hK2, ?_⟩⟩
    have r4 := blk_cell (blk_putK hs8' (.deferred none) (D := D2) (by omega)) 0 (v := .iface 83 (.pointer (some ⟨t d, 0, none⟩))) rfl
    have r5 := blk_cell (blk_putK hs9 (.deferred none) (D := D2) (by omega)) 0 (v := .int .i64 0) rfl
    exact ⟨.tuple #[.iface 83 (.pointer (some ⟨t d, 0, none⟩)), .int .i64 0], (by simp [results, Tryz.results31, go_sem, r4, r5]), d, xs, HXS.out, by rw [HDV.out], HP2.out, HFW.out.ins, fun q hq => by have := HFW.out.own q hq; omega, below_of_none (chg_putObj HCE.out (by omega))⟩
  case stop =>
    clear hstay hsub hseq hR heg
    rintro D2 c V hD hf hst hK
    exact hf.elim
end Go.Proofs.YtmpjjehihimadaaGreat
