/-
  yfast.All: an iterator that keeps its word.
-/
import Derived.Test.YtcnaikoloagbdaaGreatQYfC
import Derived.Test.YtcnaikoloagbdaaGreatQItA
namespace Go.Proofs.YtcnaikoloagbdaaGreat
set_option linter.unusedVariables false
set_option linter.unusedSimpArgs false
open Go.RowKit Go.Shelf
attribute [local go_sem] Oper.semAt_some
attribute [local go_sem ↓] Go.wp_at_zero Go.wp_at_succ

set_option maxRecDepth 100000 in
theorem yAllMake (y : Nat) (w : World) : Calls Tryz.prog 349 #[.pointer (some ⟨y, 0, none⟩)] w fun e w' => e = .returned (.func (.func 361) #[] #[.pointer (some ⟨w.heap.size, 0, none⟩)]) ∧ w' = w.alloc (.cells #[.pointer (some ⟨y, 0, none⟩)] 182) := by
  go_enter Tryz.func349, Tryz.ntmps349
  go_wp2
  go_ret
  exact ⟨rfl, rfl⟩
/-- what yfast.All needs: the set, and the iterator's box -/
def ySt (d : YD) (B1 : Nat) (V : World) : Prop := YP V d ∧ V.heap[B1]? = some (.cells #[.pointer (some ⟨d.y, 0, none⟩)] 182 (0, 0))
def yStR (d : YD) (B1 : Nat) : Nat → Prop := fun k => d.own k ∨ k = B1
theorem ySt.stay {d : YD} {B1 : Nat} {X Y : World} (h : ySt d B1 X) (hs : ∀ b, yStR d B1 b → Y.heap[b]? = X.heap[b]?) : ySt d B1 Y := ⟨h.1.stay (fun b hb => hs b (.inl hb)), (hs B1 (.inr rfl)).trans h.2⟩
theorem ySt.lt {d : YD} {B1 : Nat} {X : World} (h : ySt d B1 X) : ∀ b, yStR d B1 b → b < X.heap.size := fun b hb => by
  rcases hb with hb | hb
  · exact h.1.lt b hb
  · rw [hb]; exact blk_lt h.2
theorem ySt.below {d : YD} {B1 : Nat} {X Y : World} (h : ySt d B1 X) (hb : Below X.heap.size X Y) : ySt d B1 Y := h.stay (fun b hr => hb.block b (h.lt b hr))
theorem ySt.red {d : YD} {B1 : Nat} {X Y : World} (h : ySt d B1 X) (hy : YP Y d) (hc : Chg d.red X Y) : ySt d B1 Y := ⟨hy, hc.blk h.2 (fun e => by
  obtain ⟨t1, t2, t3, t4, t5, t6⟩ := h.1.tys
  obtain ⟨x1, x2, x3, x4, x5, x6, x7⟩ := h.1.xf.tys
  have hb : ty X B1 182 := ⟨_, h.2⟩
  rcases e with (e | e) | e
  · exact hb.ne x2 (by decide) e
  · exact hb.ne x6 (by decide) e
  · exact hb.ne t2 (by decide) e)⟩
set_option maxRecDepth 100000 in
set_option maxHeartbeats 4000000 in
theorem yAll1 (d : YD) (B1 : Nat) (hS : YS d) : SeqF Tryz.prog 361 #[.pointer (some ⟨B1, 0, none⟩)] k1 (ySt d B1) d.red (fun xs => xs.length ≤ d.ks.length ∧ U64 xs) d.ks.length := by
  intro n l J Jx C0 W hn hst hJ hJx hY hC0 h0
  have HS := Lib.hid hS
  have HJ := Lib.hid hJ
  have HYY := Lib.hid hY
  have HST := Lib.hid hst
  have HJ1 := Lib.hid h0
  have HC0 := Lib.hid hC0
  have q0 := blk_cell hst.2 0 rfl
  obtain ⟨M, hM⟩ : ∃ M, M = W.heap.size := ⟨_, rfl⟩
  have HMM := Lib.hid hM
  clear hJ hY hst h0 hJx hM hC0 hS
  refine callsIn_wide.2 ?_
  go_enter Tryz.func361, Tryz.ntmps361
  go_wp2_with fail
  refine (yStart d _ HST.out.1).mono ?_
  rintro e w1 ⟨rfl, HY1, HC1⟩
  have HST1 := Lib.hid (HST.out.red HY1.out HC1.out)
  have HJ1' := Lib.hid ((HJ.out C0).chg [] _ _ HJ1.out HC1.out)
  have hz1 := HC1.out.size
  have q1 := blk_cell HST1.out.2 0 rfl
  clear q0 HST HJ1 HY1
  by_cases hnn : 0 < d.n
  · rw [decide_eq_true hnn]
    have HONE := Lib.hid (HS.out.one hnn)
    go_wp2_with fail
    refine (yFind d 0 _ HST1.out.1 d.ce HONE.out).mono ?_
    rintro e w2 ⟨rfl, HY2, HC2⟩
    have HST2 := Lib.hid (HST1.out.red HY2.out HC2.out)
    have HJ2 := Lib.hid ((HJ.out C0).chg [] _ _ HJ1'.out HC2.out)
    have hz2 := HC2.out.size
    have hA := (Below.refl w2.heap.size w2).alloc (Nat.le_refl _) (.cells #[.int .u64 0, .slice d.kA d.ks.length d.kc, .int .i64 (-1), .int .i64 (-1)] 232)
    have HST3 := Lib.hid (HST2.out.below hA)
    have HJ3 := Lib.hid ((HJ.out C0).chg [] _ _ HJ2.out (Chg.of_below hA))
    have HN3 := Lib.hid (blk_new w2 #[.int .u64 0, .slice d.kA d.ks.length d.kc, .int .i64 (-1), .int .i64 (-1)] 232)
    have hz3 := hA.size
    clear hA HST1 HJ1' HST2 HJ2 HY2 HC2 HC1 q1
    go_wp2
    go_loopw [3, 4] (fun v3 v4 wr => ∃ (i : Int) (b : Nat) (pre : List Int) (C : Nat → Prop), v3 = .int .i64 i ∧ v4 = .pointer (some ⟨b, 0, none⟩) ∧ Hid ((i = 0 ∧ pre = []) ∨ (i = -1 ∧ pre.length ≤ d.ks.length ∧ U64 pre)) ∧ M ≤ wr.heap.size ∧ Hid (J C pre wr) ∧ Hid (ySt d B1 wr) ∧ Hid (∀ k, C k → k < wr.heap.size) ∧ Hid (¬ C b) ∧ Hid (wr.heap[b]? = some (.cells #[.int .u64 0, .slice d.kA d.ks.length d.kc, .int .i64 (-1), .int .i64 (-1)] 232 (0, 0)))) (fun v3 _ _ => (intOf v3 + 1).toNat)
    case atStart => exact ⟨0, w2.heap.size, [], C0, rfl, rfl, .inl ⟨rfl, rfl⟩, by rw [HMM.out]; omega, HJ3.out, HST3.out, fun k hk => by have := HC0.out k hk; omega, fun e => by have := HC0.out _ e; omega, HN3.out⟩
    case round =>
      clear HST3 HJ3 HN3 HC0
      obtain ⟨i, b, pre, C, rfl, rfl, HI, hMw, HJW, HSW, HCB, HCb, HB⟩ := hrel
      have q0 := blk_cell HSW.out.2 0 rfl
      rcases HI.out with ⟨e1, e2⟩ | ⟨e1, e2⟩
      · subst e1
        subst e2
        go_wp2_with fail
        refine (ySee d _ HSW.out.1 d.ce HONE.out).mono ?_
        rintro e w5 ⟨rfl, HB5⟩
        have hA := (Below.refl w5.heap.size w5).alloc (Nat.le_refl _) (.cells #[.int .u64 0, .slice d.kA d.ks.length d.kc, .int .i64 (-1), .int .i64 (-1)] 232)
        have HBB := Lib.hid (below_then HB5.out hA)
        have HS6 := Lib.hid (HSW.out.below HBB.out)
        have HJ6 := Lib.hid ((HJ.out C).chg [] _ _ HJW.out (Chg.of_below HBB.out))
        have HN6 := Lib.hid (blk_new w5 #[.int .u64 0, .slice d.kA d.ks.length d.kc, .int .i64 (-1), .int .i64 (-1)] 232)
        have HB6 := Lib.hid (blk_below HB.out HBB.out rfl)
        have hz5 := HB5.out.size
        have HCB6 := Lib.hid (show ∀ k, C k → k < (w5.alloc (.cells #[.int .u64 0, .slice d.kA d.ks.length d.kc, .int .i64 (-1), .int .i64 (-1)] 232)).heap.size from fun k hk => Nat.lt_of_lt_of_le (HCB.out k hk) HBB.out.size)
        have HC5 := Lib.hid (show ¬ C w5.heap.size from fun e => by have := HCB.out _ e; omega)
        have hM6 : M ≤ (w5.alloc (.cells #[.int .u64 0, .slice d.kA d.ks.length d.kc, .int .i64 (-1), .int .i64 (-1)] 232)).heap.size := Nat.le_trans hMw HBB.out.size
        have n1 := blk_cell HN6.out 1 rfl
        clear hA HBB HB5 HSW HJW HB HCB q0 HI
        go_wp2
        go_loopw [7, 24] (fun _ v24 wk => ∃ (k : Nat) (pre : List Int) (C : Nat → Prop), v24 = .int .i64 k ∧ k ≤ d.ks.length ∧ (pre.length = k ∧ Hid (U64 pre)) ∧ M ≤ wk.heap.size ∧ Hid (J C pre wk) ∧ Hid (ySt d B1 wk) ∧ Hid (∀ k, C k → k < wk.heap.size) ∧ Hid (¬ C b ∧ ¬ C w5.heap.size) ∧ Hid (wk.heap[b]? = some (.cells #[.int .u64 0, .slice d.kA d.ks.length d.kc, .int .i64 (-1), .int .i64 (-1)] 232 (0, 0))) ∧ Hid (wk.heap[w5.heap.size]? = some (.cells #[.int .u64 0, .slice d.kA d.ks.length d.kc, .int .i64 (-1), .int .i64 (-1)] 232 (0, 0)))) (fun _ v24 _ => d.ks.length - (intOf v24).toNat)
        case atStart => exact ⟨0, [], C, rfl, Nat.zero_le _, ⟨rfl, U64.nil⟩, hM6, HJ6.out, HS6.out, HCB6.out, ⟨HCb.out, HC5.out⟩, HB6.out, HN6.out⟩
        case round =>
          clear HJ6 HS6 HCB6 HCb HC5 HB6 HN6 n1
          obtain ⟨k, pre, C, rfl, hk, ⟨hpl, HPU⟩, hMk, HJW, HSW, HCB, HCN, HBk, HNk⟩ := hrel
          have hkl : d.ks.length ≤ 100 := HS.out.len
          by_cases hlt : k < d.ks.length
          · obtain ⟨ad, hkA, had, hc⟩ := HSW.out.1.rd.1 k hlt
            rw [hkA]
            obtain ⟨fn, tmps, assign, body, hy, hR⟩ := HYY.out C pre (d.ks.getD k 0) wr (by rw [← HMM.out]; exact hMk) HCB.out HJW.out HSW.out (by omega)
            simp only [k1] at hy
            have HPL := Lib.hid hpl
            have HU2 := Lib.hid (HPU.out.snoc (HS.out.u.at_ hlt))
            have HKA := Lib.hid hkA
            clear hpl hkA
            generalize d.ks.getD k 0 = x at *
            have hn1 : 1 ≤ n := by omega
            refine (wpIn_wide (n := n)).1 ?_
            gi_wp2
            refine hR.mono ?_
            rintro e W3 (⟨rfl, hS3, hkf, C', hJ3, hC', hkk⟩ | ⟨rfl, hS3, hkf, hJx3, _⟩)
            · have HJ4 := Lib.hid hJ3
              have HS4 := Lib.hid hS3
              have HB4 := Lib.hid ((hkk _ (blk_lt HBk.out) HCN.out.1).trans HBk.out)
              have HN4 := Lib.hid ((hkk _ (blk_lt HNk.out) HCN.out.2).trans HNk.out)
              have HC4 := Lib.hid (show ∀ k, C' k → k < W3.heap.size from fun k hk => (hC' k hk).2)
              have HCN4 := Lib.hid (show ¬ C' b ∧ ¬ C' w5.heap.size from ⟨fun e => by have h1 := blk_lt HBk.out; rcases (hC' _ e).1 with h | h; exact HCN.out.1 h; omega, fun e => by have h1 := blk_lt HNk.out; rcases (hC' _ e).1 with h | h; exact HCN.out.2 h; omega⟩)
              have hz4 := hkf.size
              clear hJ3 hS3 hkf hkk hC'
              gi_wp2
              rw [← HKA.out]
              go_roundw
              case rel => exact ⟨k + 1, pre ++ [x], C', by go_num, by omega, ⟨by rw [List.length_append, HPL.out]; rfl, HU2.out⟩, by omega, HJ4.out, HS4.out, HC4.out, HCN4.out, HB4.out, HN4.out⟩
              case measure => simp [intOf]; omega
            · have HJ4 := Lib.hid hJx3
              have HS4 := Lib.hid hS3
              have hz4 := hkf.size
              clear hJx3 hS3 hkf
              gi_wp2
              refine bodyPost_ret (results_none rfl _ _ _) rfl ?_
              exact ⟨⟨_, rfl⟩, HS4.out, by rw [← HMM.out]; omega, .inr HJ4.out⟩
          · have m3 := blk_cell HNk.out 3 rfl
            have b0 := blk_cell HBk.out 0 rfl
            have b1 := blk_cell HBk.out 1 rfl
            have b2 := blk_cell HBk.out 2 rfl
            have b3 := blk_cell HBk.out 3 rfl
            have hA := (Below.refl wr.heap.size wr).alloc (Nat.le_refl _) (.cells #[.int .u64 0, .slice d.kA d.ks.length d.kc, .int .i64 (-1), .int .i64 (-1)] 232)
            have HS7 := Lib.hid (HSW.out.below hA)
            have HJ7 := Lib.hid ((HJ.out C).chg pre _ _ HJW.out (Chg.of_below hA))
            have HN7 := Lib.hid (blk_new wr #[.int .u64 0, .slice d.kA d.ks.length d.kc, .int .i64 (-1), .int .i64 (-1)] 232)
            have hz7 := hA.size
            clear hA
            go_wp2
            go_roundw
            case rel => exact ⟨-1, wr.heap.size, pre, C, rfl, rfl, .inr ⟨rfl, by omega, HPU.out⟩, by omega, HJ7.out, HS7.out, fun k hk => Nat.lt_of_lt_of_le (HCB.out k hk) hz7, fun e => by have := HCB.out _ e; omega, HN7.out⟩
            case measure => simp [intOf]
      · subst e1
        have HL := Lib.hid e2
        clear e2
        go_wp2
        go_end0
        exact ⟨⟨_, rfl⟩, HSW.out, by rw [← HMM.out]; exact hMw, .inl ⟨C, pre, HL.out, HJW.out, HCB.out⟩⟩
  · rw [decide_eq_false hnn]
    go_wp2
    refine bodyPost_ret (results_none rfl _ _ _) rfl ?_
    exact ⟨⟨_, rfl⟩, HST1.out, hz1, .inl ⟨C0, [], ⟨by simp, U64.nil⟩, HJ1'.out, fun k hk => by have := HC0.out k hk; omega⟩⟩
end Go.Proofs.YtcnaikoloagbdaaGreat
