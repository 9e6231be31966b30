/-
  trie.Trie: Has of the key 5; the empty trie's Min; All of both, as iterators that keep their word.
-/
import Derived.Test.YtcnaikoloagbdaaGreatQTr5
import Derived.Test.YtcnaikoloagbdaaGreatQItA
namespace Go.Proofs.YtcnaikoloagbdaaGreat
set_option linter.unusedVariables false
set_option linter.unusedSimpArgs false
open Go.RowKit Go.Shelf
attribute [local go_sem] Oper.semAt_some k1
attribute [local go_sem ↓] Go.wp_at_zero Go.wp_at_succ

set_option maxRecDepth 100000 in
set_option maxHeartbeats 2000000 in
theorem t5Has (d : TD) (w : World) (h : T5 w d) : Calls Tryz.prog 393 #[.pointer (some ⟨d.t, 0, none⟩), .int .u64 5] w fun e w' => e = .returned (.bool true) ∧ Hid (T5 w' d) ∧ Hid (Chg d.red w w') := by
  have H := Lib.hid h
  clear h
  go_enter Tryz.func393, Tryz.ntmps393
  go_wp2_with fail
  refine (t5Start d _ H.out).mono ?_
  rintro e w1 ⟨rfl, H1, HC1⟩
  go_wp2_with fail
  refine (t5Path d _ H1.out).mono ?_
  rintro e w2 ⟨g, c, rfl, HO, H2, HC2⟩
  have HC3 := Lib.hid (HC1.out.then HC2.out)
  obtain ⟨A', c', hA', _, _, hr⟩ := HO.out.form
  have h10 : w2.cell? ⟨g, 10, none⟩ = some (.int .i64 0) := by
    obtain ⟨ad, e1, _, e2⟩ := hr 10 (by simp [pathL])
    simp only [Value.slice.injEq] at hA'
    rw [← hA'.1] at e1
    cases e1
    rw [add_mk] at e2
    exact e2
  clear hr hA' HO
  go_wp2_with fail
  refine (t5Last d _ H2.out).mono ?_
  rintro e w3 ⟨rfl, HB3⟩
  have H4 := Lib.hid (H2.out.below HB3.out)
  have HC4 := Lib.hid (HC3.out.then (Chg.of_below HB3.out))
  go_wp2
  go_ret
  exact ⟨rfl, H4.out, HC4.out⟩
/-- an empty trie -/
structure T0 (w : World) (d : TD) : Prop where
  tp : TP w d
  n : d.n = 0
  ls : d.ls = []
  lim : 11 ≤ d.limit
  kb : ∀ g, ¬ d.kb g
theorem T0.stay {w w' : World} {d : TD} (h : T0 w d) (hs : ∀ b, d.own b → w'.heap[b]? = w.heap[b]?) : T0 w' d := ⟨h.tp.stay hs, h.n, h.ls, h.lim, h.kb⟩
theorem T0.below {w w' : World} {d : TD} (h : T0 w d) (hb : Below w.heap.size w w') : T0 w' d := h.stay (fun b hb' => hb.block b (h.tp.lt b hb'))
theorem t0Start (d : TD) (w : World) (h : T0 w d) : Calls Tryz.prog 415 #[.pointer (some ⟨d.t, 0, none⟩)] w fun e w' => e = .returned (.bool false) ∧ Hid (T0 w' d) ∧ Hid (Chg d.red w w') := by
  have HH := Lib.hid h
  refine (tStart d w h.tp).mono ?_
  rintro e w1 ⟨rfl, HT, HC⟩
  exact ⟨by rw [HH.out.n]; rfl, ⟨HT.out, HH.out.n, HH.out.ls, HH.out.lim, HH.out.kb⟩, HC.out⟩
set_option maxRecDepth 100000 in
set_option maxHeartbeats 2000000 in
theorem t0First (d : TD) (w : World) (h : T0 w d) : Calls Tryz.prog 421 #[.pointer (some ⟨d.t, 0, none⟩)] w fun e w' => e = .returned (.tuple #[.agg #[.int .u64 0, .slice none 0 0, .int .i64 0, .int .u64 0, .int .u64 0], .bool false]) ∧ Hid (T0 w' d) ∧ Hid (Chg d.red w w') := by
  have hA := (Below.refl w.heap.size w).alloc (Nat.le_refl _) (.cells #[.int .u64 0, .slice none 0 0, .int .i64 0, .int .u64 0, .int .u64 0] 239)
  have HB0 := Lib.hid hA
  have H0 := Lib.hid (h.below hA)
  have HR0 := Lib.hid (blk_new w #[.int .u64 0, .slice none 0 0, .int .i64 0, .int .u64 0, .int .u64 0] 239)
  have hm := h.tp.lt d.m (.inr (.inr (.inl rfl)))
  have HLT := Lib.hid h.tp.lt
  clear h hA
  go_enter Tryz.func421, Tryz.ntmps421
  go_wp2_with fail
  generalize w.alloc (.cells #[.int .u64 0, .slice none 0 0, .int .i64 0, .int .u64 0, .int .u64 0] 239) = w0 at *
  refine (t0Start d _ H0.out).mono ?_
  rintro e w1 ⟨rfl, H1, HC1⟩
  have HR1 := Lib.hid (HC1.out.blk HR0.out (fun e => by have e' : w.heap.size = d.m := e; omega))
  have HC1' := Lib.hid ((Chg.of_below (S := d.red) HB0.out).trans HC1.out (fun q _ e => e))
  have e0 := blk_cell HR1.out 0 (v := .int .u64 0) rfl
  have e1 := blk_cell HR1.out 1 (v := .slice none 0 0) rfl
  have e2 := blk_cell HR1.out 2 (v := .int .i64 0) rfl
  have e3 := blk_cell HR1.out 3 (v := .int .u64 0) rfl
  have e4 := blk_cell HR1.out 4 (v := .int .u64 0) rfl
  have f0 := blk_free HR1.out 0
  have f1 := blk_free HR1.out 1
  have f2 := blk_free HR1.out 2
  have f3 := blk_free HR1.out 3
  have f4 := blk_free HR1.out 4
  have hcs := putN (Chg.refl (· = w.heap.size) w1) (b := w.heap.size) (.int .u64 0) (.slice none 0 0) (.int .i64 0) (.int .u64 0) (.int .u64 0) (.inl rfl)
  have HT6 := Lib.hid (H1.out.stay (fun q hq => hcs.block q (H1.out.tp.lt q hq) (fun e => by have e' : q = w.heap.size := e; have := HLT.out q hq; omega)))
  have HC6 := Lib.hid (putN HC1'.out (b := w.heap.size) (.int .u64 0) (.slice none 0 0) (.int .i64 0) (.int .u64 0) (.int .u64 0) (.inr (Nat.le_refl _)))
  have hk8 := blk_set (blk_set (blk_set (blk_set (blk_set HR1.out 0 (.int .u64 0)) 1 (.slice none 0 0)) 2 (.int .i64 0)) 3 (.int .u64 0)) 4 (.int .u64 0)
  have HK := Lib.hid hk8
  clear hk8 hcs
  go_wp2
  have k0 := blk_cell HK.out 0 (v := .int .u64 0) rfl
  have k1 := blk_cell HK.out 1 (v := .slice none 0 0) rfl
  have k2 := blk_cell HK.out 2 (v := .int .i64 0) rfl
  have k3 := blk_cell HK.out 3 (v := .int .u64 0) rfl
  have k4 := blk_cell HK.out 4 (v := .int .u64 0) rfl
  refine bodyPost_ret (v := .tuple #[.agg #[.int .u64 0, .slice none 0 0, .int .i64 0, .int .u64 0, .int .u64 0], .bool false]) (by simp [results, Tryz.results421, go_sem, k0, k1, k2, k3, k4]) rfl ⟨rfl, HT6.out, HC6.out⟩
set_option maxRecDepth 100000 in
set_option maxHeartbeats 2000000 in
theorem t0Min (d : TD) (w : World) (h : T0 w d) : Calls Tryz.prog 398 #[.pointer (some ⟨d.t, 0, none⟩)] w fun e w' => e = .returned (.tuple #[.int .u64 0, .bool false]) ∧ Hid (T0 w' d) ∧ Hid (Chg d.red w w') := by
  have H := Lib.hid h
  clear h
  go_enter Tryz.func398, Tryz.ntmps398
  go_wp2_with fail
  refine (t0First d _ H.out).mono ?_
  rintro e w1 ⟨rfl, H1, HC1⟩
  have hA := (Below.refl w1.heap.size w1).alloc (Nat.le_refl _) (.cells #[.int .u64 0, .slice none 0 0, .int .i64 0, .int .u64 0, .int .u64 0] 239)
  have H2 := Lib.hid (H1.out.below hA)
  have HC2 := Lib.hid (HC1.out.then (Chg.of_below hA))
  have b3 := blk_cell (blk_new w1 #[.int .u64 0, .slice none 0 0, .int .i64 0, .int .u64 0, .int .u64 0] 239) 3 (v := .int .u64 0) rfl
  clear hA
  go_wp2
  go_ret2
  exact ⟨rfl, H2.out, HC2.out⟩
set_option maxRecDepth 100000 in
theorem tAllMake (t : Nat) (w : World) : Calls Tryz.prog 390 #[.pointer (some ⟨t, 0, none⟩)] w fun e w' => e = .returned (.func (.func 404) #[] #[.pointer (some ⟨w.heap.size, 0, none⟩)]) ∧ w' = w.alloc (.cells #[.pointer (some ⟨t, 0, none⟩)] 186) := by
  go_enter Tryz.func390, Tryz.ntmps390
  go_wp2
  go_ret
  exact ⟨rfl, rfl⟩
/-- what All needs: the trie, and the iterator's box -/
def t0St (d : TD) (B1 : Nat) (V : World) : Prop := T0 V d ∧ V.heap[B1]? = some (.cells #[.pointer (some ⟨d.t, 0, none⟩)] 186 (0, 0))
def t5St (d : TD) (B1 : Nat) (V : World) : Prop := T5 V d ∧ V.heap[B1]? = some (.cells #[.pointer (some ⟨d.t, 0, none⟩)] 186 (0, 0))
theorem t_ne {d : TD} {B1 : Nat} {X : World} {v : Value} (h : TP X d) (hb : X.heap[B1]? = some (.cells #[v] 186 (0, 0))) : B1 ≠ d.m := by
  obtain ⟨t1, t2, t3, t4, t5⟩ := h.tys
  exact (show ty X B1 186 from ⟨_, hb⟩).ne t3 (by decide)
theorem t0St.red {d : TD} {B1 : Nat} {X Y : World} (h : t0St d B1 X) (hy : T0 Y d) (hc : Chg d.red X Y) : t0St d B1 Y := ⟨hy, hc.blk h.2 (t_ne h.1.tp h.2)⟩
theorem t5St.red {d : TD} {B1 : Nat} {X Y : World} (h : t5St d B1 X) (hy : T5 Y d) (hc : Chg d.red X Y) : t5St d B1 Y := ⟨hy, hc.blk h.2 (t_ne h.1.tp h.2)⟩
set_option maxRecDepth 100000 in
set_option maxHeartbeats 4000000 in
theorem tAll0 (d : TD) (B1 : Nat) : SeqF Tryz.prog 404 #[.pointer (some ⟨B1, 0, none⟩)] k1 (t0St d B1) d.red (fun xs => xs = []) 0 := by
  intro n l J Jx C0 W hn hst hJ hJx hY hC0 h0
  have HJ := Lib.hid hJ
  have HST := Lib.hid hst
  have HJ1 := Lib.hid h0
  have HC0 := Lib.hid hC0
  have q0 := blk_cell hst.2 0 rfl
  clear hJ hY hst h0 hJx hC0
  refine callsIn_wide.2 ?_
  go_enter Tryz.func404, Tryz.ntmps404
  go_wp2_with fail
  refine (t0Min d _ HST.out.1).mono ?_
  rintro e w1 ⟨rfl, HY1, HC1⟩
  have HST1 := Lib.hid (HST.out.red HY1.out HC1.out)
  have HJ2 := Lib.hid ((HJ.out C0).chg [] _ _ HJ1.out HC1.out)
  have hz1 := HC1.out.size
  clear q0 HST HJ1 HY1 HC1
  go_wp2
  go_loopw [3, 4] (fun v3 v4 wr => v3 = .int .u64 0 ∧ v4 = .bool false ∧ wr = w1) (fun _ _ _ => 0)
  case atStart => exact ⟨rfl, rfl, rfl⟩
  case round =>
    obtain ⟨rfl, rfl, rfl⟩ := hrel
    go_wp2
    go_end0
    exact ⟨⟨_, rfl⟩, HST1.out, hz1, .inl ⟨C0, [], rfl, HJ2.out, fun k hk => by have := HC0.out k hk; omega⟩⟩
set_option maxRecDepth 100000 in
set_option maxHeartbeats 4000000 in
theorem tAll5 (d : TD) (B1 : Nat) : SeqF Tryz.prog 404 #[.pointer (some ⟨B1, 0, none⟩)] k1 (t5St d B1) d.red (fun xs => xs = [5]) 1 := by
  intro n l J Jx C0 W hn hst hJ hJx hY hC0 h0
  have HJ := Lib.hid hJ
  have HYY := Lib.hid hY
  have HST := Lib.hid hst
  have HJ1 := Lib.hid h0
  have HC0 := Lib.hid hC0
  have q0 := blk_cell hst.2 0 rfl
  obtain ⟨M, hM⟩ : ∃ M, M = W.heap.size := ⟨_, rfl⟩
  have HMM := Lib.hid hM
  clear hJ hY hst h0 hJx hC0 hM
  refine callsIn_wide.2 ?_
  go_enter Tryz.func404, Tryz.ntmps404
  go_wp2_with fail
  refine (t5Min d _ HST.out.1).mono ?_
  rintro e w1 ⟨rfl, HY1, HC1⟩
  have HST1 := Lib.hid (HST.out.red HY1.out HC1.out)
  have HJ2 := Lib.hid ((HJ.out C0).chg [] _ _ HJ1.out HC1.out)
  have hz1 := HC1.out.size
  clear q0 HST HJ1 HY1 HC1
  go_wp2
  go_loopw [3, 4] (fun v3 v4 wr => ∃ (b : Bool) (k : Int) (pre : List Int) (C : Nat → Prop), v3 = .int .u64 k ∧ v4 = .bool b ∧ Hid ((b = true ∧ k = 5 ∧ pre = []) ∨ (b = false ∧ pre = [5])) ∧ M ≤ wr.heap.size ∧ Hid (J C pre wr) ∧ Hid (t5St d B1 wr) ∧ Hid (∀ k, C k → k < wr.heap.size)) (fun _ v4 _ => match v4 with | .bool true => 1 | _ => 0)
  case atStart => exact ⟨true, 5, [], C0, rfl, rfl, .inl ⟨rfl, rfl, rfl⟩, by rw [HMM.out]; exact hz1, HJ2.out, HST1.out, fun k hk => by have := HC0.out k hk; omega⟩
  case round =>
    clear HJ2 HST1 HC0
    obtain ⟨b, k, pre, C, rfl, rfl, HI, hMw, HJW, HSW, HCB⟩ := hrel
    have q0 := blk_cell HSW.out.2 0 rfl
    rcases HI.out with ⟨rfl, rfl, rfl⟩ | ⟨rfl, rfl⟩
    · obtain ⟨fn, tmps, assign, body, hy, hR⟩ := HYY.out C [] 5 wr (by rw [← HMM.out]; exact hMw) HCB.out HJW.out HSW.out (by simp)
      simp only [k1] at hy
      have hn1 : 1 ≤ n := by omega
      clear HI
      have hfn : Fence.wide.fn 399 := trivial
      refine (wpIn_wide (n := n)).1 ?_
      gi_wp2
      refine hR.mono ?_
      rintro e W3 (⟨rfl, hS3, hkf, C', hJ3, hC', hkk⟩ | ⟨rfl, hS3, hkf, hJx3, _⟩)
      · have HJ4 := Lib.hid hJ3
        have HS4 := Lib.hid hS3
        have HC4 := Lib.hid (show ∀ k, C' k → k < W3.heap.size from fun k hk => (hC' k hk).2)
        have hz4 := hkf.size
        have q4 := blk_cell hS3.2 0 rfl
        clear hJ3 hS3 hkf hkk hC' q0
        gi_wp2
        refine ((callsIn_wide (n := n - 1)).2 (t5Next d _ HS4.out.1)).mono ?_
        rintro e w5 ⟨rfl, HY5, HC5⟩
        have HS6 := Lib.hid (HS4.out.red HY5.out HC5.out)
        have HJ6 := Lib.hid ((HJ.out C').chg _ _ _ HJ4.out HC5.out)
        have hz5 := HC5.out.size
        gi_wp2
        go_roundw
        case rel => exact ⟨false, 0, [5], C', rfl, rfl, .inr ⟨rfl, rfl⟩, by omega, HJ6.out, HS6.out, fun k hk => Nat.lt_of_lt_of_le (HC4.out k hk) hz5⟩
        case measure => simp
      · have HJ4 := Lib.hid hJx3
        have HS4 := Lib.hid hS3
        have hz4 := hkf.size
        clear hJx3 hS3 hkf
        gi_wp2
        go_end0
        exact ⟨⟨_, rfl⟩, HS4.out, by rw [← HMM.out]; omega, .inr HJ4.out⟩
    · clear HI
      go_wp2
      go_end0
      exact ⟨⟨_, rfl⟩, HSW.out, by rw [← HMM.out]; exact hMw, .inl ⟨C, [5], rfl, HJW.out, HCB.out⟩⟩
end Go.Proofs.YtcnaikoloagbdaaGreat
