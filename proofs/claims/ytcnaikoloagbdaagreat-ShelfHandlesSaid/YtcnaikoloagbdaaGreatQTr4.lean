/-
  trie.Trie that has the key 5 alone: kid, path, Has, Min, Next; walked.
-/
import Derived.Test.YtcnaikoloagbdaaGreatQTr3
namespace Go.Proofs.YtcnaikoloagbdaaGreat
set_option linter.unusedVariables false
set_option linter.unusedSimpArgs false
open Go.RowKit

/-- a trie of the key 5 -/
structure T5 (w : World) (d : TD) : Prop where
  tp : TP w d
  nds : Nds w d.kb d.ls
  n : d.n = 1
  root : d.root = 10
  len : d.ls.length = 11
theorem T5.stay {w w' : World} {d : TD} (h : T5 w d) (hs : ∀ b, d.own b → w'.heap[b]? = w.heap[b]?) : T5 w' d := ⟨h.tp.stay hs, h.nds.stay (fun _ h => h) (fun g hg => hs g (.inr (.inr (.inr (.inr hg))))), h.n, h.root, h.len⟩
theorem T5.lt {w : World} {d : TD} (h : T5 w d) : ∀ k, d.own k → k < w.heap.size := h.tp.lt
theorem T5.below {w w' : World} {d : TD} (h : T5 w d) (hb : Below w.heap.size w w') : T5 w' d := h.stay (fun b hb' => hb.block b (h.lt b hb'))
theorem T5.drewn {w : World} {d : TD} (h : T5 w d) : T5 w.drew d := h.stay (fun _ _ => rfl)
theorem T5.drewsN {w : World} {d : TD} (h : T5 w d) (n : Nat) : T5 (w.drewN n) d := h.stay (fun _ _ => rfl)
theorem T5.readm {w w' : World} {d : TD} (h : T5 w d) (hm : TP w' d) (hc : Chg d.red w w') : T5 w' d := by
  obtain ⟨t1, t2, t3, t4, t5⟩ := h.tp.tys
  exact ⟨hm, h.nds.stay (fun _ h => h) (fun g hg => hc.block g (h.lt g (.inr (.inr (.inr (.inr hg))))) ((t5 g hg).ne t3 (by decide))), h.n, h.root, h.len⟩
/-- the node at j as a value -/
abbrev ndV (j : Nat) (kA : Option Addr) (kn kc : Nat) : Value := .agg #[.int .u64 (if j = 0 then 32 else 1), .slice kA kn kc, .int .i64 1, .int .u64 5, .int .u64 5]
/-- its child -/
def KidOk (w : World) (d : TD) (j : Nat) (kA : Option Addr) (kn kc : Nat) : Prop := 1 ≤ j → ∃ g, kA = some ⟨g, 0, none⟩ ∧ kn = 1 ∧ 1 ≤ kc ∧ d.kb g ∧ ∃ cur, w.heap[g]? = some (.cells cur 3 (0, 0)) ∧ cur[0]? = some (.int .i64 ((j : Int) - 1))
theorem KidOk.stay {w w' : World} {d : TD} {j : Nat} {kA : Option Addr} {kn kc : Nat} (h : KidOk w d j kA kn kc) (hs : ∀ g, d.kb g → w'.heap[g]? = w.heap[g]?) : KidOk w' d j kA kn kc := fun hj => by
  obtain ⟨g, h1, h2, h3, h4, cur, h5, h6⟩ := h hj
  exact ⟨g, h1, h2, h3, h4, cur, (hs g h4).trans h5, h6⟩
theorem T5.kid {w : World} {d : TD} (h : T5 w d) (j : Nat) (hj : j < d.ls.length) : ∃ kA kn kc, d.ls[j] = ⟨if j = 0 then 32 else 1, kA, kn, kc, 1, 5, 5⟩ ∧ KidOk w d j kA kn kc := by
  obtain ⟨h1, h2, h3, h4, h5⟩ := h.nds j hj
  refine ⟨d.ls[j].kA, d.ls[j].kn, d.ls[j].kc, ?_, h5⟩
  generalize d.ls[j] = x at *
  obtain ⟨xb, xA, xn, xc, xk, xm, xx⟩ := x
  simp only at h1 h2 h3 h4 ⊢
  subst h1 h2 h3 h4
  rfl
set_option maxRecDepth 100000 in
theorem t5At (d : TD) (w : World) (h : T5 w d) (j : Nat) (hj : j ≤ 10) : Calls Tryz.prog 422 #[.pointer (some ⟨d.p, 0, none⟩), .int .i64 j] w fun e w' => ∃ kA kn kc, e = .returned (.tuple #[ndV j kA kn kc, .bool true]) ∧ Hid (KidOk w' d j kA kn kc) ∧ Hid (T5 w' d) ∧ Hid (Chg d.red w w') := by
  have hlt : j < d.ls.length := by have := h.len; omega
  have HH := Lib.hid h
  refine (pnAt d.p d.m d.v d.ls d.limit _ h.tp.pool j h.tp.mt (Nat.zero_le _)).mono ?_
  rintro e w1 ⟨x, b, rfl, HB, HX, _, HP, HM, HC⟩
  obtain rfl : b = true := HB.out.trans (decide_eq_true ⟨by omega, by omega⟩)
  obtain ⟨hn, hx⟩ := HX.out rfl
  have HC' := Lib.hid (HC.out.mono (T := d.red) (fun _ _ e => e))
  have H1 := Lib.hid (HH.out.readm (HH.out.tp.readm HM.out HC.out) HC'.out)
  obtain ⟨kA, kn, kc, e1, hk⟩ := H1.out.kid j hlt
  have hx' : x = d.ls[j] := hx
  rw [e1] at hx'
  subst hx'
  exact ⟨kA, kn, kc, rfl, hk, H1.out, HC'.out⟩
set_option maxRecDepth 100000 in
set_option maxHeartbeats 1000000 in
theorem t5Kid (d : TD) (w : World) (h : T5 w d) (i : Nat) (h2 : i < 10) (kA : Option Addr) (kn kc : Nat) (hk : KidOk w d (i + 1) kA kn kc) : Calls Tryz.prog 423 #[.pointer (some ⟨d.t, 0, none⟩), ndV (i + 1) kA kn kc, .int .i64 0] w fun e w' => ∃ kA kn kc, e = .returned (.tuple #[.int .i64 i, ndV i kA kn kc, .bool true]) ∧ Hid (KidOk w' d i kA kn kc) ∧ Hid (T5 w' d) ∧ Hid (Chg d.red w w') := by
  obtain ⟨g, rfl, rfl, hkc, hkb, cur, hg, hg0'⟩ := hk (by omega)
  have hg0 : cur[0]? = some (.int .i64 (i : Int)) := by rw [hg0']; congr 2; omega
  have ej : ndV (i + 1) (some ⟨g, 0, none⟩) 1 kc = .agg #[.int .u64 1, .slice (some ⟨g, 0, none⟩) 1 kc, .int .i64 1, .int .u64 5, .int .u64 5] := by
    unfold ndV; rw [if_neg (by omega)]
  rw [ej]
  have hA := ((Below.refl w.heap.size w).alloc (Nat.le_refl _) (.cells #[.int .u64 1, .slice (some ⟨g, 0, none⟩) 1 kc, .int .i64 1, .int .u64 5, .int .u64 5] 239)).alloc (by simp) (.cells #[.int .u64 0, .slice none 0 0, .int .i64 0, .int .u64 0, .int .u64 0] 239)
  have HB0 := Lib.hid hA
  have H0 := Lib.hid (h.below hA)
  have HG0 := Lib.hid (blk_below hg hA rfl)
  have HX0 := Lib.hid (blk_old (blk_new w #[.int .u64 1, .slice (some ⟨g, 0, none⟩) 1 kc, .int .i64 1, .int .u64 5, .int .u64 5] 239) (.cells #[.int .u64 0, .slice none 0 0, .int .i64 0, .int .u64 0, .int .u64 0] 239))
  have HR0 := Lib.hid (blk_new (w.alloc (.cells #[.int .u64 1, .slice (some ⟨g, 0, none⟩) 1 kc, .int .i64 1, .int .u64 5, .int .u64 5] 239)) #[.int .u64 0, .slice none 0 0, .int .i64 0, .int .u64 0, .int .u64 0] 239)
  rw [World.size_alloc] at HR0
  have hm := h.lt d.m (.inr (.inr (.inl rfl)))
  have HLT := Lib.hid h.lt
  clear hA h hg hk ej hg0'
  go_enter Tryz.func423, Tryz.ntmps423
  go_wp2_with fail
  have x0 := blk_cell HX0.out 0 rfl
  have x1 := blk_cell HX0.out 1 rfl
  have g0 := blk_cell HG0.out 0 hg0
  generalize (w.alloc (.cells #[.int .u64 1, .slice (some ⟨g, 0, none⟩) 1 kc, .int .i64 1, .int .u64 5, .int .u64 5] 239)).alloc (.cells #[.int .u64 0, .slice none 0 0, .int .i64 0, .int .u64 0, .int .u64 0] 239) = w0 at *
  refine (get1 _).mono ?_
  rintro e w1 ⟨rfl, rfl⟩
  go_wp2
  go_quiet (first | (go_at_call 409; refine Calls.quiet_of_same (rankZ 1 (.inr rfl) _)))
  have HT2 := Lib.hid (H0.out.drewsN nq)
  have HR2 := Lib.hid (show (w1.drewN nq).heap[w.heap.size + 1]? = _ from HR0.out)
  have HB2 := Lib.hid (below_drewN HB0.out nq)
  clear H0 HB0 HG0 HX0 HR0 x0 x1 g0
  generalize w1.drewN nq = w2 at *
  obtain ⟨c0, c1, c2, c3⟩ := HT2.out.tp.cells
  go_wp2_with fail
  refine (t5At d _ HT2.out i (by omega)).mono ?_
  rintro e w3 ⟨kA, kn, kc', rfl, HK3, HT3, HC3⟩
  have HR3 := Lib.hid (HC3.out.blk HR2.out (fun e => by have e' : w.heap.size + 1 = d.m := e; omega))
  have HC3' := Lib.hid ((Chg.of_below (S := d.red) HB2.out).trans HC3.out (fun q _ e => e))
  unfold ndV
  generalize hb : (if i = 0 then (32 : Int) else 1) = b at *
  have HBB := Lib.hid hb
  clear hb HR2 HB2 HT2 HC3 c0 c1 c2 c3
  have hA := (Below.refl w3.heap.size w3).alloc (Nat.le_refl _) (.cells #[.int .u64 b, .slice kA kn kc', .int .i64 1, .int .u64 5, .int .u64 5] 239)
  have HT4 := Lib.hid (HT3.out.below hA)
  have HN4 := Lib.hid (blk_new w3 #[.int .u64 b, .slice kA kn kc', .int .i64 1, .int .u64 5, .int .u64 5] 239)
  have HR4 := Lib.hid (blk_below HR3.out hA rfl)
  have HC4 := Lib.hid (HC3'.out.then (Chg.of_below hA))
  have HK4 := Lib.hid (HK3.out.stay (fun g hg => hA.block g (HT3.out.lt g (.inr (.inr (.inr (.inr hg)))))))
  clear hA HT3 HR3 HC3' HK3
  have f0 := blk_free HR4.out 0
  have f1 := blk_free HR4.out 1
  have f2 := blk_free HR4.out 2
  have f3 := blk_free HR4.out 3
  have f4 := blk_free HR4.out 4
  have s0 := blk_cell HR4.out 0 rfl
  have s1 := blk_cell HR4.out 1 rfl
  have s2 := blk_cell HR4.out 2 rfl
  have s3 := blk_cell HR4.out 3 rfl
  have s4 := blk_cell HR4.out 4 rfl
  have n0 := blk_cell HN4.out 0 rfl
  have n1 := blk_cell HN4.out 1 rfl
  have n2 := blk_cell HN4.out 2 rfl
  have n3 := blk_cell HN4.out 3 rfl
  have n4 := blk_cell HN4.out 4 rfl
  have hcs := putN (Chg.refl (· = w.heap.size + 1) (w3.alloc (.cells #[.int .u64 b, .slice kA kn kc', .int .i64 1, .int .u64 5, .int .u64 5] 239))) (b := w.heap.size + 1) (.int .u64 b) (.slice kA kn kc') (.int .i64 1) (.int .u64 5) (.int .u64 5) (.inl rfl)
  have HNOT := Lib.hid (show ∀ q, d.own q → ¬ (q = w.heap.size + 1) from fun q hq e => by have := HLT.out q hq; omega)
  have HT5 := Lib.hid (HT4.out.stay (fun q hq => hcs.block q (HT4.out.lt q hq) (HNOT.out q hq)))
  have HK5 := Lib.hid (HK4.out.stay (fun g hg => hcs.block g (HT4.out.lt g (.inr (.inr (.inr (.inr hg))))) (HNOT.out g (.inr (.inr (.inr (.inr hg)))))))
  have HC5 := Lib.hid (putN HC4.out (b := w.heap.size + 1) (.int .u64 b) (.slice kA kn kc') (.int .i64 1) (.int .u64 5) (.int .u64 5) (.inr (by omega)))
  have HR5 := Lib.hid (blk_set (blk_set (blk_set (blk_set (blk_set HR4.out 0 (.int .u64 b)) 1 (.slice kA kn kc')) 2 (.int .i64 1)) 3 (.int .u64 5)) 4 (.int .u64 5))
  clear hcs HT4 HK4 HC4 HNOT
  go_wp2
  go_region
  generalize (((((w3.alloc (.cells #[.int .u64 b, .slice kA kn kc', .int .i64 1, .int .u64 5, .int .u64 5] 239)).setCell ⟨w.heap.size + 1, 0, none⟩ (.int .u64 b)).setCell ⟨w.heap.size + 1, 1, none⟩ (.slice kA kn kc')).setCell ⟨w.heap.size + 1, 2, none⟩ (.int .i64 1)).setCell ⟨w.heap.size + 1, 3, none⟩ (.int .u64 5)).setCell ⟨w.heap.size + 1, 4, none⟩ (.int .u64 5) = w5 at *
  have hk8 : w5.drew.heap[w.heap.size + 1]? = _ := HR5.out
  have k0 : w5.drew.cell? ⟨w.heap.size + 1, 0, none⟩ = some (.int .u64 b) := blk_cell hk8 0 rfl
  have k1 : w5.drew.cell? ⟨w.heap.size + 1, 1, none⟩ = some (.slice kA kn kc') := blk_cell hk8 1 rfl
  have k2 : w5.drew.cell? ⟨w.heap.size + 1, 2, none⟩ = some (.int .i64 1) := blk_cell hk8 2 rfl
  have k3 : w5.drew.cell? ⟨w.heap.size + 1, 3, none⟩ = some (.int .u64 5) := blk_cell hk8 3 rfl
  have k4 : w5.drew.cell? ⟨w.heap.size + 1, 4, none⟩ = some (.int .u64 5) := blk_cell hk8 4 rfl
  clear s0 s1 s2 s3 s4 n0 n1 n2 n3 n4 f0 f1 f2 f3 f4 HR4 HN4 HR5
  go_wp2
  refine bodyPost_ret (v := .tuple #[.int .i64 i, .agg #[.int .u64 b, .slice kA kn kc', .int .i64 1, .int .u64 5, .int .u64 5], .bool true]) (by simp [results, Tryz.results423, go_sem, k0, k1, k2, k3, k4]) rfl ⟨kA, kn, kc', by unfold ndV; rw [HBB.out], HK5.out, HT5.out.drewn, HC5.out.drew⟩
theorem t5At10 (d : TD) (w : World) (h : T5 w d) : Calls Tryz.prog 422 #[.pointer (some ⟨d.p, 0, none⟩), .int .i64 10] w fun e w' => ∃ (g kc : Nat), e = .returned (.tuple #[.agg #[.int .u64 1, .slice (some ⟨g, 0, none⟩) 1 kc, .int .i64 1, .int .u64 5, .int .u64 5], .bool true]) ∧ Hid (KidOk w' d 10 (some ⟨g, 0, none⟩) 1 kc) ∧ Hid (T5 w' d) ∧ Hid (Chg d.red w w') := by
  refine (t5At d w h 10 (Nat.le_refl _)).mono ?_
  rintro e w1 ⟨kA, kn, kc, rfl, HK, HT, HC⟩
  obtain ⟨g, rfl, rfl, _⟩ := HK.out (by decide)
  exact ⟨g, kc, rfl, HK, HT, HC⟩
theorem t5Kid1 (d : TD) (w : World) (h : T5 w d) (i : Nat) (h2 : i < 10) (kA : Option Addr) (kn kc : Nat) (hk : KidOk w d (i + 1) kA kn kc) : Calls Tryz.prog 423 #[.pointer (some ⟨d.t, 0, none⟩), .agg #[.int .u64 1, .slice kA kn kc, .int .i64 1, .int .u64 5, .int .u64 5], .int .i64 0] w fun e w' => ∃ (b : Int) (kA : Option Addr) (kn kc : Nat), e = .returned (.tuple #[.int .i64 i, .agg #[.int .u64 b, .slice kA kn kc, .int .i64 1, .int .u64 5, .int .u64 5], .bool true]) ∧ Hid (b = if i = 0 then 32 else 1) ∧ Hid (KidOk w' d i kA kn kc) ∧ Hid (T5 w' d) ∧ Hid (Chg d.red w w') := by
  have e : ndV (i + 1) kA kn kc = .agg #[.int .u64 1, .slice kA kn kc, .int .i64 1, .int .u64 5, .int .u64 5] := by
    unfold ndV; rw [if_neg (by omega)]
  have h3 := t5Kid d w h i h2 kA kn kc hk
  rw [e] at h3
  refine h3.mono ?_
  rintro e w1 ⟨kA, kn, kc, rfl, HK, HT, HC⟩
  exact ⟨_, kA, kn, kc, rfl, rfl, HK, HT, HC⟩
/-- a node lies in B -/
def T5Z (w wf : World) (d : TD) (B j : Nat) (b : Int) (kA : Option Addr) (kn kc : Nat) : Prop := T5 wf d ∧ Chg d.red w wf ∧ wf.heap[B]? = some (.cells #[.int .u64 b, .slice kA kn kc, .int .i64 1, .int .u64 5, .int .u64 5] 239 (0, 0)) ∧ KidOk wf d j kA kn kc ∧ w.heap.size ≤ B
theorem T5Z.drewn {w wf : World} {d : TD} {B j : Nat} {b : Int} {kA : Option Addr} {kn kc : Nat} (h : T5Z w wf d B j b kA kn kc) : T5Z w wf.drew d B j b kA kn kc := ⟨h.1.drewn, h.2.1.drew, h.2.2.1, h.2.2.2.1, h.2.2.2.2⟩
theorem tz1 {w w4 w5 : World} {d : TD} {j : Nat} {b : Int} {kA : Option Addr} {kn kc : Nat} (hc : Chg d.red w w4) (h : T5 w5 d) (hk : KidOk w5 d j kA kn kc) (h5 : Chg d.red w4 w5) : T5Z w (w5.alloc (.cells #[.int .u64 b, .slice kA kn kc, .int .i64 1, .int .u64 5, .int .u64 5] 239)) d w5.heap.size j b kA kn kc := by
  have hA := (Below.refl w5.heap.size w5).alloc (Nat.le_refl _) (.cells #[.int .u64 b, .slice kA kn kc, .int .i64 1, .int .u64 5, .int .u64 5] 239)
  exact ⟨h.below hA, (hc.trans h5 (fun _ _ e => e)).then (Chg.of_below hA), blk_new _ _ _, hk.stay (fun g hg => hA.block g (h.lt g (.inr (.inr (.inr (.inr hg)))))), Nat.le_trans hc.size h5.size⟩
theorem tz2 {w w4 w5 : World} {d : TD} {j : Nat} {b : Int} {kA : Option Addr} {kn kc : Nat} (h4 : T5 w4 d) (hc : Chg d.red w w4) (h : T5 w5 d) (hk : KidOk w5 d j kA kn kc) (h5 : Chg d.red (w4.alloc (.cells #[.int .u64 0, .slice none 0 0, .int .i64 0, .int .u64 0, .int .u64 0] 239)) w5) : w5.heap[w4.heap.size]? = some (.cells #[.int .u64 0, .slice none 0 0, .int .i64 0, .int .u64 0, .int .u64 0] 239 (0, 0)) ∧ T5Z w (((((w5.setCell ⟨w4.heap.size, 0, none⟩ (.int .u64 b)).setCell ⟨w4.heap.size, 1, none⟩ (.slice kA kn kc)).setCell ⟨w4.heap.size, 2, none⟩ (.int .i64 1)).setCell ⟨w4.heap.size, 3, none⟩ (.int .u64 5)).setCell ⟨w4.heap.size, 4, none⟩ (.int .u64 5)) d w4.heap.size j b kA kn kc := by
  have hA := (Below.refl w4.heap.size w4).alloc (Nat.le_refl _) (.cells #[.int .u64 0, .slice none 0 0, .int .i64 0, .int .u64 0, .int .u64 0] 239)
  have hml : d.m < w4.heap.size := h4.lt _ (.inr (.inr (.inl rfl)))
  have hn : ∀ q, d.own q → ¬ (q = w4.heap.size) := fun q hq e => by have := h4.lt q hq; omega
  have hb : w5.heap[w4.heap.size]? = _ := h5.blk (blk_new w4 _ _) (fun e => by have e' : w4.heap.size = d.m := e; omega)
  have hcs := putN (Chg.refl (· = w4.heap.size) w5) (b := w4.heap.size) (.int .u64 b) (.slice kA kn kc) (.int .i64 1) (.int .u64 5) (.int .u64 5) (.inl rfl)
  refine ⟨hb, h.stay (fun q hq => hcs.block q (h.lt q hq) (hn q hq)), putN ((hc.then (Chg.of_below hA)).trans h5 (fun _ _ e => e)) _ _ _ _ _ (.inr hc.size), ?_, hk.stay (fun g hg => hcs.block g (h.lt g (.inr (.inr (.inr (.inr hg))))) (hn g (.inr (.inr (.inr (.inr hg)))))), hc.size⟩
  exact blk_set (blk_set (blk_set (blk_set (blk_set hb 0 _) 1 _) 2 _) 3 _) 4 _
theorem t5Start (d : TD) (w : World) (h : T5 w d) : Calls Tryz.prog 415 #[.pointer (some ⟨d.t, 0, none⟩)] w fun e w' => e = .returned (.bool true) ∧ Hid (T5 w' d) ∧ Hid (Chg d.red w w') := by
  have HH := Lib.hid h
  refine (tStart d w h.tp).mono ?_
  rintro e w1 ⟨rfl, HT, HC⟩
  exact ⟨by rw [HH.out.n]; rfl, HH.out.readm HT.out HC.out, HC.out⟩
set_option maxRecDepth 100000 in
set_option maxHeartbeats 2000000 in
theorem t5Next (d : TD) (w : World) (h : T5 w d) : Calls Tryz.prog 399 #[.pointer (some ⟨d.t, 0, none⟩), .int .u64 6] w fun e w' => e = .returned (.tuple #[.int .u64 0, .bool false]) ∧ Hid (T5 w' d) ∧ Hid (Chg d.red w w') := by
  have H := Lib.hid h
  clear h
  go_enter Tryz.func399, Tryz.ntmps399
  go_wp2_with fail
  refine (t5Start d _ H.out).mono ?_
  rintro e w1 ⟨rfl, H1, HC1⟩
  have HD := Lib.hid H1.out.drewn
  have hA := (Below.refl w1.heap.size w1).alloc (Nat.le_refl _) (.cells #[.int .u64 0, .slice none 0 0, .int .i64 0, .int .u64 0, .int .u64 0] 239)
  have HD2 := Lib.hid (H1.out.below hA).drewn
  have c1 := H1.out.tp.cells.2.1
  have c2 := H1.out.tp.cells.2.2.1
  have c1' := (H1.out.below hA).tp.cells.2.1
  have c2' := (H1.out.below hA).tp.cells.2.2.1
  rw [H1.out.root] at c2 c2'
  have HB1 := Lib.hid (fun w5 (g kc : Nat) hk ht hc => tz1 (w5 := w5) (j := 10) (b := 1) (kA := some ⟨g, 0, none⟩) (kn := 1) (kc := kc) HC1.out ht hk ((Chg.refl _ _).drew.trans hc (fun _ _ e => e)))
  have HB2 := Lib.hid (fun w5 (g kc : Nat) hk ht hc => tz2 (w5 := w5) (j := 10) (b := 1) (kA := some ⟨g, 0, none⟩) (kn := 1) (kc := kc) H1.out HC1.out ht hk ((Chg.refl _ _).drew.trans hc (fun _ _ e => e)))
  clear hA
  go_wp2
  apply use_sameT
  case main =>
    intro K
    go_region_law (first | ((with_reducible refine gate_scall (f := 422) rfl ?_); refine step_goes rfl Tryz.func422 (by kernel_rfl) rfl #[.pointer (some ⟨d.p, 0, none⟩), .int .i64 10] rfl (by simp only [List.map_toArray, List.map_cons, List.map_nil]; rfl) (t5At10 d _ HD.out) ?_; rintro e w5 ⟨g, kc, rfl, HK5, HT5, HC5⟩; have HF := Lib.hid (HB1.out _ _ _ HK5.out HT5.out HC5.out); refine ⟨_, rfl, ?_⟩) | ((with_reducible refine gate_scall (f := 422) rfl ?_); refine step_goes rfl Tryz.func422 (by kernel_rfl) rfl #[.pointer (some ⟨d.p, 0, none⟩), .int .i64 10] rfl (by simp only [List.map_toArray, List.map_cons, List.map_nil]; rfl) (t5At10 d _ HD2.out) ?_; rintro e w5 ⟨g, kc, rfl, HK5, HT5, HC5⟩; have hb := (HB2.out _ _ _ HK5.out HT5.out HC5.out).1; have HF := Lib.hid (HB2.out _ _ _ HK5.out HT5.out HC5.out).2; have e0 := blk_cell hb 0 (v := .int .u64 0) rfl; have e1 := blk_cell hb 1 (v := .slice none 0 0) rfl; have e2 := blk_cell hb 2 (v := .int .i64 0) rfl; have e3 := blk_cell hb 3 (v := .int .u64 0) rfl; have e4 := blk_cell hb 4 (v := .int .u64 0) rfl; have f0 := blk_free hb 0; have f1 := blk_free hb 1; have f2 := blk_free hb 2; have f3 := blk_free hb 3; have f4 := blk_free hb 4; clear hb; refine ⟨_, rfl, ?_⟩))
    all_goals
      have HG := HF
      clear HF HK5
      first
      | (obtain ⟨wf, hwf⟩ : ∃ wf, wf = (((((w5.setCell ⟨w1.heap.size, 0, none⟩ (.int .u64 1)).setCell ⟨w1.heap.size, 1, none⟩ (.slice (some ⟨g, 0, none⟩) 1 kc)).setCell ⟨w1.heap.size, 2, none⟩ (.int .i64 1)).setCell ⟨w1.heap.size, 3, none⟩ (.int .u64 5)).setCell ⟨w1.heap.size, 4, none⟩ (.int .u64 5)) := ⟨_, rfl⟩
         rw [← hwf] at HG ⊢
         obtain ⟨B, hB⟩ : ∃ B, B = w1.heap.size := ⟨_, rfl⟩
         rw [← hB] at HG ⊢)
      | (obtain ⟨wf, hwf⟩ : ∃ wf, wf = (w5.alloc (.cells #[.int .u64 1, .slice (some ⟨g, 0, none⟩) 1 kc, .int .i64 1, .int .u64 5, .int .u64 5] 239)) := ⟨_, rfl⟩
         rw [← hwf] at HG ⊢
         obtain ⟨B, hB⟩ : ∃ B, B = w5.heap.size := ⟨_, rfl⟩
         rw [← hB] at HG ⊢)
      clear hwf hB
      revert HG
      revert wf B
      revert g kc
      exact K
  case rest =>
    intro g kc wf B HG
    have b4 := blk_cell HG.out.2.2.1 4 (v := .int .u64 5) rfl
    clear HB1 HB2
    go_wp2
    go_ret2
    exact ⟨rfl, HG.out.1, HG.out.2.1⟩
set_option maxRecDepth 100000 in
set_option maxHeartbeats 2000000 in
theorem t5First (d : TD) (w : World) (h : T5 w d) : Calls Tryz.prog 421 #[.pointer (some ⟨d.t, 0, none⟩)] w fun e w' => ∃ (g kc : Nat), e = .returned (.tuple #[.agg #[.int .u64 1, .slice (some ⟨g, 0, none⟩) 1 kc, .int .i64 1, .int .u64 5, .int .u64 5], .bool true]) ∧ Hid (T5 w' d) ∧ Hid (Chg d.red w w') := by
  have hA := (Below.refl w.heap.size w).alloc (Nat.le_refl _) (.cells #[.int .u64 0, .slice none 0 0, .int .i64 0, .int .u64 0, .int .u64 0] 239)
  have HB0 := Lib.hid hA
  have H0 := Lib.hid (h.below hA)
  have HR0 := Lib.hid (blk_new w #[.int .u64 0, .slice none 0 0, .int .i64 0, .int .u64 0, .int .u64 0] 239)
  have HLT := Lib.hid h.lt
  have hm := h.lt d.m (.inr (.inr (.inl rfl)))
  clear h hA
  go_enter Tryz.func421, Tryz.ntmps421
  go_wp2_with fail
  generalize w.alloc (.cells #[.int .u64 0, .slice none 0 0, .int .i64 0, .int .u64 0, .int .u64 0] 239) = w0 at *
  refine (t5Start d _ H0.out).mono ?_
  rintro e w1 ⟨rfl, H1, HC1⟩
  have HR1 := Lib.hid (HC1.out.blk HR0.out (fun e => by have e' : w.heap.size = d.m := e; omega))
  have HC1' := Lib.hid ((Chg.of_below (S := d.red) HB0.out).trans HC1.out (fun q _ e => e))
  have HD := Lib.hid H1.out.drewn
  have c1 := H1.out.tp.cells.2.1
  have c2 := H1.out.tp.cells.2.2.1
  rw [H1.out.root] at c2
  have HB1 := Lib.hid (fun w5 (hc : Chg d.red w1.drew w5) => (show w5.heap[w.heap.size]? = some (.cells #[.int .u64 0, .slice none 0 0, .int .i64 0, .int .u64 0, .int .u64 0] 239 (0, 0)) from hc.blk HR1.out (fun e => by have e' : w.heap.size = d.m := e; omega)))
  go_wp2
  go_region_law (first | ((with_reducible refine gate_scall (f := 422) rfl ?_); refine step_goes rfl Tryz.func422 (by kernel_rfl) rfl #[.pointer (some ⟨d.p, 0, none⟩), .int .i64 10] rfl (by simp only [List.map_toArray, List.map_cons, List.map_nil]; rfl) (t5At10 d _ HD.out) ?_; rintro e w5 ⟨g, kc, rfl, HK5, HT5, HC5⟩; have hb := HB1.out _ HC5.out; have HR5 := Lib.hid hb; have e0 := blk_cell hb 0 (v := .int .u64 0) rfl; have e1 := blk_cell hb 1 (v := .slice none 0 0) rfl; have e2 := blk_cell hb 2 (v := .int .i64 0) rfl; have e3 := blk_cell hb 3 (v := .int .u64 0) rfl; have e4 := blk_cell hb 4 (v := .int .u64 0) rfl; have f0 := blk_free hb 0; have f1 := blk_free hb 1; have f2 := blk_free hb 2; have f3 := blk_free hb 3; have f4 := blk_free hb 4; clear hb; refine ⟨_, rfl, ?_⟩))
  all_goals
    have hcs := putN (Chg.refl (· = w.heap.size) w5) (b := w.heap.size) (.int .u64 1) (.slice (some ⟨g, 0, none⟩) 1 kc) (.int .i64 1) (.int .u64 5) (.int .u64 5) (.inl rfl)
    have HT6 := Lib.hid (HT5.out.stay (fun q hq => hcs.block q (HT5.out.lt q hq) (fun e => by have e' : q = w.heap.size := e; have := HLT.out q hq; omega)))
    have HC6 := Lib.hid (putN ((HC1'.out.drew).trans HC5.out (fun q _ e => e)) (b := w.heap.size) (.int .u64 1) (.slice (some ⟨g, 0, none⟩) 1 kc) (.int .i64 1) (.int .u64 5) (.int .u64 5) (.inr (Nat.le_refl _)))
    have hk8 := blk_set (blk_set (blk_set (blk_set (blk_set HR5.out 0 (.int .u64 1)) 1 (.slice (some ⟨g, 0, none⟩) 1 kc)) 2 (.int .i64 1)) 3 (.int .u64 5)) 4 (.int .u64 5)
    have HK := Lib.hid hk8
    clear hk8 hcs
    go_wp2
    have k0 := blk_cell HK.out 0 (v := .int .u64 1) rfl
    have k1 := blk_cell HK.out 1 (v := .slice (some ⟨g, 0, none⟩) 1 kc) rfl
    have k2 := blk_cell HK.out 2 (v := .int .i64 1) rfl
    have k3 := blk_cell HK.out 3 (v := .int .u64 5) rfl
    have k4 := blk_cell HK.out 4 (v := .int .u64 5) rfl
    refine bodyPost_ret (v := .tuple #[.agg #[.int .u64 1, .slice (some ⟨g, 0, none⟩) 1 kc, .int .i64 1, .int .u64 5, .int .u64 5], .bool true]) (by simp [results, Tryz.results421, go_sem, k0, k1, k2, k3, k4]) rfl ⟨g, kc, rfl, HT6.out, HC6.out⟩
set_option maxRecDepth 100000 in
set_option maxHeartbeats 2000000 in
theorem t5Min (d : TD) (w : World) (h : T5 w d) : Calls Tryz.prog 398 #[.pointer (some ⟨d.t, 0, none⟩)] w fun e w' => e = .returned (.tuple #[.int .u64 5, .bool true]) ∧ Hid (T5 w' d) ∧ Hid (Chg d.red w w') := by
  have H := Lib.hid h
  clear h
  go_enter Tryz.func398, Tryz.ntmps398
  go_wp2_with fail
  refine (t5First d _ H.out).mono ?_
  rintro e w1 ⟨g, kc, rfl, H1, HC1⟩
  have hA := (Below.refl w1.heap.size w1).alloc (Nat.le_refl _) (.cells #[.int .u64 1, .slice (some ⟨g, 0, none⟩) 1 kc, .int .i64 1, .int .u64 5, .int .u64 5] 239)
  have H2 := Lib.hid (H1.out.below hA)
  have HC2 := Lib.hid (HC1.out.then (Chg.of_below hA))
  have b3 := blk_cell (blk_new w1 #[.int .u64 1, .slice (some ⟨g, 0, none⟩) 1 kc, .int .i64 1, .int .u64 5, .int .u64 5] 239) 3 (v := .int .u64 5) rfl
  clear hA
  go_wp2
  go_ret2
  exact ⟨rfl, H2.out, HC2.out⟩
set_option maxRecDepth 100000 in
set_option maxHeartbeats 2000000 in
theorem t5Last (d : TD) (w : World) (h : T5 w d) : Calls Tryz.prog 416 #[.pointer (some ⟨d.t, 0, none⟩), .int .i64 0, .int .u64 5] w fun e w' => e = .returned (.bool true) ∧ Hid (Below w.heap.size w w') := by
  have hlt : 0 < d.ls.length := by have := h.len; omega
  obtain ⟨kA, kn, kc, he, _⟩ := h.kid 0 hlt
  have HS := Lib.hid (tSee d w h.tp 0 hlt _ he)
  clear h he
  go_enter Tryz.func416, Tryz.ntmps416
  go_wp2_with fail
  refine HS.out.mono ?_
  rintro e w1 ⟨rfl, HB1⟩
  have hA := (Below.refl w1.heap.size w1).alloc (Nat.le_refl _) (.cells #[.int .u64 32, .slice kA kn kc, .int .i64 1, .int .u64 5, .int .u64 5] 239)
  have HC2 := Lib.hid (below_then HB1.out hA)
  have b0 := blk_cell (blk_new w1 #[.int .u64 32, .slice kA kn kc, .int .i64 1, .int .u64 5, .int .u64 5] 239) 0 (v := .int .u64 32) rfl
  clear hA HS
  go_wp2
  go_quiet (first | (go_at_call 408; refine Calls.quiet_of_same (tAt 10 (Nat.le_refl _) _)) | (go_at_call 282; refine Calls.quiet_of_same (get32 _)))
  go_wp2
  go_ret
  exact ⟨rfl, below_drewN HC2.out nq⟩
end Go.Proofs.YtcnaikoloagbdaaGreat
