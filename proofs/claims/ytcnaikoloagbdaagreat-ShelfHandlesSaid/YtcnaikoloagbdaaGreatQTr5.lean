/-
  trie.Trie that has the key 5 alone: path, Has; walked.
-/
import Derived.Test.YtcnaikoloagbdaaGreatQTr4
import Derived.Test.YtcnaikoloagbdaaGreatQColl
namespace Go.Proofs.YtcnaikoloagbdaaGreat
set_option linter.unusedVariables false
set_option linter.unusedSimpArgs false
open Go.RowKit

/-- the nodes of a path, from the first one on -/
def pathL (n : Nat) : List Int := (List.range n).map (fun (i : Nat) => 10 - (i : Int))
theorem pathL_succ (n : Nat) : pathL (n + 1) = pathL n ++ [10 - (n : Int)] := by simp [pathL, List.range_succ]
theorem pathL_length (n : Nat) : (pathL n).length = n := by simp [pathL]
/-- a world in the midst of a round: the row v, the node's box B, another node's box -/
structure PW (w W : World) (d : TD) (B : Nat) (v : Value) (l : List Int) : Prop where
  t : T5 W d
  c : Chg d.red w W
  b : ∃ cs : Array Value, W.heap[B]? = some (.cells cs 239 (0, 0)) ∧ cs.size = 5
  wb : w.heap.size ≤ B
  lt : ∀ q, d.own q → q < w.heap.size
  o : Own .i64 3 W w.heap.size v l
theorem PW.ne {w W : World} {d : TD} {B : Nat} {v : Value} {l : List Int} (h : PW w W d B v l) {q : Nat} {cs : Array Value} (hq : W.heap[q]? = some (.cells cs 239 (0, 0))) : v.ownBlock ≠ some q := fun e => by
  obtain ⟨cs', h1⟩ := h.o.cells q e
  rw [hq] at h1
  cases h1
theorem PW.fin {w W wf : World} {d : TD} {B i : Nat} {b : Int} {kA : Option Addr} {kn kc : Nat} {v : Value} {l : List Int} (h : PW w W d B v l) (hk : KidOk W d i kA kn kc) (hc : Chg (fun k => k = B ∨ v.ownBlock = some k) W wf)
    (hb : wf.heap[B]? = some (.cells #[.int .u64 b, .slice kA kn kc, .int .i64 1, .int .u64 5, .int .u64 5] 239 (0, 0))) : T5Z w wf d B i b kA kn kc := by
  have hn : ∀ q, d.own q → ¬ (q = B ∨ v.ownBlock = some q) := fun q hq e => by
    have := h.lt q hq
    rcases e with e | e
    · have := h.wb; omega
    · have := (h.o.block q e).1; omega
  refine ⟨h.t.stay (fun q hq => hc.block q (h.t.lt q hq) (hn q hq)), h.c.trans hc (fun q hq e => ?_), hb, hk.stay (fun g hg => hc.block g (h.t.lt g (.inr (.inr (.inr (.inr hg))))) (hn g (.inr (.inr (.inr (.inr hg)))))), h.wb⟩
  rcases e with e | e
  · have := h.wb; omega
  · have := (h.o.block q e).1; omega
theorem PW.grown {w W w5 : World} {d : TD} {B : Nat} {v : Value} {l : List Int} {x : Int} (h : PW w W d B v l) (hg : (W.drew.alloc (.cells #[.int .i64 x] 3)).grownBy w5 v.ownBlock) : Chg (fun k => k = B ∨ v.ownBlock = some k) W w5 ∧ ∀ (q : Nat) (cs : Array Value), W.heap[q]? = some (.cells cs 239 (0, 0)) → w5.heap[q]? = some (.cells cs 239 (0, 0)) := by
  refine ⟨((Chg.refl _ W).drew.alloc _).trans (Chg.of_grown hg (S := fun k => k = B ∨ v.ownBlock = some k) (fun b h => .inr h)) (fun _ _ h => h), fun q cs hq => ?_⟩
  exact (hg.block q (by have := blk_lt hq; simp; omega) (fun e => h.ne hq e.symm)).trans (blk_old (show W.drew.heap[q]? = _ from hq) _)
theorem own_of_row {w5 : World} {base : Nat} {v' : Value} {l : List Int} {x : Int} (h5 : w5.ownsRow base 3 1 v' (l.length + 1) (l.map (Value.int .i64) ++ [.int .i64 x])) : Own .i64 3 w5 base v' (l ++ [x]) := by
  unfold Own
  rw [List.length_append, List.map_append]
  exact h5
theorem PW.a {w W w5 : World} {d : TD} {B i : Nat} {b : Int} {kA : Option Addr} {kn kc : Nat} {v v' : Value} {l : List Int} {x : Int} (h : PW w W d B v l) (hk : KidOk W d i kA kn kc)
    (h5 : w5.ownsRow w.heap.size 3 1 v' (l.length + 1) (l.map (Value.int .i64) ++ [.int .i64 x])) (hg : (W.drew.alloc (.cells #[.int .i64 x] 3)).grownBy w5 v.ownBlock) :
    Own .i64 3 (((((w5.setCell ⟨B, 0, none⟩ (.int .u64 b)).setCell ⟨B, 1, none⟩ (.slice kA kn kc)).setCell ⟨B, 2, none⟩ (.int .i64 1)).setCell ⟨B, 3, none⟩ (.int .u64 5)).setCell ⟨B, 4, none⟩ (.int .u64 5)) w.heap.size v' (l ++ [x]) ∧
    T5Z w (((((w5.setCell ⟨B, 0, none⟩ (.int .u64 b)).setCell ⟨B, 1, none⟩ (.slice kA kn kc)).setCell ⟨B, 2, none⟩ (.int .i64 1)).setCell ⟨B, 3, none⟩ (.int .u64 5)).setCell ⟨B, 4, none⟩ (.int .u64 5)) d B i b kA kn kc := by
  obtain ⟨hc, hs⟩ := h.grown hg
  obtain ⟨cs, hcs, hsz⟩ := h.b
  have hb := hs B cs hcs
  have hO := own_of_row h5
  have hp := putN (Chg.refl (· = B) w5) (b := B) (.int .u64 b) (.slice kA kn kc) (.int .i64 1) (.int .u64 5) (.int .u64 5) (.inl rfl)
  refine ⟨hO.chg hp (fun g hg' e => ?_), h.fin hk (putN hc _ _ _ _ _ (.inl (.inl rfl))) ?_⟩
  · obtain ⟨cs', h1⟩ := hO.cells g hg'
    have e' : g = B := e
    rw [e', hb] at h1
    cases h1
  · obtain ⟨c0, c1, c2, c3, c4, rfl⟩ : ∃ c0 c1 c2 c3 c4, cs = #[c0, c1, c2, c3, c4] := by
      obtain ⟨cl⟩ := cs
      match cl, hsz with
      | [c0, c1, c2, c3, c4], _ => exact ⟨c0, c1, c2, c3, c4, rfl⟩
    exact blk_set (blk_set (blk_set (blk_set (blk_set hb 0 _) 1 _) 2 _) 3 _) 4 _
abbrev put5 (W : World) (B : Nat) (b : Int) (kA : Option Addr) (kn kc : Nat) : World := (((((W.setCell ⟨B, 0, none⟩ (.int .u64 b)).setCell ⟨B, 1, none⟩ (.slice kA kn kc)).setCell ⟨B, 2, none⟩ (.int .i64 1)).setCell ⟨B, 3, none⟩ (.int .u64 5)).setCell ⟨B, 4, none⟩ (.int .u64 5))
theorem PW.ownAt {w W : World} {d : TD} {B : Nat} {b : Int} {kA : Option Addr} {kn kc : Nat} {v : Value} {l : List Int} (h : PW w W d B v l) : Own .i64 3 (put5 W.drew B b kA kn kc) w.heap.size v l := by
  obtain ⟨cs, hcs, hsz⟩ := h.b
  exact Own.chg (w := W) h.o (putN (Chg.refl (· = B) W).drew (b := B) (.int .u64 b) (.slice kA kn kc) (.int .i64 1) (.int .u64 5) (.int .u64 5) (.inl rfl)) (fun g hg e => by
    have e' : g = B := e
    subst e'
    exact h.ne hcs hg)
theorem PW.b' {w W w5 : World} {d : TD} {B i : Nat} {b : Int} {kA : Option Addr} {kn kc : Nat} {v v' : Value} {l : List Int} {x : Int} (h : PW w W d B v l) (hk : KidOk W d i kA kn kc)
    (h5 : w5.ownsRow w.heap.size 3 1 v' (l.length + 1) (l.map (Value.int .i64) ++ [.int .i64 x])) (hg : ((put5 W.drew B b kA kn kc).alloc (.cells #[.int .i64 x] 3)).grownBy w5 v.ownBlock) :
    Own .i64 3 w5 w.heap.size v' (l ++ [x]) ∧ T5Z w w5 d B i b kA kn kc := by
  obtain ⟨cs, hcs, hsz⟩ := h.b
  have hp := putN (Chg.refl (fun k => k = B ∨ v.ownBlock = some k) W).drew (b := B) (.int .u64 b) (.slice kA kn kc) (.int .i64 1) (.int .u64 5) (.int .u64 5) (.inl (.inl rfl))
  refine ⟨own_of_row h5, h.fin hk ((hp.alloc _).trans (Chg.of_grown hg (S := fun k => k = B ∨ v.ownBlock = some k) (fun b h => .inr h)) (fun _ _ h => h)) ?_⟩
  obtain ⟨c0, c1, c2, c3, c4, rfl⟩ : ∃ c0 c1 c2 c3 c4, cs = #[c0, c1, c2, c3, c4] := by
    obtain ⟨cl⟩ := cs
    match cl, hsz with
    | [c0, c1, c2, c3, c4], _ => exact ⟨c0, c1, c2, c3, c4, rfl⟩
  have hb : W.drew.heap[B]? = _ := hcs
  have h6 := blk_set (blk_set (blk_set (blk_set (blk_set hb 0 (.int .u64 b)) 1 (.slice kA kn kc)) 2 (.int .i64 1)) 3 (.int .u64 5)) 4 (.int .u64 5)
  exact (hg.block B (Nat.lt_of_lt_of_le (blk_lt h6) (by rw [World.size_alloc]; exact Nat.le_succ _)) (fun e => h.ne hcs e.symm)).trans (blk_old h6 _)
set_option maxRecDepth 100000 in
set_option maxHeartbeats 4000000 in
theorem t5Path (d : TD) (w : World) (h : T5 w d) : Calls Tryz.prog 406 #[.pointer (some ⟨d.t, 0, none⟩), .int .u64 5] w fun e w' => ∃ (g c : Nat), e = .returned (.slice (some ⟨g, 0, none⟩) 11 c) ∧ Hid (Own .i64 3 w' w.heap.size (.slice (some ⟨g, 0, none⟩) 11 c) (pathL 11)) ∧ Hid (T5 w' d) ∧ Hid (Chg d.red w w') := by
  obtain ⟨i0, hinf, hz0, hz1, hz2⟩ := info_parts int_info
  have hA := (Below.refl w.heap.size w).alloc (Nat.le_refl _) (.cells #[.int .i64 10] 3)
  have HB0 := Lib.hid hA
  have H1 := Lib.hid (h.below hA)
  have HN1 := Lib.hid (blk_new w #[.int .i64 10] 3)
  have c2 := h.tp.cells.2.2.1
  have c3 := h.tp.cells.2.2.2
  rw [h.root] at c2
  rw [h.n] at c3
  have HLT := Lib.hid h.lt
  clear h hA
  go_enter Tryz.func406, Tryz.ntmps406
  go_wp2_with fail
  have HCW := Lib.hid (Chg.of_below (S := d.red) HB0.out)
  have HSZ1 := Lib.hid (show (w.alloc (.cells #[.int .i64 10] 3)).heap.size = w.heap.size + 1 by simp)
  generalize w.alloc (.cells #[.int .i64 10] 3) = w1 at *
  have HC1 := Lib.hid (Chg.refl d.red w1)
  clear c2 c3
  have HD := Lib.hid H1.out.drewn
  have hA := (Below.refl w1.heap.size w1).alloc (Nat.le_refl _) (.cells #[.int .u64 0, .slice none 0 0, .int .i64 0, .int .u64 0, .int .u64 0] 239)
  have HD2 := Lib.hid (H1.out.below hA).drewn
  have c1 := H1.out.tp.cells.2.1
  have c2 := H1.out.tp.cells.2.2.1
  have c1' := (H1.out.below hA).tp.cells.2.1
  have c2' := (H1.out.below hA).tp.cells.2.2.1
  rw [H1.out.root] at c2 c2'
  have HB1 := Lib.hid (fun w5 (g kc : Nat) hk ht hc => tz1 (w5 := w5) (j := 10) (b := 1) (kA := some ⟨g, 0, none⟩) (kn := 1) (kc := kc) HC1.out ht hk ((Chg.refl _ _).drew.trans hc (fun _ _ e => e)))
  have HB2 := Lib.hid (fun w5 (g kc : Nat) hk ht hc => tz2 (w5 := w5) (j := 10) (b := 1) (kA := some ⟨g, 0, none⟩) (kn := 1) (kc := kc) H1.out HC1.out ht hk ((Chg.refl _ _).drew.trans hc (fun _ _ e => e)))
  clear hA
  go_wp2
  apply use_sameT
  case main =>
    intro K
    go_region_law (first | ((with_reducible refine gate_scall (f := 422) rfl ?_); refine step_goes rfl Tryz.func422 (by kernel_rfl) rfl #[.pointer (some ⟨d.p, 0, none⟩), .int .i64 10] rfl (by simp only [List.map_toArray, List.map_cons, List.map_nil]; rfl) (t5At10 d _ HD.out) ?_; rintro e w5 ⟨g, kc, rfl, HK5, HT5, HC5⟩; have HF := Lib.hid (HB1.out _ _ _ HK5.out HT5.out HC5.out); refine ⟨_, rfl, ?_⟩) | ((with_reducible refine gate_scall (f := 422) rfl ?_); refine step_goes rfl Tryz.func422 (by kernel_rfl) rfl #[.pointer (some ⟨d.p, 0, none⟩), .int .i64 10] rfl (by simp only [List.map_toArray, List.map_cons, List.map_nil]; rfl) (t5At10 d _ HD2.out) ?_; rintro e w5 ⟨g, kc, rfl, HK5, HT5, HC5⟩; have hb := (HB2.out _ _ _ HK5.out HT5.out HC5.out).1; have HF := Lib.hid (HB2.out _ _ _ HK5.out HT5.out HC5.out).2; have e0 := blk_cell hb 0 (v := .int .u64 0) rfl; have e1 := blk_cell hb 1 (v := .slice none 0 0) rfl; have e2 := blk_cell hb 2 (v := .int .i64 0) rfl; have e3 := blk_cell hb 3 (v := .int .u64 0) rfl; have e4 := blk_cell hb 4 (v := .int .u64 0) rfl; have f0 := blk_free hb 0; have f1 := blk_free hb 1; have f2 := blk_free hb 2; have f3 := blk_free hb 3; have f4 := blk_free hb 4; clear hb; refine ⟨_, rfl, ?_⟩))
    all_goals
      have HG := HF
      clear HF HK5
      first
      | (obtain ⟨wf, hwf⟩ : ∃ wf, wf = (((((w5.setCell ⟨w1.heap.size, 0, none⟩ (.int .u64 1)).setCell ⟨w1.heap.size, 1, none⟩ (.slice (some ⟨g, 0, none⟩) 1 kc)).setCell ⟨w1.heap.size, 2, none⟩ (.int .i64 1)).setCell ⟨w1.heap.size, 3, none⟩ (.int .u64 5)).setCell ⟨w1.heap.size, 4, none⟩ (.int .u64 5)) := ⟨_, rfl⟩
         rw [← hwf] at HG ⊢
         obtain ⟨B, hB⟩ : ∃ B, B = w1.heap.size := ⟨_, rfl⟩
         rw [← hB] at HG ⊢)
      | (obtain ⟨wf, hwf⟩ : ∃ wf, wf = (w5.alloc (.cells #[.int .u64 1, .slice (some ⟨g, 0, none⟩) 1 kc, .int .i64 1, .int .u64 5, .int .u64 5] 239)) := ⟨_, rfl⟩
         rw [← hwf] at HG ⊢
         obtain ⟨B, hB⟩ : ∃ B, B = w5.heap.size := ⟨_, rfl⟩
         rw [← hB] at HG ⊢)
      clear hwf hB
      revert HG
      revert wf B
      revert g kc
      exact K
  case rest =>
    intro g0 kc0 wf B HG
    clear HB1 HB2 HD HD2 c1 c2 c1' c2'
    have HZ := Lib.hid (show T5Z w wf d B 10 1 (some ⟨g0, 0, none⟩) 1 kc0 from ⟨HG.out.1, HCW.out.then HG.out.2.1, HG.out.2.2.1, HG.out.2.2.2.1, by have := HG.out.2.2.2.2; have := HSZ1.out; omega⟩)
    have hwz := HZ.out.2.1.size
    have HWF := Lib.hid (show wf.heap[w.heap.size]? = some (.cells #[.int .i64 10] 3 (0, 0)) from HG.out.2.1.blk HN1.out (fun e => by have e' : w.heap.size = d.m := e; have := HLT.out d.m (.inr (.inr (.inl rfl))); omega))
    have HO := Lib.hid (show Own .i64 3 wf w.heap.size (.slice (some ⟨w.heap.size, 0, none⟩) 1 1) (pathL 1) from (show Own .i64 3 wf w.heap.size (.slice (some ⟨w.heap.size, 0, none⟩) 1 1) [10] from ⟨by simp, .inr ⟨_, 1, _, rfl, Nat.le_refl _, HWF.out, Nat.le_refl _, by decide, rfl, rfl⟩⟩))
    clear HG H1 HC1 HWF HN1 HSZ1 HCW HB0
    go_wp2
    go_loopw [5, 8, 9, 10, 11, 34] (fun v5 _ _ _ _ v34 wr => ∃ (n : Nat) (b : Int) (kA : Option Addr) (kn kc : Nat), v34 = .int .i64 n ∧ n ≤ 10 ∧ Hid (Own .i64 3 wr w.heap.size v5 (pathL (n + 1))) ∧ Hid (b = if 10 - n = 0 then 32 else 1) ∧ Hid (T5Z w wr d B (10 - n) b kA kn kc)) (fun _ _ _ _ _ v34 _ => (10 - intOf v34).toNat)
    case atStart => exact ⟨0, 1, _, _, _, rfl, by omega, HO.out, rfl, HZ.out⟩
    case round =>
      clear HO HZ
      obtain ⟨n, b, kA, kn, kc, rfl, hn, HO, HBB, HZ⟩ := hrel
      by_cases hn10 : n = 10
      · subst hn10
        obtain ⟨g, c, e⟩ := row_succ (k := 10) (show wr.ownsRow w.heap.size 3 1 u5 (10 + 1) ((pathL 11).map (Value.int .i64)) from HO.out)
        subst e
        go_wp2
        go_ret
        exact ⟨g, c, rfl, HO.out, HZ.out.1, HZ.out.2.1⟩
      · have hlt : (n : Int) < 10 := by omega
        obtain ⟨i, hi⟩ : ∃ i, 10 - n = i + 1 := ⟨9 - n, by omega⟩
        rw [hi] at HBB HZ
        obtain rfl : b = 1 := by rw [HBB.out, if_neg (by omega)]
        have HT := Lib.hid HZ.out.1
        have HD := Lib.hid HZ.out.1.drewn
        have hA := (Below.refl wr.heap.size wr).alloc (Nat.le_refl _) (.cells #[.int .u64 0, .slice none 0 0, .int .i64 0, .int .u64 0, .int .u64 0] 239)
        have HD2 := Lib.hid (HZ.out.1.below hA).drewn
        have HK := Lib.hid (show KidOk wr.drew d (i + 1) kA kn kc from HZ.out.2.2.2.1)
        have HK2 := Lib.hid (show KidOk (wr.alloc (.cells #[.int .u64 0, .slice none 0 0, .int .i64 0, .int .u64 0, .int .u64 0] 239)).drew d (i + 1) kA kn kc from HZ.out.2.2.2.1.stay (fun g hg => hA.block g (HZ.out.1.lt g (.inr (.inr (.inr (.inr hg)))))))
        have hb0 := HZ.out.2.2.1
        have hb1 := blk_below hb0 hA rfl
        have b0 := blk_cell hb0 0 (v := .int .u64 1) rfl
        have b1 := blk_cell hb0 1 (v := .slice kA kn kc) rfl
        have b2 := blk_cell hb0 2 (v := .int .i64 1) rfl
        have b3 := blk_cell hb0 3 (v := .int .u64 5) rfl
        have b4 := blk_cell hb0 4 (v := .int .u64 5) rfl
        have d0 := blk_cell hb1 0 (v := .int .u64 1) rfl
        have d1 := blk_cell hb1 1 (v := .slice kA kn kc) rfl
        have d2 := blk_cell hb1 2 (v := .int .i64 1) rfl
        have d3 := blk_cell hb1 3 (v := .int .u64 5) rfl
        have d4 := blk_cell hb1 4 (v := .int .u64 5) rfl
        have hi9 : i < 10 := by omega
        have hn10' : n ≤ 10 := hn
        have HTA := Lib.hid (fun w => (by have := tAt n hn10' w; rwa [if_neg hn10] at this : Calls Tryz.prog 408 #[.int .u64 5, .int .i64 n] w fun e w' => e = .returned (.int .i64 0) ∧ w' = w))
        have HB1 := Lib.hid (fun w5 (b : Int) (kA : Option Addr) (kn kc : Nat) hk ht hc => tz1 (w5 := w5) (j := i) (b := b) (kA := kA) (kn := kn) (kc := kc) (Chg.refl d.red wr) ht hk ((Chg.refl _ _).drew.trans hc (fun _ _ e => e)))
        have HB2 := Lib.hid (fun w5 (b : Int) (kA : Option Addr) (kn kc : Nat) hk ht hc => tz2 (w5 := w5) (j := i) (b := b) (kA := kA) (kn := kn) (kc := kc) HT.out (Chg.refl d.red wr) ht hk ((Chg.refl _ _).drew.trans hc (fun _ _ e => e)))
        clear hA hb0 hb1
        go_wp2
        apply use_sameT
        case main =>
          intro K
          go_region_law (first | ((with_reducible refine gate_scall (f := 408) rfl ?_); refine step_goes rfl Tryz.func408 (by kernel_rfl) rfl #[.int .u64 5, .int .i64 n] rfl (by simp only [List.map_toArray, List.map_cons, List.map_nil]; rfl) (HTA.out _) ?_; rintro e wy ⟨rfl, rfl⟩; refine ⟨_, rfl, ?_⟩) | ((with_reducible refine gate_scall (f := 423) rfl ?_); refine step_goes rfl Tryz.func423 (by kernel_rfl) rfl #[.pointer (some ⟨d.t, 0, none⟩), .agg #[.int .u64 1, .slice kA kn kc, .int .i64 1, .int .u64 5, .int .u64 5], .int .i64 0] rfl (by simp only [List.map_toArray, List.map_cons, List.map_nil]; rfl) (t5Kid1 d _ HD.out i hi9 kA kn kc HK.out) ?_; rintro e w5 ⟨b', kA', kn', kc', rfl, HBB', HK5, HT5, HC5⟩; have HF := Lib.hid (HB1.out _ b' _ _ _ HK5.out HT5.out HC5.out); refine ⟨_, rfl, ?_⟩) | ((with_reducible refine gate_scall (f := 423) rfl ?_); refine step_goes rfl Tryz.func423 (by kernel_rfl) rfl #[.pointer (some ⟨d.t, 0, none⟩), .agg #[.int .u64 1, .slice kA kn kc, .int .i64 1, .int .u64 5, .int .u64 5], .int .i64 0] rfl (by simp only [List.map_toArray, List.map_cons, List.map_nil]; rfl) (t5Kid1 d _ HD2.out i hi9 kA kn kc HK2.out) ?_; rintro e w5 ⟨b', kA', kn', kc', rfl, HBB', HK5, HT5, HC5⟩; have hb := (HB2.out _ b' _ _ _ HK5.out HT5.out HC5.out).1; have HF := Lib.hid (HB2.out _ b' _ _ _ HK5.out HT5.out HC5.out).2; have e0 := blk_cell hb 0 (v := .int .u64 0) rfl; have e1 := blk_cell hb 1 (v := .slice none 0 0) rfl; have e2 := blk_cell hb 2 (v := .int .i64 0) rfl; have e3 := blk_cell hb 3 (v := .int .u64 0) rfl; have e4 := blk_cell hb 4 (v := .int .u64 0) rfl; have f0 := blk_free hb 0; have f1 := blk_free hb 1; have f2 := blk_free hb 2; have f3 := blk_free hb 3; have f4 := blk_free hb 4; clear hb; refine ⟨_, rfl, ?_⟩))
          all_goals
            have HG := HF
            clear HF HK5
            first
            | (obtain ⟨wf2, hwf⟩ : ∃ wf2, wf2 = (((((w5.setCell ⟨wr.heap.size, 0, none⟩ (.int .u64 b')).setCell ⟨wr.heap.size, 1, none⟩ (.slice kA' kn' kc')).setCell ⟨wr.heap.size, 2, none⟩ (.int .i64 1)).setCell ⟨wr.heap.size, 3, none⟩ (.int .u64 5)).setCell ⟨wr.heap.size, 4, none⟩ (.int .u64 5)) := ⟨_, rfl⟩
               rw [← hwf] at HG ⊢
               obtain ⟨B2, hB⟩ : ∃ B2, B2 = wr.heap.size := ⟨_, rfl⟩
               rw [← hB] at HG ⊢)
            | (obtain ⟨wf2, hwf⟩ : ∃ wf2, wf2 = (w5.alloc (.cells #[.int .u64 b', .slice kA' kn' kc', .int .i64 1, .int .u64 5, .int .u64 5] 239)) := ⟨_, rfl⟩
               rw [← hwf] at HG ⊢
               obtain ⟨B2, hB⟩ : ∃ B2, B2 = w5.heap.size := ⟨_, rfl⟩
               rw [← hB] at HG ⊢)
            clear hwf hB
            revert HG
            revert wf2 B2
            revert HBB'
            revert b' kA' kn' kc'
            exact K
        case rest =>
          intro b' kA' kn' kc' HBB' wf2 B2 HG
          clear HB1 HB2
          have HB := Lib.hid (show wf2.heap[B]? = some (.cells #[.int .u64 1, .slice kA kn kc, .int .i64 1, .int .u64 5, .int .u64 5] 239 (0, 0)) from HG.out.2.1.blk HZ.out.2.2.1 (by
            obtain ⟨t1, t2, t3, t4, t5⟩ := HT.out.tp.tys
            exact (show ty wr B 239 from ⟨_, HZ.out.2.2.1⟩).ne t3 (by decide)))
          have HP := Lib.hid (show PW w wf2 d B u5 (pathL (n + 1)) from ⟨HG.out.1, HZ.out.2.1.trans HG.out.2.1 (fun _ _ e => e), ⟨_, HB.out, rfl⟩, HZ.out.2.2.2.2, HLT.out, HO.out.chg HG.out.2.1 (fun g hg e => by
            obtain ⟨t1, t2, t3, t4, t5⟩ := HT.out.tp.tys
            obtain ⟨cs', h1⟩ := HO.out.cells g hg
            exact (show ty wr g 3 from ⟨_, h1⟩).ne t3 (by decide) e)⟩)
          have HK3 := Lib.hid (show KidOk wf2 d i kA' kn' kc' from HG.out.2.2.2.1)
          have HN2 := Lib.hid (show wf2.heap[B2]? = some (.cells #[.int .u64 b', .slice kA' kn' kc', .int .i64 1, .int .u64 5, .int .u64 5] 239 (0, 0)) from HG.out.2.2.1)
          have hBB : B2 ≠ B := fun e => by have h1 := HG.out.2.2.2.2; have h2 := blk_lt HZ.out.2.2.1; omega
          clear HZ HG HO HT HD HD2 HK HK2 b0 b1 b2 b3 b4 d0 d1 d2 d3 d4 HTA
          have k0 := blk_cell HN2.out 0 (v := .int .u64 b') rfl
          have k1 := blk_cell HN2.out 1 (v := .slice kA' kn' kc') rfl
          have k2 := blk_cell HN2.out 2 (v := .int .i64 1) rfl
          have k3 := blk_cell HN2.out 3 (v := .int .u64 5) rfl
          have k4 := blk_cell HN2.out 4 (v := .int .u64 5) rfl
          have b0 := blk_cell HB.out 0 (v := .int .u64 1) rfl
          have b1 := blk_cell HB.out 1 (v := .slice kA kn kc) rfl
          have b2 := blk_cell HB.out 2 (v := .int .i64 1) rfl
          have b3 := blk_cell HB.out 3 (v := .int .u64 5) rfl
          have b4 := blk_cell HB.out 4 (v := .int .u64 5) rfl
          have f0 := blk_free HB.out 0
          have f1 := blk_free HB.out 1
          have f2 := blk_free HB.out 2
          have f3 := blk_free HB.out 3
          have f4 := blk_free HB.out 4
          have HONE := Lib.hid (one_one .i64 (i : Int))
          have hpl : (pathL (n + 1)).length = n + 1 := pathL_length _
          have HQ1 := Lib.hid (show ((pathL (n + 1)).length + 1) * 8 ≤ 140737488355328 by omega)
          have HQ2 := Lib.hid (show (pathL (n + 1)).length + 1 ≤ maxLen by unfold maxLen; omega)
          have HOA := Lib.hid (show (wf2.drew.alloc (.cells #[.int .i64 i] 3)).ownsRow w.heap.size 3 1 u5 (pathL (n + 1)).length ((pathL (n + 1)).map (Value.int .i64)) from HP.out.o.chg (S := fun _ => False) ((Chg.refl _ wf2).drew.alloc _) (fun _ _ h => h))
          have HOB := Lib.hid (show ((put5 wf2.drew B b' kA' kn' kc').alloc (.cells #[.int .i64 i] 3)).ownsRow w.heap.size 3 1 u5 (pathL (n + 1)).length ((pathL (n + 1)).map (Value.int .i64)) from (HP.out.ownAt (b := b') (kA := kA') (kn := kn') (kc := kc')).chg (S := fun _ => False) ((Chg.refl _ _).alloc _) (fun _ _ h => h))
          have HZW := Lib.hid (show w.heap.size ≤ wf2.heap.size from HP.out.c.size)
          have HGA := Lib.hid (fun (w5 : World) (hg : (wf2.drew.alloc (.cells #[.int .i64 i] 3)).grownBy w5 u5.ownBlock) => (show w5.heap[B2]? = some (.cells #[.int .u64 b', .slice kA' kn' kc', .int .i64 1, .int .u64 5, .int .u64 5] 239 (0, 0)) ∧ w5.heap[B]? = some (.cells #[.int .u64 1, .slice kA kn kc, .int .i64 1, .int .u64 5, .int .u64 5] 239 (0, 0)) from ⟨(HP.out.grown hg).2 B2 _ HN2.out, (HP.out.grown hg).2 B _ HB.out⟩))
          have HPA := Lib.hid (fun (v' : Value) (w5 : World) h5 hg => PW.a (v' := v') (w5 := w5) (x := (i : Int)) (b := b') (kA := kA') (kn := kn') (kc := kc') HP.out HK3.out h5 hg)
          have HPB := Lib.hid (fun (v' : Value) (w5 : World) h5 hg => PW.b' (v' := v') (w5 := w5) (x := (i : Int)) (b := b') (kA := kA') (kn := kn') (kc := kc') HP.out HK3.out h5 hg)
          clear hpl
          have HNA := Lib.hid (blk_old HN2.out (.cells #[.int .i64 i] 3))
          have HBA := Lib.hid (blk_old HB.out (.cells #[.int .i64 i] 3))
          have m0 := blk_cell HNA.out 0 (v := .int .u64 b') rfl
          have m1 := blk_cell HNA.out 1 (v := .slice kA' kn' kc') rfl
          have m2 := blk_cell HNA.out 2 (v := .int .i64 1) rfl
          have m3 := blk_cell HNA.out 3 (v := .int .u64 5) rfl
          have m4 := blk_cell HNA.out 4 (v := .int .u64 5) rfl
          have p0 := blk_cell HBA.out 0 (v := .int .u64 1) rfl
          have r0 := blk_free HBA.out 0
          have p1 := blk_cell HBA.out 1 (v := .slice kA kn kc) rfl
          have r1 := blk_free HBA.out 1
          have p2 := blk_cell HBA.out 2 (v := .int .i64 1) rfl
          have r2 := blk_free HBA.out 2
          have p3 := blk_cell HBA.out 3 (v := .int .u64 5) rfl
          have r3 := blk_free HBA.out 3
          have p4 := blk_cell HBA.out 4 (v := .int .u64 5) rfl
          have r4 := blk_free HBA.out 4
          go_wp2
          go_region_law (first | ((with_reducible refine gate_sbuiltin (b := .append) rfl ?_); refine step_pushR w.heap.size u5 (pathL (n + 1)).length ((pathL (n + 1)).map (Value.int .i64)) [.int .i64 i] _ _ _ rfl rfl Tryz.underlying94 hinf hz0 hz1 hz2 rfl (by decide) rfl rfl (blk_new _ _ _) rfl HONE.out HOA.out (by have := HZW.out; simp; omega) HQ1.out HQ2.out ?_; intro v' w5 ho hg hv; have h1 := HGA.out w5 hg; have e0 := blk_cell h1.1 0 (v := .int .u64 b') rfl; have e1 := blk_cell h1.1 1 (v := .slice kA' kn' kc') rfl; have e2 := blk_cell h1.1 2 (v := .int .i64 1) rfl; have e3 := blk_cell h1.1 3 (v := .int .u64 5) rfl; have e4 := blk_cell h1.1 4 (v := .int .u64 5) rfl; have y0 := blk_cell h1.2 0 (v := .int .u64 1) rfl; have y1 := blk_cell h1.2 1 (v := .slice kA kn kc) rfl; have y2 := blk_cell h1.2 2 (v := .int .i64 1) rfl; have y3 := blk_cell h1.2 3 (v := .int .u64 5) rfl; have y4 := blk_cell h1.2 4 (v := .int .u64 5) rfl; have x0 := blk_free h1.2 0; have x1 := blk_free h1.2 1; have x2 := blk_free h1.2 2; have x3 := blk_free h1.2 3; have x4 := blk_free h1.2 4; have HX := Lib.hid (HPA.out v' w5 ho hg); clear h1 ho hg hv) | ((with_reducible refine gate_sbuiltin (b := .append) rfl ?_); refine step_pushR w.heap.size u5 (pathL (n + 1)).length ((pathL (n + 1)).map (Value.int .i64)) [.int .i64 i] _ _ _ rfl rfl Tryz.underlying94 hinf hz0 hz1 hz2 rfl (by decide) rfl rfl (blk_new _ _ _) rfl HONE.out HOB.out (by have := HZW.out; simp; omega) HQ1.out HQ2.out ?_; intro v' w5 ho hg hv; have HX := Lib.hid (HPB.out v' w5 ho hg); clear ho hg hv))
          all_goals
            have hnx : (i : Int) = 10 - ((n + 1 : Nat) : Int) := by omega
            have HI1 := Lib.hid (show 10 - (n + 1) = i by omega)
            have HPL := Lib.hid (show pathL (n + 1) ++ [(i : Int)] = pathL (n + 1 + 1) by rw [pathL_succ (n + 1), hnx])
            have HN10 := Lib.hid (show n + 1 ≤ 10 by omega)
            clear hnx m0 m1 m2 m3 m4 p0 p1 p2 p3 p4 r0 r1 r2 r3 r4 k0 k1 k2 k3 k4 b0 b1 b2 b3 b4 f0 f1 f2 f3 f4
            go_wp2
            go_roundw
            case rel => exact ⟨n + 1, b', kA', kn', kc', by go_num, HN10.out, by rw [← HPL.out]; exact HX.out.1, by rw [HI1.out]; exact HBB'.out, by rw [HI1.out]; exact HX.out.2⟩
            case measure => simp [intOf]; omega
end Go.Proofs.YtcnaikoloagbdaaGreat
