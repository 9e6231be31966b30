/-
  Words for memory, of no program: what changes in some blocks alone (Chg).
  Regions that draw their order, in a round of a range over a function (the fence 'wide' in a round): those that only read, and those whose last operations alone write, walked once, in the order of the text.
  strip.Rank: how many numbers below one, by the range's parts.
  strip.Fill, strip.Wipe, strip.Count, by the range's parts.
  strip.Next: the least number from one on, by the range's parts.
  Plain laws of a strip's bits: what parts of a range cover; rank, next, fill, wipe as told by bits. No program.
  Plain laws of a strip's bits: fill, wipe. No program.
  package bitmap: New, of, Has, Add, Fill, Wipe, Len, Next, words, Copy, Of; walked.
  package bitmap: Add, Fill, Wipe, Next, words, Copy, Of; walked.
-/
import Derived.Test.YtbjekoljipjldaaGreatDoorQBase
import Derived.StillTailTactics
import Derived.Deep.QuietTactic
import Derived.RangeFuncCalls
import Derived.RangeFuncNested
import Derived.TacticsInMore
import Derived.OrdersIn
import Derived.RangeFuncBox
import Derived.RangeFuncFrom
import Derived.Test.YtbjekoljipjldaaGreatDoorQWords
namespace Go.Proofs.YtbjekoljipjldaaGreatDoor
set_option linter.unusedVariables false
set_option linter.unusedSimpArgs false
open Go.RowKit

/-- of the blocks that there were, these alone changed -/
structure Chg (S : Nat → Prop) (w w' : World) : Prop where
  os : w'.os = w.os
  tape : w'.tape = w.tape
  output : w'.output = w.output
  size : w.heap.size ≤ w'.heap.size
  block : ∀ k, k < w.heap.size → ¬ S k → w'.heap[k]? = w.heap[k]?
section
variable {S T : Nat → Prop} {w w' w'' : World}
theorem Chg.refl (S : Nat → Prop) (w : World) : Chg S w w := ⟨rfl, rfl, rfl, Nat.le_refl _, fun _ _ _ => rfl⟩
theorem Chg.trans (h : Chg S w w') (k : Chg T w' w'') (hT : ∀ b, b < w.heap.size → T b → S b) : Chg S w w'' :=
  ⟨k.os.trans h.os, k.tape.trans h.tape, k.output.trans h.output, Nat.le_trans h.size k.size, fun b hb hS => (k.block b (Nat.lt_of_lt_of_le hb h.size) (fun ht => hS (hT b hb ht))).trans (h.block b hb hS)⟩
theorem Chg.then (h : Chg S w w') (k : Chg S w' w'') : Chg S w w'' := h.trans k (fun _ _ hs => hs)
theorem Chg.mono (h : Chg S w w') (hT : ∀ b, b < w.heap.size → S b → T b) : Chg T w w' := ⟨h.os, h.tape, h.output, h.size, fun b hb hS => h.block b hb (fun ht => hS (hT b hb ht))⟩
theorem Chg.alloc (h : Chg S w w') (o : Obj) : Chg S w (w'.alloc o) :=
  ⟨h.os, h.tape, h.output, by simpa using Nat.le_succ_of_le h.size, fun j hj hne => (heap_alloc_old w' o (Nat.lt_of_lt_of_le hj h.size)).trans (h.block j hj hne)⟩
theorem Chg.drew (h : Chg S w w') : Chg S w w'.drew := ⟨h.os, h.tape, h.output, h.size, h.block⟩
theorem Chg.drewN (h : Chg S w w') (n : Nat) : Chg S w (w'.drewN n) := ⟨h.os, h.tape, h.output, h.size, h.block⟩
theorem Chg.set (h : Chg S w w') {b i : Nat} (u : Value) (hb : S b ∨ w.heap.size ≤ b) : Chg S w (w'.setCell ⟨b, i, none⟩ u) :=
  ⟨h.os, h.tape, h.output, by simpa using h.size, fun k hk hne => by
    rw [Below.heap_setCell w' ⟨b, i, none⟩ u k (fun e => by
      have e' : k = b := e
      subst e'
      rcases hb with hb | hb
      · exact hne hb
      · omega)]
    exact h.block k hk hne⟩
theorem Chg.of_below (h : Below w.heap.size w w') : Chg S w w' := ⟨h.os, h.tape, h.output, h.size, fun k hk _ => h.block k hk⟩
theorem Chg.of_belowB {B : Nat} (h : Below B w w') (hB : B ≤ w.heap.size) (hS : ∀ k, B ≤ k → k < w.heap.size → S k) : Chg S w w' :=
  ⟨h.os, h.tape, h.output, h.size, fun k hk hs => h.block k (by rcases Nat.lt_or_ge k B with h1 | h1; exact h1; exact absurd (hS k h1 hk) hs)⟩
theorem Chg.of_grown {row : Option Nat} (h : w.grownBy w' row) (hS : ∀ b, row = some b → S b) : Chg S w w' := ⟨h.os, h.tape, h.output, h.size, fun k hk hs => h.block k hk (fun e => hs (hS k e.symm))⟩
theorem Chg.blk (h : Chg S w w') {b : Nat} {o : Obj} (hb : w.heap[b]? = some o) (hn : ¬ S b) : w'.heap[b]? = some o := (h.block b (blk_lt hb) hn).trans hb
theorem Chg.below {B : Nat} (h : Chg S w w') (hB : B ≤ w.heap.size) (hS : ∀ b, b < B → ¬ S b) : Below B w w' := ⟨h.os, h.tape, h.output, h.size, fun k hk => h.block k (Nat.lt_of_lt_of_le hk hB) (hS k hk)⟩
theorem below_of_none (h : Chg (fun _ => False) w w') : Below w.heap.size w w' := h.below (Nat.le_refl _) (fun _ _ h => h)
end
theorem blk_new (w : World) (cs : Array Value) (t : TypeId) : (w.alloc (.cells cs t)).heap[w.heap.size]? = some (.cells cs t (0, 0)) := heap_alloc_new w _
theorem blk_old {w : World} {b : Nat} {o : Obj} (h : w.heap[b]? = some o) (o' : Obj) : (w.alloc o').heap[b]? = some o := (heap_alloc_old w o' (blk_lt h)).trans h
theorem blk_other {w : World} {b : Nat} {o : Obj} (h : w.heap[b]? = some o) {c i : Nat} (u : Value) (hne : b ≠ c) : (w.setCell ⟨c, i, none⟩ u).heap[b]? = some o := by rw [Below.heap_setCell w ⟨c, i, none⟩ u b hne]; exact h
end Go.Proofs.YtbjekoljipjldaaGreatDoor
namespace Go.Proofs.YtbjekoljipjldaaGreatDoor
set_option linter.unusedVariables false
set_option linter.unusedSimpArgs false
open Go.RowKit
section
variable {P : Program} {ops : Array Oper} {md : Region.Mode} {l n : Nat} {w : World}
/-- no operation is a defer -/
def noDefer (ops : Array Oper) : Bool := ops.all fun o => match o.op with
  | .defer _ => false
  | _ => true
theorem noDefer_spec (h : noDefer ops = true) {i : Nat} {o : Oper} (hi : ops[i]? = some o) (c : Call) : o.op ≠ .defer c := fun e => by
  have h1 := Array.all_eq_true.1 h i (by
    rcases Nat.lt_or_ge i ops.size with h1 | h1
    · exact h1
    · rw [Array.getElem?_eq_none h1] at hi; cases hi)
  rw [Array.getElem?_eq_some_iff] at hi
  obtain ⟨_, hi⟩ := hi
  rw [hi, e] at h1
  cases h1
theorem depth_wide {n : Nat} (l : Nat) : (Fence.wide.inRound l).depth.isSome = true → 1 ≤ n := fun h => by cases h
theorem wpIn_of_still {o : Oper} {a : Act} {K : Act → Prop} {K' : Act → World → Prop} {Q' : Exit → Act → World → Prop} (hd : ∀ c, o.op ≠ .defer c) (h : ∀ a, K a → K' a w) (hh : o.still P a w K) : o.wpIn (Fence.wide.inRound l) n P a w K' Q' := by
  unfold Oper.still at hh
  unfold Oper.wpIn
  refine ⟨fun _ _ => trivial, ?_⟩
  rw [Fence.inRound_round, Oper.semAt_some l _ _ hd]
  generalize (execOp a.eval o).run P w = r at *
  cases r with
  | ok x w' =>
    cases x <;> simp only [Oper.stillUpon] at hh <;> simp only [Oper.uponIn]
    case enter f args =>
      obtain ⟨rfl, v, hc, hn⟩ := hh
      refine ⟨depth_wide l, (CallsIn.inRound l (callsIn_wide.2 hc)).mono fun e w'' he => ?_⟩
      obtain ⟨rfl, rfl⟩ := he
      exact h _ hn
    all_goals (obtain ⟨rfl, h2⟩ := hh; exact h _ h2)
  | halt x w' => simp only [Oper.stillUpon] at hh
theorem wpOpIn_of_stOp {i : Nat} {a : Act} {K : Act → Prop} {K' : Act → World → Prop} {Q' : Exit → Act → World → Prop} (hd : noDefer ops = true) (h : ∀ a, K a → K' a w) (hh : stOp P ops w i K a) : wpOpIn (Fence.wide.inRound l) n P ops Q' i K' a w := by
  unfold stOp at hh
  unfold wpOpIn
  split
  · rename_i ho; simp only [ho] at hh; exact h _ hh
  · rename_i o ho
    simp only [ho] at hh
    split
    · rename_i hw; simp only [hw, if_true] at hh; exact wpIn_of_still (fun c => noDefer_spec hd ho c) h hh
    · rename_i hw; simp only [hw] at hh; exact ⟨fun _ _ => trivial, h _ hh⟩
theorem wpAnyIn_of_head {k g : Nat} {L : Array Bool → Act → Prop} {Q' : Exit → Act → World → Prop} (hd : noDefer ops = true) (hL : ∀ listed a, L listed a → wpAnyIn (Fence.wide.inRound l) n P md ops Q' g listed a w) :
    ∀ (f : Nat) (listed : Array Bool) (a : Act), wpAnyL P md ops w k L f listed a → wpAnyIn (Fence.wide.inRound l) n P md ops Q' (f + g) listed a w
  | 0, listed, a, h => by rw [Nat.zero_add]; exact hL _ _ h
  | f + 1, listed, a, h => by
    rw [show f + 1 + g = (f + g) + 1 by omega]
    exact ⟨fun h0 => absurd h0 h.1, fun i hi => wpOpIn_of_stOp hd (fun a' h' => wpAnyIn_of_head hd hL f _ a' h') (h.2 i hi).2⟩
theorem wpAnyIn_of_seq {Q' : Exit → Act → World → Prop} : ∀ (m : List Oper) (k : Nat) (listed : Array Bool) (a : Act) (w : World), (∀ j, m[j]? = ops[k + j]?) →
    Region.seqB md ops m.length k listed = true → wpListIn (Fence.wide.inRound l) n P ops Q' m a w → wpAnyIn (Fence.wide.inRound l) n P md ops Q' m.length listed a w
  | [], _, _, _, _, _, hB, h => ⟨by simpa [Region.seqB] using hB, h⟩
  | o :: m, k, listed, a, w, hl, hB, h => by
    have h0 : ops[k]? = some o := by simpa using (hl 0).symm
    simp only [List.length_cons, Region.seqB, Bool.and_eq_true, decide_eq_true_eq] at hB
    refine ⟨fun h1 => (by rw [hB.1] at h1; cases h1), fun i hi => ?_⟩
    rw [hB.1] at hi
    have hik : i = k := by simpa using hi
    subst hik
    have hw : wpOpIn (Fence.wide.inRound l) n P ops Q' i (wpListIn (Fence.wide.inRound l) n P ops Q' m) a w := by unfold wpOpIn; simp only [h0]; exact h
    exact wpOpIn_mono (fun a' w' h' => wpAnyIn_of_seq m (i + 1) _ a' w' (fun j => by have := hl (j + 1); simpa [Nat.add_assoc, Nat.add_comm 1 j] using this) hB.2 h') hw
/-- a region that draws its order in a round: k operations that leave the world, then the others, one after the other -/
theorem wpIn_round_tail {id : Nat} {Q : Exit → Act → World → Prop} {a : Act} {m : List Oper} (k : Nat) (hm : P.follows .mixedOrders = true) (hB : Region.lexTailB .any m.toArray k = true) (hd : noDefer m.toArray = true)
    (h : wpStill P m.toArray { w with drawn := w.drawn + 1 } (fun a' => wpListIn (Fence.wide.inRound l) n P m.toArray Q (m.drop k) a' { w with drawn := w.drawn + 1 }) (m.take k) a) : (Code.region id m.toArray true).wpIn (Fence.wide.inRound l) n P Q a w := by
  simp only [Region.lexTailB, Bool.and_eq_true, decide_eq_true_eq] at hB
  obtain ⟨⟨⟨⟨hsel, hn⟩, hs⟩, hc⟩, hlex⟩ := hB
  have hn' : k < m.length := by simpa using hn
  have htl : (m.take k).length = k := by simp; omega
  have hdl : (m.drop k).length = m.toArray.size - k := by simp
  have inv0 : HeadInv .any m.toArray k (Array.replicate m.toArray.size false) :=
    ⟨by simp, fun j oj _ hl => (by rw [getD_replicate_false] at hl; cases hl), fun t _ ht => getD_in (by simpa using ht) (getD_replicate_false _ _)⟩
  have H := wpAnyL_lex (md := .any) (g := m.toArray.size - k) hsel hs hc hn (m.take k) 0 _ a (fun j hj => by
    have hj' : j < k := by rw [htl] at hj; exact hj
    simp [hj']) (by simpa using htl) inv0 (by rw [htl]; exact hlex) h
  refine wpIn_region_any hm ?_
  have := wpAnyIn_of_head (Q' := Q) (n := n) (l := l) (g := m.toArray.size - k) hd (fun listed a' hL => by
    have := wpAnyIn_of_seq (md := .any) (Q' := Q) (n := n) (l := l) (m.drop k) k listed a' { w with drawn := w.drawn + 1 } (fun j => by simp [List.getElem?_drop]) (by rw [hdl]; exact hL.1) hL.2
    rwa [hdl] at this) _ _ _ H
  rw [htl, show k + (m.toArray.size - k) = m.toArray.size by omega] at this
  exact this
theorem wpAnyIn_of_still {Q : Act → Prop} {Q' : Exit → Act → World → Prop} (hd : noDefer ops = true) (hQ : ∀ a, Q a → Q' .normal a w) : ∀ (fuel : Nat) (listed : Array Bool) (a : Act),
    wpAnyS P md ops w Q fuel listed a → wpAnyIn (Fence.wide.inRound l) n P md ops Q' fuel listed a w
  | 0, _, _, h => ⟨h.1, hQ _ h.2⟩
  | fuel + 1, _, _, h => ⟨fun h0 => hQ _ (h.1 h0), fun i hi => wpOpIn_of_stOp hd (fun a' => wpAnyIn_of_still hd hQ fuel _ a') (h.2 i hi)⟩
/-- a region that draws its order in a round, and only reads -/
theorem wpIn_round_still {id : Nat} {Q : Exit → Act → World → Prop} {a : Act} {m : List Oper} (hm : P.follows .mixedOrders = true) (hB : Region.lexB .any m.toArray = true) (hd : noDefer m.toArray = true)
    (h : wpStill P m.toArray { w with drawn := w.drawn + 1 } (fun a' => Q .normal a' { w with drawn := w.drawn + 1 }) m a) : (Code.region id m.toArray true).wpIn (Fence.wide.inRound l) n P Q a w := by
  simp only [Region.lexB, Bool.and_eq_true] at hB
  refine wpIn_region_any hm (wpAnyIn_of_still hd (Q := fun a' => Q .normal a' { w with drawn := w.drawn + 1 }) (fun _ h => h) _ _ _ ?_)
  have := wpAnyS_lex (P := P) (md := .any) hB.1 m 0 (Array.replicate m.toArray.size false) a (by simp) (by simpa using hB.2) h
  simpa using this
end
section
theorem ownFrom_blk {β : Type} (B0 b : Nat) (f : β → Array Value) (t : TypeId) : OwnFrom B0 (fun (s : β) (W : World) => W.heap[b]? = some (.cells (f s) t (0, 0))) := fun s A B row hs hg hr => by
  refine (hg.block b (blk_lt hs) (fun e => ?_)).trans hs
  obtain ⟨_, o, ho, hc⟩ := hr b e.symm
  rw [show A.heap[b]? = _ from hs] at ho
  cases ho
  cases hc
theorem ownFrom_chg {β : Type} {S : Nat → Prop} {w0 : World} {B0 : Nat} (hB : w0.heap.size ≤ B0) : OwnFrom B0 (fun (_ : β) (W : World) => Chg S w0 W) := fun s A B row hs hg hr =>
  ⟨hg.os.trans hs.os, hg.tape.trans hs.tape, hg.output.trans hs.output, Nat.le_trans hs.size hg.size, fun k hk hS => (hg.block k (Nat.lt_of_lt_of_le hk hs.size) (fun e => by have := (hr k e.symm).1; omega)).trans (hs.block k hk hS)⟩
theorem ownFrom_size {β : Type} (B0 m : Nat) : OwnFrom B0 (fun (_ : β) (W : World) => m ≤ W.heap.size) := fun s A B row hs hg hr => Nat.le_trans hs hg.size
theorem chg_putObj {S : Nat → Prop} {w W : World} {l : Nat} {o' : Obj} (h : Chg S w W) (hl : w.heap.size ≤ l) : Chg S w (W.putObj l o') := by
  have hg := grownBy_putObj' W l o'
  exact ⟨hg.os.trans h.os, hg.tape.trans h.tape, hg.output.trans h.output, Nat.le_trans h.size hg.size, fun k hk hS => (hg.block k (Nat.lt_of_lt_of_le hk h.size) (fun e => by cases e; omega)).trans (h.block k hk hS)⟩
theorem belowZ_t {A B C : World} (h : Below 0 A B) (k : Below 0 B C) : Below 0 A C := h.trans k
end
theorem mixed : Tryz.prog.follows .mixedOrders = true := by kernel_rfl
end Go.Proofs.YtbjekoljipjldaaGreatDoor
namespace Go.Proofs.YtbjekoljipjldaaGreatDoor
set_option linter.unusedVariables false
set_option linter.unusedSimpArgs false
open Go.RowKit Go.Shelf
attribute [local go_sem] Oper.semAt_some
/-- what is counted in a part -/
def cntPart (ws : List Nat) (x : Part) : Nat := pop (ws.getD x.1.1 0 &&& x.1.2)
def rankOf (ws : List Nat) (xs : List Part) : Nat := (xs.map (cntPart ws)).foldl (· + ·) 0
theorem rankOf_snoc (ws : List Nat) (xs : List Part) (x : Part) : rankOf ws (xs ++ [x]) = rankOf ws xs + cntPart ws x := by simp [rankOf]
theorem pop_le (x : Nat) : pop x ≤ 64 := popN_le x 64
theorem cntPart_le (ws : List Nat) (x : Part) : cntPart ws x ≤ 64 := pop_le _
theorem foldl_le_64 (f : Part → Nat) (hf : ∀ x, f x ≤ 64) : ∀ (xs : List Part) (a : Nat), (xs.map f).foldl (· + ·) a ≤ a + 64 * xs.length
  | [], a => by simp
  | x :: xs, a => by
    have h := foldl_le_64 f hf xs (a + f x)
    have h1 := hf x
    simp only [List.map_cons, List.foldl_cons, List.length_cons]
    omega
theorem rankOf_le (ws : List Nat) (xs : List Part) : rankOf ws xs ≤ 64 * xs.length := by
  have := foldl_le_64 (cntPart ws) (cntPart_le ws) xs 0
  simpa [rankOf] using this
theorem St.chg {S : Nat → Prop} {w w' : World} {s d : Nat} {ws : List Nat} (h : St w s d ws) (hc : Chg S w w') (h1 : ¬ S s) (h2 : ¬ S d) : St w' s d ws := ⟨hc.blk h.1 h1, hc.blk h.2.1 h2, h.2.2⟩
set_option maxRecDepth 100000 in
set_option maxHeartbeats 2000000 in
theorem stRank (s d t : Nat) (ws : List Nat) (ht : t ≤ 65536) (w : World) (hS : St w s d ws) : Calls Tryz.prog 120 #[.pointer (some ⟨s, 0, none⟩), .int .i64 t] w fun e w' => e = .returned (.int .i64 (rankOf ws (partsF 1100 0 t) : Nat)) ∧ Below w.heap.size w w' := by
  have HS := Lib.hid hS
  clear hS
  refine (callsIn_wide (n := 3)).1 ?_
  refine callsIn_of_wp_marks Tryz.func120 rfl trivial ?_ rfl
  simp only [Tryz.ntmps120, List.size_toArray, List.length_cons, List.length_nil, Nat.reduceAdd, Nat.reduceSub, Array.replicate_succ, Array.replicate_zero, List.push_toArray, List.append_toArray, List.nil_append, List.cons_append]
  have hfp : Fence.wide.fn 102 := trivial
  gi_wp2
  refine (callsIn_wide.2 (stPartsMake s 0 t _)).mono ?_
  rintro e w1 ⟨rfl, hb1, hsz1, k3, k1, k2⟩
  simp only [World.size_alloc] at hb1 hsz1 k3 k1 k2
  have hB0 : Below w.heap.size w w1 := (((Below.refl _ w).alloc (Nat.le_refl _) _).alloc (by simp) _).trans (hb1.mono (by omega))
  have HB0 := Lib.hid hB0
  have HSZ := Lib.hid hsz1
  have HS1 := Lib.hid (HS.out.below hB0)
  have HR0 := Lib.hid (show w1.heap[w.heap.size + 1]? = some (.cells #[.int .i64 0] 3 (0, 0)) from (hb1.block _ (Nat.lt_succ_self _)).trans (by have := blk_new (w.alloc (.cells #[.pointer (some ⟨s, 0, none⟩)] 102)) #[.int .i64 0] 3; simpa using this))
  have HT0 := Lib.hid (show w1.heap[w.heap.size]? = some (.cells #[.pointer (some ⟨s, 0, none⟩)] 102 (0, 0)) from (hb1.block _ (by omega)).trans (blk_old (blk_new w _ _) _))
  clear hb1 hsz1 hB0
  gi_wp2
  refine wpIn_rangeFunc_ownH rfl (by decide) (gf := 121) (lb := #[.pointer (some ⟨w.heap.size + 1 + 1 + 1, 0, none⟩), .pointer (some ⟨w.heap.size + 1 + 1 + 2, 0, none⟩), .pointer (some ⟨w.heap.size + 1 + 1, 0, none⟩)]) rfl trivial (enters_of Tryz.func121 (by kernel_rfl) rfl)
    (stParts 2 (by decide) _ _ _ 0 s d 0 t ws (by decide) ht _ (Nat.zero_le _) k1 k2 k3 (by have := HSZ.out; omega) (by have := HSZ.out; omega) (by have := HSZ.out; omega) HS1.out) belowK_t (belowK_b (Nat.zero_le _)) (Below.refl _ _) (fun _ => rfl)
    (fun pre W => Boxed W (w.heap.size + 1) 3 (.int .i64 (rankOf ws pre : Nat)) ∧ (Boxed W w.heap.size 102 (.pointer (some ⟨s, 0, none⟩)) ∧ (Chg (fun _ => False) w W ∧ w1.heap.size ≤ W.heap.size)))
    (fun _ _ _ => False)
    (OwnFrom.and (ownFrom_blk _ _ (fun pre : List Part => #[.int .i64 (rankOf ws pre : Nat)]) _) (OwnFrom.and (ownFrom_blk _ _ (fun pre : List Part => #[.pointer (some ⟨s, 0, none⟩)]) _) (OwnFrom.and (ownFrom_chg HB0.out.size) (ownFrom_size _ _))))
    (fun _ _ _ _ _ hs _ _ => hs)
    ⟨HR0.out, HT0.out, Chg.of_below HB0.out, Nat.le_refl _⟩
    (fun x a' W => ∃ B, a' = { tmps := #[.pointer (some ⟨s, 0, none⟩), .int .i64 t, .pointer (some ⟨w.heap.size, 0, none⟩), undef, .int .i64 0, .pointer (some ⟨w.heap.size + 1, 0, none⟩), .pointer (some ⟨B, 0, none⟩), .pointer (some ⟨s, 0, none⟩), .int .i64 t, .func (.func 121) #[] #[.pointer (some ⟨w.heap.size + 1 + 1 + 1, 0, none⟩), .pointer (some ⟨w.heap.size + 1 + 1 + 2, 0, none⟩), .pointer (some ⟨w.heap.size + 1 + 1, 0, none⟩)], .agg #[.int .i64 (x.1.1 : Nat), .int .u64 (x.1.2 : Nat)], undef, undef, undef, undef, undef, undef, undef, undef, undef, undef, undef, undef, undef, undef, undef], defers := [] } ∧ w1.heap.size ≤ B ∧ W.heap[B]? = some (.cells #[.int .i64 (x.1.1 : Nat), .int .u64 (x.1.2 : Nat)] 134 (0, 0)))
    (fun x a' s A B row ⟨Bk, e, hb, k0⟩ hg hr => ⟨Bk, e, hb, ownFrom_blk w1.heap.size Bk (fun _ : Unit => #[.int .i64 (x.1.1 : Nat), .int .u64 (x.1.2 : Nat)]) _ () A B row k0 hg hr⟩) ?assign ?body ?done ?stop
  case assign =>
    intro l pre x W K hI hK
    rw [show encP x = #[.agg #[.int .i64 (x.1.1 : Nat), .int .u64 (x.1.2 : Nat)]] from rfl]
    obtain ⟨hI1, hI0, hI2, hsz⟩ := hI
    gi_wp2
    refine hK _ _ (KeepsFrom.of_grownBy (World.grownBy_alloc W _ none) (fun _ e => by cases e)) ((Below.refl _ W).alloc (Nat.zero_le _) _) ⟨hI1.alloc _, hI0.alloc _, hI2.alloc _, Nat.le_trans hsz (by simp)⟩ ⟨W.heap.size, rfl, hsz, blk_new _ _ _⟩
  case body =>
    rintro l pre x a' W hl _ ⟨hc, h0, hB, hsz⟩ ⟨B, rfl, hB1, hP⟩ hlen
    have hS := HS.out.chg hB (fun h => h) (fun h => h)
    have hr : rankOf ws pre ≤ 128000 := Nat.le_trans (rankOf_le ws pre) (by omega)
    have HC := Lib.hid (rankOf_snoc ws pre x)
    have HCC := Lib.hid (show cntPart ws x = pop (ws.getD x.1.1 0 &&& x.1.2) from rfl)
    have hp : pop (ws.getD x.1.1 0 &&& x.1.2) ≤ 64 := pop_le _
    have hband := and_u64 (ws.getD x.1.1 0) x.1.2 (hS.2.2.at_ x.2.1) x.2.2
    have hw : (ws.getD x.1.1 0 &&& x.1.2) < 18446744073709551616 := Nat.lt_of_le_of_lt Nat.and_le_left (hS.2.2.at_ x.2.1)
    have q0 := blk_cell hS.1 0 (v := .slice (some ⟨d, 0, none⟩) 1024 1024) rfl
    have q1 := hS.cell (k := x.1.1) x.2.1
    have hx : x.1.1 < 1024 := x.2.1
    have p0 := blk_cell hP 0 (v := .int .i64 (x.1.1 : Nat)) rfl
    have p1 := blk_cell hP 1 (v := .int .u64 (x.1.2 : Nat)) rfl
    have c0 := hc.cell
    have c1 := hc.frozen
    have t0 := h0.cell
    obtain ⟨y, hy⟩ : ∃ y, ws.getD x.1.1 0 = y := ⟨_, rfl⟩
    obtain ⟨m, hm⟩ : ∃ m, x.1.2 = m := ⟨_, rfl⟩
    obtain ⟨k, hk⟩ : ∃ k, x.1.1 = k := ⟨_, rfl⟩
    rw [hk] at q1 hx p0 hy hw hband hp HCC
    rw [hm] at p1 hw hband hp HCC
    rw [hy] at q1 hw hband hp HCC
    rw [hk, hm]
    obtain ⟨z, hz⟩ : ∃ z, y &&& m = z := ⟨_, rfl⟩
    rw [hz] at hw hband hp HCC
    obtain ⟨r, hr0⟩ : ∃ r, rankOf ws pre = r := ⟨_, rfl⟩
    rw [hr0] at hr c0 HC
    have hx1 : (k : Int) < 1024 := by omega
    have hr1 : (r : Int) ≤ 128000 := by omega
    have hp1 : (pop z : Int) ≤ 64 := by omega
    have HSZ2 := Lib.hid hsz
    have HBW := Lib.hid hB
    have HCB := Lib.hid hc
    have HTB := Lib.hid h0
    clear hS hB hsz hB1 hlen hy hm hk hz hr0 hr hp hl hc h0 hP
    gi_wp2
    refine wpIn_round_tail 14 mixed (by kernel_rfl) (by kernel_rfl) ?_
    simp only [List.take_succ_cons, List.take_zero, List.drop_succ_cons, List.drop_zero]
    repeat still_step
    still_call (bitCount z _ hw)
    repeat still_step
    refine wpStill_nil ?_
    gi_wp2
    refine ⟨(KeepsOthers.trans (KeepsOthers.setCell _ _ _) (KeepsOthers.drew _)).from _, ⟨rfl, rfl, rfl, by simp, fun k hk => absurd hk (Nat.not_lt_zero _)⟩, ?_, ?_, ?_, ?_⟩
    · have := HCB.out.set (.int .i64 ((r : Int) + (pop z : Int)))
      rw [HC.out, HCC.out]
      exact this
    · exact HTB.out.other (by omega) _
    · exact (HBW.out.set _ (.inr (by omega))).drew
    · have := HSZ2.out; simpa using this
  case done =>
    rintro D ys W hD rfl ⟨hc, _, hB, hsz⟩ hK
    have c0 := hc.cell
    gi_wp2
    refine ⟨by simp, .inl ⟨_, _, rfl, run_takeDeferred hK, ?_⟩⟩
    exact ⟨_, results_tmp rfl _ _ _, rfl, below_of_none (chg_putObj hB (by have := HB0.out.size; omega))⟩
  case stop =>
    rintro D c pre W _ _ h _
    exact h.elim
end Go.Proofs.YtbjekoljipjldaaGreatDoor
namespace Go.Proofs.YtbjekoljipjldaaGreatDoor
set_option linter.unusedVariables false
set_option linter.unusedSimpArgs false
open Go.RowKit Go.Shelf
attribute [local go_sem] Oper.semAt_some
def fillStep (p : Nat × List Nat) (x : Part) : Nat × List Nat := (p.1 + pop (andn x.1.2 (p.2.getD x.1.1 0)), p.2.set x.1.1 (p.2.getD x.1.1 0 ||| x.1.2))
def wipeStep (p : Nat × List Nat) (x : Part) : Nat × List Nat := (p.1 + pop (x.1.2 &&& p.2.getD x.1.1 0), p.2.set x.1.1 (andn (p.2.getD x.1.1 0) x.1.2))
theorem fillStep_eq (p : Nat × List Nat) (x : Part) : fillStep p x = (p.1 + pop (andn x.1.2 (p.2.getD x.1.1 0)), p.2.set x.1.1 (p.2.getD x.1.1 0 ||| x.1.2)) := rfl
theorem wipeStep_eq (p : Nat × List Nat) (x : Part) : wipeStep p x = (p.1 + pop (x.1.2 &&& p.2.getD x.1.1 0), p.2.set x.1.1 (andn (p.2.getD x.1.1 0) x.1.2)) := rfl
def fillS (ws : List Nat) (xs : List Part) : Nat × List Nat := xs.foldl fillStep (0, ws)
def wipeS (ws : List Nat) (xs : List Part) : Nat × List Nat := xs.foldl wipeStep (0, ws)
theorem fillS_snoc (ws : List Nat) (xs : List Part) (x : Part) : fillS ws (xs ++ [x]) = fillStep (fillS ws xs) x := by simp [fillS]
theorem wipeS_snoc (ws : List Nat) (xs : List Part) (x : Part) : wipeS ws (xs ++ [x]) = wipeStep (wipeS ws xs) x := by simp [wipeS]
theorem foldl_1_le (f : Nat × List Nat → Part → Nat × List Nat) (hf : ∀ p x, (f p x).1 ≤ p.1 + 64) : ∀ (xs : List Part) (p : Nat × List Nat), (xs.foldl f p).1 ≤ p.1 + 64 * xs.length
  | [], p => by simp
  | x :: xs, p => by
    have h := foldl_1_le f hf xs (f p x)
    have h1 := hf p x
    simp only [List.foldl_cons, List.length_cons]
    omega
theorem fillS_le (ws : List Nat) (xs : List Part) : (fillS ws xs).1 ≤ 64 * xs.length := by
  have := foldl_1_le fillStep (fun p x => Nat.add_le_add_left (pop_le _) _) xs (0, ws)
  simpa [fillS] using this
theorem wipeS_le (ws : List Nat) (xs : List Part) : (wipeS ws xs).1 ≤ 64 * xs.length := by
  have := foldl_1_le wipeStep (fun p x => Nat.add_le_add_left (pop_le _) _) xs (0, ws)
  simpa [wipeS] using this
theorem ownFrom_St {β : Type} (B0 s d : Nat) (f : β → List Nat) : OwnFrom B0 (fun (x : β) (W : World) => St W s d (f x)) := fun x A B row hs hg hr =>
  ⟨ownFrom_blk B0 s (fun _ : Unit => #[.slice (some ⟨d, 0, none⟩) 1024 1024]) _ () A B row hs.1 hg hr, ownFrom_blk B0 d (fun _ : Unit => wcells (f x)) _ () A B row hs.2.1 hg hr, hs.2.2⟩
theorem or_lt64 (a b : Nat) (ha : a < 18446744073709551616) (hb : b < 18446744073709551616) : a ||| b < 18446744073709551616 := Nat.or_lt_two_pow (n := 64) (by simpa using ha) (by simpa using hb)
set_option maxRecDepth 100000 in
set_option maxHeartbeats 2000000 in
theorem stFill (s d f t : Nat) (ws : List Nat) (hf : f ≤ 65536) (ht : t ≤ 65536) (w : World) (hS : St w s d ws) : Calls Tryz.prog 87 #[.pointer (some ⟨s, 0, none⟩), .int .i64 f, .int .i64 t] w fun e w' => e = .returned (.int .i64 ((fillS ws (partsF 1100 f t)).1 : Nat)) ∧ St w' s d (fillS ws (partsF 1100 f t)).2 ∧ Chg (· = d) w w' := by
  have hsl := blk_lt hS.1
  have hdl := blk_lt hS.2.1
  have hsd : s ≠ d := fun e => by have h1 := hS.1; have h2 := hS.2.1; rw [e, h2] at h1; injection h1 with h1; injection h1 with h1 h2; exact absurd h2 (by decide)
  have HS := Lib.hid hS
  clear hS
  refine (callsIn_wide (n := 3)).1 ?_
  refine callsIn_of_wp_marks Tryz.func87 rfl trivial ?_ rfl
  simp only [Tryz.ntmps87, List.size_toArray, List.length_cons, List.length_nil, Nat.reduceAdd, Nat.reduceSub, Array.replicate_succ, Array.replicate_zero, List.push_toArray, List.append_toArray, List.nil_append, List.cons_append]
  have hfp : Fence.wide.fn 102 := trivial
  gi_wp2
  refine (callsIn_wide.2 (stPartsMake s f t _)).mono ?_
  rintro e w1 ⟨rfl, hb1, hsz1, k3, k1, k2⟩
  simp only [World.size_alloc] at hb1 hsz1 k3 k1 k2
  have hB0 : Below w.heap.size w w1 := (((Below.refl _ w).alloc (Nat.le_refl _) _).alloc (by simp) _).trans (hb1.mono (by omega))
  have HB0 := Lib.hid hB0
  have HSZ := Lib.hid hsz1
  have HS1 := Lib.hid (HS.out.below hB0)
  have HR0 := Lib.hid (show w1.heap[w.heap.size + 1]? = some (.cells #[.int .i64 0] 3 (0, 0)) from (hb1.block _ (Nat.lt_succ_self _)).trans (by have := blk_new (w.alloc (.cells #[.pointer (some ⟨s, 0, none⟩)] 102)) #[.int .i64 0] 3; simpa using this))
  have HT0 := Lib.hid (show w1.heap[w.heap.size]? = some (.cells #[.pointer (some ⟨s, 0, none⟩)] 102 (0, 0)) from (hb1.block _ (by omega)).trans (blk_old (blk_new w _ _) _))
  clear hb1 hsz1 hB0
  gi_wp2
  refine wpIn_rangeFunc_ownH rfl (by decide) (gf := 121) (lb := #[.pointer (some ⟨w.heap.size + 1 + 1 + 1, 0, none⟩), .pointer (some ⟨w.heap.size + 1 + 1 + 2, 0, none⟩), .pointer (some ⟨w.heap.size + 1 + 1, 0, none⟩)]) rfl trivial (enters_of Tryz.func121 (by kernel_rfl) rfl)
    (stParts 2 (by decide) _ _ _ 0 s d f t ws hf ht _ (Nat.zero_le _) k1 k2 k3 (by have := HSZ.out; omega) (by have := HSZ.out; omega) (by have := HSZ.out; omega) HS1.out) belowK_t (belowK_b (Nat.zero_le _)) (Below.refl _ _) (fun _ => rfl)
    (fun pre W => Boxed W (w.heap.size + 1) 3 (.int .i64 ((fillS ws pre).1 : Nat)) ∧ (Boxed W w.heap.size 102 (.pointer (some ⟨s, 0, none⟩)) ∧ (St W s d (fillS ws pre).2 ∧ (Chg (· = d) w W ∧ w1.heap.size ≤ W.heap.size))))
    (fun _ _ _ => False)
    (OwnFrom.and (ownFrom_blk _ _ (fun pre : List Part => #[.int .i64 ((fillS ws pre).1 : Nat)]) _) (OwnFrom.and (ownFrom_blk _ _ (fun pre : List Part => #[.pointer (some ⟨s, 0, none⟩)]) _) (OwnFrom.and (ownFrom_St _ s d (fun pre : List Part => (fillS ws pre).2)) (OwnFrom.and (ownFrom_chg HB0.out.size) (ownFrom_size _ _)))))
    (fun _ _ _ _ _ hs _ _ => hs)
    ⟨HR0.out, HT0.out, HS1.out, Chg.of_below HB0.out, Nat.le_refl _⟩
    (fun x a' W => ∃ B, a' = { tmps := #[.pointer (some ⟨s, 0, none⟩), .int .i64 f, .int .i64 t, .pointer (some ⟨w.heap.size, 0, none⟩), undef, undef, .int .i64 0, .pointer (some ⟨w.heap.size + 1, 0, none⟩), .pointer (some ⟨B, 0, none⟩), .pointer (some ⟨s, 0, none⟩), .int .i64 f, .int .i64 t, .func (.func 121) #[] #[.pointer (some ⟨w.heap.size + 1 + 1 + 1, 0, none⟩), .pointer (some ⟨w.heap.size + 1 + 1 + 2, 0, none⟩), .pointer (some ⟨w.heap.size + 1 + 1, 0, none⟩)], .agg #[.int .i64 (x.1.1 : Nat), .int .u64 (x.1.2 : Nat)], undef, undef, undef, undef, undef, undef, undef, undef, undef, undef, undef, undef, undef, undef, undef, undef, undef, undef, undef, undef, undef, undef, undef, undef, undef, undef, undef], defers := [] } ∧ w1.heap.size ≤ B ∧ W.heap[B]? = some (.cells #[.int .i64 (x.1.1 : Nat), .int .u64 (x.1.2 : Nat)] 134 (0, 0)))
    (fun x a' s A B row ⟨Bk, e, hb, k0⟩ hg hr => ⟨Bk, e, hb, ownFrom_blk w1.heap.size Bk (fun _ : Unit => #[.int .i64 (x.1.1 : Nat), .int .u64 (x.1.2 : Nat)]) _ () A B row k0 hg hr⟩) ?assign ?body ?done ?stop
  case assign =>
    intro l pre x W K hI hK
    rw [show encP x = #[.agg #[.int .i64 (x.1.1 : Nat), .int .u64 (x.1.2 : Nat)]] from rfl]
    obtain ⟨hI1, hI0, hI3, hI2, hsz⟩ := hI
    gi_wp2
    refine hK _ _ (KeepsFrom.of_grownBy (World.grownBy_alloc W _ none) (fun _ e => by cases e)) ((Below.refl _ W).alloc (Nat.zero_le _) _) ⟨hI1.alloc _, hI0.alloc _, ⟨blk_old hI3.1 _, blk_old hI3.2.1 _, hI3.2.2⟩, hI2.alloc _, Nat.le_trans hsz (by simp)⟩ ⟨W.heap.size, rfl, hsz, blk_new _ _ _⟩
  case body =>
    rintro l pre x a' W hl _ ⟨hc, h0, hS, hB, hsz⟩ ⟨B, rfl, hB1, hP⟩ hlen
    have hr : (fillS ws pre).1 ≤ 128000 := Nat.le_trans (fillS_le ws pre) (by omega)
    have HC := Lib.hid (fillS_snoc ws pre x)
    obtain ⟨p, hpp⟩ : ∃ p, fillS ws pre = p := ⟨_, rfl⟩
    rw [hpp] at hc hS hr HC
    have hp : pop (andn x.1.2 (p.2.getD x.1.1 0)) ≤ 64 := pop_le _
    have HCC := Lib.hid (fillStep_eq p x)
    have hy64 := hS.2.2.at_ x.2.1
    have hm64 := x.2.2
    have q0 := blk_cell hS.1 0 (v := .slice (some ⟨d, 0, none⟩) 1024 1024) rfl
    have q1 := hS.cell (k := x.1.1) x.2.1
    have hx : x.1.1 < 1024 := x.2.1
    have p0 := blk_cell hP 0 (v := .int .i64 (x.1.1 : Nat)) rfl
    have p1 := blk_cell hP 1 (v := .int .u64 (x.1.2 : Nat)) rfl
    have c0 := hc.cell
    have c1 := hc.frozen
    have t0 := h0.cell
    obtain ⟨y, hy⟩ : ∃ y, p.2.getD x.1.1 0 = y := ⟨_, rfl⟩
    obtain ⟨m, hm⟩ : ∃ m, x.1.2 = m := ⟨_, rfl⟩
    obtain ⟨k, hk⟩ : ∃ k, x.1.1 = k := ⟨_, rfl⟩
    rw [hy] at hy64 q1 hp HCC
    rw [hm] at hm64 p1 hp HCC
    rw [hk] at q1 hx p0 HCC
    rw [hk, hm] at hP
    rw [hk, hm]
    have hband := u64_andNot_nat m y hm64 hy64
    have hw : andn m y < 18446744073709551616 := andn_lt m y hm64
    have hband2 := bits_or_u64_nat y m hy64 hm64
    have hw2 : (y ||| m) < 18446744073709551616 := or_lt64 y m hy64 hm64
    obtain ⟨z, hz⟩ : ∃ z, z = andn m y := ⟨_, rfl⟩
    obtain ⟨z2, hz2⟩ : ∃ z2, z2 = y ||| m := ⟨_, rfl⟩
    have hband' := hband.trans (Int.ofNat_inj.2 hz.symm)
    have hband2' := hband2.trans (Int.ofNat_inj.2 hz2.symm)
    rw [← hz] at hw hp HCC
    rw [← hz2] at hw2 HCC
    obtain ⟨r, hr0⟩ : ∃ r, p.1 = r := ⟨_, rfl⟩
    rw [hr0] at hr c0 HCC
    have hx1 : (k : Int) < 1024 := by omega
    have hr1 : (r : Int) ≤ 128000 := by omega
    have hp1 : (pop z : Int) ≤ 64 := by omega
    have HSZ2 := Lib.hid hsz
    have HY := Lib.hid (show p.2.getD k 0 = y by rw [← hk]; exact hy)
    have HBW := Lib.hid hB
    have HCB := Lib.hid hc
    have HTB := Lib.hid h0
    have HSW := Lib.hid hS
    have HPB := Lib.hid hP
    have HX2 := Lib.hid hw2
    have hBn : B ≠ w.heap.size + 1 := by have := HSZ.out; omega
    clear hS hB hsz hB1 hlen hy hm hk hz hz2 hr0 hr hp hl hc h0 hP hband hband2 hm64 hy64 hpp hw2
    gi_wp2
    refine wpIn_round_tail 14 mixed (by kernel_rfl) (by kernel_rfl) ?_
    simp only [List.take_succ_cons, List.take_zero, List.drop_succ_cons, List.drop_zero]
    repeat still_step
    still_call (bitCount z _ hw)
    repeat still_step
    refine wpStill_nil ?_
    gi_wp2
    obtain ⟨W1, hW1⟩ : ∃ W1, W1 = (W.setCell ⟨w.heap.size + 1, 0, none⟩ (.int .i64 ((r : Int) + (pop z : Int)))).drew := ⟨_, rfl⟩
    rw [← hW1]
    have hKO : KeepsOthers W W1 := by rw [hW1]; exact KeepsOthers.trans (KeepsOthers.setCell _ _ _) (KeepsOthers.drew _)
    have HKO := Lib.hid hKO
    have HB1 := Lib.hid (show Below 0 W W1 by rw [hW1]; exact ⟨rfl, rfl, rfl, by simp, fun k hk => absurd hk (Nat.not_lt_zero _)⟩)
    have hc := HCB.out.set (.int .i64 ((r : Int) + (pop z : Int)))
    have hc' : Boxed W1 (w.heap.size + 1) 3 (.int .i64 ((r : Int) + (pop z : Int))) := by rw [hW1]; exact hc
    have HC1 := Lib.hid hc'
    have h0 : Boxed W1 w.heap.size 102 (.pointer (some ⟨s, 0, none⟩)) := by rw [hW1]; exact HTB.out.other (by omega) _
    have HT1 := Lib.hid h0
    have hS : St W1 s d p.2 := by rw [hW1]; exact ⟨blk_other HSW.out.1 _ (by omega), blk_other HSW.out.2.1 _ (by omega), HSW.out.2.2⟩
    have HS2 := Lib.hid hS
    have hP : W1.heap[B]? = some (.cells #[.int .i64 (k : Nat), .int .u64 (m : Nat)] 134 (0, 0)) := by rw [hW1]; exact blk_other HPB.out _ hBn
    have hB : Chg (· = d) w W1 := by rw [hW1]; exact (HBW.out.set _ (.inr (by omega))).drew
    have HB2 := Lib.hid hB
    have hsz : w1.heap.size ≤ W1.heap.size := by rw [hW1]; have := HSZ2.out; simpa using this
    have HSZ3 := Lib.hid hsz
    clear q0 q1 p0 p1 c0 c1 t0 hKO
    have q0 := blk_cell hS.1 0 (v := .slice (some ⟨d, 0, none⟩) 1024 1024) rfl
    have q1 : W1.cell? ⟨d, k, none⟩ = some (.int .u64 (y : Nat)) := (hS.cell hx).trans (by rw [HY.out])
    have q2 := blk_free hS.2.1 k
    have p0 := blk_cell hP 0 (v := .int .i64 (k : Nat)) rfl
    have p1 := blk_cell hP 1 (v := .int .u64 (m : Nat)) rfl
    have t0 := h0.cell
    clear hS hB hsz hc hc' h0 hP hW1 HCB HTB HSW HPB HBW HSZ2
    refine wpIn_round_tail 12 mixed (by kernel_rfl) (by kernel_rfl) ?_
    simp only [List.take_succ_cons, List.take_zero, List.drop_succ_cons, List.drop_zero]
    repeat still_step
    refine wpStill_nil ?_
    gi_wp2
    have HE := Lib.hid (show fillS ws (pre ++ [x]) = (r + pop z, p.2.set k z2) from by rw [HC.out, HCC.out])
    refine ⟨(HKO.out.trans (KeepsOthers.trans (KeepsOthers.setCell _ _ _) (KeepsOthers.drew _))).from _, HB1.out.trans ⟨rfl, rfl, rfl, by simp, fun k hk => absurd hk (Nat.not_lt_zero _)⟩, ?_, ?_, ?_, ?_, ?_⟩
    · rw [HE.out]
      exact blk_other HC1.out _ (show w.heap.size + 1 ≠ d by omega)
    · exact blk_other HT1.out _ (show w.heap.size ≠ d by omega)
    · rw [HE.out]
      exact (HS2.out.store k z2 HX2.out).drew
    · exact (HB2.out.set _ (.inl rfl)).drew
    · have := HSZ3.out; simpa using this
  case done =>
    rintro D ys W hD rfl ⟨hc, _, hS, hB, hsz⟩ hK
    have c0 := hc.cell
    gi_wp2
    refine ⟨by simp, .inl ⟨_, _, rfl, run_takeDeferred hK, ?_⟩⟩
    refine ⟨_, results_tmp rfl _ _ _, rfl, ?_, chg_putObj hB (by have := HB0.out.size; omega)⟩
    have hd1 := HB0.out.size
    exact ⟨(World.putObj_heap_other (by omega)).trans hS.1, (World.putObj_heap_other (by omega)).trans hS.2.1, hS.2.2⟩
  case stop =>
    rintro D c pre W _ _ h _
    exact h.elim
set_option maxRecDepth 100000 in
set_option maxHeartbeats 2000000 in
theorem stWipe (s d f t : Nat) (ws : List Nat) (hf : f ≤ 65536) (ht : t ≤ 65536) (w : World) (hS : St w s d ws) : Calls Tryz.prog 88 #[.pointer (some ⟨s, 0, none⟩), .int .i64 f, .int .i64 t] w fun e w' => e = .returned (.int .i64 ((wipeS ws (partsF 1100 f t)).1 : Nat)) ∧ St w' s d (wipeS ws (partsF 1100 f t)).2 ∧ Chg (· = d) w w' := by
  have hsl := blk_lt hS.1
  have hdl := blk_lt hS.2.1
  have hsd : s ≠ d := fun e => by have h1 := hS.1; have h2 := hS.2.1; rw [e, h2] at h1; injection h1 with h1; injection h1 with h1 h2; exact absurd h2 (by decide)
  have HS := Lib.hid hS
  clear hS
  refine (callsIn_wide (n := 3)).1 ?_
  refine callsIn_of_wp_marks Tryz.func88 rfl trivial ?_ rfl
  simp only [Tryz.ntmps88, List.size_toArray, List.length_cons, List.length_nil, Nat.reduceAdd, Nat.reduceSub, Array.replicate_succ, Array.replicate_zero, List.push_toArray, List.append_toArray, List.nil_append, List.cons_append]
  have hfp : Fence.wide.fn 102 := trivial
  gi_wp2
  refine (callsIn_wide.2 (stPartsMake s f t _)).mono ?_
  rintro e w1 ⟨rfl, hb1, hsz1, k3, k1, k2⟩
  simp only [World.size_alloc] at hb1 hsz1 k3 k1 k2
  have hB0 : Below w.heap.size w w1 := (((Below.refl _ w).alloc (Nat.le_refl _) _).alloc (by simp) _).trans (hb1.mono (by omega))
  have HB0 := Lib.hid hB0
  have HSZ := Lib.hid hsz1
  have HS1 := Lib.hid (HS.out.below hB0)
  have HR0 := Lib.hid (show w1.heap[w.heap.size + 1]? = some (.cells #[.int .i64 0] 3 (0, 0)) from (hb1.block _ (Nat.lt_succ_self _)).trans (by have := blk_new (w.alloc (.cells #[.pointer (some ⟨s, 0, none⟩)] 102)) #[.int .i64 0] 3; simpa using this))
  have HT0 := Lib.hid (show w1.heap[w.heap.size]? = some (.cells #[.pointer (some ⟨s, 0, none⟩)] 102 (0, 0)) from (hb1.block _ (by omega)).trans (blk_old (blk_new w _ _) _))
  clear hb1 hsz1 hB0
  gi_wp2
  refine wpIn_rangeFunc_ownH rfl (by decide) (gf := 121) (lb := #[.pointer (some ⟨w.heap.size + 1 + 1 + 1, 0, none⟩), .pointer (some ⟨w.heap.size + 1 + 1 + 2, 0, none⟩), .pointer (some ⟨w.heap.size + 1 + 1, 0, none⟩)]) rfl trivial (enters_of Tryz.func121 (by kernel_rfl) rfl)
    (stParts 2 (by decide) _ _ _ 0 s d f t ws hf ht _ (Nat.zero_le _) k1 k2 k3 (by have := HSZ.out; omega) (by have := HSZ.out; omega) (by have := HSZ.out; omega) HS1.out) belowK_t (belowK_b (Nat.zero_le _)) (Below.refl _ _) (fun _ => rfl)
    (fun pre W => Boxed W (w.heap.size + 1) 3 (.int .i64 ((wipeS ws pre).1 : Nat)) ∧ (Boxed W w.heap.size 102 (.pointer (some ⟨s, 0, none⟩)) ∧ (St W s d (wipeS ws pre).2 ∧ (Chg (· = d) w W ∧ w1.heap.size ≤ W.heap.size))))
    (fun _ _ _ => False)
    (OwnFrom.and (ownFrom_blk _ _ (fun pre : List Part => #[.int .i64 ((wipeS ws pre).1 : Nat)]) _) (OwnFrom.and (ownFrom_blk _ _ (fun pre : List Part => #[.pointer (some ⟨s, 0, none⟩)]) _) (OwnFrom.and (ownFrom_St _ s d (fun pre : List Part => (wipeS ws pre).2)) (OwnFrom.and (ownFrom_chg HB0.out.size) (ownFrom_size _ _)))))
    (fun _ _ _ _ _ hs _ _ => hs)
    ⟨HR0.out, HT0.out, HS1.out, Chg.of_below HB0.out, Nat.le_refl _⟩
    (fun x a' W => ∃ B, a' = { tmps := #[.pointer (some ⟨s, 0, none⟩), .int .i64 f, .int .i64 t, .pointer (some ⟨w.heap.size, 0, none⟩), undef, undef, .int .i64 0, .pointer (some ⟨w.heap.size + 1, 0, none⟩), .pointer (some ⟨B, 0, none⟩), .pointer (some ⟨s, 0, none⟩), .int .i64 f, .int .i64 t, .func (.func 121) #[] #[.pointer (some ⟨w.heap.size + 1 + 1 + 1, 0, none⟩), .pointer (some ⟨w.heap.size + 1 + 1 + 2, 0, none⟩), .pointer (some ⟨w.heap.size + 1 + 1, 0, none⟩)], .agg #[.int .i64 (x.1.1 : Nat), .int .u64 (x.1.2 : Nat)], undef, undef, undef, undef, undef, undef, undef, undef, undef, undef, undef, undef, undef, undef, undef, undef, undef, undef, undef, undef, undef, undef, undef, undef, undef, undef, undef], defers := [] } ∧ w1.heap.size ≤ B ∧ W.heap[B]? = some (.cells #[.int .i64 (x.1.1 : Nat), .int .u64 (x.1.2 : Nat)] 134 (0, 0)))
    (fun x a' s A B row ⟨Bk, e, hb, k0⟩ hg hr => ⟨Bk, e, hb, ownFrom_blk w1.heap.size Bk (fun _ : Unit => #[.int .i64 (x.1.1 : Nat), .int .u64 (x.1.2 : Nat)]) _ () A B row k0 hg hr⟩) ?assign ?body ?done ?stop
  case assign =>
    intro l pre x W K hI hK
    rw [show encP x = #[.agg #[.int .i64 (x.1.1 : Nat), .int .u64 (x.1.2 : Nat)]] from rfl]
    obtain ⟨hI1, hI0, hI3, hI2, hsz⟩ := hI
    gi_wp2
    refine hK _ _ (KeepsFrom.of_grownBy (World.grownBy_alloc W _ none) (fun _ e => by cases e)) ((Below.refl _ W).alloc (Nat.zero_le _) _) ⟨hI1.alloc _, hI0.alloc _, ⟨blk_old hI3.1 _, blk_old hI3.2.1 _, hI3.2.2⟩, hI2.alloc _, Nat.le_trans hsz (by simp)⟩ ⟨W.heap.size, rfl, hsz, blk_new _ _ _⟩
  case body =>
    rintro l pre x a' W hl _ ⟨hc, h0, hS, hB, hsz⟩ ⟨B, rfl, hB1, hP⟩ hlen
    have hr : (wipeS ws pre).1 ≤ 128000 := Nat.le_trans (wipeS_le ws pre) (by omega)
    have HC := Lib.hid (wipeS_snoc ws pre x)
    obtain ⟨p, hpp⟩ : ∃ p, wipeS ws pre = p := ⟨_, rfl⟩
    rw [hpp] at hc hS hr HC
    have hp : pop (x.1.2 &&& p.2.getD x.1.1 0) ≤ 64 := pop_le _
    have HCC := Lib.hid (wipeStep_eq p x)
    have hy64 := hS.2.2.at_ x.2.1
    have hm64 := x.2.2
    have q0 := blk_cell hS.1 0 (v := .slice (some ⟨d, 0, none⟩) 1024 1024) rfl
    have q1 := hS.cell (k := x.1.1) x.2.1
    have hx : x.1.1 < 1024 := x.2.1
    have p0 := blk_cell hP 0 (v := .int .i64 (x.1.1 : Nat)) rfl
    have p1 := blk_cell hP 1 (v := .int .u64 (x.1.2 : Nat)) rfl
    have c0 := hc.cell
    have c1 := hc.frozen
    have t0 := h0.cell
    obtain ⟨y, hy⟩ : ∃ y, p.2.getD x.1.1 0 = y := ⟨_, rfl⟩
    obtain ⟨m, hm⟩ : ∃ m, x.1.2 = m := ⟨_, rfl⟩
    obtain ⟨k, hk⟩ : ∃ k, x.1.1 = k := ⟨_, rfl⟩
    rw [hy] at hy64 q1 hp HCC
    rw [hm] at hm64 p1 hp HCC
    rw [hk] at q1 hx p0 HCC
    rw [hk, hm] at hP
    rw [hk, hm]
    have hband := and_u64 m y hm64 hy64
    have hw : m &&& y < 18446744073709551616 := Nat.lt_of_le_of_lt Nat.and_le_left hm64
    have hband2 := u64_andNot_nat y m hy64 hm64
    have hw2 : (andn y m) < 18446744073709551616 := andn_lt y m hy64
    obtain ⟨z, hz⟩ : ∃ z, z = m &&& y := ⟨_, rfl⟩
    obtain ⟨z2, hz2⟩ : ∃ z2, z2 = andn y m := ⟨_, rfl⟩
    have hband' := hband.trans (Int.ofNat_inj.2 hz.symm)
    have hband2' := hband2.trans (Int.ofNat_inj.2 hz2.symm)
    rw [← hz] at hw hp HCC
    rw [← hz2] at hw2 HCC
    obtain ⟨r, hr0⟩ : ∃ r, p.1 = r := ⟨_, rfl⟩
    rw [hr0] at hr c0 HCC
    have hx1 : (k : Int) < 1024 := by omega
    have hr1 : (r : Int) ≤ 128000 := by omega
    have hp1 : (pop z : Int) ≤ 64 := by omega
    have HSZ2 := Lib.hid hsz
    have HY := Lib.hid (show p.2.getD k 0 = y by rw [← hk]; exact hy)
    have HBW := Lib.hid hB
    have HCB := Lib.hid hc
    have HTB := Lib.hid h0
    have HSW := Lib.hid hS
    have HPB := Lib.hid hP
    have HX2 := Lib.hid hw2
    have hBn : B ≠ w.heap.size + 1 := by have := HSZ.out; omega
    clear hS hB hsz hB1 hlen hy hm hk hz hz2 hr0 hr hp hl hc h0 hP hband hband2 hm64 hy64 hpp hw2
    gi_wp2
    refine wpIn_round_tail 14 mixed (by kernel_rfl) (by kernel_rfl) ?_
    simp only [List.take_succ_cons, List.take_zero, List.drop_succ_cons, List.drop_zero]
    repeat still_step
    still_call (bitCount z _ hw)
    repeat still_step
    refine wpStill_nil ?_
    gi_wp2
    obtain ⟨W1, hW1⟩ : ∃ W1, W1 = (W.setCell ⟨w.heap.size + 1, 0, none⟩ (.int .i64 ((r : Int) + (pop z : Int)))).drew := ⟨_, rfl⟩
    rw [← hW1]
    have hKO : KeepsOthers W W1 := by rw [hW1]; exact KeepsOthers.trans (KeepsOthers.setCell _ _ _) (KeepsOthers.drew _)
    have HKO := Lib.hid hKO
    have HB1 := Lib.hid (show Below 0 W W1 by rw [hW1]; exact ⟨rfl, rfl, rfl, by simp, fun k hk => absurd hk (Nat.not_lt_zero _)⟩)
    have hc := HCB.out.set (.int .i64 ((r : Int) + (pop z : Int)))
    have hc' : Boxed W1 (w.heap.size + 1) 3 (.int .i64 ((r : Int) + (pop z : Int))) := by rw [hW1]; exact hc
    have HC1 := Lib.hid hc'
    have h0 : Boxed W1 w.heap.size 102 (.pointer (some ⟨s, 0, none⟩)) := by rw [hW1]; exact HTB.out.other (by omega) _
    have HT1 := Lib.hid h0
    have hS : St W1 s d p.2 := by rw [hW1]; exact ⟨blk_other HSW.out.1 _ (by omega), blk_other HSW.out.2.1 _ (by omega), HSW.out.2.2⟩
    have HS2 := Lib.hid hS
    have hP : W1.heap[B]? = some (.cells #[.int .i64 (k : Nat), .int .u64 (m : Nat)] 134 (0, 0)) := by rw [hW1]; exact blk_other HPB.out _ hBn
    have hB : Chg (· = d) w W1 := by rw [hW1]; exact (HBW.out.set _ (.inr (by omega))).drew
    have HB2 := Lib.hid hB
    have hsz : w1.heap.size ≤ W1.heap.size := by rw [hW1]; have := HSZ2.out; simpa using this
    have HSZ3 := Lib.hid hsz
    clear q0 q1 p0 p1 c0 c1 t0 hKO
    have q0 := blk_cell hS.1 0 (v := .slice (some ⟨d, 0, none⟩) 1024 1024) rfl
    have q1 : W1.cell? ⟨d, k, none⟩ = some (.int .u64 (y : Nat)) := (hS.cell hx).trans (by rw [HY.out])
    have q2 := blk_free hS.2.1 k
    have p0 := blk_cell hP 0 (v := .int .i64 (k : Nat)) rfl
    have p1 := blk_cell hP 1 (v := .int .u64 (m : Nat)) rfl
    have t0 := h0.cell
    clear hS hB hsz hc hc' h0 hP hW1 HCB HTB HSW HPB HBW HSZ2
    refine wpIn_round_tail 12 mixed (by kernel_rfl) (by kernel_rfl) ?_
    simp only [List.take_succ_cons, List.take_zero, List.drop_succ_cons, List.drop_zero]
    repeat still_step
    refine wpStill_nil ?_
    gi_wp2
    have HE := Lib.hid (show wipeS ws (pre ++ [x]) = (r + pop z, p.2.set k z2) from by rw [HC.out, HCC.out])
    refine ⟨(HKO.out.trans (KeepsOthers.trans (KeepsOthers.setCell _ _ _) (KeepsOthers.drew _))).from _, HB1.out.trans ⟨rfl, rfl, rfl, by simp, fun k hk => absurd hk (Nat.not_lt_zero _)⟩, ?_, ?_, ?_, ?_, ?_⟩
    · rw [HE.out]
      exact blk_other HC1.out _ (show w.heap.size + 1 ≠ d by omega)
    · exact blk_other HT1.out _ (show w.heap.size ≠ d by omega)
    · rw [HE.out]
      exact (HS2.out.store k z2 HX2.out).drew
    · exact (HB2.out.set _ (.inl rfl)).drew
    · have := HSZ3.out; simpa using this
  case done =>
    rintro D ys W hD rfl ⟨hc, _, hS, hB, hsz⟩ hK
    have c0 := hc.cell
    gi_wp2
    refine ⟨by simp, .inl ⟨_, _, rfl, run_takeDeferred hK, ?_⟩⟩
    refine ⟨_, results_tmp rfl _ _ _, rfl, ?_, chg_putObj hB (by have := HB0.out.size; omega)⟩
    have hd1 := HB0.out.size
    exact ⟨(World.putObj_heap_other (by omega)).trans hS.1, (World.putObj_heap_other (by omega)).trans hS.2.1, hS.2.2⟩
  case stop =>
    rintro D c pre W _ _ h _
    exact h.elim
set_option maxRecDepth 100000 in
theorem stCount (s d : Nat) (ws : List Nat) (w : World) (hS : St w s d ws) : Calls Tryz.prog 101 #[.pointer (some ⟨s, 0, none⟩)] w fun e w' => e = .returned (.int .i64 (rankOf ws (partsF 1100 0 65536) : Nat)) ∧ Below w.heap.size w w' := by
  have HS := Lib.hid hS
  clear hS
  go_enter Tryz.func101, Tryz.ntmps101
  go_wp2_with fail
  refine (stBits s d ws _ HS.out).mono ?_
  rintro e w1 ⟨rfl, rfl⟩
  go_wp2_with fail
  refine (stRank s d 65536 ws (by decide) _ HS.out).mono ?_
  rintro e w1 ⟨rfl, hb⟩
  go_wp2
  go_ret
  exact ⟨rfl, hb⟩
end Go.Proofs.YtbjekoljipjldaaGreatDoor
namespace Go.Proofs.YtbjekoljipjldaaGreatDoor
set_option linter.unusedVariables false
set_option linter.unusedSimpArgs false
open Go.RowKit Go.Shelf
attribute [local go_sem] Oper.semAt_some
/-- what is left of a part's word -/
def inPart (ws : List Nat) (x : Part) : Nat := ws.getD x.1.1 0 &&& x.1.2
/-- the next one, by the parts -/
def NextR (ws : List Nat) (xs : List Part) (v : Int) : Prop := (v = -1 ∧ ∀ x ∈ xs, inPart ws x = 0) ∨ (∃ (pre : List Part) (x : Part) (rest : List Part), xs = pre ++ x :: rest ∧ (∀ y ∈ pre, inPart ws y = 0) ∧ inPart ws x ≠ 0 ∧ v = 64 * (x.1.1 : Int) + (Lib.ctz 64 (inPart ws x) : Nat))
theorem ctz_lt64 (x : Nat) (h0 : x ≠ 0) (h : x < 18446744073709551616) : Lib.ctz 64 x < 64 := (Lib.lowest_bit 64 x h0 (by simpa using h)).2
theorem Tab64.chg {S : Nat → Prop} {w w' : World} (h : Tab64 w) (hc : Chg S w w') (hn : ¬ S 0) : Tab64 w' := fun j hj => by
  have hb := hc.block _ h.lt hn
  refine (World.cell?_of_block (w := w) (w' := w') (a := ⟨0, j, none⟩) hb).trans (h j hj)
set_option maxRecDepth 100000 in
set_option maxHeartbeats 2000000 in
theorem stNext (s d f : Nat) (ws : List Nat) (hf : f ≤ 65536) (w : World) (hS : St w s d ws) (hT : Tab64 w) : Calls Tryz.prog 98 #[.pointer (some ⟨s, 0, none⟩), .int .i64 f] w fun e w' => ∃ v : Int, e = .returned (.int .i64 v) ∧ Hid (NextR ws (partsF 1100 f 65536) v) ∧ Below w.heap.size w w' := by
  have HT := Lib.hid hT
  have HS := Lib.hid hS
  clear hS hT
  refine (callsIn_wide (n := 3)).1 ?_
  refine callsIn_of_wp_marks Tryz.func98 rfl trivial ?_ rfl
  simp only [Tryz.ntmps98, List.size_toArray, List.length_cons, List.length_nil, Nat.reduceAdd, Nat.reduceSub, Array.replicate_succ, Array.replicate_zero, List.push_toArray, List.append_toArray, List.nil_append, List.cons_append]
  have hfp : Fence.wide.fn 102 := trivial
  have hfb : Fence.wide.fn 115 := trivial
  gi_wp2
  obtain ⟨W0, hW0⟩ : ∃ W0, W0 = (w.alloc (.cells #[.pointer (some ⟨s, 0, none⟩)] 102)).alloc (.cells #[.int .i64 0] 3) := ⟨_, rfl⟩
  rw [← hW0]
  have hbA : Below w.heap.size w W0 := by rw [hW0]; exact ((Below.refl _ w).alloc (Nat.le_refl _) _).alloc (by simp) _
  have HSA := Lib.hid (HS.out.below hbA)
  have HBA := Lib.hid hbA
  have hsA : W0.heap.size = w.heap.size + 1 + 1 := by rw [hW0]; simp
  have hTA : Boxed W0 w.heap.size 102 (.pointer (some ⟨s, 0, none⟩)) := by rw [hW0]; exact blk_old (blk_new w _ _) _
  have hRA : Boxed W0 (w.heap.size + 1) 3 (.int .i64 0) := by rw [hW0]; have := Boxed.new (w.alloc (.cells #[.pointer (some ⟨s, 0, none⟩)] 102)) 3 (.int .i64 0); simpa only [World.size_alloc] using this
  have HTA := Lib.hid hTA
  have HRA := Lib.hid hRA
  have t0 := hTA.cell
  clear hbA hTA hRA hW0
  refine wpIn_wide.2 (wp_region_still_tail 4 mixed (by kernel_rfl) ?_)
  simp only [List.take_succ_cons, List.take_zero, List.drop_succ_cons, List.drop_zero]
  repeat still_step
  still_call (stBits s d ws _ HSA.out)
  repeat still_step
  refine wpStill_nil ?_
  go_wp2_with fail
  refine (stPartsMake s f 65536 _).mono ?_
  rintro e w1 ⟨rfl, hb1, hsz1, k3, k1, k2⟩
  have hb1' : Below W0.heap.size W0 w1 := below_H hb1 rfl rfl rfl rfl
  have hsz1' : W0.heap.size + 3 ≤ w1.heap.size := hsz1
  rw [hsA] at hsz1'
  have k3' : w1.cell? ⟨w.heap.size + 1 + 1, 0, none⟩ = _ := hsA ▸ k3
  have k1' : w1.cell? ⟨w.heap.size + 1 + 1 + 1, 0, none⟩ = _ := hsA ▸ k1
  have k2' : w1.cell? ⟨w.heap.size + 1 + 1 + 2, 0, none⟩ = _ := hsA ▸ k2
  have HB0 := Lib.hid (HBA.out.trans (hb1'.mono (by omega)))
  have HSZ := Lib.hid hsz1'
  have HS1 := Lib.hid (HS.out.below HB0.out)
  have HT1 := Lib.hid (show Boxed w1 w.heap.size 102 (.pointer (some ⟨s, 0, none⟩)) from (hb1'.block _ (by omega)).trans HTA.out)
  have HR1 := Lib.hid (show Boxed w1 (w.heap.size + 1) 3 (.int .i64 0) from (hb1'.block _ (by omega)).trans HRA.out)
  have hlb : (#[.pointer (some ⟨W0.heap.size + 1, 0, none⟩), .pointer (some ⟨W0.heap.size + 2, 0, none⟩), .pointer (some ⟨W0.heap.size, 0, none⟩)] : Array Value) = #[.pointer (some ⟨w.heap.size + 1 + 1 + 1, 0, none⟩), .pointer (some ⟨w.heap.size + 1 + 1 + 2, 0, none⟩), .pointer (some ⟨w.heap.size + 1 + 1, 0, none⟩)] := by rw [hsA]
  have hlb2 : W0.drew.heap.size = w.heap.size + 1 + 1 := hsA
  simp only [hlb2]
  clear hb1 hsz1 k1 k2 k3 hb1' hsz1' hlb hlb2 t0
  go_wp2
  gi_wp2
  refine wpIn_rangeFunc_ownH rfl (by decide) (gf := 121) (lb := #[.pointer (some ⟨w.heap.size + 1 + 1 + 1, 0, none⟩), .pointer (some ⟨w.heap.size + 1 + 1 + 2, 0, none⟩), .pointer (some ⟨w.heap.size + 1 + 1, 0, none⟩)]) rfl trivial (enters_of Tryz.func121 (by kernel_rfl) rfl)
    (stParts 2 (by decide) _ _ _ 0 s d f 65536 ws hf (by decide) _ (Nat.zero_le _) k1' k2' k3' (by have := HSZ.out; omega) (by have := HSZ.out; omega) (by have := HSZ.out; omega) HS1.out) belowK_t (belowK_b (Nat.zero_le _)) (Below.refl _ _) (fun _ => rfl)
    (fun pre W => (∀ x ∈ pre, inPart ws x = 0) ∧ (Boxed W (w.heap.size + 1) 3 (.int .i64 0) ∧ (Boxed W w.heap.size 102 (.pointer (some ⟨s, 0, none⟩)) ∧ (Chg (fun _ => False) w W ∧ w1.heap.size ≤ W.heap.size))))
    (fun c pre W => (c = .ret ∧ ∃ q x, pre = q ++ [x] ∧ (∀ y ∈ q, inPart ws y = 0) ∧ inPart ws x ≠ 0 ∧ Boxed W (w.heap.size + 1) 3 (.int .i64 (64 * (x.1.1 : Int) + (Lib.ctz 64 (inPart ws x) : Nat)))) ∧ Chg (fun _ => False) w W)
    (OwnFrom.and (ownFrom_pure _ (fun pre : List Part => ∀ x ∈ pre, inPart ws x = 0)) (OwnFrom.and (ownFrom_blk _ _ (fun pre : List Part => #[.int .i64 0]) _) (OwnFrom.and (ownFrom_blk _ _ (fun pre : List Part => #[.pointer (some ⟨s, 0, none⟩)]) _) (OwnFrom.and (ownFrom_chg HB0.out.size) (ownFrom_size _ _)))))
    (fun c pre A B row hs hg hr => ⟨⟨hs.1.1, by
      obtain ⟨q, x, h1, h2, h3, h4⟩ := hs.1.2
      exact ⟨q, x, h1, h2, h3, ownFrom_blk w1.heap.size (w.heap.size + 1) (fun _ : Unit => #[.int .i64 (64 * (x.1.1 : Int) + (Lib.ctz 64 (inPart ws x) : Nat))]) 3 () A B row h4 hg hr⟩⟩, ownFrom_chg (β := Unit) HB0.out.size () A B row hs.2 hg hr⟩)
    ⟨by simp, HR1.out, HT1.out, Chg.of_below HB0.out, Nat.le_refl _⟩
    (fun x a' W => ∃ B, a' = { tmps := #[.pointer (some ⟨s, 0, none⟩), .int .i64 f, .pointer (some ⟨w.heap.size, 0, none⟩), undef, .pointer (some ⟨w.heap.size + 1, 0, none⟩), .pointer (some ⟨B, 0, none⟩), undef, .pointer (some ⟨s, 0, none⟩), .int .i64 f, .pointer (some ⟨s, 0, none⟩), .int .i64 65536, .func (.func 121) #[] #[.pointer (some ⟨w.heap.size + 1 + 1 + 1, 0, none⟩), .pointer (some ⟨w.heap.size + 1 + 1 + 2, 0, none⟩), .pointer (some ⟨w.heap.size + 1 + 1, 0, none⟩)], .agg #[.int .i64 (x.1.1 : Nat), .int .u64 (x.1.2 : Nat)], undef, undef, undef, undef, undef, undef, undef, undef, undef, undef, undef, undef, undef, undef, undef, undef, undef, undef, undef], defers := [] } ∧ w1.heap.size ≤ B ∧ W.heap[B]? = some (.cells #[.int .i64 (x.1.1 : Nat), .int .u64 (x.1.2 : Nat)] 134 (0, 0)))
    (fun x a' s A B row ⟨Bk, e, hb, k0⟩ hg hr => ⟨Bk, e, hb, ownFrom_blk w1.heap.size Bk (fun _ : Unit => #[.int .i64 (x.1.1 : Nat), .int .u64 (x.1.2 : Nat)]) _ () A B row k0 hg hr⟩) ?assign ?body ?done ?stop
  case assign =>
    intro l pre x W K hI hK
    rw [show encP x = #[.agg #[.int .i64 (x.1.1 : Nat), .int .u64 (x.1.2 : Nat)]] from rfl]
    obtain ⟨hI3, hI1, hI0, hI2, hsz⟩ := hI
    gi_wp2
    refine hK _ _ (KeepsFrom.of_grownBy (World.grownBy_alloc W _ none) (fun _ e => by cases e)) ((Below.refl _ W).alloc (Nat.zero_le _) _) ⟨hI3, hI1.alloc _, hI0.alloc _, hI2.alloc _, Nat.le_trans hsz (by simp)⟩ ⟨W.heap.size, rfl, hsz, blk_new _ _ _⟩
  case body =>
    rintro l pre x a' W hl _ ⟨hz, hc, h0, hB, hsz⟩ ⟨B, rfl, hB1, hP⟩ hlen
    have hS := HS.out.chg hB (fun h => h) (fun h => h)
    have hTW := HT.out.chg hB (fun h => h)
    have HZ := Lib.hid hz
    obtain ⟨z, hzz⟩ : ∃ z, inPart ws x = z := ⟨_, rfl⟩
    have hband := and_u64 (ws.getD x.1.1 0) x.1.2 (hS.2.2.at_ x.2.1) x.2.2
    have hw : z < 18446744073709551616 := by rw [← hzz]; exact Nat.lt_of_le_of_lt Nat.and_le_left (hS.2.2.at_ x.2.1)
    rw [show (ws.getD x.1.1 0 &&& x.1.2) = z from hzz] at hband
    have q0 := blk_cell hS.1 0 (v := .slice (some ⟨d, 0, none⟩) 1024 1024) rfl
    have q1 := hS.cell (k := x.1.1) x.2.1
    have hx : x.1.1 < 1024 := x.2.1
    have p0 := blk_cell hP 0 (v := .int .i64 (x.1.1 : Nat)) rfl
    have p1 := blk_cell hP 1 (v := .int .u64 (x.1.2 : Nat)) rfl
    have c0 := hc.cell
    have c1 := hc.frozen
    have t0 := h0.cell
    obtain ⟨y, hy⟩ : ∃ y, ws.getD x.1.1 0 = y := ⟨_, rfl⟩
    obtain ⟨m, hm⟩ : ∃ m, x.1.2 = m := ⟨_, rfl⟩
    obtain ⟨k, hk⟩ : ∃ k, x.1.1 = k := ⟨_, rfl⟩
    rw [hk] at q1 hx p0 hy hband
    rw [hm] at p1 hband
    rw [hy] at q1 hband
    rw [hk, hm]
    have HK := Lib.hid hk
    have HZZ := Lib.hid hzz
    have hx1 : (k : Int) < 1024 := by omega
    have HSZ2 := Lib.hid hsz
    have HBW := Lib.hid hB
    have HCB := Lib.hid hc
    have HTB := Lib.hid h0
    have HTW := Lib.hid hTW
    obtain ⟨v, hv⟩ : ∃ v, lowBit z = v := ⟨_, rfl⟩
    have HV := Lib.hid hv
    have hv1 : (z = 0 ∧ v < 0) ∨ (z ≠ 0 ∧ 0 ≤ v ∧ v < 64 ∧ v = (Lib.ctz 64 z : Nat)) := by
      rw [← hv]
      unfold lowBit
      by_cases h : z = 0
      · rw [if_pos h]; exact .inl ⟨h, by decide⟩
      · rw [if_neg h]; have := ctz_lt64 z h hw; exact .inr ⟨h, by omega, by omega, rfl⟩
    clear hS hB hsz hB1 hlen hy hm hk hl hc h0 hP hTW hv hzz hz
    gi_wp2
    refine wpIn_round_still mixed (by kernel_rfl) (by kernel_rfl) ?_
    repeat still_step
    still_call (bitLow z _ hw (show Tab64 _ from HTW.out))
    rw [HV.out]
    repeat still_step
    refine wpStill_nil ?_
    rcases hv1 with ⟨hz0, hv0⟩ | ⟨hz0, hv0, hv64, hvc⟩
    · have HZ0 := Lib.hid hz0
      clear hz0
      gi_wp2
      refine ⟨(KeepsOthers.drew _).from _, ⟨rfl, rfl, rfl, Nat.le_refl _, fun k hk => absurd hk (Nat.not_lt_zero _)⟩, ?_, HCB.out, HTB.out, HBW.out.drew, HSZ2.out⟩
      intro q hq
      rcases List.mem_append.1 hq with hq | hq
      · exact HZ.out q hq
      · obtain rfl : q = x := by simpa using hq
        rw [HZZ.out, HZ0.out]
    · have HZ0 := Lib.hid hz0
      have HVC := Lib.hid hvc
      clear hz0 hvc
      gi_wp2
      refine ⟨(KeepsOthers.trans (KeepsOthers.drew _) (KeepsOthers.setCell _ _ _)).from _, ⟨rfl, pre, x, rfl, HZ.out, by rw [HZZ.out]; exact HZ0.out, ?_⟩, (HBW.out.drew.set _ (.inr (by omega)))⟩
      rw [HZZ.out, HK.out, ← HVC.out]
      exact Boxed.set _ (show Boxed W.drew _ _ _ from HCB.out)
  case done =>
    rintro D ys W hD rfl ⟨hz, hc, _, hB, hsz⟩ hK
    have c0 := hc.cell
    have c1 := hc.frozen
    have HB := Lib.hid hB
    have HC := Lib.hid hc
    have HZ := Lib.hid hz
    have HKK := Lib.hid hK
    have hDn : D ≠ w.heap.size + 1 := fun e => by have := HSZ.out; omega
    clear hB hz hc
    gi_wp2
    have hK' := (KeepsOthers.setCell W ⟨w.heap.size + 1, 0, none⟩ (.int .i64 (-1))).same D _ HKK.out rfl
    refine ⟨by simp, .inl ⟨_, _, rfl, run_takeDeferred hK', ?_⟩⟩
    have hb5 : Boxed ((W.setCell ⟨w.heap.size + 1, 0, none⟩ (.int .i64 (-1))).putObj D (.deferred none)) (w.heap.size + 1) 3 (.int .i64 (-1)) := (World.putObj_heap_other (fun e => hDn e.symm)).trans (Boxed.set (.int .i64 (-1)) HC.out)
    have hc5 := hb5.cell
    refine ⟨.int .i64 (-1), ?_, -1, rfl, .inl ⟨rfl, HZ.out⟩, below_of_none (chg_putObj (HB.out.set _ (.inr (by omega))) (by have := HB0.out.size; omega))⟩
    simp [results, Tryz.f98, go_sem, hc5]
  case stop =>
    rintro D c pre W hD hpre ⟨⟨rfl, q, x, rfl, h1, h2, h3⟩, hB⟩ hK
    have HB := Lib.hid hB
    have HC := Lib.hid h3
    have H1 := Lib.hid h1
    have H2 := Lib.hid h2
    have HKK := Lib.hid hK
    have HP := Lib.hid hpre
    have hDn : D ≠ w.heap.size + 1 := fun e => by have := HSZ.out; omega
    clear h1 h2 h3 hB hpre
    gi_wp2
    refine ⟨by simp, .inl ⟨_, _, rfl, run_takeDeferred HKK.out, ?_⟩⟩
    have hb5 : Boxed (W.putObj D (.deferred none)) (w.heap.size + 1) 3 (.int .i64 (64 * (x.1.1 : Int) + (Lib.ctz 64 (inPart ws x) : Nat))) := (World.putObj_heap_other (fun e => hDn e.symm)).trans HC.out
    have hc5 := hb5.cell
    obtain ⟨rest, hr⟩ := HP.out
    refine ⟨.int .i64 (64 * (x.1.1 : Int) + (Lib.ctz 64 (inPart ws x) : Nat)), ?_, _, rfl, .inr ⟨q, x, rest, by rw [← hr]; simp, H1.out, H2.out, rfl⟩, below_of_none (chg_putObj HB.out (by have := HB0.out.size; omega))⟩
    simp [results, Tryz.f98, go_sem, hc5]
end Go.Proofs.YtbjekoljipjldaaGreatDoor
namespace Go.Proofs.YtbjekoljipjldaaGreatDoor
set_option linter.unusedVariables false
set_option linter.unusedSimpArgs false
open Go.RowKit Go.Shelf

/-- how many from one on below another one -/
def cnt (p : Nat → Bool) (f : Nat) : Nat → Nat
  | 0 => 0
  | t + 1 => cnt p f t + if f ≤ t ∧ p t = true then 1 else 0
theorem cnt_none (p : Nat → Bool) (f : Nat) : ∀ t, t ≤ f → cnt p f t = 0
  | 0, _ => rfl
  | t + 1, h => by simp only [cnt]; rw [cnt_none p f t (by omega), if_neg (by omega)]
theorem cnt_split (p : Nat → Bool) (f m : Nat) (h : f ≤ m) : ∀ t, m ≤ t → cnt p f t = cnt p f m + cnt p m t
  | 0, ht => by obtain rfl : m = 0 := by omega
                simp [cnt]
  | t + 1, ht => by
    rcases Nat.lt_or_ge t m with h1 | h1
    · obtain rfl : m = t + 1 := by omega
      rw [cnt_none p (t + 1) (t + 1) (Nat.le_refl _)]; rfl
    · simp only [cnt]
      rw [cnt_split p f m h t h1]
      by_cases hp : p t = true
      · rw [if_pos ⟨by omega, hp⟩, if_pos ⟨h1, hp⟩]; omega
      · rw [if_neg (fun e => hp e.2), if_neg (fun e => hp e.2)]; omega
theorem cnt_congr {p q : Nat → Bool} {f : Nat} : ∀ t, (∀ i, f ≤ i → i < t → p i = q i) → cnt p f t = cnt q f t
  | 0, _ => rfl
  | t + 1, h => by
    simp only [cnt]
    rw [cnt_congr t (fun i h1 h2 => h i h1 (by omega))]
    by_cases hf : f ≤ t
    · rw [h t hf (by omega)]
    · rw [if_neg (fun e => hf e.1), if_neg (fun e => hf e.1)]
theorem cnt_le (p : Nat → Bool) (f : Nat) : ∀ t, cnt p f t ≤ t - f
  | 0 => by simp [cnt]
  | t + 1 => by
    have := cnt_le p f t
    simp only [cnt]
    split <;> omega
/-- a word's count, told by places -/
theorem popN_cnt (z b : Nat) : ∀ n, popN z n = cnt (fun i => z.testBit (i - b)) b (b + n)
  | 0 => by rw [Nat.add_zero, cnt_none _ _ _ (Nat.le_refl _)]; rfl
  | n + 1 => by
    rw [show b + (n + 1) = (b + n) + 1 from rfl]
    simp only [popN, cnt]
    rw [popN_cnt z b n]
    have hb : b + n - b = n := by omega
    by_cases h : z.testBit n = true
    · rw [if_pos h, if_pos ⟨by omega, by rw [hb]; exact h⟩]
    · rw [if_neg h, if_neg (fun e => h (by have := e.2; rwa [hb] at this))]
/-- the part's bits: those of the range -/
theorem part_bit (f t j : Nat) (h : f < t ∧ t ≤ 65536) (hj : j < 64) : (partOf f t h).1.2.testBit j = (decide (f ≤ 64 * (f / 64) + j) && decide (64 * (f / 64) + j < endOf f t)) := by
  show (mask (f - 64 * (f / 64)) (endOf f t - 64 * (f / 64))).testBit j = _
  rw [mask_bit _ _ _ (by omega) hj]
  have := endOf_gt h.1
  congr 1
  · rw [decide_eq_decide]; omega
  · rw [decide_eq_decide]; omega
theorem part_at (f t : Nat) (h : f < t ∧ t ≤ 65536) : (partOf f t h).1.1 = f / 64 := rfl
theorem endOf_block (f t : Nat) : endOf f t ≤ 64 * (f / 64) + 64 := by unfold endOf; omega
/-- counted in a part by a word's bits: counted from its beginning to its end -/
theorem pop_part (f t z : Nat) (p : Nat → Bool) (h : f < t ∧ t ≤ 65536) (hz : ∀ j, j < 64 → z.testBit j = (p (64 * (f / 64) + j) && (partOf f t h).1.2.testBit j)) : pop z = cnt p f (endOf f t) := by
  have h1 := endOf_gt h.1
  have h2 := endOf_block f t
  unfold pop
  rw [popN_cnt z (64 * (f / 64)) 64]
  rw [cnt_split _ (64 * (f / 64)) f (by omega) _ (by omega), cnt_split _ f (endOf f t) (by omega) _ h2]
  have e0 : cnt (fun i => z.testBit (i - 64 * (f / 64))) (64 * (f / 64)) f = 0 := by
    rw [cnt_congr (q := fun _ => false) f (fun i hi1 hi2 => by
      rw [hz _ (by omega), part_bit f t _ h (by omega), show 64 * (f / 64) + (i - 64 * (f / 64)) = i by omega]
      simp; omega)]
    exact cnt_false _ _
  have e2 : cnt (fun i => z.testBit (i - 64 * (f / 64))) (endOf f t) (64 * (f / 64) + 64) = 0 := by
    rw [cnt_congr (q := fun _ => false) _ (fun i hi1 hi2 => by
      rw [hz _ (by omega), part_bit f t _ h (by omega), show 64 * (f / 64) + (i - 64 * (f / 64)) = i by omega]
      simp; omega)]
    exact cnt_false _ _
  rw [e0, e2, Nat.zero_add, Nat.add_zero]
  refine cnt_congr _ (fun i hi1 hi2 => ?_)
  rw [hz _ (by omega), part_bit f t _ h (by omega), show 64 * (f / 64) + (i - 64 * (f / 64)) = i by omega]
  simp [hi1, hi2]
where
  cnt_false (f : Nat) : ∀ t, cnt (fun _ => false) f t = 0
    | 0 => rfl
    | t + 1 => by simp only [cnt]; rw [cnt_false f t]; simp
theorem wbit_word (ws : List Nat) (a j : Nat) (hj : j < 64) : wbit ws (64 * a + j) = (ws.getD a 0).testBit j := by
  unfold wbit
  rw [show (64 * a + j) / 64 = a by omega, show (64 * a + j) % 64 = j by omega]
/-- enough parts -/
def Enough (k f t : Nat) : Prop := t ≤ f ∨ (t - 1) / 64 - f / 64 < k
theorem Enough.next {k f t : Nat} (h : Enough (k + 1) f t) (hft : f < t) : Enough k (endOf f t) t := by
  unfold Enough at *
  unfold endOf
  rcases Nat.lt_or_ge t (64 * (f / 64 + 1)) with h1 | h1
  · left; omega
  · rw [Nat.min_eq_right h1]
    rcases h with h | h
    · omega
    · by_cases h2 : t ≤ 64 * (f / 64 + 1)
      · exact .inl h2
      · right; omega
theorem enough_all (f t : Nat) (ht : t ≤ 65536) : Enough 1100 f t := by
  unfold Enough
  by_cases h : t ≤ f
  · exact .inl h
  · right; omega
/-- what is counted in a range -/
theorem rank_cnt (ws : List Nat) : ∀ (k f t : Nat), t ≤ 65536 → Enough k f t → rankOf ws (partsF k f t) = cnt (wbit ws) f t
  | 0, f, t, ht, he => by
    have : t ≤ f := by rcases he with h | h; exact h; omega
    rw [partsF_stop _ this, cnt_none _ _ _ this]; rfl
  | k + 1, f, t, ht, he => by
    by_cases hft : f < t
    · rw [partsF_go k ⟨hft, ht⟩]
      have ih := rank_cnt ws k (endOf f t) t ht (he.next hft)
      rw [cnt_split _ f (endOf f t) (Nat.le_of_lt (endOf_gt hft)) t (endOf_le f t), ← ih]
      have hc : cntPart ws (partOf f t ⟨hft, ht⟩) = cnt (wbit ws) f (endOf f t) := pop_part f t _ (wbit ws) ⟨hft, ht⟩ (fun j hj => by
        rw [Nat.testBit_and, part_at, wbit_word ws _ _ hj])
      rw [← hc]
      show List.foldl _ (0 + cntPart ws _) _ = _
      rw [Nat.zero_add]
      exact foldl_add _ _
    · rw [partsF_stop _ (by omega), cnt_none _ _ _ (by omega)]; rfl
where
  foldl_add : ∀ (l : List Nat) (a : Nat), l.foldl (· + ·) a = a + l.foldl (· + ·) 0
    | [], a => by simp
    | x :: l, a => by
      simp only [List.foldl_cons]
      rw [foldl_add l (a + x), foldl_add l (0 + x)]
      omega
theorem ctz_bit (z : Nat) (h0 : z ≠ 0) (hz : z < 18446744073709551616) : z.testBit (Lib.ctz 64 z) = true ∧ ∀ j, j < Lib.ctz 64 z → z.testBit j = false := by
  obtain ⟨m, h1, h2⟩ := Lib.ctzFrom_spec 64 z (by omega) (by simpa using hz)
  have hc : Lib.ctz 64 z = Lib.ctzFrom 64 z := by unfold Lib.ctz; rw [if_neg h0]
  rw [hc]
  generalize Lib.ctzFrom 64 z = c at *
  subst h1
  constructor
  · rw [Nat.testBit_two_pow_mul]; simp
  · intro j hj
    rw [Nat.testBit_two_pow_mul]; simp; omega
/-- the next one, told by bits: none, or the least -/
def NextB (p : Nat → Bool) (f t : Nat) (v : Int) : Prop := (v = -1 ∧ ∀ i, f ≤ i → i < t → p i = false) ∨ (∃ i : Nat, v = i ∧ f ≤ i ∧ i < t ∧ p i = true ∧ ∀ j, f ≤ j → j < i → p j = false)
theorem inPart_bit (ws : List Nat) (f t j : Nat) (h : f < t ∧ t ≤ 65536) (hj : j < 64) : (inPart ws (partOf f t h)).testBit j = (wbit ws (64 * (f / 64) + j) && (decide (f ≤ 64 * (f / 64) + j) && decide (64 * (f / 64) + j < endOf f t))) := by
  unfold inPart
  rw [Nat.testBit_and, part_at, part_bit f t j h hj, wbit_word ws _ _ hj]
theorem inPart_zero (ws : List Nat) (f t : Nat) (h : f < t ∧ t ≤ 65536) (hz : inPart ws (partOf f t h) = 0) (i : Nat) (h1 : f ≤ i) (h2 : i < endOf f t) : wbit ws i = false := by
  have h3 := endOf_block f t
  have hb := inPart_bit ws f t (i - 64 * (f / 64)) h (by omega)
  rw [hz, show 64 * (f / 64) + (i - 64 * (f / 64)) = i by omega, Nat.zero_testBit] at hb
  have e1 : decide (f ≤ i) = true := by simp [h1]
  have e2 : decide (i < endOf f t) = true := by simp [h2]
  rw [e1, e2] at hb
  simpa using hb.symm
theorem next_bits (ws : List Nat) (hw : Ws ws) (v : Int) : ∀ (k f t : Nat), t ≤ 65536 → Enough k f t → NextR ws (partsF k f t) v → NextB (wbit ws) f t v
  | 0, f, t, ht, he, hn => by
    have htf : t ≤ f := by rcases he with h | h; exact h; omega
    rcases hn with ⟨rfl, _⟩ | ⟨pre, x, rest, h1, _⟩
    · exact .inl ⟨rfl, fun i h1 h2 => by omega⟩
    · simp [partsF] at h1
  | k + 1, f, t, ht, he, hn => by
    by_cases hft : f < t
    · rw [partsF_go k ⟨hft, ht⟩] at hn
      have hgt := endOf_gt hft
      have hle := endOf_le f t
      by_cases hz : inPart ws (partOf f t ⟨hft, ht⟩) = 0
      · have hlow := inPart_zero ws f t ⟨hft, ht⟩ hz
        have ih := next_bits ws hw v k (endOf f t) t ht (he.next hft) (by
          rcases hn with ⟨rfl, h⟩ | ⟨pre, x, rest, h1, h2, h3, h4⟩
          · exact .inl ⟨rfl, fun x hx => h x (List.mem_cons_of_mem _ hx)⟩
          · cases pre with
            | nil =>
              simp only [List.nil_append, List.cons.injEq] at h1
              rw [h1.1] at hz
              exact absurd hz h3
            | cons y pre =>
              simp only [List.cons_append, List.cons.injEq] at h1
              exact .inr ⟨pre, x, rest, h1.2, fun q hq => h2 q (List.mem_cons_of_mem _ hq), h3, h4⟩)
        rcases ih with ⟨rfl, h⟩ | ⟨i, rfl, h1, h2, h3, h4⟩
        · exact .inl ⟨rfl, fun i h1 h2 => by
            rcases Nat.lt_or_ge i (endOf f t) with h5 | h5
            · exact hlow i h1 h5
            · exact h i h5 h2⟩
        · exact .inr ⟨i, rfl, by omega, h2, h3, fun j h5 h6 => by
            rcases Nat.lt_or_ge j (endOf f t) with h7 | h7
            · exact hlow j h5 h7
            · exact h4 j h7 h6⟩
      · rcases hn with ⟨rfl, h⟩ | ⟨pre, x, rest, h1, h2, h3, h4⟩
        · exact absurd (h _ List.mem_cons_self) hz
        · cases pre with
          | cons y pre =>
            simp only [List.cons_append, List.cons.injEq] at h1
            have := h2 y List.mem_cons_self
            rw [← h1.1] at this
            exact absurd this hz
          | nil =>
            simp only [List.nil_append, List.cons.injEq] at h1
            obtain ⟨rfl, _⟩ := h1
            have hlt : inPart ws (partOf f t ⟨hft, ht⟩) < 18446744073709551616 := Nat.lt_of_le_of_lt Nat.and_le_left (hw.at_ (partOf f t ⟨hft, ht⟩).2.1)
            obtain ⟨b1, b2⟩ := ctz_bit _ hz hlt
            have b3 := ctz_lt64 _ hz hlt
            rw [part_at] at h4
            obtain ⟨c, hc⟩ : ∃ c, Lib.ctz 64 (inPart ws (partOf f t ⟨hft, ht⟩)) = c := ⟨_, rfl⟩
            rw [hc] at b1 b2 b3 h4
            rw [inPart_bit ws f t c ⟨hft, ht⟩ b3] at b1
            simp only [Bool.and_eq_true, decide_eq_true_eq] at b1
            refine .inr ⟨64 * (f / 64) + c, by rw [h4]; push_cast; rfl, b1.2.1, by omega, b1.1, fun j h5 h6 => ?_⟩
            have b4 := b2 (j - 64 * (f / 64)) (by omega)
            rw [inPart_bit ws f t _ ⟨hft, ht⟩ (by omega), show 64 * (f / 64) + (j - 64 * (f / 64)) = j by omega] at b4
            have e1 : decide (f ≤ j) = true := by simp [h5]
            have e2 : decide (j < endOf f t) = true := by simp; omega
            rw [e1, e2] at b4
            simpa using b4
    · rw [partsF_stop _ (by omega)] at hn
      rcases hn with ⟨rfl, _⟩ | ⟨pre, x, rest, h1, _⟩
      · exact .inl ⟨rfl, fun i h1 h2 => by omega⟩
      · simp at h1
end Go.Proofs.YtbjekoljipjldaaGreatDoor
namespace Go.Proofs.YtbjekoljipjldaaGreatDoor
set_option linter.unusedVariables false
set_option linter.unusedSimpArgs false
open Go.RowKit Go.Shelf

theorem wbit_set (ws : List Nat) (a x i : Nat) (ha : a < ws.length) : wbit (ws.set a x) i = if i / 64 = a then x.testBit (i % 64) else wbit ws i := by
  unfold wbit
  simp only [List.getD_eq_getElem?_getD, List.getElem?_set]
  by_cases h : i / 64 = a
  · rw [if_pos h, if_pos h.symm, if_pos (by omega)]
    rfl
  · rw [if_neg h, if_neg (fun e => h e.symm)]
/-- the bits of a range -/
def inR (f t i : Nat) : Bool := decide (f ≤ i) && decide (i < t)
theorem inR_split (f m t i : Nat) (h1 : f ≤ m) (h2 : m ≤ t) : inR f t i = (inR f m i || inR m t i) := by
  unfold inR
  by_cases a1 : f ≤ i <;> by_cases a2 : i < m <;> by_cases a3 : m ≤ i <;> by_cases a4 : i < t <;> simp [a1, a2, a3, a4] <;> omega
theorem inR_none (f t i : Nat) (h : t ≤ f) : inR f t i = false := by
  unfold inR
  by_cases a1 : f ≤ i <;> by_cases a2 : i < t <;> simp [a1, a2]
  omega
theorem part_inR (f t i : Nat) (h : f < t ∧ t ≤ 65536) : inR f (endOf f t) i = (decide (i / 64 = f / 64) && (partOf f t h).1.2.testBit (i % 64)) := by
  rw [part_bit f t _ h (by omega)]
  have h1 := endOf_block f t
  unfold inR
  by_cases hb : i / 64 = f / 64
  · rw [decide_eq_true hb, Bool.true_and, show 64 * (f / 64) + i % 64 = i by omega]
  · rw [decide_eq_false hb, Bool.false_and]
    by_cases a1 : f ≤ i <;> by_cases a2 : i < endOf f t <;> simp [a1, a2]
    omega
theorem Ws.len {ws : List Nat} (h : Ws ws) : ws.length = 1024 := h.1
theorem fill_bits : ∀ (k f t n : Nat) (ws : List Nat), Ws ws → t ≤ 65536 → Enough k f t → ((partsF k f t).foldl fillStep (n, ws)).1 = n + cnt (fun i => !wbit ws i) f t ∧ Ws ((partsF k f t).foldl fillStep (n, ws)).2 ∧ ∀ i, wbit ((partsF k f t).foldl fillStep (n, ws)).2 i = (wbit ws i || inR f t i)
  | 0, f, t, n, ws, hw, ht, he => by
    have htf : t ≤ f := by rcases he with h | h; exact h; omega
    refine ⟨by rw [cnt_none _ _ _ htf]; rfl, hw, fun i => by rw [inR_none _ _ _ htf, Bool.or_false]; rfl⟩
  | k + 1, f, t, n, ws, hw, ht, he => by
    by_cases hft : f < t
    · rw [partsF_go k ⟨hft, ht⟩, List.foldl_cons]
      have hgt := endOf_gt hft
      have hle := endOf_le f t
      obtain ⟨x, hx⟩ : ∃ x, partOf f t ⟨hft, ht⟩ = x := ⟨_, rfl⟩
      have hx1 : x.1.1 = f / 64 := by rw [← hx]; rfl
      have hstep : fillStep (n, ws) x = (n + pop (andn x.1.2 (ws.getD x.1.1 0)), ws.set x.1.1 (ws.getD x.1.1 0 ||| x.1.2)) := rfl
      rw [hx, hstep]
      have hw1 : Ws (ws.set x.1.1 (ws.getD x.1.1 0 ||| x.1.2)) := hw.set _ _ (or_lt64 _ _ (hw.at_ x.2.1) x.2.2)
      have hb1 : ∀ i, wbit (ws.set x.1.1 (ws.getD x.1.1 0 ||| x.1.2)) i = (wbit ws i || inR f (endOf f t) i) := fun i => by
        rw [wbit_set _ _ _ _ (by rw [hw.1]; exact x.2.1), part_inR f t i ⟨hft, ht⟩, hx, hx1]
        by_cases hb : i / 64 = f / 64
        · rw [if_pos hb, Nat.testBit_or, decide_eq_true hb, Bool.true_and, ← hb]; rfl
        · rw [if_neg hb, decide_eq_false hb, Bool.false_and, Bool.or_false]
      have hc : pop (andn x.1.2 (ws.getD x.1.1 0)) = cnt (fun i => !wbit ws i) f (endOf f t) := pop_part f t _ _ ⟨hft, ht⟩ (fun j hj => by
        rw [andn_bit _ _ _ (hw.at_ x.2.1) hj, hx, hx1, wbit_word ws _ _ hj, Bool.and_comm])
      obtain ⟨i1, i2, i3⟩ := fill_bits k (endOf f t) t (n + pop (andn x.1.2 (ws.getD x.1.1 0))) _ hw1 ht (he.next hft)
      refine ⟨?_, i2, fun i => ?_⟩
      · rw [i1, hc, cnt_split _ f (endOf f t) (Nat.le_of_lt hgt) t hle, Nat.add_assoc]
        congr 2
        refine cnt_congr _ (fun i h1 h2 => ?_)
        rw [hb1 i]
        have : inR f (endOf f t) i = false := by unfold inR; simp; omega
        rw [this, Bool.or_false]
      · rw [i3, hb1, Bool.or_assoc, ← inR_split _ _ _ _ (Nat.le_of_lt hgt) hle]
    · rw [partsF_stop _ (by omega)]
      refine ⟨by rw [cnt_none _ _ _ (by omega)]; rfl, hw, fun i => by rw [inR_none _ _ _ (by omega), Bool.or_false]; rfl⟩
theorem wipe_bits : ∀ (k f t n : Nat) (ws : List Nat), Ws ws → t ≤ 65536 → Enough k f t → ((partsF k f t).foldl wipeStep (n, ws)).1 = n + cnt (wbit ws) f t ∧ Ws ((partsF k f t).foldl wipeStep (n, ws)).2 ∧ ∀ i, wbit ((partsF k f t).foldl wipeStep (n, ws)).2 i = (wbit ws i && !inR f t i)
  | 0, f, t, n, ws, hw, ht, he => by
    have htf : t ≤ f := by rcases he with h | h; exact h; omega
    refine ⟨by rw [cnt_none _ _ _ htf]; rfl, hw, fun i => by rw [inR_none _ _ _ htf, Bool.not_false, Bool.and_true]; rfl⟩
  | k + 1, f, t, n, ws, hw, ht, he => by
    by_cases hft : f < t
    · rw [partsF_go k ⟨hft, ht⟩, List.foldl_cons]
      have hgt := endOf_gt hft
      have hle := endOf_le f t
      obtain ⟨x, hx⟩ : ∃ x, partOf f t ⟨hft, ht⟩ = x := ⟨_, rfl⟩
      have hx1 : x.1.1 = f / 64 := by rw [← hx]; rfl
      have hstep : wipeStep (n, ws) x = (n + pop (x.1.2 &&& ws.getD x.1.1 0), ws.set x.1.1 (andn (ws.getD x.1.1 0) x.1.2)) := rfl
      rw [hx, hstep]
      have hw1 : Ws (ws.set x.1.1 (andn (ws.getD x.1.1 0) x.1.2)) := hw.set _ _ (andn_lt _ _ (hw.at_ x.2.1))
      have hb1 : ∀ i, wbit (ws.set x.1.1 (andn (ws.getD x.1.1 0) x.1.2)) i = (wbit ws i && !inR f (endOf f t) i) := fun i => by
        rw [wbit_set _ _ _ _ (by rw [hw.1]; exact x.2.1), part_inR f t i ⟨hft, ht⟩, hx, hx1]
        by_cases hb : i / 64 = f / 64
        · rw [if_pos hb, andn_bit _ _ _ x.2.2 (by omega), decide_eq_true hb, Bool.true_and, ← hb]; rfl
        · rw [if_neg hb, decide_eq_false hb, Bool.false_and, Bool.not_false, Bool.and_true]
      have hc : pop (x.1.2 &&& ws.getD x.1.1 0) = cnt (wbit ws) f (endOf f t) := pop_part f t _ _ ⟨hft, ht⟩ (fun j hj => by
        rw [Nat.testBit_and, hx, hx1, wbit_word ws _ _ hj, Bool.and_comm])
      obtain ⟨i1, i2, i3⟩ := wipe_bits k (endOf f t) t (n + pop (x.1.2 &&& ws.getD x.1.1 0)) _ hw1 ht (he.next hft)
      refine ⟨?_, i2, fun i => ?_⟩
      · rw [i1, hc, cnt_split _ f (endOf f t) (Nat.le_of_lt hgt) t hle, Nat.add_assoc]
        congr 2
        refine cnt_congr _ (fun i h1 h2 => ?_)
        rw [hb1 i]
        have : inR f (endOf f t) i = false := by unfold inR; simp; omega
        rw [this, Bool.not_false, Bool.and_true]
      · rw [i3, hb1, inR_split f (endOf f t) t i (Nat.le_of_lt hgt) hle, Bool.not_or, Bool.and_assoc]
    · rw [partsF_stop _ (by omega)]
      refine ⟨by rw [cnt_none _ _ _ (by omega)]; rfl, hw, fun i => by rw [inR_none _ _ _ (by omega), Bool.not_false, Bool.and_true]; rfl⟩
end Go.Proofs.YtbjekoljipjldaaGreatDoor
namespace Go.Proofs.YtbjekoljipjldaaGreatDoor
set_option linter.unusedVariables false
set_option linter.unusedSimpArgs false
open Go.RowKit Go.Shelf
attribute [local go_sem ↓] Go.wp_at_zero Go.wp_at_succ

theorem cnt_inR (r : Nat → Bool) (f t : Nat) : ∀ n, cnt (fun i => r i && inR f t i) 0 n = cnt r f (min t n)
  | 0 => by rw [Nat.min_zero]; rfl
  | n + 1 => by
    simp only [cnt]
    rw [cnt_inR r f t n]
    by_cases hn : n < t
    · rw [show min t (n + 1) = n + 1 by omega, show min t n = n by omega]
      simp only [cnt]
      by_cases hf : f ≤ n
      · have : inR f t n = true := by unfold inR; simp [hf, hn]
        by_cases hr : r n = true
        · rw [if_pos ⟨by omega, by rw [hr, this]; rfl⟩, if_pos ⟨hf, hr⟩]
        · rw [if_neg (fun e => hr (by have := e.2; simp only [Bool.and_eq_true] at this; exact this.1)), if_neg (fun e => hr e.2)]
      · have : inR f t n = false := by unfold inR; simp; omega
        rw [if_neg (fun e => by have := e.2; simp_all), if_neg (fun e => hf e.1)]
    · rw [show min t (n + 1) = t by omega, show min t n = t by omega]
      have : inR f t n = false := by unfold inR; simp; omega
      rw [if_neg (fun e => by have := e.2; simp_all)]
      rfl
theorem cnt_or (p : Nat → Bool) (r : Nat → Bool) (g : Nat) : ∀ n, cnt (fun i => p i || r i) g n = cnt p g n + cnt (fun i => !p i && r i) g n
  | 0 => rfl
  | n + 1 => by
    simp only [cnt]
    rw [cnt_or p r g n]
    by_cases hg : g ≤ n
    · by_cases hp : p n = true <;> by_cases hr : r n = true <;> simp [hg, hp, hr] <;> omega
    · simp [hg]
theorem cnt_sub (p : Nat → Bool) (r : Nat → Bool) (g : Nat) : ∀ n, cnt (fun i => p i && !r i) g n + cnt (fun i => p i && r i) g n = cnt p g n
  | 0 => rfl
  | n + 1 => by
    simp only [cnt]
    have := cnt_sub p r g n
    by_cases hg : g ≤ n
    · by_cases hp : p n = true <;> by_cases hr : r n = true <;> simp [hg, hp, hr] <;> omega
    · simp [hg]; omega
/-- how many a strip has -/
def size (ws : List Nat) : Nat := cnt (wbit ws) 0 65536
theorem size_le (ws : List Nat) : size ws ≤ 65536 := cnt_le _ _ _
theorem size_fill (ws : List Nat) (hw : Ws ws) (f t : Nat) (ht : t ≤ 65536) : size (fillS ws (partsF 1100 f t)).2 = size ws + (fillS ws (partsF 1100 f t)).1 := by
  obtain ⟨h1, h2, h3⟩ := fill_bits 1100 f t 0 ws hw ht (enough_all f t ht)
  unfold size fillS
  rw [h1, cnt_congr (q := fun i => wbit ws i || inR f t i) _ (fun i _ _ => h3 i), cnt_or, cnt_inR (fun i => !wbit ws i) f t 65536, Nat.min_eq_left ht, Nat.zero_add]
theorem size_wipe (ws : List Nat) (hw : Ws ws) (f t : Nat) (ht : t ≤ 65536) : size (wipeS ws (partsF 1100 f t)).2 + (wipeS ws (partsF 1100 f t)).1 = size ws := by
  obtain ⟨h1, h2, h3⟩ := wipe_bits 1100 f t 0 ws hw ht (enough_all f t ht)
  unfold size wipeS
  rw [h1, cnt_congr (q := fun i => wbit ws i && !inR f t i) _ (fun i _ _ => h3 i)]
  have := cnt_sub (wbit ws) (inR f t) 0 65536
  rw [cnt_inR (wbit ws) f t 65536, Nat.min_eq_left ht] at this
  rw [Nat.zero_add]
  exact this
theorem setW_bit (ws : List Nat) (hw : Ws ws) (v i : Nat) (hv : v < 65536) : wbit (setW ws v) i = (wbit ws i || decide (i = v)) := by
  unfold setW
  rw [wbit_set _ _ _ _ (by rw [hw.1]; omega)]
  by_cases h : i / 64 = v / 64
  · rw [if_pos h, Nat.testBit_or, Nat.testBit_two_pow, ← h]
    have : decide (v % 64 = i % 64) = decide (i = v) := by rw [decide_eq_decide]; omega
    rw [this]; rfl
  · rw [if_neg h]
    have : decide (i = v) = false := by rw [decide_eq_false_iff_not]; intro e; subst e; exact h rfl
    rw [this, Bool.or_false]
theorem size_set (ws : List Nat) (hw : Ws ws) (v : Nat) (hv : v < 65536) : size (setW ws v) = size ws + if wbit ws v = true then 0 else 1 := by
  unfold size
  rw [cnt_congr (q := fun i => wbit ws i || inR v (v + 1) i) _ (fun i _ _ => by
    rw [setW_bit ws hw v i hv]
    have : decide (i = v) = inR v (v + 1) i := by
      unfold inR
      by_cases h : i = v
      · subst h; simp
      · rw [decide_eq_false h]; symm; simp; omega
    rw [this]), cnt_or, cnt_inR (fun i => !wbit ws i) v (v + 1) 65536, Nat.min_eq_left (by omega)]
  congr 1
  simp only [cnt]
  rw [cnt_none _ _ _ (Nat.le_refl _)]
  by_cases h : wbit ws v = true
  · rw [if_neg (fun e => by have := e.2; simp_all), if_pos h]
  · rw [if_pos ⟨Nat.le_refl _, by simpa using h⟩, if_neg h]
/-- a bitmap: its strip, how many -/
def Bm (w : World) (b s d : Nat) (ws : List Nat) : Prop := w.heap[b]? = some (.cells #[.pointer (some ⟨s, 0, none⟩), .int .i64 (size ws : Nat)] 104 (0, 0)) ∧ St w s d ws
theorem Bm.below {w w' : World} {b s d : Nat} {ws : List Nat} (h : Bm w b s d ws) (hb : Below w.heap.size w w') : Bm w' b s d ws := ⟨by rw [hb.block b (blk_lt h.1)]; exact h.1, h.2.below hb⟩
theorem Bm.chg {S : Nat → Prop} {w w' : World} {b s d : Nat} {ws : List Nat} (h : Bm w b s d ws) (hc : Chg S w w') (h0 : ¬ S b) (h1 : ¬ S s) (h2 : ¬ S d) : Bm w' b s d ws := ⟨hc.blk h.1 h0, h.2.chg hc h1 h2⟩
theorem Bm.ne {w : World} {b s d : Nat} {ws : List Nat} (h : Bm w b s d ws) : b ≠ s ∧ b ≠ d := ⟨fun e => by
  have h1 := h.1; have h2 := h.2.1; rw [e, h2] at h1; injection h1 with h1; injection h1 with h1 h2; exact absurd h2 (by decide), fun e => by
  have h1 := h.1; have h2 := h.2.2.1; rw [e, h2] at h1; injection h1 with h1; injection h1 with h1 h2; exact absurd h2 (by decide)⟩
theorem size_zero : size (List.replicate 1024 0) = 0 := by
  unfold size
  rw [cnt_congr (q := fun i => false && false) _ (fun i _ _ => by
    unfold wbit
    simp only [List.getD_eq_getElem?_getD, List.getElem?_replicate]
    split <;> simp)]
  have := cnt_inR (fun _ => false) 0 0 65536
  simp only [Bool.false_and] at this ⊢
  rw [this]
  rfl
set_option maxRecDepth 100000 in
set_option maxHeartbeats 1000000 in
theorem bmNew (w : World) : Calls Tryz.prog 69 #[] w fun e w' => ∃ b s d, e = .returned (.pointer (some ⟨b, 0, none⟩)) ∧ w.heap.size ≤ b ∧ w.heap.size ≤ s ∧ w.heap.size ≤ d ∧ Bm w' b s d (List.replicate 1024 0) ∧ Below w.heap.size w w' := by
  go_enter Tryz.func69, Tryz.ntmps69
  go_wp2_with fail
  refine (stNew _).mono ?_
  rintro e w1 ⟨s, d, rfl, hs, hd, hS, hb⟩
  have HS := Lib.hid hS
  have HB := Lib.hid hb
  clear hS hb
  go_wp2
  go_ret
  refine ⟨_, s, d, rfl, HB.out.size, hs, hd, ⟨?_, ⟨blk_old HS.out.1 _, blk_old HS.out.2.1 _, HS.out.2.2⟩⟩, HB.out.alloc HB.out.size _⟩
  rw [size_zero]
  exact blk_new _ _ _
set_option maxRecDepth 100000 in
set_option maxHeartbeats 1000000 in
theorem bmof (A : Option Addr) (c : Nat) (ws : List Nat) (w : World) (hW : Ws ws) (hr : Rd .u64 w A (wi ws)) : Calls Tryz.prog 85 #[.slice A 1024 c] w fun e w' => ∃ b s d, e = .returned (.pointer (some ⟨b, 0, none⟩)) ∧ w.heap.size ≤ b ∧ w.heap.size ≤ s ∧ w.heap.size ≤ d ∧ Bm w' b s d ws ∧ Below w.heap.size w w' := by
  have HW := Lib.hid hW
  have HR := Lib.hid hr
  clear hW hr
  go_enter Tryz.func85, Tryz.ntmps85
  go_wp2_with fail
  refine (stOf A c ws _ HW.out HR.out).mono ?_
  rintro e w1 ⟨s, d, rfl, hs, hd, hS, hb⟩
  have HS := Lib.hid hS
  have HB := Lib.hid hb
  clear hS hb
  go_wp2_with fail
  refine (stCount s d ws _ HS.out).mono ?_
  rintro e w2 ⟨rfl, hb2⟩
  have HS2 := Lib.hid (HS.out.below hb2)
  have HB2 := Lib.hid (below_then HB.out hb2)
  have HR2 := Lib.hid (rank_cnt ws 1100 0 65536 (by decide) (enough_all 0 65536 (by decide)))
  clear hb2
  go_wp2
  go_ret
  refine ⟨_, s, d, rfl, HB2.out.size, hs, hd, ⟨?_, ⟨blk_old HS2.out.1 _, blk_old HS2.out.2.1 _, HS2.out.2.2⟩⟩, HB2.out.alloc HB2.out.size _⟩
  unfold size
  rw [← HR2.out]
  exact blk_new _ _ _
set_option maxRecDepth 100000 in
theorem bmLen (b s d : Nat) (ws : List Nat) (w : World) (hB : Bm w b s d ws) : Calls Tryz.prog 74 #[.pointer (some ⟨b, 0, none⟩)] w fun e w' => e = .returned (.int .i64 (size ws : Nat)) ∧ w' = w := by
  have q1 := blk_cell hB.1 1 (v := .int .i64 (size ws : Nat)) rfl
  clear hB
  go_enter Tryz.func74, Tryz.ntmps74
  go_wp2
  go_ret
  exact ⟨rfl, rfl⟩
set_option maxRecDepth 100000 in
theorem bmHas (b s d : Nat) (ws : List Nat) (v : Nat) (w : World) (hB : Bm w b s d ws) (hv : v < 65536) : Calls Tryz.prog 170 #[.pointer (some ⟨b, 0, none⟩), .int .u16 v] w fun e w' => e = .returned (.bool (wbit ws v)) ∧ w' = w := by
  have q0 := blk_cell hB.1 0 (v := .pointer (some ⟨s, 0, none⟩)) rfl
  have HB := Lib.hid hB
  clear hB
  go_enter Tryz.func170, Tryz.ntmps170
  go_wp2_with fail
  refine (stGet s d ws v _ HB.out.2 hv).mono ?_
  rintro e w1 ⟨rfl, rfl⟩
  go_wp2
  go_ret
  exact ⟨rfl, rfl⟩
end Go.Proofs.YtbjekoljipjldaaGreatDoor
namespace Go.Proofs.YtbjekoljipjldaaGreatDoor
set_option linter.unusedVariables false
set_option linter.unusedSimpArgs false
open Go.RowKit Go.Shelf
attribute [local go_sem ↓] Go.wp_at_zero Go.wp_at_succ
set_option maxRecDepth 100000 in
set_option maxHeartbeats 1000000 in
theorem bmFill (b s d : Nat) (ws : List Nat) (f t : Nat) (w : World) (hB : Bm w b s d ws) (hf : f < 65536) (ht : t < 65536) : Calls Tryz.prog 72 #[.pointer (some ⟨b, 0, none⟩), .int .u16 f, .int .u16 t] w fun e w' => e = .returned (.int .i64 ((fillS ws (partsF 1100 f (t + 1))).1 : Nat)) ∧ Bm w' b s d (fillS ws (partsF 1100 f (t + 1))).2 ∧ Chg (fun k => k = b ∨ k = d) w w' := by
  have q0 := blk_cell hB.1 0 (v := .pointer (some ⟨s, 0, none⟩)) rfl
  have HB := Lib.hid hB
  have hbs := hB.ne
  have HSZ := Lib.hid (size_fill ws hB.2.2.2 f (t + 1) (by omega))
  have hk := fillS_le ws (partsF 1100 f (t + 1))
  have HLEN := Lib.hid (size_le (fillS ws (partsF 1100 f (t + 1))).2)
  have HLEN2 := Lib.hid (size_le ws)
  clear hB hk
  have ht1 : (t : Int) + 1 ≤ 65536 := by omega
  go_enter Tryz.func72, Tryz.ntmps72
  go_wp2_with fail
  refine (stFill s d f (t + 1) ws (by omega) (by omega) _ HB.out.2).mono ?_
  rintro e w1 ⟨rfl, hS, hC⟩
  have HS := Lib.hid hS
  have HC := Lib.hid hC
  obtain ⟨k, hk⟩ : ∃ k, (fillS ws (partsF 1100 f (t + 1))).1 = k := ⟨_, rfl⟩
  obtain ⟨n, hn⟩ : ∃ n, size ws = n := ⟨_, rfl⟩
  have hb1 := HC.out.blk HB.out.1 hbs.2
  rw [hn] at hb1
  have HB1 := Lib.hid hb1
  have q0' := blk_cell hb1 0 (v := .pointer (some ⟨s, 0, none⟩)) rfl
  have q1' := blk_cell hb1 1 (v := .int .i64 (n : Nat)) rfl
  have f1' := blk_free hb1 1
  rw [hk]
  have HK := Lib.hid hk
  have HN := Lib.hid hn
  have hn1 : (n : Int) ≤ 65536 := by have := HLEN2.out; omega
  have hk1 : (k : Int) ≤ 65536 := by have := HSZ.out; have := HLEN.out; have := HLEN2.out; rw [hk, hn] at *; omega
  have hd1 : 0 ≤ (n : Int) + (k : Int) := by have := HSZ.out; have := HLEN.out; have := HLEN2.out; rw [hk, hn] at *; omega
  have hd2 : (n : Int) + (k : Int) ≤ 65536 := by have := HSZ.out; have := HLEN.out; have := HLEN2.out; rw [hk, hn] at *; omega
  clear hS hC hb1 hk hn q0
  go_wp2
  go_ret
  refine ⟨by rw [HK.out]; rfl, ⟨?_, ⟨blk_other HS.out.1 _ (fun e => hbs.1 e.symm), blk_other HS.out.2.1 _ (fun e => hbs.2 e.symm), HS.out.2.2⟩⟩, (HC.out.mono (fun _ _ h => .inr h)).set _ (.inl (.inl rfl))⟩
  have := blk_set HB1.out 1 (.int .i64 ((n : Int) + (k : Int)))
  rw [show ((size (fillS ws (partsF 1100 f (t + 1))).2 : Nat) : Int) = (n : Int) + (k : Int) by have := HSZ.out; rw [HK.out, HN.out] at this; omega]
  exact this
set_option maxRecDepth 100000 in
set_option maxHeartbeats 1000000 in
theorem bmWipe (b s d : Nat) (ws : List Nat) (f t : Nat) (w : World) (hB : Bm w b s d ws) (hf : f < 65536) (ht : t < 65536) : Calls Tryz.prog 73 #[.pointer (some ⟨b, 0, none⟩), .int .u16 f, .int .u16 t] w fun e w' => e = .returned (.int .i64 ((wipeS ws (partsF 1100 f (t + 1))).1 : Nat)) ∧ Bm w' b s d (wipeS ws (partsF 1100 f (t + 1))).2 ∧ Chg (fun k => k = b ∨ k = d) w w' := by
  have q0 := blk_cell hB.1 0 (v := .pointer (some ⟨s, 0, none⟩)) rfl
  have HB := Lib.hid hB
  have hbs := hB.ne
  have HSZ := Lib.hid (size_wipe ws hB.2.2.2 f (t + 1) (by omega))
  have hk := wipeS_le ws (partsF 1100 f (t + 1))
  have HLEN := Lib.hid (size_le (wipeS ws (partsF 1100 f (t + 1))).2)
  have HLEN2 := Lib.hid (size_le ws)
  clear hB hk
  have ht1 : (t : Int) + 1 ≤ 65536 := by omega
  go_enter Tryz.func73, Tryz.ntmps73
  go_wp2_with fail
  refine (stWipe s d f (t + 1) ws (by omega) (by omega) _ HB.out.2).mono ?_
  rintro e w1 ⟨rfl, hS, hC⟩
  have HS := Lib.hid hS
  have HC := Lib.hid hC
  obtain ⟨k, hk⟩ : ∃ k, (wipeS ws (partsF 1100 f (t + 1))).1 = k := ⟨_, rfl⟩
  obtain ⟨n, hn⟩ : ∃ n, size ws = n := ⟨_, rfl⟩
  have hb1 := HC.out.blk HB.out.1 hbs.2
  rw [hn] at hb1
  have HB1 := Lib.hid hb1
  have q0' := blk_cell hb1 0 (v := .pointer (some ⟨s, 0, none⟩)) rfl
  have q1' := blk_cell hb1 1 (v := .int .i64 (n : Nat)) rfl
  have f1' := blk_free hb1 1
  rw [hk]
  have HK := Lib.hid hk
  have HN := Lib.hid hn
  have hn1 : (n : Int) ≤ 65536 := by have := HLEN2.out; omega
  have hk1 : (k : Int) ≤ 65536 := by have := HSZ.out; have := HLEN.out; have := HLEN2.out; rw [hk, hn] at *; omega
  have hd1 : 0 ≤ (n : Int) - (k : Int) := by have := HSZ.out; have := HLEN.out; have := HLEN2.out; rw [hk, hn] at *; omega
  have hd2 : (n : Int) - (k : Int) ≤ 65536 := by have := HSZ.out; have := HLEN.out; have := HLEN2.out; rw [hk, hn] at *; omega
  clear hS hC hb1 hk hn q0
  go_wp2
  go_ret
  refine ⟨by rw [HK.out]; rfl, ⟨?_, ⟨blk_other HS.out.1 _ (fun e => hbs.1 e.symm), blk_other HS.out.2.1 _ (fun e => hbs.2 e.symm), HS.out.2.2⟩⟩, (HC.out.mono (fun _ _ h => .inr h)).set _ (.inl (.inl rfl))⟩
  have := blk_set HB1.out 1 (.int .i64 ((n : Int) - (k : Int)))
  rw [show ((size (wipeS ws (partsF 1100 f (t + 1))).2 : Nat) : Int) = (n : Int) - (k : Int) by have := HSZ.out; rw [HK.out, HN.out] at this; omega]
  exact this
set_option maxRecDepth 100000 in
set_option maxHeartbeats 1000000 in
theorem bmAdd (b s d : Nat) (ws : List Nat) (v : Nat) (w : World) (hB : Bm w b s d ws) (hv : v < 65536) : Calls Tryz.prog 56 #[.pointer (some ⟨b, 0, none⟩), .int .u16 v] w fun e w' => e = .returned (.bool (!wbit ws v)) ∧ Bm w' b s d (setW ws v) ∧ Chg (fun k => k = b ∨ k = d) w w' := by
  have q0 := blk_cell hB.1 0 (v := .pointer (some ⟨s, 0, none⟩)) rfl
  have HB := Lib.hid hB
  have hbs := hB.ne
  have HSZ := Lib.hid (size_set ws hB.2.2.2 v hv)
  have HLEN := Lib.hid (size_le (setW ws v))
  have HLEN2 := Lib.hid (size_le ws)
  clear hB
  go_enter Tryz.func56, Tryz.ntmps56
  go_wp2_with fail
  refine (stSet s d ws v _ HB.out.2 hv).mono ?_
  rintro e w1 ⟨rfl, hS, hC⟩
  have HS := Lib.hid hS
  have HC : Hid (Chg (· = d) w w1) := Chg.of_grown hC (fun b e => by injection e with e; exact e.symm)
  obtain ⟨n, hn⟩ : ∃ n, size ws = n := ⟨_, rfl⟩
  have hb1 := HC.out.blk HB.out.1 hbs.2
  rw [hn] at hb1
  have HB1 := Lib.hid hb1
  have q0' := blk_cell hb1 0 (v := .pointer (some ⟨s, 0, none⟩)) rfl
  have q1' := blk_cell hb1 1 (v := .int .i64 (n : Nat)) rfl
  have f1' := blk_free hb1 1
  have HN := Lib.hid hn
  have hn1 : (n : Int) ≤ 65536 := by have := HLEN2.out; omega
  clear hS hC hb1 hn q0
  by_cases hw : wbit ws v = true
  · rw [hw]
    have HW := Lib.hid hw
    clear hw
    go_wp2
    go_ret
    refine ⟨by rw [HW.out]; rfl, ⟨?_, HS.out⟩, HC.out.mono (fun _ _ h => .inr h)⟩
    rw [HSZ.out, if_pos HW.out, HN.out]
    exact HB1.out
  · have hw' : wbit ws v = false := by simpa using hw
    rw [hw']
    have HW := Lib.hid hw
    clear hw hw'
    go_wp2
    go_ret
    refine ⟨by rw [show wbit ws v = false by simpa using HW.out]; rfl, ⟨?_, ⟨blk_other HS.out.1 _ (fun e => hbs.1 e.symm), blk_other HS.out.2.1 _ (fun e => hbs.2 e.symm), HS.out.2.2⟩⟩, (HC.out.mono (fun _ _ h => .inr h)).set _ (.inl (.inl rfl))⟩
    have := blk_set HB1.out 1 (.int .i64 ((n : Int) + 1))
    rw [HSZ.out, if_neg HW.out, HN.out]
    exact this
/-- a number, or none -/
def toldR (v : Int) : Int × Bool := if v < 0 then (0, false) else (v, true)
theorem bmTold (v : Int) (hv : v < 65536) (w : World) : Calls Tryz.prog 172 #[.int .i64 v] w fun e w' => e = .returned (.tuple #[.int .u16 (toldR v).1, .bool (toldR v).2]) ∧ w' = w := by
  go_enter Tryz.func172, Tryz.ntmps172
  by_cases h : v < 0
  · have HR := Lib.hid (show toldR v = (0, false) by unfold toldR; rw [if_pos h])
    go_wp2
    go_ret2
    exact ⟨by rw [HR.out]; rfl, rfl⟩
  · have HR := Lib.hid (show toldR v = (v, true) by unfold toldR; rw [if_neg h])
    have hwr : IntKind.u16.wrap v = v := by rw [show IntKind.u16.wrap v = v % 65536 from rfl]; omega
    go_wp2
    go_ret2
    exact ⟨by rw [HR.out]; rfl, rfl⟩
theorem NextB.bd {p : Nat → Bool} {f t : Nat} {v : Int} (h : NextB p f t v) : -1 ≤ v ∧ v < max 0 (t : Int) := by
  rcases h with ⟨rfl, _⟩ | ⟨i, rfl, h1, h2, _⟩ <;> omega
set_option maxRecDepth 100000 in
set_option maxHeartbeats 1000000 in
theorem bmNext (b s d : Nat) (ws : List Nat) (f : Nat) (w : World) (hB : Bm w b s d ws) (hT : Tab64 w) (hf : f < 65536) : Calls Tryz.prog 171 #[.pointer (some ⟨b, 0, none⟩), .int .u16 f] w fun e w' => ∃ v : Int, e = .returned (.tuple #[.int .u16 (toldR v).1, .bool (toldR v).2]) ∧ Hid (NextB (wbit ws) f 65536 v) ∧ Below w.heap.size w w' := by
  have q0 := blk_cell hB.1 0 (v := .pointer (some ⟨s, 0, none⟩)) rfl
  have HB := Lib.hid hB
  have HT := Lib.hid hT
  clear hB hT
  go_enter Tryz.func171, Tryz.ntmps171
  go_wp2_with fail
  refine (stNext s d f ws (by omega) _ HB.out.2 HT.out).mono ?_
  rintro e w1 ⟨v, rfl, HN, hb⟩
  have HNB := Lib.hid (next_bits ws HB.out.2.2.2 v 1100 f 65536 (by decide) (enough_all f 65536 (by decide)) HN.out)
  have hv := HNB.out.bd
  go_wp2_with fail
  refine (bmTold v (by omega) _).mono ?_
  rintro e w2 ⟨rfl, rfl⟩
  go_wp2
  go_ret2
  exact ⟨v, rfl, HNB.out, hb⟩
set_option maxRecDepth 100000 in
set_option maxHeartbeats 1000000 in
theorem bmWords (b s d : Nat) (ws : List Nat) (w : World) (hB : Bm w b s d ws) : Calls Tryz.prog 84 #[.pointer (some ⟨b, 0, none⟩)] w fun e w' => ∃ A' c', e = .returned (.slice A' 1024 c') ∧ 1024 ≤ c' ∧ Hid (Own .u64 95 w' w.heap.size (.slice A' 1024 c') (wi ws)) ∧ Below w.heap.size w w' := by
  have q0 := blk_cell hB.1 0 (v := .pointer (some ⟨s, 0, none⟩)) rfl
  have HB := Lib.hid hB
  clear hB
  go_enter Tryz.func84, Tryz.ntmps84
  go_wp2_with fail
  refine (stWords s d ws _ HB.out.2).mono ?_
  rintro e w1 ⟨A', c', rfl, hc, HO, hb⟩
  go_wp2
  go_ret
  exact ⟨A', c', rfl, hc, HO, hb⟩
set_option maxRecDepth 100000 in
set_option maxHeartbeats 1000000 in
theorem bmCopy (b s d : Nat) (ws : List Nat) (w : World) (hB : Bm w b s d ws) : Calls Tryz.prog 71 #[.pointer (some ⟨b, 0, none⟩)] w fun e w' => ∃ b' s' d', e = .returned (.pointer (some ⟨b', 0, none⟩)) ∧ w.heap.size ≤ b' ∧ w.heap.size ≤ s' ∧ w.heap.size ≤ d' ∧ Bm w' b' s' d' ws ∧ Below w.heap.size w w' := by
  have HB := Lib.hid hB
  clear hB
  go_enter Tryz.func71, Tryz.ntmps71
  go_wp2_with fail
  refine (bmWords b s d ws _ HB.out).mono ?_
  rintro e w1 ⟨A', c', rfl, hc, HO, hb⟩
  obtain ⟨A2, c2, e2, _, _, hr⟩ := HO.out.form
  have hA : A' = A2 := by injection e2
  subst hA
  have HR := Lib.hid hr
  clear hr e2
  go_wp2_with fail
  refine (bmof A' c' ws _ HB.out.2.2.2 HR.out).mono ?_
  rintro e w2 ⟨b', s', d', rfl, h1, h2, h3, hB', hb2⟩
  have HBB := Lib.hid hB'
  have hsz := hb.size
  clear hB'
  go_wp2
  go_ret
  exact ⟨b', s', d', rfl, by omega, by omega, by omega, HBB.out, below_then hb hb2⟩
/-- words with the bits of a list set -/
def setAll (ws : List Nat) (l : List Int) : List Nat := l.foldl (fun ws v => setW ws v.toNat) ws
set_option maxRecDepth 100000 in
set_option maxHeartbeats 1000000 in
theorem bmOf (A : Option Addr) (c : Nat) (l : List Int) (w : World) (hr : Rd .u16 w A l) (hl : ∀ x ∈ l, 0 ≤ x ∧ x < 65536) (hlen : l.length ≤ 900000) : Calls Tryz.prog 47 #[.slice A l.length c] w fun e w' => ∃ b s d, e = .returned (.pointer (some ⟨b, 0, none⟩)) ∧ w.heap.size ≤ b ∧ w.heap.size ≤ s ∧ w.heap.size ≤ d ∧ Bm w' b s d (setAll (List.replicate 1024 0) l) ∧ Below w.heap.size w w' := by
  have HR := Lib.hid hr
  have HL := Lib.hid hl
  clear hr hl
  go_enter Tryz.func47, Tryz.ntmps47
  go_wp2_with fail
  refine (bmNew _).mono ?_
  rintro e w1 ⟨b, s, d, rfl, h1, h2, h3, hB, hb⟩
  have HB := Lib.hid hB
  have HBW := Lib.hid hb
  clear hB hb
  go_wp2
  go_loopw [5, 9, 10, 11, 12, 13, 14, 15, 16] (fun _ v9 _ _ _ _ _ _ _ wr => ∃ k : Nat, k ≤ l.length ∧ v9 = .int .i64 k ∧ Hid (Bm wr b s d (setAll (List.replicate 1024 0) (l.take k))) ∧ Hid (Chg (fun k => k = b ∨ k = d) w1 wr)) (fun _ v9 _ _ _ _ _ _ _ _ => l.length - (intOf v9).toNat)
  case atStart => exact ⟨0, Nat.zero_le _, rfl, HB.out, Chg.refl _ _⟩
  case round =>
    obtain ⟨k, hk, rfl, HBm, HC⟩ := hrel
    have hbw := HBW.out.trans (HC.out.below (B := w.heap.size) HBW.out.size (fun q hq h => by omega))
    have HBR := Lib.hid hbw
    clear hbw
    by_cases hlt : k < l.length
    · obtain ⟨ad, rfl, had, hcl⟩ := (HR.out.below HBR.out) k hlt
      have hx := HL.out (l.getD k 0) (by rw [List.getD_eq_getElem?_getD, List.getElem?_eq_getElem hlt]; exact List.getElem_mem _)
      have H1 := Lib.hid (show setAll (List.replicate 1024 0) (l.take (k + 1)) = setW (setAll (List.replicate 1024 0) (l.take k)) (l.getD k 0).toNat by
        unfold setAll
        rw [List.take_succ_eq_append_getElem hlt, List.foldl_append]
        simp [List.getD_eq_getElem?_getD, List.getElem?_eq_getElem hlt])
      generalize l.getD k 0 = x at *
      obtain ⟨n, rfl⟩ := Int.eq_ofNat_of_zero_le hx.1
      have hn : n < 65536 := by omega
      go_wp2_with fail
      refine (bmAdd b s d _ n _ HBm.out hn).mono ?_
      rintro e w2 ⟨rfl, hB2, hC2⟩
      have HB2 := Lib.hid hB2
      have HC2 := Lib.hid hC2
      clear hB2 hC2
      go_wp2
      go_roundw
      case rel => exact ⟨k + 1, by omega, by go_num, by rw [H1.out]; exact HB2.out, HC.out.then HC2.out⟩
      case measure => simp [intOf]; omega
    · go_wp2
      go_ret
      refine ⟨b, s, d, rfl, h1, h2, h3, ?_, HBR.out⟩
      have := HBm.out
      rwa [List.take_of_length_le (by omega)] at this
end Go.Proofs.YtbjekoljipjldaaGreatDoor
