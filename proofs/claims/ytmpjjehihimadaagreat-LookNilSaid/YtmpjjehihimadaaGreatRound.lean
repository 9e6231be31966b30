/-
  Regions that draw their order, in a round of a range over a function (the fence 'wide' in a round): those that only read, and those whose last operations alone write, walked once, in the order of the text.
-/
import Derived.Test.YtmpjjehihimadaaGreatChg
import Derived.StillTailTactics
import Derived.Deep.QuietTactic
import Derived.RangeFuncCalls
import Derived.RangeFuncNested
import Derived.TacticsInMore
import Derived.OrdersIn
import Derived.RangeFuncBox
import Derived.RangeFuncFrom
namespace Go.Proofs.YtmpjjehihimadaaGreat
set_option linter.unusedVariables false
set_option linter.unusedSimpArgs false
open Go.RowKit
section
variable {P : Program} {ops : Array Oper} {md : Region.Mode} {l n : Nat} {w : World}
/-- no operation is a defer -/
def noDefer (ops : Array Oper) : Bool := ops.all fun o => match o.op with
  | .defer _ => false
  | _ => true
theorem noDefer_spec (h : noDefer ops = true) {i : Nat} {o : Oper} (hi : ops[i]? = some o) (c : Call) : o.op ≠ .defer c := fun e => by
  have h1 := Array.all_eq_true.1 h i (by
    rcases Nat.lt_or_ge i ops.size with h1 | h1
    · exact h1
    · rw [Array.getElem?_eq_none h1] at hi; cases hi)
  rw [Array.getElem?_eq_some_iff] at hi
  obtain ⟨_, hi⟩ := hi
  rw [hi, e] at h1
  cases h1
theorem depth_wide {n : Nat} (l : Nat) : (Fence.wide.inRound l).depth.isSome = true → 1 ≤ n := fun h => by cases h
theorem wpIn_of_still {o : Oper} {a : Act} {K : Act → Prop} {K' : Act → World → Prop} {Q' : Exit → Act → World → Prop} (hd : ∀ c, o.op ≠ .defer c) (h : ∀ a, K a → K' a w) (hh : o.still P a w K) : o.wpIn (Fence.wide.inRound l) n P a w K' Q' := by
  unfold Oper.still at hh
  unfold Oper.wpIn
  refine ⟨fun _ _ => trivial, ?_⟩
  rw [Fence.inRound_round, Oper.semAt_some l _ _ hd]
  generalize (execOp a.eval o).run P w = r at *
  cases r with
  | ok x w' =>
    cases x <;> simp only [Oper.stillUpon] at hh <;> simp only [Oper.uponIn]
    case enter f args =>
      obtain ⟨rfl, v, hc, hn⟩ := hh
      refine ⟨depth_wide l, (CallsIn.inRound l (callsIn_wide.2 hc)).mono fun e w'' he => ?_⟩
      obtain ⟨rfl, rfl⟩ := he
      exact h _ hn
    all_goals (obtain ⟨rfl, h2⟩ := hh; exact h _ h2)
  | halt x w' => simp only [Oper.stillUpon] at hh
theorem wpOpIn_of_stOp {i : Nat} {a : Act} {K : Act → Prop} {K' : Act → World → Prop} {Q' : Exit → Act → World → Prop} (hd : noDefer ops = true) (h : ∀ a, K a → K' a w) (hh : stOp P ops w i K a) : wpOpIn (Fence.wide.inRound l) n P ops Q' i K' a w := by
  unfold stOp at hh
  unfold wpOpIn
  split
  · rename_i ho; simp only [ho] at hh; exact h _ hh
  · rename_i o ho
    simp only [ho] at hh
    split
    · rename_i hw; simp only [hw, if_true] at hh; exact wpIn_of_still (fun c => noDefer_spec hd ho c) h hh
    · rename_i hw; simp only [hw] at hh; exact ⟨fun _ _ => trivial, h _ hh⟩
theorem wpAnyIn_of_head {k g : Nat} {L : Array Bool → Act → Prop} {Q' : Exit → Act → World → Prop} (hd : noDefer ops = true) (hL : ∀ listed a, L listed a → wpAnyIn (Fence.wide.inRound l) n P md ops Q' g listed a w) :
    ∀ (f : Nat) (listed : Array Bool) (a : Act), wpAnyL P md ops w k L f listed a → wpAnyIn (Fence.wide.inRound l) n P md ops Q' (f + g) listed a w
  | 0, listed, a, h => by rw [Nat.zero_add]; exact hL _ _ h
  | f + 1, listed, a, h => by
    rw [show f + 1 + g = (f + g) + 1 by omega]
    exact ⟨fun h0 => absurd h0 h.1, fun i hi => wpOpIn_of_stOp hd (fun a' h' => wpAnyIn_of_head hd hL f _ a' h') (h.2 i hi).2⟩
theorem wpAnyIn_of_seq {Q' : Exit → Act → World → Prop} : ∀ (m : List Oper) (k : Nat) (listed : Array Bool) (a : Act) (w : World), (∀ j, m[j]? = ops[k + j]?) →
    Region.seqB md ops m.length k listed = true → wpListIn (Fence.wide.inRound l) n P ops Q' m a w → wpAnyIn (Fence.wide.inRound l) n P md ops Q' m.length listed a w
  | [], _, _, _, _, _, hB, h => ⟨by simpa [Region.seqB] using hB, h⟩
  | o :: m, k, listed, a, w, hl, hB, h => by
    have h0 : ops[k]? = some o := by simpa using (hl 0).symm
    simp only [List.length_cons, Region.seqB, Bool.and_eq_true, decide_eq_true_eq] at hB
    refine ⟨fun h1 => (by rw [hB.1] at h1; cases h1), fun i hi => ?_⟩
    rw [hB.1] at hi
    have hik : i = k := by simpa using hi
    subst hik
    have hw : wpOpIn (Fence.wide.inRound l) n P ops Q' i (wpListIn (Fence.wide.inRound l) n P ops Q' m) a w := by unfold wpOpIn; simp only [h0]; exact h
    exact wpOpIn_mono (fun a' w' h' => wpAnyIn_of_seq m (i + 1) _ a' w' (fun j => by have := hl (j + 1); simpa [Nat.add_assoc, Nat.add_comm 1 j] using this) hB.2 h') hw
/-- a region that draws its order in a round: k operations that leave the world, then the others, one after the other -/
theorem wpIn_round_tail {id : Nat} {Q : Exit → Act → World → Prop} {a : Act} {m : List Oper} (k : Nat) (hm : P.follows .mixedOrders = true) (hB : Region.lexTailB .any m.toArray k = true) (hd : noDefer m.toArray = true)
    (h : wpStill P m.toArray { w with drawn := w.drawn + 1 } (fun a' => wpListIn (Fence.wide.inRound l) n P m.toArray Q (m.drop k) a' { w with drawn := w.drawn + 1 }) (m.take k) a) : (Code.region id m.toArray true).wpIn (Fence.wide.inRound l) n P Q a w := by
  simp only [Region.lexTailB, Bool.and_eq_true, decide_eq_true_eq] at hB
  obtain ⟨⟨⟨⟨hsel, hn⟩, hs⟩, hc⟩, hlex⟩ := hB
  have hn' : k < m.length := by simpa using hn
  have htl : (m.take k).length = k := by simp; omega
  have hdl : (m.drop k).length = m.toArray.size - k := by simp
  have inv0 : HeadInv .any m.toArray k (Array.replicate m.toArray.size false) :=
    ⟨by simp, fun j oj _ hl => (by rw [getD_replicate_false] at hl; cases hl), fun t _ ht => getD_in (by simpa using ht) (getD_replicate_false _ _)⟩
  have H := wpAnyL_lex (md := .any) (g := m.toArray.size - k) hsel hs hc hn (m.take k) 0 _ a (fun j hj => by
    have hj' : j < k := by rw [htl] at hj; exact hj
    simp [hj']) (by simpa using htl) inv0 (by rw [htl]; exact hlex) h
  refine wpIn_region_any hm ?_
  have := wpAnyIn_of_head (Q' := Q) (n := n) (l := l) (g := m.toArray.size - k) hd (fun listed a' hL => by
    have := wpAnyIn_of_seq (md := .any) (Q' := Q) (n := n) (l := l) (m.drop k) k listed a' { w with drawn := w.drawn + 1 } (fun j => by simp [List.getElem?_drop]) (by rw [hdl]; exact hL.1) hL.2
    rwa [hdl] at this) _ _ _ H
  rw [htl, show k + (m.toArray.size - k) = m.toArray.size by omega] at this
  exact this
theorem wpAnyIn_of_still {Q : Act → Prop} {Q' : Exit → Act → World → Prop} (hd : noDefer ops = true) (hQ : ∀ a, Q a → Q' .normal a w) : ∀ (fuel : Nat) (listed : Array Bool) (a : Act),
    wpAnyS P md ops w Q fuel listed a → wpAnyIn (Fence.wide.inRound l) n P md ops Q' fuel listed a w
  | 0, _, _, h => ⟨h.1, hQ _ h.2⟩
  | fuel + 1, _, _, h => ⟨fun h0 => hQ _ (h.1 h0), fun i hi => wpOpIn_of_stOp hd (fun a' => wpAnyIn_of_still hd hQ fuel _ a') (h.2 i hi)⟩
/-- a region that draws its order in a round, and only reads -/
theorem wpIn_round_still {id : Nat} {Q : Exit → Act → World → Prop} {a : Act} {m : List Oper} (hm : P.follows .mixedOrders = true) (hB : Region.lexB .any m.toArray = true) (hd : noDefer m.toArray = true)
    (h : wpStill P m.toArray { w with drawn := w.drawn + 1 } (fun a' => Q .normal a' { w with drawn := w.drawn + 1 }) m a) : (Code.region id m.toArray true).wpIn (Fence.wide.inRound l) n P Q a w := by
  simp only [Region.lexB, Bool.and_eq_true] at hB
  refine wpIn_region_any hm (wpAnyIn_of_still hd (Q := fun a' => Q .normal a' { w with drawn := w.drawn + 1 }) (fun _ h => h) _ _ _ ?_)
  have := wpAnyS_lex (P := P) (md := .any) hB.1 m 0 (Array.replicate m.toArray.size false) a (by simp) (by simpa using hB.2) h
  simpa using this
end
section
theorem ownFrom_blk {β : Type} (B0 b : Nat) (f : β → Array Value) (t : TypeId) : OwnFrom B0 (fun (s : β) (W : World) => W.heap[b]? = some (.cells (f s) t (0, 0))) := fun s A B row hs hg hr => by
  refine (hg.block b (blk_lt hs) (fun e => ?_)).trans hs
  obtain ⟨_, o, ho, hc⟩ := hr b e.symm
  rw [show A.heap[b]? = _ from hs] at ho
  cases ho
  cases hc
theorem ownFrom_chg {β : Type} {S : Nat → Prop} {w0 : World} {B0 : Nat} (hB : w0.heap.size ≤ B0) : OwnFrom B0 (fun (_ : β) (W : World) => Chg S w0 W) := fun s A B row hs hg hr =>
  ⟨hg.os.trans hs.os, hg.tape.trans hs.tape, hg.output.trans hs.output, Nat.le_trans hs.size hg.size, fun k hk hS => (hg.block k (Nat.lt_of_lt_of_le hk hs.size) (fun e => by have := (hr k e.symm).1; omega)).trans (hs.block k hk hS)⟩
theorem ownFrom_size {β : Type} (B0 m : Nat) : OwnFrom B0 (fun (_ : β) (W : World) => m ≤ W.heap.size) := fun s A B row hs hg hr => Nat.le_trans hs hg.size
theorem chg_putObj {S : Nat → Prop} {w W : World} {l : Nat} {o' : Obj} (h : Chg S w W) (hl : w.heap.size ≤ l) : Chg S w (W.putObj l o') := by
  have hg := grownBy_putObj' W l o'
  exact ⟨hg.os.trans h.os, hg.tape.trans h.tape, hg.output.trans h.output, Nat.le_trans h.size hg.size, fun k hk hS => (hg.block k (Nat.lt_of_lt_of_le hk h.size) (fun e => by cases e; omega)).trans (h.block k hk hS)⟩
theorem belowZ_t {A B C : World} (h : Below 0 A B) (k : Below 0 B C) : Below 0 A C := h.trans k
end
theorem mixed : Tryz.prog.follows .mixedOrders = true := by kernel_rfl
end Go.Proofs.YtmpjjehihimadaaGreat
