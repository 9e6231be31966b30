/-
  A kind of set (Kd): what it is in memory, its own blocks; the new set under way in face.fill.
-/
import Derived.Test.YtmpjjehihimadaaGreatVOf
namespace Go.Proofs.YtmpjjehihimadaaGreat
set_option linter.unusedVariables false
set_option linter.unusedSimpArgs false
open Go.RowKit Go.Shelf

structure Kd (D : Type) where
  P : World → D → Prop
  own : D → Nat → Prop
  v : D → Value
  stay : ∀ {X Y : World} {d : D}, P X d → (∀ b, own d b → Y.heap[b]? = X.heap[b]?) → P Y d
  cells : ∀ {X : World} {d : D}, P X d → ∀ b, own d b → ∃ cs t, X.heap[b]? = some (.cells cs t (0, 0))
theorem Kd.lt {D : Type} (K : Kd D) {X : World} {d : D} (h : K.P X d) : ∀ b, K.own d b → b < X.heap.size := fun b hb => by
  obtain ⟨cs, t, h1⟩ := K.cells h b hb
  exact blk_lt h1
theorem Kd.chg {D : Type} (K : Kd D) {S : Nat → Prop} {X Y : World} {d : D} (h : K.P X d) (hc : Chg S X Y) (hn : ∀ b, K.own d b → ¬ S b) : K.P Y d := K.stay h (fun b hb => hc.block b (K.lt h b hb) (hn b hb))
theorem Kd.below {D : Type} (K : Kd D) {X Y : World} {d : D} (h : K.P X d) (hb : Below X.heap.size X Y) : K.P Y d := K.stay h (fun b hb' => hb.block b (K.lt h b hb'))
theorem Kd.stab {D : Type} (K : Kd D) {β : Type} {d : D} {B : Nat} {F : Nat → Prop} (hF : ∀ b, K.own d b → ¬ F b) : Stab B F (fun (_ : β) (V : World) => K.P V d) :=
  ⟨fun _ X Y row hs hg hr => K.stay hs (fun b hb => hg.block b (K.lt hs b hb) (fun e => by
    obtain ⟨_, o, ho, hc⟩ := hr b e.symm
    obtain ⟨cs, t, h1⟩ := K.cells hs b hb
    rw [h1] at ho
    cases ho
    cases hc)), fun _ X Y hs hc => K.chg hs hc hF⟩
theorem blk_putK {w : World} {b D : Nat} {x : Obj} (h : w.heap[b]? = some x) (o : Obj) (hne : b ≠ D) : (w.putObj D o).heap[b]? = some x := (World.putObj_heap_other hne).trans h
/-- the new set under way -/
structure KW {D : Type} (K : Kd D) (w : World) (bs : Nat) (Ins : D → Prop) (C : Nat → Prop) (V : World) (d : D) : Prop where
  ins : Ins d
  p : K.P V d
  box : V.heap[bs]? = some (.cells #[K.v d] 45 (0, 0))
  own : ∀ q, K.own d q → w.heap.size + 2 ≤ q ∧ q ≠ bs
  c : ∀ q, C q ↔ (K.own d q ∨ q = w.heap.size ∨ q = w.heap.size + 1)
  r8 : V.heap[w.heap.size]? = some (.cells #[.nilIface] 45 (0, 0))
  r9 : V.heap[w.heap.size + 1]? = some (.cells #[.int .i64 0] 27 (0, 0))
  chg : Chg (fun _ => False) w V
theorem KW.stab {D : Type} {K : Kd D} {w : World} {bs B : Nat} {Ins : List Int → D → Prop} {C : Nat → Prop} (hbs : w.heap.size + 2 ≤ bs) (hB : w.heap.size ≤ B) : Stab B (fun _ => False) (fun (pre : List Int) (V : World) => ∃ d, KW K w bs (Ins pre) C V d) := by
  constructor
  · rintro pre X Y row ⟨d, h⟩ hg hr
    exact ⟨d, h.ins, (K.stab (β := Unit) (d := d) (F := fun _ => False) (fun b hb hf => hf)).own () X Y row h.p hg hr, ownFrom_blk B bs (fun _ : Unit => #[K.v d]) _ () X Y row h.box hg hr, h.own, h.c, ownFrom_blk B _ (fun _ : Unit => #[.nilIface]) _ () X Y row h.r8 hg hr, ownFrom_blk B _ (fun _ : Unit => #[.int .i64 0]) _ () X Y row h.r9 hg hr, (stab_chg (β := Unit) (S := fun _ => False) (F := fun _ => False) hB (fun b h => .inl h)).own () X Y row h.chg hg hr⟩
  · rintro pre X Y ⟨d, h⟩ hc
    exact ⟨d, h.ins, K.chg h.p hc (fun b hb hf => hf), hc.blk h.box (fun e => e), h.own, h.c, hc.blk h.r8 (fun e => e), hc.blk h.r9 (fun e => e), h.chg.then hc⟩
theorem KW.step {D : Type} {K : Kd D} {w V V' : World} {bs : Nat} {Ins Ins' : D → Prop} {C : Nat → Prop} {d d' : D} (h : KW K w bs Ins C V d) (hbs : w.heap.size + 2 ≤ bs) (hi : Ins' d') (hp : K.P V' d') (hv : K.v d' = K.v d) (ho : ∀ q, K.own d' q → K.own d q ∨ V.heap.size ≤ q) (hc : Chg (K.own d) V V') (B : Nat) :
    KeepsFrom B V V' ∧ (∀ b, b < w.heap.size → V'.heap[b]? = V.heap[b]?) ∧ KW K w bs Ins' (fun q => K.own d' q ∨ q = w.heap.size ∨ q = w.heap.size + 1) V' d' ∧ (∀ k, (K.own d' k ∨ k = w.heap.size ∨ k = w.heap.size + 1) → (C k ∨ V.heap.size ≤ k) ∧ k < V'.heap.size) ∧ ∀ k, k < V.heap.size → ¬ C k → V'.heap[k]? = V.heap[k]? := by
  have h8 := blk_lt h.r8
  have h9 := blk_lt h.r9
  have hb := blk_lt h.box
  have hz := hc.size
  refine ⟨⟨hz, fun k o _ hk hcell => hc.blk hk (fun e => by
    obtain ⟨cs, t, h1⟩ := K.cells h.p k e
    rw [h1] at hk; cases hk; cases hcell)⟩, fun b hb => hc.block b (by omega) (fun e => by have := h.own b e; omega),
    ⟨hi, hp, by rw [hv]; exact hc.blk h.box (fun e => (h.own _ e).2 rfl), fun q hq => (ho q hq).elim (h.own q) (fun e => ⟨by omega, by omega⟩), fun q => Iff.rfl, hc.blk h.r8 (fun e => by have := h.own _ e; omega), hc.blk h.r9 (fun e => by have := h.own _ e; omega), h.chg.trans hc (fun b hb e => by have := h.own b e; omega)⟩,
    fun k hk => ?_, fun k hk hnk => hc.block k hk (fun e => hnk ((h.c k).2 (.inl e)))⟩
  rcases hk with hk | hk | hk
  · exact ⟨(ho k hk).imp (fun e => (h.c k).2 (.inl e)) id, K.lt hp k hk⟩
  · exact ⟨.inl ((h.c k).2 (.inr (.inl hk))), by omega⟩
  · exact ⟨.inl ((h.c k).2 (.inr (.inr hk))), by omega⟩
end Go.Proofs.YtmpjjehihimadaaGreat
