/-
  A range over a function whose iterator itself changes some blocks (meters) between its rounds, and has any number of blocks of its own: its contract (SeqF), and the loop over it, which may be left.
-/
import Derived.Test.YtmpjjehihimadaaGreatRound
import Derived.Shelf.RegionOpen
namespace Go.Proofs.YtmpjjehihimadaaGreat
set_option linter.unusedVariables false
set_option linter.unusedSimpArgs false
open Go.RowKit Go.Shelf

/-- what abides that an iterator goes on: records beyond B, and the blocks F -/
structure Stab {β : Type} (B : Nat) (F : Nat → Prop) (J : β → World → Prop) : Prop where
  own : OwnFrom B J
  chg : ∀ s X Y, J s X → Chg F X Y → J s Y
theorem Stab.and {β : Type} {B : Nat} {F : Nat → Prop} {J K : β → World → Prop} (h : Stab B F J) (k : Stab B F K) : Stab B F (fun s W => J s W ∧ K s W) := ⟨OwnFrom.and h.own k.own, fun s X Y hs hc => ⟨h.chg s X Y hs.1 hc, k.chg s X Y hs.2 hc⟩⟩
theorem ownFrom_mono {β : Type} {B B' : Nat} {I : β → World → Prop} (h : OwnFrom B I) (hB : B ≤ B') : OwnFrom B' I := fun s X Y row hs hg hr => h s X Y row hs hg (fun r e => ⟨Nat.le_trans hB (hr r e).1, (hr r e).2⟩)
theorem Stab.mono {β : Type} {B B' : Nat} {F F' : Nat → Prop} {J : β → World → Prop} (h : Stab B F J) (hB : B ≤ B') (hF : ∀ b, F' b → F b) : Stab B' F' J := ⟨ownFrom_mono h.own hB, fun s X Y hs hc => h.chg s X Y hs (hc.mono (fun b _ hb => hF b hb))⟩
theorem stab_pure {β : Type} (B : Nat) (F : Nat → Prop) (p : β → Prop) : Stab B F (fun s (_ : World) => p s) := ⟨fun _ _ _ _ hs _ _ => hs, fun _ _ _ hs _ => hs⟩
theorem stab_size {β : Type} (B m : Nat) (F : Nat → Prop) : Stab B F (fun (_ : β) (W : World) => m ≤ W.heap.size) := ⟨ownFrom_size _ _, fun _ _ _ hs hc => Nat.le_trans hs hc.size⟩
theorem stab_blk {β : Type} {B b : Nat} {F : Nat → Prop} (hb : ¬ F b) (f : β → Array Value) (t : TypeId) : Stab B F (fun (s : β) (W : World) => W.heap[b]? = some (.cells (f s) t (0, 0))) := ⟨ownFrom_blk B b f t, fun _ _ _ hs hc => hc.blk hs hb⟩
theorem ownFrom_obj {β : Type} {B k : Nat} {o : Obj} (hk : k < B) : OwnFrom B (fun (_ : β) (W : World) => W.heap[k]? = some o) := fun s X Y row hs hg hr =>
  (hg.block k (by have hs' : X.heap[k]? = some o := hs; exact blk_lt hs') (fun e => by have := (hr k e.symm).1; omega)).trans hs
theorem stab_obj {β : Type} {B k : Nat} {F : Nat → Prop} {o : Obj} (hk : k < B) (hf : ¬ F k) : Stab B F (fun (_ : β) (W : World) => W.heap[k]? = some o) := ⟨ownFrom_obj hk, fun _ _ _ hs hc => hc.blk hs hf⟩
theorem stab_chg {β : Type} {S F : Nat → Prop} {w0 : World} {B : Nat} (hB : w0.heap.size ≤ B) (hF : ∀ b, F b → S b ∨ w0.heap.size ≤ b) : Stab B F (fun (_ : β) (W : World) => Chg S w0 W) :=
  ⟨ownFrom_chg hB, fun _ X Y hs hc => hs.trans hc (fun b hb hf => by rcases hF b hf with h | h; exact h; omega)⟩
theorem keepsFrom_mono {B B' : Nat} {X Y : World} (h : KeepsFrom B X Y) (hB : B ≤ B') : KeepsFrom B' X Y := ⟨h.size, fun k o hk ho hc => h.same k o (Nat.le_trans hB hk) ho hc⟩
theorem keepsFrom_put {B L : Nat} {X : World} {o : Obj} (hL : L < B) : KeepsFrom B X (X.putObj L o) := KeepsFrom.of_grownBy (grownBy_putObj' X L o) (fun j e => by cases e; exact hL)
/-- the contract of an iterator: St is what it needs and keeps, F what it changes; C: the blocks of its consumer -/
def SeqF {α : Type} (P : Program) (g : Nat) (lb : Array Value) (encs : α → Array Value) (St : World → Prop) (F : Nat → Prop) (S : List α → Prop) (N : Nat) : Prop :=
  ∀ (n l : Nat) (J : (Nat → Prop) → List α → World → Prop) (Jx : World → Prop) (C0 : Nat → Prop) (W : World),
    5 ≤ n → St W → (∀ C, Stab W.heap.size F (J C)) → Stab W.heap.size F (fun _ : Unit => Jx) →
    (∀ C pre x W1, W.heap.size ≤ W1.heap.size → (∀ k, C k → k < W1.heap.size) → J C pre W1 → St W1 → pre.length < N → YieldAt Fence.wide (n - 1) P l (encs x) W1 fun e W' =>
      (e = .returned (.bool true) ∧ St W' ∧ KeepsFrom W.heap.size W1 W' ∧ ∃ C', J C' (pre ++ [x]) W' ∧ (∀ k, C' k → (C k ∨ W1.heap.size ≤ k) ∧ k < W'.heap.size) ∧ ∀ k, k < W1.heap.size → ¬ C k → W'.heap[k]? = W1.heap[k]?) ∨
      (e = .returned (.bool false) ∧ St W' ∧ KeepsFrom W.heap.size W1 W' ∧ Jx W' ∧ ∀ k, k < W1.heap.size → ¬ C k → W'.heap[k]? = W1.heap[k]?)) →
    (∀ k, C0 k → k < W.heap.size) → J C0 [] W → CallsIn Fence.wide n P g (#[.func (.yield l) #[] #[]] ++ lb) W fun e W' => (∃ v, e = .returned v) ∧ St W' ∧ W.heap.size ≤ W'.heap.size ∧ ((∃ C xs, S xs ∧ J C xs W' ∧ ∀ k, C k → k < W'.heap.size) ∨ Jx W')
/-- how the body of a round may be left -/
def postF (B : Nat) (C : Nat → Prop) (St : World → Prop) (I : (Nat → Prop) → World → Prop) (Ix : Code → World → Prop) (W : World) : Exit → Act → World → Prop
  | .normal, _, W' => KeepsFrom B W W' ∧ St W' ∧ ∃ C', I C' W' ∧ (∀ k, C' k → (C k ∨ W.heap.size ≤ k) ∧ k < W'.heap.size) ∧ ∀ k, k < W.heap.size → ¬ C k → W'.heap[k]? = W.heap[k]?
  | .ret, _, W' => KeepsFrom B W W' ∧ St W' ∧ Ix .ret W' ∧ ∀ k, k < W.heap.size → ¬ C k → W'.heap[k]? = W.heap[k]?
  | .exit id, _, W' => KeepsFrom B W W' ∧ St W' ∧ Ix (.exit id) W' ∧ ∀ k, k < W.heap.size → ¬ C k → W'.heap[k]? = W.heap[k]?
  | .goto t, _, W' => KeepsFrom B W W' ∧ St W' ∧ Ix (.goto t) W' ∧ ∀ k, k < W.heap.size → ¬ C k → W'.heap[k]? = W.heap[k]?
  | .panic _, _, _ => False
  | .outgrown, _, _ => False
theorem same_put {R : Nat → Prop} {W : World} {L B : Nat} {o : Obj} (hR : ∀ b, R b → b < B) (hL : B ≤ L) : ∀ b, R b → (W.putObj L o).heap[b]? = W.heap[b]? := fun b hb => World.putObj_heap_other (by have := hR b hb; omega)
theorem put_size (W : World) (L : Nat) (o : Obj) : (W.putObj L o).heap.size = W.heap.size := by simp only [World.putObj, Array.size_setIfInBounds]
theorem range_F {α : Type} {n : Nat} {P : Program} {g : Operand} {ps : Array Tmp} {assign body : Code} {Q : Exit → Act → World → Prop} {a : Act} {w : World} (h1 : 6 ≤ n)
    {gf : Nat} {lb : Array Value} (hg : a.eval g = .func (.func gf) #[] lb) (eg : ∀ args w, (callFunc gf args).run P w = .ok (.enter gf args) w)
    {encs : α → Array Value} {St : World → Prop} {F R : Nat → Prop} {S : List α → Prop} {N : Nat} (hseq : SeqF P gf lb encs St F S N)
    (hSR : ∀ X Y, St X → (∀ b, R b → Y.heap[b]? = X.heap[b]?) → St Y) (hR : ∀ b, R b → b < w.heap.size) (hFR : ∀ b, F b → R b) (hSt : St w) (hps : ∀ x, (encs x).size = ps.size)
    (I : (Nat → Prop) → List α → World → Prop) (Ix : Code → World → Prop) (hI : ∀ C, Stab w.heap.size F (I C)) (hIx : Stab w.heap.size F Ix)
    (C0 : Nat → Prop) (hC0 : ∀ k, C0 k → k < w.heap.size) (h0 : I C0 [] w) (Ax : α → Act → World → Prop) (hAx : ∀ x a', OwnFrom w.heap.size (fun (_ : Unit) W => Ax x a' W))
    (hassign : ∀ (l : Nat) (C : Nat → Prop) (pre : List α) (x : α) (W : World) (K : Act → World → Prop), I C pre W → (∀ a' W', KeepsFrom w.heap.size W W' → Below W.heap.size W W' → I C pre W' → Ax x a' W' → K a' W') →
      assign.wpIn (Fence.wide.inRound l) (n - 1 - 1) P (Exit.then K (fun _ _ _ => False)) { tmps := (ps.zip (encs x)).foldl (fun t (p, v) => t.setIfInBounds p v) a.tmps, defers := [] } W)
    (hbody : ∀ (l : Nat) (C : Nat → Prop) (pre : List α) (x : α) (a' : Act) (W : World), w.heap.size ≤ l → w.heap.size + 2 ≤ W.heap.size → (∀ k, C k → k < W.heap.size) → I C pre W → St W → Ax x a' W → pre.length < N → body.wpIn (Fence.wide.inRound l) (n - 1 - 1) P (postF w.heap.size C St (fun C' => I C' (pre ++ [x])) Ix W) a' W)
    (hdone : ∀ (D : Nat) (C : Nat → Prop) (xs : List α) (W : World), w.heap.size ≤ D → S xs → I C xs W → St W → w.heap.size + 2 ≤ W.heap.size → (∀ k, C k → k < W.heap.size) → W.heap[D]? = some (.deferred (some [])) → Q .normal { a with defers := { target := .collected D, args := #[] } :: a.defers } W)
    (hstop : ∀ (D : Nat) (c : Code) (W : World), w.heap.size ≤ D → Ix c W → St W → W.heap[D]? = some (.deferred (some [])) → c.wpIn Fence.wide n P Q { a with defers := { target := .collected D, args := #[] } :: a.defers } W) :
    (Code.rangeFunc g ps assign body).wpIn Fence.wide n P Q a w := by
  refine wpIn_rangeFunc (fun fn hfn => ?_)
  obtain ⟨D, hD⟩ : ∃ D, D = w.heap.size := ⟨_, rfl⟩
  obtain ⟨L, hL⟩ : ∃ L, L = w.heap.size + 1 := ⟨_, rfl⟩
  obtain ⟨rc, hrc⟩ : ∃ rc : LoopState → Option Code → Loop, rc = fun st pe => { state := st, pending := pe, fn, tmps := a.tmps, params := ps, assign, body, defers := w.heap.size } := ⟨_, rfl⟩
  obtain ⟨W1, hW1⟩ : ∃ W1, W1 = (w.alloc (.deferred (some []))).alloc (.loop (rc .ready none)) := ⟨_, rfl⟩
  have s1 : W1.heap.size = w.heap.size + 1 + 1 := by rw [hW1]; simp
  have bD : W1.heap[D]? = some (.deferred (some [])) := by rw [hW1, hD]; exact blk_old (heap_alloc_new w _) _
  have bL : W1.heap[L]? = some (.loop (rc .ready none)) := by rw [hW1, hL]; have := heap_alloc_new (w.alloc (.deferred (some []))) (.loop (rc .ready none)); rwa [World.size_alloc] at this
  have i1 : I C0 [] W1 := by rw [hW1]; exact (hI C0).own.alloc _ ((hI C0).own.alloc _ h0)
  have b1 : Below w.heap.size w W1 := by rw [hW1]; exact ((Below.refl _ w).alloc (Nat.le_refl _) _).alloc (by simp) _
  have t1 : St W1 := hSR _ _ hSt (fun b hb => b1.block b (hR b hb))
  have hFL : ¬ F L := fun h => by have := hR _ (hFR _ h); omega
  have hFD : ¬ F D := fun h => by have := hR _ (hFR _ h); omega
  refine ⟨L, [{ target := .collected D, args := #[] }], W1, { target := .fn (.func gf) lb, args := #[.func (.yield L) #[] #[]] }, W1, gf, #[.func (.yield L) #[] #[]] ++ lb, W1, ?_, ?_, fun _ _ => trivial, ?_, fun _ => by omega, ?_⟩
  · rw [hW1, hrc, hL, hD]; exact run_enterLoop_outer _ _ _ _ _
  · simp only [resolve, hg]; simp [go_sem]
  · simp [invoke, go_sem, eg]
  refine (hseq (n - 1) L
    (fun E pre W => ∃ C, (∀ k, E k ↔ (C k ∨ k = L)) ∧ I C pre W ∧ (W.heap[L]? = some (.loop (rc .ready none)) ∧ W.heap[D]? = some (.deferred (some []))))
    (fun W => ∃ c, Ix c W ∧ W.heap[L]? = some (.loop (rc .done (some c))) ∧ W.heap[D]? = some (.deferred (some []))) (fun k => C0 k ∨ k = L) W1 (by omega) t1
    (fun E => ⟨fun s A B row hs hg' hr => by
      obtain ⟨C, hE, hc, hl, hk⟩ := hs
      exact ⟨C, hE, ownFrom_mono (hI C).own (by omega) s A B row hc hg' hr, (hg'.block L (blk_lt hl) (fun e => by have := (hr L e.symm).1; omega)).trans hl, (hg'.block D (blk_lt hk) (fun e => by have := (hr D e.symm).1; omega)).trans hk⟩,
     fun s A B hs hc' => by
      obtain ⟨C, hE, hc, hl, hk⟩ := hs
      exact ⟨C, hE, (hI C).chg s A B hc hc', hc'.blk hl hFL, hc'.blk hk hFD⟩⟩)
    ⟨fun s A B row hs hg' hr => by
      obtain ⟨c, hc, hl, hk⟩ := hs
      exact ⟨c, ownFrom_mono hIx.own (by omega) c A B row hc hg' hr, (hg'.block L (blk_lt hl) (fun e => by have := (hr L e.symm).1; omega)).trans hl, (hg'.block D (blk_lt hk) (fun e => by have := (hr D e.symm).1; omega)).trans hk⟩,
     fun s A B hs hc' => by
      obtain ⟨c, hc, hl, hk⟩ := hs
      exact ⟨c, hIx.chg c A B hc hc', hc'.blk hl hFL, hc'.blk hk hFD⟩⟩
    ?_ (fun k hk => by rcases hk with hk | hk; have := hC0 k hk; omega; omega) ⟨C0, fun _ => Iff.rfl, i1, bL, bD⟩).mono ?_
  · rintro E pre x W hWW hEb ⟨C, hE, hi, hl, hd⟩ ht hlen
    have hCb : ∀ k, C k → k < W.heap.size := fun k hk => hEb k ((hE k).2 (.inl hk))
    have hy := run_yield (P := P) (args := encs x) hl (by rw [hrc]; exact hps x)
    rw [hrc] at hy
    refine ⟨fn, _, assign, body, hy, roundIn_of_wpIn hfn (hassign L C pre x W _ hi ?_)⟩
    intro a' W2 k2 b2 i2 x2
    have hsz2 := b2.size
    have l2 : W2.heap[L]? = _ := k2.same L _ (by omega) hl rfl
    have d2 : W2.heap[D]? = _ := k2.same D _ (by omega) hd rfl
    have lt2 := blk_lt l2
    have t2 : St W2 := hSR _ _ ht (fun b hb => b2.block b (by have := hR b hb; omega))
    obtain ⟨bz, hbz⟩ : ∃ bz : Loop, bz = { rc .ready none with state := .busy } := ⟨_, rfl⟩
    have l3 : (W2.putObj L (.loop bz)).heap[L]? = some (.loop bz) := World.putObj_heap_same lt2
    have d3 : (W2.putObj L (.loop bz)).heap[D]? = some (.deferred (some [])) := (World.putObj_heap_other (by omega)).trans d2
    have t3 : St (W2.putObj L (.loop bz)) := hSR _ _ t2 (same_put hR (by omega))
    have hp2 := put_size W2 L (.loop bz)
    have hbg := run_beginRound (P := P) l2 (by rw [hrc])
    rw [← hbz] at hbg
    refine ⟨_, hbg, ?_⟩
    refine wpIn_mono (hbody L C pre x a' _ (by omega) (by omega) (fun k hk => by have := hCb k hk; omega) ((hI C).own.putObj _ i2 (by omega) l2 rfl) t3 ((hAx x a').putObj (s := ()) _ x2 (by omega) l2 rfl) hlen) ?_
    have fin : ∀ (jump : Option Code) (W3 : World), KeepsFrom w.heap.size (W2.putObj L (.loop bz)) W3 →
        (Instr.endRound L jump).run P W3 = .ok (.bool jump.isNone) (W3.putObj L (.loop (rc (if jump.isNone then .ready else .done) jump))) ∧
        W3.heap[L]? = some (.loop bz) ∧ (W3.putObj L (.loop (rc (if jump.isNone then .ready else .done) jump))).heap[L]? = some (.loop (rc (if jump.isNone then .ready else .done) jump)) ∧
        (W3.putObj L (.loop (rc (if jump.isNone then .ready else .done) jump))).heap[D]? = some (.deferred (some [])) := fun jump W3 k3 => by
      have l4 := k3.same L _ (by omega) l3 rfl
      have d4 := k3.same D _ (by omega) d3 rfl
      have he := run_endRound (P := P) jump l4
      rw [hbz, hrc] at he
      rw [hrc]
      exact ⟨he, l4, World.putObj_heap_same (blk_lt l4), (World.putObj_heap_other (by omega)).trans d4⟩
    have keep : ∀ (W3 : World), (∀ k, k < (W2.putObj L (.loop bz)).heap.size → ¬ C k → W3.heap[k]? = (W2.putObj L (.loop bz)).heap[k]?) → ∀ (o : Obj) k, k < W.heap.size → ¬ E k → (W3.putObj L o).heap[k]? = W.heap[k]? := fun W3 kb3 o k hk1 hk2 => by
      have hkL : k ≠ L := fun e => hk2 ((hE k).2 (.inr e))
      have hkC : ¬ C k := fun e => hk2 ((hE k).2 (.inl e))
      exact (World.putObj_heap_other hkL).trans ((kb3 k (by omega) hkC).trans ((World.putObj_heap_other hkL).trans (b2.block k hk1)))
    rintro e a3 W3 hp
    cases e with
    | normal =>
      obtain ⟨k3, t4, C', i3, hC', kb3⟩ := hp
      obtain ⟨he, l4, l5, d5⟩ := fin none W3 k3
      refine ⟨_, _, he, .inl ⟨rfl, hSR _ _ t4 (same_put hR (by omega)), (keepsFrom_mono k2 (by omega)).trans ((keepsFrom_put (by omega)).trans ((keepsFrom_mono k3 (by omega)).trans (keepsFrom_put (by omega)))), (fun k => C' k ∨ k = L), ⟨C', fun _ => Iff.rfl, (hI C').own.putObj _ i3 (by omega) l4 rfl, l5, d5⟩, fun k hk => ?_, fun k hk1 hk2 => ?_⟩⟩
      · rw [put_size]
        rcases hk with hk | hk
        · obtain ⟨h3, h4⟩ := hC' k hk
          refine ⟨?_, h4⟩
          rcases h3 with h3 | h3
          · exact .inl ((hE k).2 (.inl h3))
          · exact .inr (by omega)
        · exact ⟨.inl ((hE k).2 (.inr hk)), by have := blk_lt l4; omega⟩
      · have hkL : k ≠ L := fun e => hk2 ((hE k).2 (.inr e))
        have hkC : ¬ C k := fun e => hk2 ((hE k).2 (.inl e))
        exact (World.putObj_heap_other hkL).trans ((kb3 k (by omega) hkC).trans ((World.putObj_heap_other hkL).trans (b2.block k hk1)))
    | ret =>
      obtain ⟨k3, t4, i3, kb3⟩ := hp
      obtain ⟨he, l4, l5, d5⟩ := fin (some .ret) W3 k3
      exact ⟨_, _, he, .inr ⟨rfl, hSR _ _ t4 (same_put hR (by omega)), (keepsFrom_mono k2 (by omega)).trans ((keepsFrom_put (by omega)).trans ((keepsFrom_mono k3 (by omega)).trans (keepsFrom_put (by omega)))), ⟨.ret, hIx.own.putObj _ i3 (by omega) l4 rfl, l5, d5⟩, keep W3 kb3 _⟩⟩
    | exit id =>
      obtain ⟨k3, t4, i3, kb3⟩ := hp
      obtain ⟨he, l4, l5, d5⟩ := fin (some (.exit id)) W3 k3
      exact ⟨_, _, he, .inr ⟨rfl, hSR _ _ t4 (same_put hR (by omega)), (keepsFrom_mono k2 (by omega)).trans ((keepsFrom_put (by omega)).trans ((keepsFrom_mono k3 (by omega)).trans (keepsFrom_put (by omega)))), ⟨.exit id, hIx.own.putObj _ i3 (by omega) l4 rfl, l5, d5⟩, keep W3 kb3 _⟩⟩
    | goto t =>
      obtain ⟨k3, t4, i3, kb3⟩ := hp
      obtain ⟨he, l4, l5, d5⟩ := fin (some (.goto t)) W3 k3
      exact ⟨_, _, he, .inr ⟨rfl, hSR _ _ t4 (same_put hR (by omega)), (keepsFrom_mono k2 (by omega)).trans ((keepsFrom_put (by omega)).trans ((keepsFrom_mono k3 (by omega)).trans (keepsFrom_put (by omega)))), ⟨.goto t, hIx.own.putObj _ i3 (by omega) l4 rfl, l5, d5⟩, keep W3 kb3 _⟩⟩
    | panic ch => exact hp.elim
    | outgrown => exact hp.elim
  · rintro e W2 ⟨⟨v, rfl⟩, ht, hsz, (⟨E, xs, hS, ⟨C, hE, hi, hl, hd⟩, hEb⟩ | ⟨c, hi, hl, hd⟩)⟩
    · have he := run_endLoop (P := P) hl (by rw [hrc]; simp)
      rw [hrc] at he
      exact ⟨none, _, he, hdone D C xs _ (by omega) hS ((hI C).own.putObj _ hi (by omega) hl rfl) (hSR _ _ ht (same_put hR (by omega))) (by rw [put_size]; omega) (fun k hk => by rw [put_size]; exact hEb k ((hE k).2 (.inl hk))) ((World.putObj_heap_other (by omega)).trans hd)⟩
    · have he := run_endLoop (P := P) hl (by rw [hrc]; simp)
      rw [hrc] at he
      exact ⟨some c, _, he, hstop D c _ (by omega) (hIx.own.putObj _ hi (by omega) hl rfl) (hSR _ _ ht (same_put hR (by omega))) ((World.putObj_heap_other (by omega)).trans hd)⟩
theorem roundIn_wide {n m l2 : Nat} {P : Program} {l : Nat} {f : FuncId} {tmps : Array Value} {assign body : Code} {w : World} {R : Ending → World → Prop} (h : RoundIn Fence.wide n P l f tmps assign body w R) : RoundIn (Fence.wide.inRound l2) m P l f tmps assign body w R :=
  ⟨h.1, fun c cs _ => h.2 c cs (room_wide _)⟩
theorem roundIn_any {n m : Nat} {P : Program} {l : Nat} {f : FuncId} {tmps : Array Value} {assign body : Code} {w : World} {R : Ending → World → Prop} (h : RoundIn Fence.wide n P l f tmps assign body w R) : RoundIn Fence.wide m P l f tmps assign body w R :=
  ⟨h.1, fun c cs _ => h.2 c cs (room_wide _)⟩
/-- an iterator as a value -/
structure It {α : Type} (P : Program) (v : Value) (encs : α → Array Value) (St : World → Prop) (F R : Nat → Prop) (S : List α → Prop) (N : Nat) : Prop where
  seq : ∃ gf lb, v = .func (.func gf) #[] lb ∧ (∀ args w, (callFunc gf args).run P w = .ok (.enter gf args) w) ∧ SeqF P gf lb encs St F S N
  stay : ∀ X Y, St X → (∀ b, R b → Y.heap[b]? = X.heap[b]?) → St Y
  sub : ∀ b, F b → R b
theorem It.below {α : Type} {P : Program} {v : Value} {encs : α → Array Value} {St : World → Prop} {F R : Nat → Prop} {S : List α → Prop} {N : Nat} (h : It P v encs St F R S N) {X Y : World} (hX : St X) (hb : Below X.heap.size X Y) (hR : ∀ b, R b → b < X.heap.size) : St Y := h.stay _ _ hX (fun b hr => hb.block b (hR b hr))
end Go.Proofs.YtmpjjehihimadaaGreat
