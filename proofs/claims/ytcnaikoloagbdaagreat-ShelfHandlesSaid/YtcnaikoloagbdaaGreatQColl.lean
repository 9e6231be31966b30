/-
  The contract of an iterator that may change any new block but its consumer's (SeqW), and the loop over it.
  slices.Collect of uint64, of any iterator that keeps its word; walked.
-/
import Derived.Test.YtcnaikoloagbdaaGreatQSeqA
import Derived.Test.YtcnaikoloagbdaaGreatQRowM
import Derived.Deep.DrawnRows
import Derived.OwnWalkIn
namespace Go.Proofs.YtcnaikoloagbdaaGreat
set_option linter.unusedVariables false
set_option linter.unusedSimpArgs false
open Go.RowKit Go.Shelf

/-- the same, of an iterator that may change any new block but its consumer's: St is what it needs and keeps, F what it changes; C: the blocks of its consumer -/
def SeqW {α : Type} (P : Program) (g : Nat) (lb : Array Value) (encs : α → Array Value) (St : World → Prop) (F : Nat → Prop) (S : List α → Prop) (N : Nat) : Prop :=
  ∀ (n l : Nat) (J : (Nat → Prop) → List α → World → Prop) (Jx : World → Prop) (C0 : Nat → Prop) (W : World),
    5 ≤ n → St W → (∀ C, Stab W.heap.size (fun b => F b ∨ (W.heap.size ≤ b ∧ ¬ C b)) (J C)) → Stab W.heap.size (fun b => F b ∨ W.heap.size ≤ b) (fun _ : Unit => Jx) →
    (∀ C pre x W1, W.heap.size ≤ W1.heap.size → (∀ k, C k → k < W1.heap.size) → J C pre W1 → St W1 → pre.length < N → YieldAt Fence.wide (n - 1) P l (encs x) W1 fun e W' =>
      (e = .returned (.bool true) ∧ St W' ∧ KeepsFrom W.heap.size W1 W' ∧ ∃ C', J C' (pre ++ [x]) W' ∧ (∀ k, C' k → (C k ∨ W1.heap.size ≤ k) ∧ k < W'.heap.size) ∧ ∀ k, k < W1.heap.size → ¬ C k → W'.heap[k]? = W1.heap[k]?) ∨
      (e = .returned (.bool false) ∧ St W' ∧ KeepsFrom W.heap.size W1 W' ∧ Jx W' ∧ ∀ k, k < W1.heap.size → ¬ C k → W'.heap[k]? = W1.heap[k]?)) →
    (∀ k, C0 k → k < W.heap.size) → J C0 [] W → CallsIn Fence.wide n P g (#[.func (.yield l) #[] #[]] ++ lb) W fun e W' => (∃ v, e = .returned v) ∧ St W' ∧ W.heap.size ≤ W'.heap.size ∧ ((∃ C xs, S xs ∧ J C xs W' ∧ ∀ k, C k → k < W'.heap.size) ∨ Jx W')
theorem range_W {α : Type} {n : Nat} {P : Program} {g : Operand} {ps : Array Tmp} {assign body : Code} {Q : Exit → Act → World → Prop} {a : Act} {w : World} (h1 : 6 ≤ n)
    {gf : Nat} {lb : Array Value} (hg : a.eval g = .func (.func gf) #[] lb) (eg : ∀ args w, (callFunc gf args).run P w = .ok (.enter gf args) w)
    {encs : α → Array Value} {St : World → Prop} {F R : Nat → Prop} {S : List α → Prop} {N : Nat} (hseq : SeqW P gf lb encs St F S N)
    (hSR : ∀ X Y, St X → (∀ b, R b → Y.heap[b]? = X.heap[b]?) → St Y) (hR : ∀ b, R b → b < w.heap.size) (hFR : ∀ b, F b → R b) (hSt : St w) (hps : ∀ x, (encs x).size = ps.size)
    (I : (Nat → Prop) → List α → World → Prop) (Ix : Code → World → Prop) (hI : ∀ C, Stab w.heap.size (fun b => F b ∨ (w.heap.size ≤ b ∧ ¬ C b)) (I C)) (hIx : Stab w.heap.size (fun b => F b ∨ w.heap.size ≤ b) Ix)
    (C0 : Nat → Prop) (hC0 : ∀ k, C0 k → k < w.heap.size) (h0 : I C0 [] w) (Ax : α → Act → World → Prop) (hAx : ∀ x a', OwnFrom w.heap.size (fun (_ : Unit) W => Ax x a' W))
    (hassign : ∀ (l : Nat) (C : Nat → Prop) (pre : List α) (x : α) (W : World) (K : Act → World → Prop), I C pre W → (∀ a' W', KeepsFrom w.heap.size W W' → Below W.heap.size W W' → I C pre W' → Ax x a' W' → K a' W') →
      assign.wpIn (Fence.wide.inRound l) (n - 1 - 1) P (Exit.then K (fun _ _ _ => False)) { tmps := (ps.zip (encs x)).foldl (fun t (p, v) => t.setIfInBounds p v) a.tmps, defers := [] } W)
    (hbody : ∀ (l : Nat) (C : Nat → Prop) (pre : List α) (x : α) (a' : Act) (W : World), w.heap.size ≤ l → w.heap.size + 2 ≤ W.heap.size → (∀ k, C k → k < W.heap.size) → I C pre W → St W → Ax x a' W → pre.length < N → body.wpIn (Fence.wide.inRound l) (n - 1 - 1) P (postF w.heap.size C St (fun C' => I C' (pre ++ [x])) Ix W) a' W)
    (hdone : ∀ (D : Nat) (C : Nat → Prop) (xs : List α) (W : World), w.heap.size ≤ D → S xs → I C xs W → St W → w.heap.size + 2 ≤ W.heap.size → (∀ k, C k → k < W.heap.size) → W.heap[D]? = some (.deferred (some [])) → Q .normal { a with defers := { target := .collected D, args := #[] } :: a.defers } W)
    (hstop : ∀ (D : Nat) (c : Code) (W : World), w.heap.size ≤ D → Ix c W → St W → W.heap[D]? = some (.deferred (some [])) → c.wpIn Fence.wide n P Q { a with defers := { target := .collected D, args := #[] } :: a.defers } W) :
    (Code.rangeFunc g ps assign body).wpIn Fence.wide n P Q a w := by
  refine wpIn_rangeFunc (fun fn hfn => ?_)
  obtain ⟨D, hD⟩ : ∃ D, D = w.heap.size := ⟨_, rfl⟩
  obtain ⟨L, hL⟩ : ∃ L, L = w.heap.size + 1 := ⟨_, rfl⟩
  obtain ⟨rc, hrc⟩ : ∃ rc : LoopState → Option Code → Loop, rc = fun st pe => { state := st, pending := pe, fn, tmps := a.tmps, params := ps, assign, body, defers := w.heap.size } := ⟨_, rfl⟩
  obtain ⟨W1, hW1⟩ : ∃ W1, W1 = (w.alloc (.deferred (some []))).alloc (.loop (rc .ready none)) := ⟨_, rfl⟩
  have s1 : W1.heap.size = w.heap.size + 1 + 1 := by rw [hW1]; simp
  have bD : W1.heap[D]? = some (.deferred (some [])) := by rw [hW1, hD]; exact blk_old (heap_alloc_new w _) _
  have bL : W1.heap[L]? = some (.loop (rc .ready none)) := by rw [hW1, hL]; have := heap_alloc_new (w.alloc (.deferred (some []))) (.loop (rc .ready none)); rwa [World.size_alloc] at this
  have i1 : I C0 [] W1 := by rw [hW1]; exact (hI C0).own.alloc _ ((hI C0).own.alloc _ h0)
  have b1 : Below w.heap.size w W1 := by rw [hW1]; exact ((Below.refl _ w).alloc (Nat.le_refl _) _).alloc (by simp) _
  have t1 : St W1 := hSR _ _ hSt (fun b hb => b1.block b (hR b hb))
  have hFL : ¬ F L := fun h => by have := hR _ (hFR _ h); omega
  have hFD : ¬ F D := fun h => by have := hR _ (hFR _ h); omega
  refine ⟨L, [{ target := .collected D, args := #[] }], W1, { target := .fn (.func gf) lb, args := #[.func (.yield L) #[] #[]] }, W1, gf, #[.func (.yield L) #[] #[]] ++ lb, W1, ?_, ?_, fun _ _ => trivial, ?_, fun _ => by omega, ?_⟩
  · rw [hW1, hrc, hL, hD]; exact run_enterLoop_outer _ _ _ _ _
  · simp only [resolve, hg]; simp [go_sem]
  · simp [invoke, go_sem, eg]
  refine (hseq (n - 1) L
    (fun E pre W => ∃ C, (∀ k, E k ↔ (C k ∨ k = L)) ∧ I C pre W ∧ (W.heap[L]? = some (.loop (rc .ready none)) ∧ W.heap[D]? = some (.deferred (some []))))
    (fun W => ∃ c, Ix c W ∧ W.heap[L]? = some (.loop (rc .done (some c))) ∧ W.heap[D]? = some (.deferred (some []))) (fun k => C0 k ∨ k = L) W1 (by omega) t1
    (fun E => ⟨fun s A B row hs hg' hr => by
      obtain ⟨C, hE, hc, hl, hk⟩ := hs
      exact ⟨C, hE, ownFrom_mono (hI C).own (by omega) s A B row hc hg' hr, (hg'.block L (blk_lt hl) (fun e => by have := (hr L e.symm).1; omega)).trans hl, (hg'.block D (blk_lt hk) (fun e => by have := (hr D e.symm).1; omega)).trans hk⟩,
     fun s A B hs hc' => by
      obtain ⟨C, hE, hc, hl, hk⟩ := hs
      exact ⟨C, hE, (hI C).chg s A B hc (hc'.mono (fun b _ hb => hb.imp id (fun h => ⟨by omega, fun e => h.2 ((hE b).2 (.inl e))⟩))), hc'.blk hl (fun h => h.elim hFL (fun h => by omega)), hc'.blk hk (fun h => h.elim hFD (fun h => by omega))⟩⟩)
    ⟨fun s A B row hs hg' hr => by
      obtain ⟨c, hc, hl, hk⟩ := hs
      exact ⟨c, ownFrom_mono hIx.own (by omega) c A B row hc hg' hr, (hg'.block L (blk_lt hl) (fun e => by have := (hr L e.symm).1; omega)).trans hl, (hg'.block D (blk_lt hk) (fun e => by have := (hr D e.symm).1; omega)).trans hk⟩,
     fun s A B hs hc' => by
      obtain ⟨c, hc, hl, hk⟩ := hs
      exact ⟨c, hIx.chg c A B hc (hc'.mono (fun b _ hb => hb.imp id (fun h => by omega))), hc'.blk hl (fun h => h.elim hFL (fun h => by omega)), hc'.blk hk (fun h => h.elim hFD (fun h => by omega))⟩⟩
    ?_ (fun k hk => by rcases hk with hk | hk; have := hC0 k hk; omega; omega) ⟨C0, fun _ => Iff.rfl, i1, bL, bD⟩).mono ?_
  · rintro E pre x W hWW hEb ⟨C, hE, hi, hl, hd⟩ ht hlen
    have hCb : ∀ k, C k → k < W.heap.size := fun k hk => hEb k ((hE k).2 (.inl hk))
    have hy := run_yield (P := P) (args := encs x) hl (by rw [hrc]; exact hps x)
    rw [hrc] at hy
    refine ⟨fn, _, assign, body, hy, roundIn_of_wpIn hfn (hassign L C pre x W _ hi ?_)⟩
    intro a' W2 k2 b2 i2 x2
    have hsz2 := b2.size
    have l2 : W2.heap[L]? = _ := k2.same L _ (by omega) hl rfl
    have d2 : W2.heap[D]? = _ := k2.same D _ (by omega) hd rfl
    have lt2 := blk_lt l2
    have t2 : St W2 := hSR _ _ ht (fun b hb => b2.block b (by have := hR b hb; omega))
    obtain ⟨bz, hbz⟩ : ∃ bz : Loop, bz = { rc .ready none with state := .busy } := ⟨_, rfl⟩
    have l3 : (W2.putObj L (.loop bz)).heap[L]? = some (.loop bz) := World.putObj_heap_same lt2
    have d3 : (W2.putObj L (.loop bz)).heap[D]? = some (.deferred (some [])) := (World.putObj_heap_other (by omega)).trans d2
    have t3 : St (W2.putObj L (.loop bz)) := hSR _ _ t2 (same_put hR (by omega))
    have hp2 := put_size W2 L (.loop bz)
    have hbg := run_beginRound (P := P) l2 (by rw [hrc])
    rw [← hbz] at hbg
    refine ⟨_, hbg, ?_⟩
    refine wpIn_mono (hbody L C pre x a' _ (by omega) (by omega) (fun k hk => by have := hCb k hk; omega) ((hI C).own.putObj _ i2 (by omega) l2 rfl) t3 ((hAx x a').putObj (s := ()) _ x2 (by omega) l2 rfl) hlen) ?_
    have fin : ∀ (jump : Option Code) (W3 : World), KeepsFrom w.heap.size (W2.putObj L (.loop bz)) W3 →
        (Instr.endRound L jump).run P W3 = .ok (.bool jump.isNone) (W3.putObj L (.loop (rc (if jump.isNone then .ready else .done) jump))) ∧
        W3.heap[L]? = some (.loop bz) ∧ (W3.putObj L (.loop (rc (if jump.isNone then .ready else .done) jump))).heap[L]? = some (.loop (rc (if jump.isNone then .ready else .done) jump)) ∧
        (W3.putObj L (.loop (rc (if jump.isNone then .ready else .done) jump))).heap[D]? = some (.deferred (some [])) := fun jump W3 k3 => by
      have l4 := k3.same L _ (by omega) l3 rfl
      have d4 := k3.same D _ (by omega) d3 rfl
      have he := run_endRound (P := P) jump l4
      rw [hbz, hrc] at he
      rw [hrc]
      exact ⟨he, l4, World.putObj_heap_same (blk_lt l4), (World.putObj_heap_other (by omega)).trans d4⟩
    have keep : ∀ (W3 : World), (∀ k, k < (W2.putObj L (.loop bz)).heap.size → ¬ C k → W3.heap[k]? = (W2.putObj L (.loop bz)).heap[k]?) → ∀ (o : Obj) k, k < W.heap.size → ¬ E k → (W3.putObj L o).heap[k]? = W.heap[k]? := fun W3 kb3 o k hk1 hk2 => by
      have hkL : k ≠ L := fun e => hk2 ((hE k).2 (.inr e))
      have hkC : ¬ C k := fun e => hk2 ((hE k).2 (.inl e))
      exact (World.putObj_heap_other hkL).trans ((kb3 k (by omega) hkC).trans ((World.putObj_heap_other hkL).trans (b2.block k hk1)))
    rintro e a3 W3 hp
    cases e with
    | normal =>
      obtain ⟨k3, t4, C', i3, hC', kb3⟩ := hp
      obtain ⟨he, l4, l5, d5⟩ := fin none W3 k3
      refine ⟨_, _, he, .inl ⟨rfl, hSR _ _ t4 (same_put hR (by omega)), (keepsFrom_mono k2 (by omega)).trans ((keepsFrom_put (by omega)).trans ((keepsFrom_mono k3 (by omega)).trans (keepsFrom_put (by omega)))), (fun k => C' k ∨ k = L), ⟨C', fun _ => Iff.rfl, (hI C').own.putObj _ i3 (by omega) l4 rfl, l5, d5⟩, fun k hk => ?_, fun k hk1 hk2 => ?_⟩⟩
      · rw [put_size]
        rcases hk with hk | hk
        · obtain ⟨h3, h4⟩ := hC' k hk
          refine ⟨?_, h4⟩
          rcases h3 with h3 | h3
          · exact .inl ((hE k).2 (.inl h3))
          · exact .inr (by omega)
        · exact ⟨.inl ((hE k).2 (.inr hk)), by have := blk_lt l4; omega⟩
      · have hkL : k ≠ L := fun e => hk2 ((hE k).2 (.inr e))
        have hkC : ¬ C k := fun e => hk2 ((hE k).2 (.inl e))
        exact (World.putObj_heap_other hkL).trans ((kb3 k (by omega) hkC).trans ((World.putObj_heap_other hkL).trans (b2.block k hk1)))
    | ret =>
      obtain ⟨k3, t4, i3, kb3⟩ := hp
      obtain ⟨he, l4, l5, d5⟩ := fin (some .ret) W3 k3
      exact ⟨_, _, he, .inr ⟨rfl, hSR _ _ t4 (same_put hR (by omega)), (keepsFrom_mono k2 (by omega)).trans ((keepsFrom_put (by omega)).trans ((keepsFrom_mono k3 (by omega)).trans (keepsFrom_put (by omega)))), ⟨.ret, hIx.own.putObj _ i3 (by omega) l4 rfl, l5, d5⟩, keep W3 kb3 _⟩⟩
    | exit id =>
      obtain ⟨k3, t4, i3, kb3⟩ := hp
      obtain ⟨he, l4, l5, d5⟩ := fin (some (.exit id)) W3 k3
      exact ⟨_, _, he, .inr ⟨rfl, hSR _ _ t4 (same_put hR (by omega)), (keepsFrom_mono k2 (by omega)).trans ((keepsFrom_put (by omega)).trans ((keepsFrom_mono k3 (by omega)).trans (keepsFrom_put (by omega)))), ⟨.exit id, hIx.own.putObj _ i3 (by omega) l4 rfl, l5, d5⟩, keep W3 kb3 _⟩⟩
    | goto t =>
      obtain ⟨k3, t4, i3, kb3⟩ := hp
      obtain ⟨he, l4, l5, d5⟩ := fin (some (.goto t)) W3 k3
      exact ⟨_, _, he, .inr ⟨rfl, hSR _ _ t4 (same_put hR (by omega)), (keepsFrom_mono k2 (by omega)).trans ((keepsFrom_put (by omega)).trans ((keepsFrom_mono k3 (by omega)).trans (keepsFrom_put (by omega)))), ⟨.goto t, hIx.own.putObj _ i3 (by omega) l4 rfl, l5, d5⟩, keep W3 kb3 _⟩⟩
    | panic ch => exact hp.elim
    | outgrown => exact hp.elim
  · rintro e W2 ⟨⟨v, rfl⟩, ht, hsz, (⟨E, xs, hS, ⟨C, hE, hi, hl, hd⟩, hEb⟩ | ⟨c, hi, hl, hd⟩)⟩
    · have he := run_endLoop (P := P) hl (by rw [hrc]; simp)
      rw [hrc] at he
      exact ⟨none, _, he, hdone D C xs _ (by omega) hS ((hI C).own.putObj _ hi (by omega) hl rfl) (hSR _ _ ht (same_put hR (by omega))) (by rw [put_size]; omega) (fun k hk => by rw [put_size]; exact hEb k ((hE k).2 (.inl hk))) ((World.putObj_heap_other (by omega)).trans hd)⟩
    · have he := run_endLoop (P := P) hl (by rw [hrc]; simp)
      rw [hrc] at he
      exact ⟨some c, _, he, hstop D c _ (by omega) (hIx.own.putObj _ hi (by omega) hl rfl) (hSR _ _ ht (same_put hR (by omega))) ((World.putObj_heap_other (by omega)).trans hd)⟩
theorem SeqF.toW {α : Type} {P : Program} {g : Nat} {lb : Array Value} {encs : α → Array Value} {St : World → Prop} {F : Nat → Prop} {S : List α → Prop} {N : Nat} (h : SeqF P g lb encs St F S N) : SeqW P g lb encs St F S N := by
  intro n l J Jx C0 W hn hst hJ hJx hY hC0 h0
  exact h n l J Jx C0 W hn hst (fun C => (hJ C).mono (Nat.le_refl _) (fun b h => .inl h)) (hJx.mono (Nat.le_refl _) (fun b h => .inl h)) hY hC0 h0
/-- an iterator as a value -/
structure ItW {α : Type} (P : Program) (v : Value) (encs : α → Array Value) (St : World → Prop) (F R : Nat → Prop) (S : List α → Prop) (N : Nat) : Prop where
  seq : ∃ gf lb, v = .func (.func gf) #[] lb ∧ (∀ args w, (callFunc gf args).run P w = .ok (.enter gf args) w) ∧ SeqW P gf lb encs St F S N
  stay : ∀ X Y, St X → (∀ b, R b → Y.heap[b]? = X.heap[b]?) → St Y
  sub : ∀ b, F b → R b
theorem It.toW {α : Type} {P : Program} {v : Value} {encs : α → Array Value} {St : World → Prop} {F R : Nat → Prop} {S : List α → Prop} {N : Nat} (h : It P v encs St F R S N) : ItW P v encs St F R S N := by
  obtain ⟨⟨gf, lb, e1, e2, e3⟩, h2, h3⟩ := h
  exact ⟨⟨gf, lb, e1, e2, e3.toW⟩, h2, h3⟩
end Go.Proofs.YtcnaikoloagbdaaGreat
namespace Go.Proofs.YtcnaikoloagbdaaGreat
set_option linter.unusedVariables false
set_option linter.unusedSimpArgs false
open Go.RowKit Go.Shelf
attribute [local go_sem] Oper.semAt_some
attribute [local go_sem ↓] Go.wp_at_zero Go.wp_at_succ
theorem u64_info : (Tryz.prog.info? 22).map (fun i => (i.zero, i.size, i.bytes)) = some (some (.int .u64 0), 1, 8) := by kernel_rfl
theorem Own.kept {k : IntKind} {e : TypeId} {w w' : World} {base : Nat} {v : Value} {l : List Int} {row : Option Nat} (h : Own k e w base v l) (hg : w.grownBy w' row) (hne : row = none ∨ row ≠ v.ownBlock) : Own k e w' base v l := by
  obtain ⟨h1, h2⟩ := h
  refine ⟨h1, ?_⟩
  rcases h2 with h2 | ⟨g, cap, cur, rfl, hg', hh, hr⟩
  · exact .inl h2
  · refine .inr ⟨g, cap, cur, rfl, hg', (hg.block g (blk_lt hh) (fun e => ?_)).trans hh, hr⟩
    rcases hne with h | h
    · rw [h] at e; cases e
    · exact h (by rw [← e]; rfl)
theorem Own.cells {k : IntKind} {e : TypeId} {w : World} {base : Nat} {v : Value} {l : List Int} (h : Own k e w base v l) : ∀ g, v.ownBlock = some g → ∃ cs, w.heap[g]? = some (.cells cs e (0, 0)) := rowG_ty h
theorem Own.chg {S : Nat → Prop} {k : IntKind} {e : TypeId} {w w' : World} {base : Nat} {v : Value} {l : List Int} (h : Own k e w base v l) (hc : Chg S w w') (hn : ∀ g, v.ownBlock = some g → ¬ S g) : Own k e w' base v l := rowG_chg h hc hn
theorem Own.asRow {k : IntKind} {e : TypeId} {w : World} {base : Nat} {v : Value} {l : List Int} (h : Own k e w base v l) : w.ownsRow base e 1 v l.length (l.map (Value.int k)) := h
theorem one_cell (W : World) (u : Value) (t : TypeId) : ∀ j x, [u][j]? = some x → (W.alloc (.cells #[u] t)).cell? ((⟨W.heap.size, 0, none⟩ : Addr).add j) = some x := fun j x hj => by
  rcases j with _ | j
  · rw [add_mk]
    simp at hj
    subst hj
    exact blk_cell (blk_new W _ _) 0 rfl
  · simp at hj
theorem one_one (k : IntKind) (x : Int) : ∀ u ∈ [Value.int k x], u.oneCell' = true := fun u hu => by simp at hu; subst hu; rfl
theorem ownFrom_Own {β : Type} (B0 : Nat) (B : Nat) (t e : TypeId) (k : IntKind) (base : Nat) (f : β → List Int) : OwnFrom B0 (fun (s : β) (W : World) => ∃ v, W.heap[B]? = some (.cells #[v] t (0, 0)) ∧ Own k e W base v (f s)) := fun s X Y row hs hg hr => by
  obtain ⟨v, h1, h2⟩ := hs
  refine ⟨v, ownFrom_blk B0 B (fun _ : Unit => #[v]) t () X Y row h1 hg hr, h2.kept hg ?_⟩
  rcases row with _ | r
  · exact .inl rfl
  · refine .inr (fun e' => ?_)
    obtain ⟨_, o, ho, hc⟩ := hr r rfl
    obtain ⟨cs, hcs⟩ := h2.cells r e'.symm
    rw [hcs] at ho
    cases ho
    cases hc
theorem stab_Own {β : Type} {F : Nat → Prop} {B0 : Nat} {B : Nat} (t e : TypeId) (k : IntKind) (base : Nat) (f : β → List Int) (hB : ¬ F B) (hF : ∀ b, F b → b < base) : Stab B0 F (fun (s : β) (W : World) => ∃ v, W.heap[B]? = some (.cells #[v] t (0, 0)) ∧ Own k e W base v (f s)) :=
  ⟨ownFrom_Own _ _ _ _ _ _ _, fun s X Y hs hc => by
    obtain ⟨v, h1, h2⟩ := hs
    exact ⟨v, hc.blk h1 hB, h2.chg hc (fun g hg hf => by have := (h2.block g hg).1; have := hF g hf; omega)⟩⟩
/-- append to a row of the call's own, in a fence: where the row lies then -/
theorem listIn_append {Fe : Fence} {n : Nat} {P : Program} (w : World) {ops : Array Oper} {rest : List Oper} {o : Oper} {a : Act} {Q : Exit → Act → World → Prop}
    (hg : o.guard = none) (s x : Operand) (t : TypeId) (hop : o.op = Op.call { callee := Callee.builtin Builtin.append, args := #[s, x], argTypes := #[t, t] })
    (base : Nat) (e : TypeId) (i : TypeInfo) (z : Value) (size bytes : Nat) (h1 : P.underlying t = some (.slice e)) (h2 : P.info? e = some i) (h3 : i.zero = some z) (h4 : i.size = size) (h5 : i.bytes = bytes) (h6 : z.cells.size = size) (h7 : 0 < size)
    (v : Value) (k : Nat) (xs : List Value) (hs : a.eval s = v) (hown : w.ownsRow base e size v k xs) (ad : Addr) (m c : Nat) (news : List Value) (hx : a.eval x = .slice (some ad) m c) (hn : news.length = m * size)
    (hc : ∀ j u, news[j]? = some u → w.cell? (ad.add j) = some u) (h1c : ∀ u ∈ news, u.oneCell' = true) (b1 : k + m ≤ maxLen) (b2 : (k + m) * bytes ≤ 140737488355328) (b3 : base ≤ w.heap.size)
    (hK : ∀ v' w', w'.ownsRow base e size v' (k + m) (xs ++ news) → w.grownBy w' v.ownBlock → (v'.ownBlock = v.ownBlock ∨ v'.ownBlock = some w.heap.size) → wpListIn Fe n P ops Q rest (a.put o.dst v') w') :
    wpListIn Fe n P ops Q (o :: rest) a w := by
  refine wpListIn_plain hg fun K hK' => ?_
  obtain ⟨v', w', hrun, r1, r2, _, r4⟩ := run_append_own_at (P := P) w base t o.type e i z size bytes h1 h2 h3 h4 h5 h6 h7 v k xs hown ad m c news hn hc h1c b1 b2 b3
  unfold Oper.wpIn
  refine ⟨?_, ?_⟩
  · simp [Oper.about, hop, resolve, Target.leads, Sem.run_pure]
  · rw [Oper.semAt_plain Fe _ _ (by rw [hop]; intro c hc'; cases hc')]
    simp [execOp, hop, resolve, invoke, builtin, hs, hx, hrun, Result.andThen]
    exact hK' _ _ (hK v' w' r1 r2 r4)
theorem stab_OwnC {F : Nat → Prop} {B0 : Nat} {B : Nat} (t e : TypeId) (k : IntKind) (base : Nat) (C : Nat → Prop) (hB : ¬ F B) (hF : ∀ b, F b → b < base) : Stab B0 F (fun (s : List Int) (W : World) => ∃ v, (W.heap[B]? = some (.cells #[v] t (0, 0)) ∧ Own k e W base v s) ∧ ∀ q, C q ↔ (q = B ∨ v.ownBlock = some q)) :=
  by
  constructor
  · intro s X Y row hs hg hr
    obtain ⟨v, ⟨h1, h2⟩, h3⟩ := hs
    refine ⟨v, ⟨ownFrom_blk B0 B (fun _ : Unit => #[v]) t () X Y row h1 hg hr, h2.kept hg ?_⟩, h3⟩
    rcases row with _ | r
    · exact .inl rfl
    · refine .inr (fun e' => ?_)
      obtain ⟨_, o, ho, hc⟩ := hr r rfl
      obtain ⟨cs, hcs⟩ := h2.cells r e'.symm
      rw [hcs] at ho
      cases ho
      cases hc
  · intro s X Y hs hc
    obtain ⟨v, ⟨h1, h2⟩, h3⟩ := hs
    exact ⟨v, ⟨hc.blk h1 hB, h2.chg hc (fun g hg hf => by have := (h2.block g hg).1; have := hF g hf; omega)⟩, h3⟩
theorem stab_OwnW {F : Nat → Prop} {B0 B1 : Nat} {B : Nat} (t e : TypeId) (k : IntKind) (base : Nat) (C : Nat → Prop) (hB : ¬ F B) (hF : ∀ b, F b → b < base) : Stab B0 (fun b => F b ∨ (B1 ≤ b ∧ ¬ C b)) (fun (s : List Int) (W : World) => ∃ v, (W.heap[B]? = some (.cells #[v] t (0, 0)) ∧ Own k e W base v s) ∧ ∀ q, C q ↔ (q = B ∨ v.ownBlock = some q)) :=
  ⟨(stab_OwnC (F := F) t e k base C hB hF).own, fun s X Y hs hc => by
    obtain ⟨v, ⟨h1, h2⟩, h3⟩ := hs
    exact ⟨v, ⟨hc.blk h1 (fun h => h.elim hB (fun h => h.2 ((h3 B).2 (.inl rfl)))), h2.chg hc (fun g hg hf => by
      rcases hf with hf | hf
      · have := (h2.block g hg).1; have := hF g hf; omega
      · exact hf.2 ((h3 g).2 (.inr hg)))⟩, h3⟩⟩
/-- keys as they are yielded -/
def k1 (x : Int) : Array Value := #[.int .u64 x]
attribute [local go_sem] k1
set_option maxRecDepth 100000 in
set_option maxHeartbeats 4000000 in
theorem appendW (v : Value) {St : World → Prop} {F R : Nat → Prop} {S : List Int → Prop} {N : Nat} (hN : N ≤ 100000) (hit : ItW Tryz.prog v k1 St F R S N) (w : World) (hSt : St w) (hR : ∀ b, R b → b < w.heap.size) :
    Calls Tryz.prog 160 #[.slice none 0 0, v] w fun e w' => ∃ r xs, e = .returned r ∧ S xs ∧ Own .u64 22 w' w.heap.size r xs ∧ St w' ∧ Chg F w w' := by
  obtain ⟨i0, hi, hz0, hz1, hz2⟩ := info_parts u64_info
  obtain ⟨⟨gf, lb, rfl, heg, hseq⟩, hstay, hsub⟩ := hit
  have HST := Lib.hid hSt
  have HSTAY := Lib.hid hstay
  have HRW := Lib.hid hR
  have HF := Lib.hid (show ∀ b, F b → b < w.heap.size from fun b h => hR b (hsub b h))
  have hnF : ¬ F w.heap.size := fun h => by have := HF.out _ h; omega
  clear hSt
  refine (callsIn_wide (n := 9)).1 ?_
  refine callsIn_of_wp_marks Tryz.func160 rfl trivial ?_ rfl
  simp only [Tryz.ntmps160, List.size_toArray, List.length_cons, List.length_nil, Nat.reduceAdd, Nat.reduceSub, Array.replicate_succ, Array.replicate_zero, List.push_toArray, List.append_toArray, List.nil_append, List.cons_append]
  gi_wp2
  obtain ⟨W0, hW0⟩ : ∃ W0, W0 = w.alloc (.cells #[.slice none 0 0] 29) := ⟨_, rfl⟩
  rw [← hW0]
  have s0 : W0.heap.size = w.heap.size + 1 := by rw [hW0]; simp
  have HB0 := Lib.hid (show Below w.heap.size w W0 by rw [hW0]; exact (Below.refl _ w).alloc (Nat.le_refl _) _)
  have HS0 := Lib.hid (show W0.heap[w.heap.size]? = some (.cells #[.slice none 0 0] 29 (0, 0)) by rw [hW0]; exact blk_new w _ _)
  clear hW0
  refine range_W (R := R) (by decide) (gf := gf) (lb := lb) rfl heg hseq hstay (fun b h => by have := hR b h; omega) hsub (hstay _ _ HST.out (fun b h => HB0.out.block b (hR b h))) (fun _ => rfl)
    (fun C pre V => (∃ v, (V.heap[w.heap.size]? = some (.cells #[v] 29 (0, 0)) ∧ Own .u64 22 V (w.heap.size + 1) v pre) ∧ ∀ q, C q ↔ (q = w.heap.size ∨ v.ownBlock = some q)) ∧ Chg F w V)
    (fun _ _ => False)
    (fun C => (stab_OwnW 29 22 .u64 (w.heap.size + 1) C hnF (fun b h => by have := HF.out b h; omega)).and (stab_chg (by omega) (fun b h => h.imp id (fun h => by omega))))
    (stab_pure _ _ _)
    (fun q => q = w.heap.size) (fun q hq => by omega)
    ⟨⟨_, ⟨HS0.out, Own.nil _ _ _ _⟩, fun q => ⟨fun e => .inl e, fun e => by rcases e with e | e; exact e; cases e⟩⟩, Chg.of_below HB0.out⟩
    (fun x a' V => a' = { tmps := #[.slice none 0 0, .func (.func gf) #[] lb, .pointer (some ⟨w.heap.size, 0, none⟩), undef, .slice none 0 0, .int .u64 x, .func (.func gf) #[] lb, .int .u64 x, undef, undef, undef, undef, undef], defers := [] })
    (fun x a' _ _ _ _ h _ _ => h) ?assign ?body ?done (fun _ _ _ _ h => h.elim)
  case assign =>
    clear hstay hsub hseq hR heg
    intro l2 C pre x V K hI hK
    gi_wp2
    exact hK _ _ (KeepsFrom.refl _ _) (Below.refl _ _) hI rfl
  case body =>
    clear hstay hsub hseq hR heg
    rintro l2 C pre x a' V hl2 hM2 hCb ⟨⟨v, ⟨hv, ho⟩, hCv⟩, hcV⟩ hst rfl hlen
    have HCVB := Lib.hid hCv
    have HO := Lib.hid ho
    have HV := Lib.hid hv
    have HCV := Lib.hid hcV
    have HSTV := Lib.hid hst
    have g1 : pre.length + 1 ≤ maxLen := by unfold maxLen; omega
    have g2 : (pre.length + 1) * 8 ≤ 140737488355328 := by omega
    have G1 := Lib.hid g1
    have G2 := Lib.hid g2
    have G3 := Lib.hid (show w.heap.size + 1 ≤ (V.alloc (.cells #[.int .u64 x] 22)).heap.size by simp; omega)
    have c0 := blk_cell hv 0 (v := v) rfl
    have HBX := Lib.hid (show ∀ w1, (V.alloc (.cells #[.int .u64 x] 22)).grownBy w1 v.ownBlock → w1.heap[w.heap.size]? = some (.cells #[v] 29 (0, 0)) from fun w1 hg => (hg.block _ (by have := blk_lt hv; simp; omega) (fun e => by have := (ho.block _ e.symm).1; omega)).trans (blk_old hv _))
    clear hv ho hcV g1 g2 hst hCv
    gi_wp2_with (gi_at_builtin; refine listIn_append _ rfl _ _ 29 rfl (w.heap.size + 1) 22 i0 (.int .u64 0) 1 8 Tryz.underlying29 hi hz0 hz1 hz2 rfl (by decide) _ _ _ rfl (HO.out.below ((Below.refl _ _).alloc (Nat.le_refl _) _)).asRow ⟨V.heap.size, 0, none⟩ 1 1 [.int .u64 x] rfl rfl (one_cell V _ _) (one_one _ _) G1.out G2.out G3.out ?_; intro v' w1 hown' hgrow hown2; have HV2 := Lib.hid hown2; clear hown2; obtain ⟨g', cap', rfl⟩ := ownsRow_succ hown'; have hb1 := HBX.out _ hgrow; have c1 := blk_cell hb1 0 (v := v) rfl; have f1 := blk_free hb1 0; have HN := Lib.hid hown'; have HG := Lib.hid hgrow; have HB1 := Lib.hid hb1; clear hown' hgrow hb1)
    have HG2 : (V.alloc (.cells #[.int .u64 x] 22)).grownBy w1 v.ownBlock := HG.out
    have hvb := fun g hg => (HO.out.block g hg).1
    have hV1 : V.heap.size ≤ w1.heap.size := by have := HG2.size; simp at this; omega
    have HON : Own .u64 22 w1 (w.heap.size + 1) (.slice (some ⟨g', 0, none⟩) (pre.length + 1) cap') (pre ++ [x]) := by
      have h := HN.out
      unfold Own
      rw [List.length_append, List.map_append]
      exact h
    have hgb := HON.block g' rfl
    have hS1 : Below w.heap.size V w1 := ((Below.refl _ V).alloc (by omega) _).grown HG2 (by simp; omega) (fun g hg => by have := hvb g hg; omega)
    have hS2 : Below w.heap.size V (w1.setCell ⟨w.heap.size, 0, none⟩ (.slice (some ⟨g', 0, none⟩) (pre.length + 1) cap')) := hS1.setCell (p := ⟨w.heap.size, 0, none⟩) (Nat.le_refl _) _
    refine ⟨?_, HSTAY.out _ _ HSTV.out (fun b h => hS2.block b (HRW.out b h)), (fun q => q = w.heap.size ∨ q = g'), ⟨⟨_, ⟨blk_set HB1.out 0 _, ?_⟩, fun q => ⟨fun e => e.imp id (fun e => by rw [e]; rfl), fun e => e.imp id (fun e => by simp only [Value.ownBlock, Option.some.injEq] at e; exact e.symm)⟩⟩, ?_⟩, ?_, ?_⟩
    · refine (KeepsOthers.trans (KeepsOthers.alloc V _) (KeepsOthers.trans (KeepsOthers.of_grownBy HG2 (fun j o ej hj => ?_)) (KeepsOthers.setCell _ _ _))).from _
      obtain ⟨cs, hcs⟩ := HO.out.cells j ej
      rw [blk_old hcs _] at hj
      cases hj
      rfl
    · exact HON.chg (S := (· = w.heap.size)) ((Chg.refl _ _).set _ (.inl rfl)) (fun g hg e => by have e' : g = w.heap.size := e; simp only [Value.ownBlock, Option.some.injEq] at hg; omega)
    · exact HCV.out.trans (Chg.of_belowB (S := fun b => w.heap.size ≤ b) hS2 HCV.out.size (fun k h1 _ => h1)) (fun b hb h => by omega)
    · intro k hk
      rw [World.size_setCell]
      rcases hk with hk | hk
      · exact ⟨.inl ((HCVB.out k).2 (.inl hk)), by omega⟩
      · refine ⟨?_, by omega⟩
        subst hk
        rcases HV2.out with h | h
        · exact .inl ((HCVB.out k).2 (.inr (show v.ownBlock = some k from h.symm)))
        · simp only [Value.ownBlock, World.size_alloc, Option.some.injEq] at h; exact .inr (by omega)
    · intro k hk1 hk2
      have n1 : k ≠ w.heap.size := fun e => hk2 ((HCVB.out k).2 (.inl e))
      have n2 : v.ownBlock ≠ some k := fun e => hk2 ((HCVB.out k).2 (.inr e))
      rw [Below.heap_setCell w1 ⟨w.heap.size, 0, none⟩ _ k n1, HG2.block k (by simp; omega) (fun e => n2 e.symm)]
      exact (World.grownBy_alloc V _ none).block k hk1 (by intro e; cases e)
  case done =>
    clear hstay hsub hseq hR heg
    rintro D C xs V hD hxs ⟨⟨v, ⟨hv, ho⟩, _⟩, hcV⟩ hst hM _ hK
    have c0 := blk_cell hv 0 (v := v) rfl
    have HO := Lib.hid ho
    have HCV := Lib.hid hcV
    have HXS := Lib.hid hxs
    have HSTV := Lib.hid hst
    clear hv ho hcV hxs hst
    gi_wp2
    refine ⟨by simp, .inl ⟨_, _, rfl, run_takeDeferred hK, ?_⟩⟩
    refine ⟨_, results_tmp rfl _ _ _, _, xs, rfl, HXS.out, (HO.out.kept (grownBy_putObj' V D _) (.inr (fun e => ?_))).mono (by omega), HSTAY.out _ _ HSTV.out (same_put HRW.out (by omega)), chg_putObj HCV.out (by omega)⟩
    obtain ⟨cs, hcs⟩ := HO.out.cells D e.symm
    rw [hK] at hcs
    cases hcs
set_option maxRecDepth 100000 in
set_option maxHeartbeats 1000000 in
theorem collectW (v : Value) {St : World → Prop} {F R : Nat → Prop} {S : List Int → Prop} {N : Nat} (hN : N ≤ 100000) (hit : ItW Tryz.prog v k1 St F R S N) (w : World) (hSt : St w) (hR : ∀ b, R b → b < w.heap.size) :
    Calls Tryz.prog 132 #[v] w fun e w' => ∃ r xs, e = .returned r ∧ S xs ∧ Own .u64 22 w' w.heap.size r xs ∧ St w' ∧ Chg F w w' := by
  have HC := Lib.hid (appendW v hN hit w hSt hR)
  clear hit hSt hR hN
  go_enter Tryz.func132, Tryz.ntmps132
  go_wp2_with fail
  refine HC.out.mono ?_
  rintro e w1 ⟨r, xs, rfl, hs, ho, hst, hc⟩
  have HS := Lib.hid hs
  have HO := Lib.hid ho
  have HST := Lib.hid hst
  have HCC := Lib.hid hc
  clear hs ho hst hc HC
  go_wp2
  go_ret
  exact ⟨_, xs, rfl, HS.out, HO.out, HST.out, HCC.out⟩
theorem collectF (v : Value) {St : World → Prop} {F R : Nat → Prop} {S : List Int → Prop} {N : Nat} (hN : N ≤ 100000) (hit : It Tryz.prog v k1 St F R S N) (w : World) (hSt : St w) (hR : ∀ b, R b → b < w.heap.size) :
    Calls Tryz.prog 132 #[v] w fun e w' => ∃ r xs, e = .returned r ∧ S xs ∧ Own .u64 22 w' w.heap.size r xs ∧ St w' ∧ Chg F w w' := collectW v hN hit.toW w hSt hR
end Go.Proofs.YtcnaikoloagbdaaGreat
