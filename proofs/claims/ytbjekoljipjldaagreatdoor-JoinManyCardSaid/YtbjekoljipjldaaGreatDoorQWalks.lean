/-
  strip.All: the iterator over the numbers of a strip, rising.
  A range over a function whose iterator itself ranges over an iterator: the contract of such an iterator asks of what holds between the rounds that it abide any turn of blocks beyond its start that are no cells (records of loops, walks); and the loop over it.
  bitmap.All: the iterator over the numbers of a bitmap, rising: it ranges over the strip's.
  slices.Collect of a bitmap's numbers; walked.
-/
import Derived.Test.YtbjekoljipjldaaGreatDoorQLists
namespace Go.Proofs.YtbjekoljipjldaaGreatDoor
set_option linter.unusedVariables false
set_option linter.unusedSimpArgs false
open Go.RowKit Go.Shelf
attribute [local go_sem] Oper.semAt_some
attribute [local go_sem ↓] Go.wp_at_zero Go.wp_at_succ
/-- the numbers below one -/
def bl (p : Nat → Bool) : Nat → List Nat
  | 0 => []
  | t + 1 => bl p t ++ (if p t then [t] else [])
theorem bl_skip (p : Nat → Bool) (f : Nat) : ∀ t, f ≤ t → (∀ i, f ≤ i → i < t → p i = false) → bl p t = bl p f
  | 0, h, _ => by obtain rfl : f = 0 := by omega
                  rfl
  | t + 1, h, hp => by
    rcases Nat.lt_or_ge t f with h1 | h1
    · obtain rfl : f = t + 1 := by omega
      rfl
    · simp only [bl]
      rw [bl_skip p f t h1 (fun i h2 h3 => hp i h2 (by omega)), hp t h1 (by omega)]
      simp
theorem bl_len (p : Nat → Bool) : ∀ t, (bl p t).length ≤ t
  | 0 => by simp [bl]
  | t + 1 => by
    have := bl_len p t
    simp only [bl, List.length_append]
    split <;> simp <;> omega
theorem bl_prefix (p : Nat → Bool) (f : Nat) : ∀ t, f ≤ t → bl p f <+: bl p t
  | 0, h => by obtain rfl : f = 0 := by omega
               exact List.prefix_refl _
  | t + 1, h => by
    rcases Nat.lt_or_ge t f with h1 | h1
    · obtain rfl : f = t + 1 := by omega
      exact List.prefix_refl _
    · exact (bl_prefix p f t h1).trans (List.prefix_append _ _)
theorem bl_hit (p : Nat → Bool) (f i : Nat) (h : f ≤ i) (hp : p i = true) (hn : ∀ j, f ≤ j → j < i → p j = false) : bl p (i + 1) = bl p f ++ [i] := by
  simp only [bl]
  rw [bl_skip p f i h hn, hp]
  rfl
theorem grown_none {w w' : World} (h : Below w.heap.size w w') : w.grownBy w' none := ⟨h.os, h.tape, h.output, h.size, fun k hk _ => h.block k hk⟩
set_option maxRecDepth 100000 in
set_option maxHeartbeats 2000000 in
theorem stAll1 (n : Nat) (hn : 1 ≤ n) (l B1 n₀ s d : Nat) (ws : List Nat) (J Jx : List Nat → World → Prop)
    (hY : ∀ pre x W, J pre W → pre.length < 70000 → YieldAt Fence.wide (n - 1) Tryz.prog l #[.int .i64 (x % 65536 : Nat)] W fun e W' =>
      (e = .returned (.bool true) ∧ J (pre ++ [x]) W' ∧ (Below n₀ W W' ∧ W'.heap[B1]? = W.heap[B1]?)) ∨ (e = .returned (.bool false) ∧ Jx (pre ++ [x]) W'))
    (hJb : ∀ pre W W', J pre W → Below W.heap.size W W' → J pre W')
    (w W : World) (hbw : Below w.heap.size w W) (hn₀ : n₀ ≤ w.heap.size) (c1 : w.heap[B1]? = some (.cells #[.pointer (some ⟨s, 0, none⟩)] 102 (0, 0))) (hs : s < n₀) (hd : d < n₀) (hg : 0 < n₀) (hS : St w s d ws) (hT : Tab64 w) (h0 : J [] W) :
    CallsIn Fence.wide n Tryz.prog 97 #[.func (.yield l) #[] #[], .pointer (some ⟨B1, 0, none⟩)] W fun e W' => (∃ v, e = .returned v) ∧
      ((∃ xs, xs = bl (wbit ws) 65536 ∧ J xs W') ∨ (∃ pre, pre <+: bl (wbit ws) 65536 ∧ Jx pre W')) := by
  obtain ⟨Rl, hRl⟩ : ∃ Rl : World → Prop, Rl = fun V => Below n₀ w V ∧ V.heap[B1]? = some (.cells #[.pointer (some ⟨s, 0, none⟩)] 102 (0, 0)) := ⟨_, rfl⟩
  have HStay := Lib.hid (show ∀ V, Rl V → St V s d ws ∧ Tab64 V ∧ V.cell? ⟨B1, 0, none⟩ = some (.pointer (some ⟨s, 0, none⟩)) from fun V hv => by
    rw [hRl] at hv
    exact ⟨⟨(hv.1.block s hs).trans hS.1, (hv.1.block d hd).trans hS.2.1, hS.2.2⟩, hT.below hv.1 hg, blk_cell hv.2 0 rfl⟩)
  have HRB := Lib.hid (show ∀ V V', Rl V → Below V.heap.size V V' → Rl V' from fun V V' hv hb => by
    rw [hRl] at hv ⊢
    exact ⟨below_also hv.1 hb (Nat.le_trans hn₀ hv.1.size), (hb.block B1 (blk_lt hv.2)).trans hv.2⟩)
  have HRK := Lib.hid (show ∀ V V', Rl V → (Below n₀ V V' ∧ V'.heap[B1]? = V.heap[B1]?) → Rl V' from fun V V' hv hb => by
    rw [hRl] at hv ⊢
    exact ⟨hv.1.trans hb.1, hb.2.trans hv.2⟩)
  have HWS := Lib.hid hS.2.2
  have HJB := Lib.hid hJb
  have HBW := Lib.hid (show Rl W by rw [hRl]; exact ⟨hbw.mono hn₀, (hbw.block B1 (blk_lt c1)).trans c1⟩)
  have hq := (HStay.out W HBW.out).2.2
  clear hS hT c1 hbw hRl
  refine callsIn_wide.2 ?_
  go_enter Tryz.func97, Tryz.ntmps97
  go_wp2_with fail
  refine (stNext s d 0 ws (by decide) _ (HStay.out W HBW.out).1 (HStay.out W HBW.out).2.1).mono ?_
  rintro e w1 ⟨v, rfl, HN, hb1⟩
  have HB1 := Lib.hid (HRB.out _ _ HBW.out hb1)
  have HJ1 := Lib.hid (hJb _ _ _ h0 hb1)
  clear hb1 hq
  go_wp2
  go_loopw [3] (fun v3 wr => ∃ (f : Nat) (v : Int), v3 = .int .i64 v ∧ f ≤ 65536 ∧ Hid (NextR ws (partsF 1100 f 65536) v) ∧ Hid (J (bl (wbit ws) f) wr) ∧ Hid (Rl wr)) (fun v3 _ => 65537 - (intOf v3 % 65537).toNat)
  case atStart => exact ⟨0, v, rfl, by decide, HN, HJ1.out, HB1.out⟩
  case round =>
    obtain ⟨f, v, rfl, hf, HN, HJ, HB⟩ := hrel
    have HNB := Lib.hid (next_bits ws HWS.out v 1100 f 65536 (by decide) (enough_all f 65536 (by decide)) HN.out)
    clear h0 hJb
    rcases HNB.out with ⟨rfl, hnone⟩ | ⟨i, rfl, hi1, hi2, hi3, hi4⟩
    · have HLAST := Lib.hid (bl_skip (wbit ws) f 65536 hf hnone)
      clear hnone
      go_wp2
      go_end0
      exact ⟨⟨_, rfl⟩, .inl ⟨_, HLAST.out.symm, HJ.out⟩⟩
    · have HHIT := Lib.hid (bl_hit (wbit ws) f i hi1 hi3 hi4)
      have HPRE := Lib.hid (show bl (wbit ws) f ++ [i] <+: bl (wbit ws) 65536 from by rw [← HHIT.out]; exact bl_prefix _ _ _ (by omega))
      obtain ⟨fn, tmps, assign, body, hy, hR⟩ := hY (bl (wbit ws) f) i wr HJ.out (by have := bl_len (wbit ws) f; omega)
      rw [Nat.mod_eq_of_lt hi2] at hy
      have hi0 : (0 : Int) ≤ i := by omega
      have hii : (i : Int) < 65536 := by omega
      clear hi3 hi4
      have hfn : Fence.wide.fn 98 := trivial
      refine (wpIn_wide (n := n)).1 ?_
      gi_wp2
      refine hR.mono ?_
      rintro e W3 (⟨rfl, hJ3, hk3⟩ | ⟨rfl, hJx3⟩)
      · have HB3 := Lib.hid (HRK.out _ _ HB.out hk3)
        have HJ3 := Lib.hid hJ3
        have hq3 := (HStay.out W3 HB3.out).2.2
        clear hJ3 hk3
        gi_wp2
        have hnx := (callsIn_wide (n := n - 1)).2 (stNext s d (i + 1) ws (by omega) W3 (HStay.out W3 HB3.out).1 (HStay.out W3 HB3.out).2.1)
        rw [show ((i + 1 : Nat) : Int) = (i : Int) + 1 from rfl] at hnx
        refine hnx.mono ?_
        rintro e w4 ⟨v4, rfl, HN4, hb4⟩
        have HB4 := Lib.hid (HRB.out _ _ HB3.out hb4)
        have HJ4 := Lib.hid (HJB.out _ _ _ HJ3.out hb4)
        have HNB4 := Lib.hid (next_bits ws HWS.out v4 1100 (i + 1) 65536 (by decide) (enough_all (i + 1) 65536 (by decide)) HN4.out)
        have hv4 := HNB4.out.bd
        have hv5 : v4 = -1 ∨ (i : Int) < v4 := by
          rcases HNB4.out with ⟨h, _⟩ | ⟨j, h, h1, _⟩
          · exact .inl h
          · right; omega
        clear hb4
        gi_wp2
        go_roundw
        case rel => exact ⟨i + 1, v4, rfl, by omega, HN4, by rw [HHIT.out]; exact HJ4.out, HB4.out⟩
        case measure =>
          simp only [intOf]
          have hv6 : v4 < 65536 := by omega
          clear hnx hR hy
          simp [intOf]
          omega
      · gi_wp2
        refine bodyPost_ret (results_none rfl _ _ _) rfl ?_
        exact ⟨⟨_, rfl⟩, .inr ⟨_, HPRE.out, hJx3⟩⟩
end Go.Proofs.YtbjekoljipjldaaGreatDoor
namespace Go.Proofs.YtbjekoljipjldaaGreatDoor
set_option linter.unusedVariables false
set_option linter.unusedSimpArgs false
open Go.RowKit Go.Shelf
/-- the contract of such an iterator, in the wide fence; it has m blocks of its own behind its start, that the rounds keep -/
def SeqO {α : Type} (m n : Nat) (P : Program) (g : Nat) (lb : Array Value) (encs : α → Array Value) (Kp : World → World → Prop) (S Sp : List α → Prop) (N : Nat) (w : World) : Prop :=
  ∀ (l : Nat) (J Jx : List α → World → Prop) (W : World), Below w.heap.size w W → OwnFrom W.heap.size J → OwnFrom W.heap.size Jx →
    (∀ pre x W1, J pre W1 → pre.length < N → W.heap.size + m ≤ W1.heap.size → YieldAt Fence.wide (n - 1) P l (encs x) W1 fun e W' =>
      (e = .returned (.bool true) ∧ J (pre ++ [x]) W' ∧ (Kp W1 W' ∧ ∀ k, W.heap.size ≤ k → k < W.heap.size + m → W'.heap[k]? = W1.heap[k]?) ∧ KeepsFrom W.heap.size W1 W') ∨ (e = .returned (.bool false) ∧ Jx (pre ++ [x]) W' ∧ KeepsFrom W.heap.size W1 W')) →
    J [] W → CallsIn Fence.wide n P g (#[.func (.yield l) #[] #[]] ++ lb) W fun e W' => (∃ v, e = .returned v) ∧ ((∃ xs, S xs ∧ J xs W') ∨ (∃ pre, Sp pre ∧ Jx pre W'))
/-- what a body that always goes on leaves -/
def goesOn {α : Type} (B : Nat) (Kp : World → World → Prop) (I : List α → World → Prop) (xs : List α) (KB : World → Prop) (W : World) : Exit → Act → World → Prop
  | .normal, _, W' => KeepsFrom B W W' ∧ Kp W W' ∧ I xs W' ∧ KB W'
  | _, _, _ => False
theorem keepsFrom_mono {B B' : Nat} {X Y : World} (h : KeepsFrom B X Y) (hB : B ≤ B') : KeepsFrom B' X Y := ⟨h.size, fun k o hk ho hc => h.same k o (Nat.le_trans hB hk) ho hc⟩
theorem keepsFrom_put {B L : Nat} {X : World} {o : Obj} (hL : L < B) : KeepsFrom B X (X.putObj L o) := KeepsFrom.of_grownBy (grownBy_putObj' X L o) (fun j e => by cases e; exact hL)
theorem ownFrom_mono {β : Type} {B B' : Nat} {I : β → World → Prop} (h : OwnFrom B I) (hB : B ≤ B') : OwnFrom B' I := fun s X Y row hs hg hr => h s X Y row hs hg (fun r e => ⟨Nat.le_trans hB (hr r e).1, (hr r e).2⟩)
theorem ownFrom_obj {β : Type} {B k : Nat} {o : Obj} (hk : k < B) : OwnFrom B (fun (_ : β) (W : World) => W.heap[k]? = some o) := fun s X Y row hs hg hr =>
  (hg.block k (by have hs' : X.heap[k]? = some o := hs; exact blk_lt hs') (fun e => by have := (hr k e.symm).1; omega)).trans hs
theorem range_O {α : Type} {m n : Nat} {P : Program} {g : Operand} {ps : Array Tmp} {assign body : Code} {Q : Exit → Act → World → Prop} {a : Act} {w : World} (h1 : 1 ≤ n)
    {gf : Nat} {lb : Array Value} (hg : a.eval g = .func (.func gf) #[] lb) (eg : ∀ args w, (callFunc gf args).run P w = .ok (.enter gf args) w)
    {encs : α → Array Value} {Kp : World → World → Prop} {S : List α → Prop} {Sp : List α → Prop} {N : Nat} (hseq : SeqO m (n - 1) P gf lb encs Kp S Sp N w)
    (hKt : ∀ {A B C : World}, Kp A B → Kp B C → Kp A C) (hKb : ∀ (W : World) (l : Nat) (o' : Obj), w.heap.size ≤ l → l < W.heap.size → Kp W (W.putObj l o')) (hps : ∀ x, (encs x).size = ps.size)
    (I : List α → World → Prop) (hI : OwnFrom w.heap.size I) (h0 : I [] w) (Ax : α → Act → World → Prop) (hAx : ∀ x a', OwnFrom w.heap.size (fun (_ : Unit) W => Ax x a' W))
    (hassign : ∀ (l : Nat) (pre : List α) (x : α) (W : World) (K : Act → World → Prop), I pre W → (∀ a' W', KeepsFrom w.heap.size W W' → Kp W W' → Below W.heap.size W W' → I pre W' → Ax x a' W' → K a' W') →
      assign.wpIn (Fence.wide.inRound l) (n - 1 - 1) P (Exit.then K (fun _ _ _ => False)) { tmps := (ps.zip (encs x)).foldl (fun t (p, v) => t.setIfInBounds p v) a.tmps, defers := [] } W)
    (hbody : ∀ (l : Nat) (pre : List α) (x : α) (a' : Act) (W : World), w.heap.size ≤ l → I pre W → Ax x a' W → pre.length < N → w.heap.size + 2 + m ≤ W.heap.size → body.wpIn (Fence.wide.inRound l) (n - 1 - 1) P (goesOn w.heap.size Kp I (pre ++ [x]) (fun W' => ∀ k, w.heap.size + 2 ≤ k → k < w.heap.size + 2 + m → W'.heap[k]? = W.heap[k]?) W) a' W)
    (hdone : ∀ (D : Nat) (xs : List α) (W : World), w.heap.size ≤ D → S xs → I xs W → W.heap[D]? = some (.deferred (some [])) → Q .normal { a with defers := { target := .collected D, args := #[] } :: a.defers } W) :
    (Code.rangeFunc g ps assign body).wpIn Fence.wide n P Q a w := by
  refine wpIn_rangeFunc (fun fn hfn => ?_)
  obtain ⟨D, hD⟩ : ∃ D, D = w.heap.size := ⟨_, rfl⟩
  obtain ⟨L, hL⟩ : ∃ L, L = w.heap.size + 1 := ⟨_, rfl⟩
  obtain ⟨rc, hrc⟩ : ∃ rc : LoopState → Option Code → Loop, rc = fun st pe => { state := st, pending := pe, fn, tmps := a.tmps, params := ps, assign, body, defers := w.heap.size } := ⟨_, rfl⟩
  obtain ⟨W1, hW1⟩ : ∃ W1, W1 = (w.alloc (.deferred (some []))).alloc (.loop (rc .ready none)) := ⟨_, rfl⟩
  have s1 : W1.heap.size = w.heap.size + 1 + 1 := by rw [hW1]; simp
  have bD : W1.heap[D]? = some (.deferred (some [])) := by rw [hW1, hD]; exact blk_old (heap_alloc_new w _) _
  have bL : W1.heap[L]? = some (.loop (rc .ready none)) := by rw [hW1, hL]; have := heap_alloc_new (w.alloc (.deferred (some []))) (.loop (rc .ready none)); rwa [World.size_alloc] at this
  have i1 : I [] W1 := by rw [hW1]; exact hI.alloc _ (hI.alloc _ h0)
  have b1 : Below w.heap.size w W1 := by rw [hW1]; exact ((Below.refl _ w).alloc (Nat.le_refl _) _).alloc (by simp) _
  refine ⟨L, [{ target := .collected D, args := #[] }], W1, { target := .fn (.func gf) lb, args := #[.func (.yield L) #[] #[]] }, W1, gf, #[.func (.yield L) #[] #[]] ++ lb, W1, ?_, ?_, fun _ _ => trivial, ?_, fun _ => h1, ?_⟩
  · rw [hW1, hrc, hL, hD]; exact run_enterLoop_outer _ _ _ _ _
  · simp only [resolve, hg]; simp [go_sem]
  · simp [invoke, go_sem, eg]
  refine (hseq L (fun pre W => I pre W ∧ (W.heap[L]? = some (.loop (rc .ready none)) ∧ W.heap[D]? = some (.deferred (some [])))) (fun _ _ => False) W1 b1
    (OwnFrom.and (ownFrom_mono hI (by omega)) (OwnFrom.and (ownFrom_obj (by omega)) (ownFrom_obj (by omega)))) (fun _ _ _ _ h _ _ => h) ?_ ⟨i1, bL, bD⟩).mono ?_
  · rintro pre x W ⟨hi, hl, hd⟩ hlen hsz
    have hy := run_yield (P := P) (args := encs x) hl (by rw [hrc]; exact hps x)
    rw [hrc] at hy
    refine ⟨fn, _, assign, body, hy, roundIn_of_wpIn hfn (hassign L pre x W _ hi ?_)⟩
    intro a' W2 k2 kp2 b2 i2 x2
    have hsz2 := b2.size
    have l2 : W2.heap[L]? = _ := k2.same L _ (by omega) hl rfl
    have d2 : W2.heap[D]? = _ := k2.same D _ (by omega) hd rfl
    have lt2 := blk_lt l2
    obtain ⟨bz, hbz⟩ : ∃ bz : Loop, bz = { rc .ready none with state := .busy } := ⟨_, rfl⟩
    have l3 : (W2.putObj L (.loop bz)).heap[L]? = some (.loop bz) := World.putObj_heap_same lt2
    have d3 : (W2.putObj L (.loop bz)).heap[D]? = some (.deferred (some [])) := (World.putObj_heap_other (by omega)).trans d2
    have hbg := run_beginRound (P := P) l2 (by rw [hrc])
    rw [← hbz] at hbg
    refine ⟨_, hbg, ?_⟩
    refine wpIn_mono (hbody L pre x a' _ (by omega) (hI.putObj _ i2 (by omega) l2 rfl) ((hAx x a').putObj (s := ()) _ x2 (by omega) l2 rfl) hlen (by simp only [World.putObj, Array.size_setIfInBounds]; omega)) ?_
    rintro e a3 W3 hp
    cases e with
    | normal =>
      obtain ⟨k3, kp3, i3, kb3⟩ := hp
      have l4 := k3.same L _ (by omega) l3 rfl
      have d4 := k3.same D _ (by omega) d3 rfl
      have lt4 := blk_lt l4
      have he := run_endRound (P := P) none l4
      refine ⟨_, _, he, .inl ⟨rfl, ⟨hI.putObj _ i3 (by omega) l4 rfl, ?_, (World.putObj_heap_other (by omega)).trans d4⟩, ⟨hKt kp2 (hKt (hKt (hKb _ _ _ (by omega) lt2) kp3) (hKb _ _ _ (by omega) lt4)), fun k hk1 hk2 => (World.putObj_heap_other (by omega)).trans ((kb3 k (by omega) (by omega)).trans ((World.putObj_heap_other (by omega)).trans (b2.block k (by omega))))⟩, (keepsFrom_mono k2 (by omega)).trans ((keepsFrom_put (by omega)).trans ((keepsFrom_mono k3 (by omega)).trans (keepsFrom_put (by omega))))⟩⟩
      refine (World.putObj_heap_same lt4).trans ?_
      rw [hbz, hrc]
      rfl
    | ret => exact hp.elim
    | exit id => exact hp.elim
    | goto t => exact hp.elim
    | panic ch => exact hp.elim
    | outgrown => exact hp.elim
  · rintro e W2 ⟨⟨v, rfl⟩, (⟨xs, hS, hi, hl, hd⟩ | ⟨pre, hSp, hf⟩)⟩
    · have he := run_endLoop (P := P) hl (by rw [hrc]; simp)
      rw [hrc] at he
      exact ⟨none, _, he, hdone D xs _ (by omega) hS (hI.putObj _ hi (by omega) hl rfl) ((World.putObj_heap_other (by omega)).trans hd)⟩
    · exact hf.elim
end Go.Proofs.YtbjekoljipjldaaGreatDoor
namespace Go.Proofs.YtbjekoljipjldaaGreatDoor
set_option linter.unusedVariables false
set_option linter.unusedSimpArgs false
open Go.RowKit Go.Shelf
attribute [local go_sem] Oper.semAt_some
attribute [local go_sem ↓] Go.wp_at_zero Go.wp_at_succ
theorem roundIn_wide {n m l2 : Nat} {P : Program} {l : Nat} {f : FuncId} {tmps : Array Value} {assign body : Code} {w : World} {R : Ending → World → Prop} (h : RoundIn Fence.wide n P l f tmps assign body w R) : RoundIn (Fence.wide.inRound l2) m P l f tmps assign body w R :=
  ⟨h.1, fun c cs _ => h.2 c cs (room_wide _)⟩
set_option maxRecDepth 100000 in
theorem stAllMake (s : Nat) (w : World) : Calls Tryz.prog 83 #[.pointer (some ⟨s, 0, none⟩)] w fun e w' => e = .returned (.func (.func 97) #[] #[.pointer (some ⟨w.heap.size, 0, none⟩)]) ∧ w' = w.alloc (.cells #[.pointer (some ⟨s, 0, none⟩)] 102) := by
  go_enter Tryz.func83, Tryz.ntmps83
  go_wp2
  go_ret
  exact ⟨rfl, rfl⟩
set_option maxRecDepth 100000 in
theorem bmAllMake (b : Nat) (w : World) : Calls Tryz.prog 63 #[.pointer (some ⟨b, 0, none⟩)] w fun e w' => e = .returned (.func (.func 82) #[] #[.pointer (some ⟨w.heap.size, 0, none⟩)]) ∧ w' = w.alloc (.cells #[.pointer (some ⟨b, 0, none⟩)] 60) := by
  go_enter Tryz.func63, Tryz.ntmps63
  go_wp2
  go_ret
  exact ⟨rfl, rfl⟩
set_option maxRecDepth 100000 in
set_option maxHeartbeats 4000000 in
theorem bmAll1 (n : Nat) (hn : 3 ≤ n) (B1 n₀ b s d : Nat) (ws : List Nat) (w : World) (hn₀ : n₀ ≤ w.heap.size) (c1 : w.cell? ⟨B1, 0, none⟩ = some (.pointer (some ⟨b, 0, none⟩))) (hB1 : B1 < n₀) (hb : b < n₀) (hs : s < n₀) (hd : d < n₀) (hg : 0 < n₀) (hB : Bm w b s d ws) (hT : Tab64 w) :
    SeqO (α := Nat) 2 n Tryz.prog 82 #[.pointer (some ⟨B1, 0, none⟩)] (fun x => #[.int .u16 (x % 65536 : Nat)]) (Below n₀) (fun xs => xs = bl (wbit ws) 65536) (fun pre => pre <+: bl (wbit ws) 65536) 70000 w := by
  intro l J Jx W hbw hJ hJx hY h0
  have HBn := Lib.hid (hbw.mono hn₀)
  have hq := (HBn.out.cell (p := ⟨B1, 0, none⟩) hB1).trans c1
  have hb0 := (HBn.out.block b hb).trans hB.1
  have q0 := blk_cell hb0 0 (v := .pointer (some ⟨s, 0, none⟩)) rfl
  have HST := Lib.hid (show St W s d ws from ⟨(HBn.out.block s hs).trans hB.2.1, (HBn.out.block d hd).trans hB.2.2.1, hB.2.2.2⟩)
  have HTW := Lib.hid (hT.below HBn.out hg)
  have hWs := hbw.size
  have hq' : (W.alloc (.cells #[.func (.yield l) #[] #[]] 50)).cell? ⟨B1, 0, none⟩ = some (.pointer (some ⟨b, 0, none⟩)) := cell_kept hq (World.grownBy_alloc W _ none) (fun r e => by cases e)
  have q0' : (W.alloc (.cells #[.func (.yield l) #[] #[]] 50)).cell? ⟨b, 0, none⟩ = some (.pointer (some ⟨s, 0, none⟩)) := cell_kept q0 (World.grownBy_alloc W _ none) (fun r e => by cases e)
  clear hB hT c1 hb0 hbw
  refine callsIn_of_wp_marks Tryz.func82 rfl trivial ?_ rfl
  simp only [Tryz.ntmps82, List.size_toArray, List.length_cons, List.length_nil, Nat.reduceAdd, Nat.reduceSub, Array.replicate_succ, Array.replicate_zero, List.push_toArray, List.append_toArray, List.nil_append, List.cons_append]
  have hfp : Fence.wide.fn 83 := trivial
  have hn1 : 1 ≤ n := by omega
  have hn2 : 1 ≤ n - 1 := by omega
  have hn3 : 1 ≤ n - 1 - 1 := by omega
  gi_wp2
  refine (callsIn_wide.2 (stAllMake s _)).mono ?_
  rintro e w1 ⟨rfl, rfl⟩
  obtain ⟨W2, hW2⟩ : ∃ W2, W2 = (W.alloc (.cells #[.func (.yield l) #[] #[]] 50)).alloc (.cells #[.pointer (some ⟨s, 0, none⟩)] 102) := ⟨_, rfl⟩
  rw [← hW2]
  simp only [World.size_alloc]
  have s2 : W2.heap.size = W.heap.size + 1 + 1 := by rw [hW2]; simp
  have HB2 := Lib.hid (show Below W.heap.size W W2 by rw [hW2]; exact ((Below.refl _ W).alloc (Nat.le_refl _) _).alloc (by simp) _)
  have HY0 := Lib.hid (show Boxed W2 W.heap.size 50 (.func (.yield l) #[] #[]) by rw [hW2]; exact blk_old (blk_new W _ _) _)
  have HS0 := Lib.hid (show Boxed W2 (W.heap.size + 1) 102 (.pointer (some ⟨s, 0, none⟩)) by rw [hW2]; have := Boxed.new (W.alloc (.cells #[.func (.yield l) #[] #[]] 50)) 102 (.pointer (some ⟨s, 0, none⟩)); simpa only [World.size_alloc] using this)
  have HJ0 := Lib.hid (show J [] W2 by rw [hW2]; exact hJ.alloc _ (hJ.alloc _ h0))
  have HJ := Lib.hid hJ
  have HJX := Lib.hid hJx
  have HYY := Lib.hid hY
  clear hW2 h0 hJ hJx hY
  gi_wp2
  refine wpIn_rangeFunc_ownH rfl hn1 (gf := 97) (lb := #[.pointer (some ⟨W.heap.size + 1, 0, none⟩)]) rfl trivial (enters_of Tryz.func97 (by kernel_rfl) rfl)
    (encs := fun x : Nat => #[.int .i64 (x % 65536 : Nat)]) (Kp := fun X Y => Below n₀ X Y ∧ Y.heap[W.heap.size + 1]? = X.heap[W.heap.size + 1]?) (S := fun xs => xs = bl (wbit ws) 65536) (Sp := fun pre => pre <+: bl (wbit ws) 65536) (N := 70000) (w0 := W2)
    (fun l2 J2 Jx2 V hV hJ2 hJx2 hY2 h02 => stAll1 (n - 1) hn2 l2 (W.heap.size + 1) n₀ s d ws J2 Jx2 hY2 (fun pre V1 V2 h hbb => hJ2 pre V1 V2 none h (grown_none hbb) (fun r e => by cases e)) W2 V hV (by have := HB2.out.size; omega) HS0.out hs hd hg (HST.out.below HB2.out) (HTW.out.stays HB2.out) h02)
    (fun h k => ⟨h.1.trans k.1, k.2.trans h.2⟩) (fun X l2 o o' hl h1 h2 h3 => ⟨belowK_b (w := W2) (by have := HB2.out.size; omega) X l2 o o' hl h1 h2 h3, World.putObj_heap_other (by omega)⟩) (Below.refl _ _) (fun _ => rfl)
    (fun pre V => J pre V ∧ (Boxed V W.heap.size 50 (.func (.yield l) #[] #[]) ∧ W2.heap.size ≤ V.heap.size))
    (fun c pre V => c = .ret ∧ (Jx pre V ∧ True))
    (OwnFrom.and (ownFrom_mono HJ.out (by omega)) (OwnFrom.and (ownFrom_blk _ _ (fun pre : List Nat => #[.func (.yield l) #[] #[]]) _) (ownFrom_size _ _)))
    (fun c pre X Y row hs hg hr => ⟨hs.1, ownFrom_mono HJX.out (by omega) pre X Y row hs.2.1 hg hr, hs.2.2⟩)
    ⟨HJ0.out, HY0.out, Nat.le_refl _⟩
    (fun x a' V => a' = { tmps := #[.func (.yield l) #[] #[], .pointer (some ⟨B1, 0, none⟩), .pointer (some ⟨W.heap.size, 0, none⟩), .int .i64 (x % 65536 : Nat), .pointer (some ⟨b, 0, none⟩), .bool false, .pointer (some ⟨b, 0, none⟩), .pointer (some ⟨b, 0, none⟩), .pointer (some ⟨b, 0, none⟩), .pointer (some ⟨s, 0, none⟩), .func (.func 97) #[] #[.pointer (some ⟨W.heap.size + 1, 0, none⟩)], .int .i64 (x % 65536 : Nat), undef, undef, undef, undef, undef], defers := [] })
    (fun x a' _ _ _ _ h _ _ => h) ?assign ?body ?done ?stop
  case assign =>
    intro l2 pre x V K hI hK
    gi_wp2
    exact hK _ _ (KeepsFrom.refl _ _) ⟨Below.refl _ _, rfl⟩ hI rfl
  case body =>
    rintro l2 pre x a' V hl2 _ ⟨hJV, hYV, hsz⟩ rfl hlen
    obtain ⟨fn, tmps, assign, body, hy, hR⟩ := HYY.out pre x V hJV hlen (by omega)
    have t0 := hYV.cell
    have HYV := Lib.hid hYV
    have HSZV := Lib.hid hsz
    obtain ⟨q, hq⟩ : ∃ q, x % 65536 = q := ⟨_, rfl⟩
    have hq1 : q < 65536 := by omega
    have hwr : IntKind.u16.wrap (q : Int) = (q : Int) := by rw [show IntKind.u16.wrap (q : Int) = (q : Int) % 65536 from rfl]; omega
    rw [hq] at hy
    rw [hq]
    clear hq hYV hsz hJV
    gi_wp2
    refine (roundIn_wide hR).mono ?_
    rintro e V3 (⟨rfl, hJ3, ⟨hk3, hkb⟩, hkf⟩ | ⟨rfl, hJx3, hkf⟩)
    · gi_wp2
      refine ⟨keepsFrom_mono hkf (by omega), ⟨hk3, hkb _ (by omega) (by omega)⟩, hJ3, (hkb _ (by omega) (by omega)).trans HYV.out, Nat.le_trans HSZV.out hkf.size⟩
    · gi_wp2
      exact ⟨keepsFrom_mono hkf (by omega), rfl, hJx3, trivial⟩
  case done =>
    rintro D ys V hD hys ⟨hJV, hYV, hsz⟩ hK
    have HJV := Lib.hid hJV
    have HYS := Lib.hid hys
    clear hJV hys
    gi_wp2
    refine ⟨by simp, .inl ⟨_, _, rfl, run_takeDeferred hK, ?_⟩⟩
    refine ⟨_, results_none rfl _ _ _, ⟨_, rfl⟩, .inl ⟨ys, HYS.out, HJ.out.putObj _ HJV.out (by omega) hK rfl⟩⟩
  case stop =>
    rintro D c pre V hD hpre ⟨rfl, hJV, hp⟩ hK
    have HJV := Lib.hid hJV
    have HP := Lib.hid hpre
    clear hJV hpre hp
    gi_wp2
    refine ⟨by simp, .inl ⟨_, _, rfl, run_takeDeferred hK, ?_⟩⟩
    refine ⟨_, results_none rfl _ _ _, ⟨_, rfl⟩, .inr ⟨_, HP.out, HJX.out.putObj _ HJV.out (by omega) hK rfl⟩⟩
end Go.Proofs.YtbjekoljipjldaaGreatDoor
namespace Go.Proofs.YtbjekoljipjldaaGreatDoor
set_option linter.unusedVariables false
set_option linter.unusedSimpArgs false
open Go.RowKit Go.Shelf
attribute [local go_sem] Oper.semAt_some
attribute [local go_sem ↓] Go.wp_at_zero Go.wp_at_succ
/-- numbers as Go's integers -/
def nums (l : List Nat) : List Int := l.map (fun x => ((x % 65536 : Nat) : Int))
theorem nums_snoc (l : List Nat) (x : Nat) : nums (l ++ [x]) = nums l ++ [((x % 65536 : Nat) : Int)] := by simp [nums]
theorem nums_len (l : List Nat) : (nums l).length = l.length := by simp [nums]
theorem Own.kept {k : IntKind} {e : TypeId} {w w' : World} {base : Nat} {v : Value} {l : List Int} {row : Option Nat} (h : Own k e w base v l) (hg : w.grownBy w' row) (hne : row = none ∨ row ≠ v.ownBlock) : Own k e w' base v l := by
  obtain ⟨h1, h2⟩ := h
  refine ⟨h1, ?_⟩
  rcases h2 with h2 | ⟨g, cap, cur, rfl, hg', hh, hr⟩
  · exact .inl h2
  · refine .inr ⟨g, cap, cur, rfl, hg', (hg.block g (blk_lt hh) (fun e => ?_)).trans hh, hr⟩
    rcases hne with h | h
    · rw [h] at e; cases e
    · exact h (by rw [← e]; rfl)
theorem Own.cells {k : IntKind} {e : TypeId} {w : World} {base : Nat} {v : Value} {l : List Int} (h : Own k e w base v l) : ∀ g, v.ownBlock = some g → ∃ cs, w.heap[g]? = some (.cells cs e (0, 0)) := fun g hg => by
  rcases h.2 with ⟨rfl, _⟩ | ⟨g', cap, cur, rfl, _, hh, _⟩
  · cases hg
  · simp [Value.ownBlock] at hg; subst hg; exact ⟨cur, hh⟩
theorem Own.asRow {k : IntKind} {e : TypeId} {w : World} {base : Nat} {v : Value} {l : List Int} (h : Own k e w base v l) : w.ownsRow base e 1 v l.length (l.map (Value.int k)) := h
theorem one_cell (W : World) (u : Value) (t : TypeId) : ∀ j x, [u][j]? = some x → (W.alloc (.cells #[u] t)).cell? ((⟨W.heap.size, 0, none⟩ : Addr).add j) = some x := fun j x hj => by
  rcases j with _ | j
  · rw [add_mk]
    simp at hj
    subst hj
    exact blk_cell (blk_new W _ _) 0 rfl
  · simp at hj
theorem one_one (k : IntKind) (x : Int) : ∀ u ∈ [Value.int k x], u.oneCell' = true := fun u hu => by simp at hu; subst hu; rfl
theorem ownFrom_Own {β : Type} (B0 : Nat) (B : Nat) (t e : TypeId) (k : IntKind) (base : Nat) (f : β → List Int) : OwnFrom B0 (fun (s : β) (W : World) => ∃ v, W.heap[B]? = some (.cells #[v] t (0, 0)) ∧ Own k e W base v (f s)) := fun s X Y row hs hg hr => by
  obtain ⟨v, h1, h2⟩ := hs
  refine ⟨v, ownFrom_blk B0 B (fun _ : Unit => #[v]) t () X Y row h1 hg hr, h2.kept hg ?_⟩
  rcases row with _ | r
  · exact .inl rfl
  · refine .inr (fun e' => ?_)
    obtain ⟨_, o, ho, hc⟩ := hr r rfl
    obtain ⟨cs, hcs⟩ := h2.cells r e'.symm
    rw [hcs] at ho
    cases ho
    cases hc
set_option maxRecDepth 100000 in
set_option maxHeartbeats 4000000 in
theorem appendBm (B1 b s d : Nat) (ws : List Nat) (w : World) (c1 : w.cell? ⟨B1, 0, none⟩ = some (.pointer (some ⟨b, 0, none⟩))) (hB1 : B1 < w.heap.size) (hB : Bm w b s d ws) (hT : Tab64 w) :
    Calls Tryz.prog 81 #[.slice none 0 0, .func (.func 82) #[] #[.pointer (some ⟨B1, 0, none⟩)]] w fun e w' => ∃ v, e = .returned v ∧ (∃ xs, xs = bl (wbit ws) 65536 ∧ Own .u16 43 w' w.heap.size v (nums xs)) ∧ Below w.heap.size w w' := by
  obtain ⟨i0, hi, hz0, hz1, hz2⟩ := info_parts u16_info
  have HB := Lib.hid hB
  have HT := Lib.hid hT
  have HC1 := Lib.hid c1
  have HLB := Lib.hid (show b < w.heap.size ∧ s < w.heap.size ∧ d < w.heap.size ∧ 0 < w.heap.size from ⟨blk_lt hB.1, blk_lt hB.2.1, blk_lt hB.2.2.1, hT.lt⟩)
  clear hB hT c1
  refine (callsIn_wide (n := 6)).1 ?_
  refine callsIn_of_wp_marks Tryz.func81 rfl trivial ?_ rfl
  simp only [Tryz.ntmps81, List.size_toArray, List.length_cons, List.length_nil, Nat.reduceAdd, Nat.reduceSub, Array.replicate_succ, Array.replicate_zero, List.push_toArray, List.append_toArray, List.nil_append, List.cons_append]
  gi_wp2
  obtain ⟨W0, hW0⟩ : ∃ W0, W0 = w.alloc (.cells #[.slice none 0 0] 45) := ⟨_, rfl⟩
  rw [← hW0]
  have s0 : W0.heap.size = w.heap.size + 1 := by rw [hW0]; simp
  have HB0 := Lib.hid (show Below w.heap.size w W0 by rw [hW0]; exact (Below.refl _ w).alloc (Nat.le_refl _) _)
  have HS0 := Lib.hid (show W0.heap[w.heap.size]? = some (.cells #[.slice none 0 0] 45 (0, 0)) by rw [hW0]; exact blk_new w _ _)
  clear hW0
  refine range_O (m := 2) (by decide) (gf := 82) (lb := #[.pointer (some ⟨B1, 0, none⟩)]) rfl (enters_of Tryz.func82 (by kernel_rfl) rfl)
    (bmAll1 (6 - 1) (by decide) B1 w.heap.size b s d ws W0 (by omega) ((HB0.out.cell (p := ⟨B1, 0, none⟩) hB1).trans HC1.out) hB1 HLB.out.1 HLB.out.2.1 HLB.out.2.2.1 HLB.out.2.2.2 (HB.out.below HB0.out) (HT.out.stays HB0.out))
    belowK_t (fun X l2 o' hl h => (Below.refl _ X).grown (grownBy_putObj' X l2 o') (by omega) (fun k e => by cases e; omega)) (fun _ => rfl)
    (fun pre V => (∃ v, V.heap[w.heap.size]? = some (.cells #[v] 45 (0, 0)) ∧ Own .u16 43 V (W0.heap.size + 2 + 2) v (nums pre)) ∧ (Below w.heap.size w V ∧ W0.heap.size ≤ V.heap.size))
    (OwnFrom.and (ownFrom_Own _ w.heap.size 45 43 .u16 (W0.heap.size + 2 + 2) (fun pre : List Nat => nums pre)) (OwnFrom.and (ownFrom_below (Nat.le_refl _) (by omega)) (ownFrom_size _ _)))
    ⟨⟨_, HS0.out, Own.nil _ _ _ _⟩, HB0.out, Nat.le_refl _⟩
    (fun x a' V => a' = { tmps := #[.slice none 0 0, .func (.func 82) #[] #[.pointer (some ⟨B1, 0, none⟩)], .pointer (some ⟨w.heap.size, 0, none⟩), undef, .slice none 0 0, .int .u16 (x % 65536 : Nat), .func (.func 82) #[] #[.pointer (some ⟨B1, 0, none⟩)], .int .u16 (x % 65536 : Nat), undef, undef, undef, undef, undef], defers := [] })
    (fun x a' _ _ _ _ h _ _ => h) ?assign ?body ?done
  case assign =>
    intro l2 pre x V K hI hK
    gi_wp2
    exact hK _ _ (KeepsFrom.refl _ _) (Below.refl _ _) (Below.refl _ _) hI rfl
  case body =>
    rintro l2 pre x a' V hl2 ⟨⟨v, hv, ho⟩, hbV, hsz⟩ rfl hlen hsz2
    obtain ⟨q, hq⟩ : ∃ q, x % 65536 = q := ⟨_, rfl⟩
    have HSN := Lib.hid (show nums (pre ++ [x]) = nums pre ++ [((q : Nat) : Int)] by rw [nums_snoc, hq])
    rw [hq]
    have HO := Lib.hid ho
    have HV := Lib.hid hv
    have HBV := Lib.hid hbV
    have hlen2 : (nums pre).length < 70000 := by rw [nums_len]; exact hlen
    have g1 : (nums pre).length + 1 ≤ maxLen := by unfold maxLen; omega
    have g2 : ((nums pre).length + 1) * 2 ≤ 140737488355328 := by omega
    have G1 := Lib.hid g1
    have G2 := Lib.hid g2
    have G3 := Lib.hid (show W0.heap.size + 2 + 2 ≤ (V.alloc (.cells #[.int .u16 (q : Nat)] 43)).heap.size by simp; omega)
    have c0 := blk_cell hv 0 (v := v) rfl
    have HBX := Lib.hid (show ∀ w1, (V.alloc (.cells #[.int .u16 (q : Nat)] 43)).grownBy w1 v.ownBlock → w1.heap[w.heap.size]? = some (.cells #[v] 45 (0, 0)) from fun w1 hg => (hg.block _ (by have := blk_lt hv; simp; omega) (fun e => by have := (ho.block _ e.symm).1; omega)).trans (blk_old hv _))
    clear hv ho hbV hq g1 g2 hlen2
    gi_wp2_with (gi_at_builtin; refine wpListIn_append_own _ rfl _ _ 45 rfl (W0.heap.size + 2 + 2) 43 i0 (.int .u16 0) 1 2 Tryz.underlying45 hi hz0 hz1 hz2 rfl (by decide) _ _ _ rfl (HO.out.below ((Below.refl _ _).alloc (Nat.le_refl _) _)).asRow ⟨V.heap.size, 0, none⟩ 1 1 [.int .u16 (q : Nat)] rfl rfl (one_cell V _ _) (one_one _ _) G1.out G2.out G3.out ?_; intro v' w1 hown' hgrow _; obtain ⟨g', cap', rfl⟩ := ownsRow_succ hown'; have hb1 := HBX.out _ hgrow; have c1 := blk_cell hb1 0 (v := v) rfl; have f1 := blk_free hb1 0; have HN := Lib.hid hown'; have HG := Lib.hid hgrow; have HB1 := Lib.hid hb1; clear hown' hgrow hb1)
    have HG2 : (V.alloc (.cells #[.int .u16 (q : Nat)] 43)).grownBy w1 v.ownBlock := HG.out
    have hvb := fun g hg => (HO.out.block g hg).1
    have hV1 : V.heap.size ≤ w1.heap.size := by have := HG2.size; simp at this; omega
    have HON : Own .u16 43 w1 (W0.heap.size + 2 + 2) (.slice (some ⟨g', 0, none⟩) ((nums pre).length + 1) cap') (nums pre ++ [((q : Nat) : Int)]) := by
      have h := HN.out
      unfold Own
      rw [List.length_append, List.map_append]
      exact h
    have hgb := (HON.block g' rfl).1
    have hA : Below w.heap.size V w1 := ((Below.refl _ V).alloc (by omega) _).grown HG2 (by simp; omega) (fun g hg => by have := hvb g hg; omega)
    refine ⟨?_, ?_, ⟨⟨_, blk_set HB1.out 0 _, ?_⟩, ?_, ?_⟩, ?_⟩
    · refine (KeepsOthers.trans (KeepsOthers.alloc V _) (KeepsOthers.trans (KeepsOthers.of_grownBy HG2 (fun j o ej hj => ?_)) (KeepsOthers.setCell _ _ _))).from _
      obtain ⟨cs, hcs⟩ := HO.out.cells j ej
      rw [blk_old hcs _] at hj
      cases hj
      rfl
    · exact hA.setCell (p := ⟨w.heap.size, 0, none⟩) (Nat.le_refl _) _
    · rw [HSN.out]
      exact HON.other _ (by intro e; simp only [Value.ownBlock, Option.some.injEq] at e; omega)
    · exact (HBV.out.trans hA).setCell (p := ⟨w.heap.size, 0, none⟩) (Nat.le_refl _) _
    · simp; omega
    · intro k hk1 hk2
      rw [Below.heap_setCell w1 ⟨w.heap.size, 0, none⟩ _ k (by show k ≠ w.heap.size; omega)]
      rw [HG2.block k (by simp; omega) (fun e => by have := hvb k e.symm; omega)]
      have hk3 : k < V.heap.size := by omega
      exact (World.grownBy_alloc V _ none).block k hk3 (by intro e; cases e)
  case done =>
    rintro D ys V hD hys ⟨⟨v, hv, ho⟩, hbV, hsz⟩ hK
    have c0 := blk_cell hv 0 (v := v) rfl
    have HO := Lib.hid ho
    have HBV := Lib.hid hbV
    have HYS := Lib.hid hys
    clear hv ho hbV hys
    gi_wp2
    refine ⟨by simp, .inl ⟨_, _, rfl, run_takeDeferred hK, ?_⟩⟩
    refine ⟨_, results_tmp rfl _ _ _, _, rfl, ⟨ys, HYS.out, (HO.out.kept (grownBy_putObj' V D _) (.inr (fun e => ?_))).mono (by omega)⟩, HBV.out.grown (grownBy_putObj' V D _) (by omega) (fun k e => by cases e; omega)⟩
    obtain ⟨cs, hcs⟩ := HO.out.cells D e.symm
    rw [hK] at hcs
    cases hcs
set_option maxRecDepth 100000 in
set_option maxHeartbeats 1000000 in
theorem collectBm (B1 b s d : Nat) (ws : List Nat) (w : World) (c1 : w.cell? ⟨B1, 0, none⟩ = some (.pointer (some ⟨b, 0, none⟩))) (hB1 : B1 < w.heap.size) (hB : Bm w b s d ws) (hT : Tab64 w) :
    Calls Tryz.prog 62 #[.func (.func 82) #[] #[.pointer (some ⟨B1, 0, none⟩)]] w fun e w' => ∃ v, e = .returned v ∧ (∃ xs, xs = bl (wbit ws) 65536 ∧ Own .u16 43 w' w.heap.size v (nums xs)) ∧ Below w.heap.size w w' := by
  have HC := Lib.hid c1
  have HB := Lib.hid hB
  have HT := Lib.hid hT
  clear c1 hB hT
  go_enter Tryz.func62, Tryz.ntmps62
  go_wp2_with fail
  refine (appendBm B1 b s d ws _ HC.out hB1 HB.out HT.out).mono ?_
  rintro e w1 ⟨v, rfl, ⟨xs, hxs, ho⟩, hb⟩
  have HX := Lib.hid hxs
  have HO := Lib.hid ho
  clear hxs ho
  go_wp2
  go_ret
  exact ⟨v, rfl, ⟨xs, HX.out, HO.out⟩, hb⟩
end Go.Proofs.YtbjekoljipjldaaGreatDoor
