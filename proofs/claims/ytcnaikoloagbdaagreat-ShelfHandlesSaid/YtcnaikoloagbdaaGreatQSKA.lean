/-
  The ways to keep keys, as the statement's shelf has them: an empty trie, the trie of the key 5, an XFast, a YFast.
  shelf.Shelf: what it is in memory (SH), beyond a block B.
-/
import Derived.Test.YtcnaikoloagbdaaGreatQItY
import Derived.Test.YtcnaikoloagbdaaGreatQTr6
import Derived.Test.YtcnaikoloagbdaaGreatQSeqQ
namespace Go.Proofs.YtcnaikoloagbdaaGreat
set_option linter.unusedVariables false
set_option linter.unusedSimpArgs false
open Go.RowKit Go.Shelf

inductive SK where
  | e (d : TD)
  | t (d : TD)
  | x (d : XD)
  | y (d : YD)
/-- its interface value -/
def SK.v : SK → Value
  | .e d => .iface 186 (.pointer (some ⟨d.t, 0, none⟩))
  | .t d => .iface 186 (.pointer (some ⟨d.t, 0, none⟩))
  | .x d => .iface 178 (.pointer (some ⟨d.x, 0, none⟩))
  | .y d => .iface 182 (.pointer (some ⟨d.y, 0, none⟩))
def SK.P : SK → World → Prop
  | .e d => fun w => T0 w d
  | .t d => fun w => T5 w d
  | .x d => fun w => XF w d
  | .y d => fun w => YF w d
def SK.own : SK → Nat → Prop
  | .e d => d.own
  | .t d => d.own
  | .x d => d.own
  | .y d => d.own
def SK.red : SK → Nat → Prop
  | .e d => d.red
  | .t d => d.red
  | .x d => d.red
  | .y d => d.red
/-- what it tells -/
def SK.S : SK → List Int → Prop
  | .e _ => fun xs => xs = []
  | .t _ => fun xs => xs = [5]
  | .x d => fun xs => xs.length ≤ d.R ∧ U64 xs
  | .y d => fun xs => xs.length ≤ d.ks.length ∧ U64 xs
def SK.N : SK → Nat
  | .e _ => 0
  | .t _ => 1
  | .x d => d.R
  | .y d => d.ks.length
theorem SK.sN (s : SK) : ∀ xs, s.S xs → xs.length ≤ s.N := fun xs h => by
  cases s
  · have h' : xs = [] := h; subst h'; exact Nat.le_refl _
  · have h' : xs = [5] := h; subst h'; exact Nat.le_refl _
  · exact h.1
  · exact h.1
theorem SK.sU (s : SK) : ∀ xs, s.S xs → U64 xs := fun xs h => by
  cases s
  · have h' : xs = [] := h; subst h'; exact U64.nil
  · have h' : xs = [5] := h; subst h'; exact U64.nil.snoc ⟨by decide, by decide⟩
  · exact h.2
  · exact h.2
theorem SK.lt {s : SK} {w : World} (h : s.P w) : ∀ b, s.own b → b < w.heap.size := by
  cases s with
  | e d => exact (show T0 w d from h).tp.lt
  | t d => exact (show T5 w d from h).lt
  | x d => exact (show XF w d from h).lt
  | y d => exact (show YF w d from h).1.lt
theorem SK.stay {s : SK} {X Y : World} (h : s.P X) (hs : ∀ b, s.own b → Y.heap[b]? = X.heap[b]?) : s.P Y := by
  cases s with
  | e d => exact (show T0 X d from h).stay hs
  | t d => exact (show T5 X d from h).stay hs
  | x d => exact (show XF X d from h).stay hs
  | y d => exact ⟨(show YF X d from h).1.stay hs, (show YF X d from h).2⟩
theorem SK.below {s : SK} {w w' : World} (h : s.P w) (hb : Below w.heap.size w w') : s.P w' := SK.stay h (fun b hb' => hb.block b (SK.lt h b hb'))
theorem SK.chg {S : Nat → Prop} {s : SK} {w w' : World} (h : s.P w) (hc : Chg S w w') (hn : ∀ b, s.own b → ¬ S b) : s.P w' := SK.stay h (fun b hb => hc.block b (SK.lt h b hb) (hn b hb))
theorem SK.drewn {s : SK} {w : World} (h : s.P w) : s.P w.drew := SK.stay h (fun _ _ => rfl)
theorem SK.red_own (s : SK) : ∀ b, s.red b → s.own b := by
  cases s with
  | e d => exact fun b hb => .inr (.inr (.inl hb))
  | t d => exact fun b hb => .inr (.inr (.inl hb))
  | x d => exact d.red_own
  | y d => exact d.red_own
theorem TP.cellsOf {w : World} {d : TD} (h : TP w d) : ∀ b, d.own b → ∃ t, ty w b t := by
  obtain ⟨h1, h2, h3, h4, h5⟩ := h.tys
  rintro k (rfl | rfl | rfl | hk | hk)
  · exact ⟨_, h1⟩
  · exact ⟨_, h2⟩
  · exact ⟨_, h3⟩
  · exact ⟨_, h4 k hk⟩
  · exact ⟨_, h5 k hk⟩
theorem XF.cellsOf {w : World} {d : XD} (h : XF w d) : ∀ b, d.own b → ∃ t, ty w b t := by
  obtain ⟨h1, h2, h3, h4, h5, h6, h7⟩ := h.tys
  rintro k (rfl | rfl | rfl | rfl | rfl | rfl | hk)
  · exact ⟨_, h1⟩
  · exact ⟨_, h2⟩
  · exact ⟨_, h3⟩
  · exact ⟨_, h4⟩
  · exact ⟨_, h5⟩
  · exact ⟨_, h6⟩
  · exact ⟨_, h7 k hk⟩
theorem SK.cellsOf {s : SK} {w : World} (h : s.P w) : ∀ b, s.own b → ∃ cs t, w.heap[b]? = some (.cells cs t (0, 0)) := by
  have key : ∀ b, s.own b → ∃ t, ty w b t := by
    cases s with
    | e d => exact (show T0 w d from h).tp.cellsOf
    | t d => exact (show T5 w d from h).tp.cellsOf
    | x d => exact (show XF w d from h).cellsOf
    | y d =>
      obtain ⟨h1, h2, h3, h4, h5, h6⟩ := (show YF w d from h).1.tys
      rintro k (rfl | hk | rfl | rfl | rfl | hk | hk)
      · exact ⟨_, h1⟩
      · exact (show YF w d from h).1.xf.cellsOf k hk
      · exact ⟨_, h2⟩
      · exact ⟨_, h3⟩
      · exact ⟨_, h4⟩
      · exact ⟨_, h5 k hk⟩
      · exact ⟨_, h6 k hk⟩
  intro b hb
  obtain ⟨t, cs, hc⟩ := key b hb
  exact ⟨cs, t, hc⟩
theorem SK.stab {β : Type} {s : SK} {B : Nat} {F : Nat → Prop} (hF : ∀ b, s.own b → ¬ F b) : Stab B F (fun (_ : β) (V : World) => s.P V) :=
  ⟨fun _ X Y row hs hg hr => SK.stay hs (fun b hb => hg.block b (SK.lt hs b hb) (fun e => by
    obtain ⟨_, o, ho, hc⟩ := hr b e.symm
    obtain ⟨cs, t, h1⟩ := SK.cellsOf hs b hb
    rw [h1] at ho
    cases ho
    cases hc)), fun _ X Y hs hc => SK.chg hs hc hF⟩
end Go.Proofs.YtcnaikoloagbdaaGreat
namespace Go.Proofs.YtcnaikoloagbdaaGreat
set_option linter.unusedVariables false
set_option linter.unusedSimpArgs false
open Go.RowKit

/-- an open handle's item: its block, its keys' block, what it was made with, its version, its set -/
structure IT where
  i : Nat
  k : Nat
  tag : Int
  seed : Int
  lim : Int
  ver : Int
  s : SK
def IT.own (x : IT) : Nat → Prop := fun b => b = x.i ∨ b = x.k ∨ x.s.own b
structure ITok (w : World) (x : IT) : Prop where
  item : w.heap[x.i]? = some (.cells #[.bool false, .int .i64 x.tag, .int .u64 x.seed, .int .i64 x.lim, .pointer (some ⟨x.k, 0, none⟩), .pointer none, .pointer none, .int .u64 0] 67 (0, 0))
  kept : w.heap[x.k]? = some (.cells #[x.s.v, .int .u64 x.ver] 75 (0, 0))
  p : x.s.P w
  nik : ¬ x.s.own x.i ∧ ¬ x.s.own x.k
theorem ITok.lt {w : World} {x : IT} (h : ITok w x) : ∀ b, x.own b → b < w.heap.size := by
  rintro b (rfl | rfl | hb)
  · exact blk_lt h.item
  · exact blk_lt h.kept
  · exact SK.lt h.p b hb
theorem ITok.stay {w w' : World} {x : IT} (h : ITok w x) (hs : ∀ b, x.own b → w'.heap[b]? = w.heap[b]?) : ITok w' x := ⟨(hs _ (.inl rfl)).trans h.item, (hs _ (.inr (.inl rfl))).trans h.kept, SK.stay h.p (fun b hb => hs b (.inr (.inr hb))), h.nik⟩
def encI : Option IT → Value
  | none => .pointer none
  | some x => .pointer (some ⟨x.i, 0, none⟩)
structure SH (B : Nat) (w : World) (s : Nat) (l : Nat → Option IT) : Prop where
  head : w.heap[s]? = some (.cells #[encI (l 0), encI (l 1), encI (l 2), encI (l 3), encI (l 4), encI (l 5), encI (l 6), encI (l 7)] 107 (0, 0))
  ok : ∀ h x, l h = some x → ITok w x
  dis : ∀ h h' x x', h ≠ h' → l h = some x → l h' = some x' → ∀ b, x.own b → ¬ x'.own b
  hd : ∀ h x, l h = some x → ¬ x.own s
  big : ∀ h, 8 ≤ h → l h = none
  lo : B ≤ s ∧ ∀ h x, l h = some x → ∀ b, x.own b → B ≤ b
/-- a handle's item, if it is open -/
def lk (l : Nat → Option IT) (h : Int) : Option IT := if 0 ≤ h ∧ h < 8 then l h.toNat else none
theorem lk_some {l : Nat → Option IT} {h : Int} {x : IT} (e : lk l h = some x) : (0 ≤ h ∧ h < 8) ∧ l h.toNat = some x := by
  unfold lk at e
  split at e
  · exact ⟨by assumption, e⟩
  · cases e
theorem SH.stay {B : Nat} {w w' : World} {s : Nat} {l : Nat → Option IT} (H : SH B w s l) (hs : w'.heap[s]? = w.heap[s]?) (ho : ∀ h x, l h = some x → ∀ b, x.own b → w'.heap[b]? = w.heap[b]?) : SH B w' s l :=
  ⟨hs.trans H.head, fun h x e => (H.ok h x e).stay (ho h x e), H.dis, H.hd, H.big, H.lo⟩
theorem SH.below {B : Nat} {w w' : World} {s : Nat} {l : Nat → Option IT} (H : SH B w s l) (hb : Below w.heap.size w w') : SH B w' s l :=
  H.stay (hb.block s (blk_lt H.head)) (fun h x e b hx => hb.block b ((H.ok h x e).lt b hx))
theorem SH.drewn {B : Nat} {w : World} {s : Nat} {l : Nat → Option IT} (H : SH B w s l) : SH B w.drew s l := H.stay rfl (fun _ _ _ _ _ => rfl)
theorem SH.cell {B : Nat} {w : World} {s : Nat} {l : Nat → Option IT} (H : SH B w s l) (n : Nat) (hn : n < 8) : w.cell? ⟨s, n, none⟩ = some (encI (l n)) := by
  have h := H.head
  match n, hn with
  | 0, _ => exact blk_cell h 0 rfl
  | 1, _ => exact blk_cell h 1 rfl
  | 2, _ => exact blk_cell h 2 rfl
  | 3, _ => exact blk_cell h 3 rfl
  | 4, _ => exact blk_cell h 4 rfl
  | 5, _ => exact blk_cell h 5 rfl
  | 6, _ => exact blk_cell h 6 rfl
  | 7, _ => exact blk_cell h 7 rfl
/-- another item at a handle -/
def upd (l : Nat → Option IT) (n : Nat) (x : Option IT) : Nat → Option IT := fun h => if h = n then x else l h
theorem upd_same (l : Nat → Option IT) (n : Nat) (x : Option IT) : upd l n x n = x := by unfold upd; rw [if_pos rfl]
theorem upd_other (l : Nat → Option IT) {n h : Nat} (x : Option IT) (e : h ≠ n) : upd l n x h = l h := by unfold upd; rw [if_neg e]
/-- behind what changes an item's own blocks, and new ones -/
theorem SH.item {B : Nat} {w w' : World} {s : Nat} {l : Nat → Option IT} (H : SH B w s l) {n : Nat} {x x' : IT} (hx : l n = some x) (hc : Chg x.own w w') (hok : ITok w' x') (hi : x'.i = x.i) (ho : ∀ b, x'.own b → x.own b ∨ w.heap.size ≤ b) : SH B w' s (upd l n (some x')) := by
  have hB : B ≤ w.heap.size := Nat.le_trans H.lo.1 (Nat.le_of_lt (blk_lt H.head))
  have hn8 : n < 8 := by
    rcases Nat.lt_or_ge n 8 with h | h
    · exact h
    · rw [H.big n h] at hx; cases hx
  have he : ∀ k, encI (upd l n (some x') k) = encI (l k) := fun k => by
    by_cases e : k = n
    · subst e; rw [upd_same, hx]; simp only [encI, hi]
    · rw [upd_other _ _ e]
  refine ⟨?_, fun h y e => ?_, fun h h' y y' hne e e' b hy hy' => ?_, fun h y e hy => ?_, fun h h8 => ?_, H.lo.1, fun h y e b hy => ?_⟩
  · rw [he, he, he, he, he, he, he, he]
    exact (hc.block s (blk_lt H.head) (H.hd n x hx)).trans H.head
  · by_cases en : h = n
    · subst en; rw [upd_same] at e; cases e; exact hok
    · rw [upd_other _ _ en] at e
      exact (H.ok h y e).stay (fun b hb => hc.block b ((H.ok h y e).lt b hb) (fun hx' => H.dis n h x y (Ne.symm en) hx e b hx' hb))
  · by_cases en : h = n
    · subst en; rw [upd_same] at e; cases e
      rw [upd_other _ _ (Ne.symm hne)] at e'
      rcases ho b hy with h1 | h1
      · exact H.dis h h' x y' hne hx e' b h1 hy'
      · have := (H.ok h' y' e').lt b hy'; omega
    · rw [upd_other _ _ en] at e
      by_cases en' : h' = n
      · subst en'; rw [upd_same] at e'; cases e'
        rcases ho b hy' with h1 | h1
        · exact H.dis h h' y x hne e hx b hy h1
        · have := (H.ok h y e).lt b hy; omega
      · rw [upd_other _ _ en'] at e'
        exact H.dis h h' y y' hne e e' b hy hy'
  · by_cases en : h = n
    · subst en; rw [upd_same] at e; cases e
      rcases ho s hy with h1 | h1
      · exact H.hd h x hx h1
      · have := blk_lt H.head; omega
    · rw [upd_other _ _ en] at e; exact H.hd h y e hy
  · by_cases en : h = n
    · omega
    · rw [upd_other _ _ en]; exact H.big h h8
  · by_cases en : h = n
    · subst en; rw [upd_same] at e; cases e
      rcases ho b hy with h1 | h1
      · exact H.lo.2 h x hx b h1
      · omega
    · rw [upd_other _ _ en] at e; exact H.lo.2 h y e b hy
/-- behind what changes what lookups of an item's set change -/
theorem SH.read {B : Nat} {w w' : World} {s : Nat} {l : Nat → Option IT} (H : SH B w s l) {n : Nat} {x : IT} (hx : l n = some x) (hp : x.s.P w') (hc : Chg x.s.red w w') : SH B w' s l := by
  have hr := x.s.red_own
  have hik := (H.ok n x hx).nik
  have h1 := H.item hx (x' := x) (hc.mono (fun b _ hb => .inr (.inr (hr b hb)))) ⟨hc.blk (H.ok n x hx).item (fun e => hik.1 (hr _ e)), hc.blk (H.ok n x hx).kept (fun e => hik.2 (hr _ e)), hp, hik⟩ rfl (fun b hb => .inl hb)
  have e : upd l n (some x) = l := by
    funext k
    by_cases ek : k = n
    · subst ek; rw [upd_same, hx]
    · rw [upd_other _ _ ek]
  rwa [e] at h1
end Go.Proofs.YtcnaikoloagbdaaGreat
