/-
  What an iterator keeps beside what it needs (frame), and how its contract is weakened.
-/
import Derived.Test.YtmpjjehihimadaaGreatSeq
namespace Go.Proofs.YtmpjjehihimadaaGreat
set_option linter.unusedVariables false
set_option linter.unusedSimpArgs false
open Go.RowKit Go.Shelf

theorem SeqF.frame {α : Type} {P : Program} {g : Nat} {lb : Array Value} {encs : α → Array Value} {St : World → Prop} {F : Nat → Prop} {S : List α → Prop} {N : Nat} (h : SeqF P g lb encs St F S N)
    (Fr : World → Prop) (RF : Nat → Prop) (hs : ∀ X Y, Fr X → (∀ b, RF b → Y.heap[b]? = X.heap[b]?) → Fr Y) (hl : ∀ X, Fr X → ∀ b, RF b → b < X.heap.size) (hd : ∀ b, RF b → ¬ F b) : SeqF P g lb encs (fun V => St V ∧ Fr V) F S N := by
  intro n l J Jx C0 W hn hst hJ hJx hY hC0 h0
  have hsz := hl W hst.2
  have hF : ∀ {β : Type}, Stab W.heap.size F (fun (_ : β) V => Fr V) := fun {β} => ⟨fun s X Y row hx hg hr => hs _ _ hx (fun b hb => hg.block b (hl _ hx b hb) (fun e => by have := (hr b e.symm).1; have := hsz b hb; omega)), fun s X Y hx hc => hs _ _ hx (fun b hb => hc.block b (hl _ hx b hb) (hd b hb))⟩
  refine (h n l (fun C xs V => J C xs V ∧ Fr V) (fun V => Jx V ∧ Fr V) C0 W hn hst.1 (fun C => (hJ C).and hF) (hJx.and hF) ?_ hC0 ⟨h0, hst.2⟩).mono ?_
  · intro C pre x W1 h1 h2 h3 h4 h5
    obtain ⟨fn, tmps, assign, body, hy, hR⟩ := hY C pre x W1 h1 h2 h3.1 ⟨h4, h3.2⟩ h5
    refine ⟨fn, tmps, assign, body, hy, hR.mono ?_⟩
    rintro e W' (⟨rfl, hs', hk, C', hj, hc, hb⟩ | ⟨rfl, hs', hk, hj, hb⟩)
    · exact .inl ⟨rfl, hs'.1, hk, C', ⟨hj, hs'.2⟩, hc, hb⟩
    · exact .inr ⟨rfl, hs'.1, hk, ⟨hj, hs'.2⟩, hb⟩
  · rintro e W' ⟨he, hs', hz, (⟨C, xs, hx, hj, hc⟩ | hj)⟩
    · exact ⟨he, ⟨hs', hj.2⟩, hz, .inl ⟨C, xs, hx, hj.1, hc⟩⟩
    · exact ⟨he, ⟨hs', hj.2⟩, hz, .inr hj.1⟩
theorem SeqF.weak {α : Type} {P : Program} {g : Nat} {lb : Array Value} {encs : α → Array Value} {St : World → Prop} {F F' : Nat → Prop} {S S' : List α → Prop} {N N' : Nat} (h : SeqF P g lb encs St F S N)
    (hF : ∀ b, F b → F' b) (hS : ∀ xs, S xs → S' xs) (hN : N ≤ N') : SeqF P g lb encs St F' S' N' := by
  intro n l J Jx C0 W hn hst hJ hJx hY hC0 h0
  refine (h n l J Jx C0 W hn hst (fun C => (hJ C).mono (Nat.le_refl _) hF) (hJx.mono (Nat.le_refl _) hF) (fun C pre x W1 h1 h2 h3 h4 h5 => hY C pre x W1 h1 h2 h3 h4 (by omega)) hC0 h0).mono ?_
  rintro e W' ⟨he, hs', hz, (⟨C, xs, hx, hj, hc⟩ | hj)⟩
  · exact ⟨he, hs', hz, .inl ⟨C, xs, hS _ hx, hj, hc⟩⟩
  · exact ⟨he, hs', hz, .inr hj⟩
theorem SeqF.same {α : Type} {P : Program} {g : Nat} {lb : Array Value} {encs : α → Array Value} {St St' : World → Prop} {F : Nat → Prop} {S : List α → Prop} {N : Nat} (h : SeqF P g lb encs St F S N) (he : ∀ V, St V ↔ St' V) : SeqF P g lb encs St' F S N := by
  rwa [show St' = St from funext fun V => propext (he V).symm]
theorem It.frame {α : Type} {P : Program} {v : Value} {encs : α → Array Value} {St : World → Prop} {F R : Nat → Prop} {S : List α → Prop} {N : Nat} (h : It P v encs St F R S N)
    (Fr : World → Prop) (RF : Nat → Prop) (hs : ∀ X Y, Fr X → (∀ b, RF b → Y.heap[b]? = X.heap[b]?) → Fr Y) (hl : ∀ X, Fr X → ∀ b, RF b → b < X.heap.size) (hd : ∀ b, RF b → ¬ F b) : It P v encs (fun V => St V ∧ Fr V) F (fun b => R b ∨ RF b) S N := by
  obtain ⟨⟨gf, lb, e1, e2, e3⟩, h2, h3⟩ := h
  exact ⟨⟨gf, lb, e1, e2, e3.frame Fr RF hs hl hd⟩, fun X Y hx hb => ⟨h2 X Y hx.1 (fun b hr => hb b (.inl hr)), hs X Y hx.2 (fun b hr => hb b (.inr hr))⟩, fun b hb => .inl (h3 b hb)⟩
theorem It.weak {α : Type} {P : Program} {v : Value} {encs : α → Array Value} {St St' : World → Prop} {F F' R R' : Nat → Prop} {S S' : List α → Prop} {N N' : Nat} (h : It P v encs St F R S N) (he : ∀ V, St V ↔ St' V)
    (hF : ∀ b, F b → F' b) (hR : ∀ b, R b → R' b) (hFR : ∀ b, F' b → R' b) (hS : ∀ xs, S xs → S' xs) (hN : N ≤ N') : It P v encs St' F' R' S' N' := by
  obtain ⟨⟨gf, lb, e1, e2, e3⟩, h2, h3⟩ := h
  exact ⟨⟨gf, lb, e1, e2, (e3.same he).weak hF hS hN⟩, fun X Y hx hb => (he _).1 (h2 X Y ((he _).2 hx) (fun b hr => hb b (hR b hr))), hFR⟩
end Go.Proofs.YtmpjjehihimadaaGreat
