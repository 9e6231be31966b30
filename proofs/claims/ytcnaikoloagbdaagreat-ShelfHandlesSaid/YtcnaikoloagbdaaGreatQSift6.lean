/-
  sift.Less: its iterator keeps its word; sift.Within; face.Within; walked.
-/
import Derived.Test.YtcnaikoloagbdaaGreatQSiftB
import Derived.Test.YtcnaikoloagbdaaGreatQFaceA
namespace Go.Proofs.YtcnaikoloagbdaaGreat
set_option linter.unusedVariables false
set_option linter.unusedSimpArgs false
open Go.RowKit Go.Shelf
attribute [local go_sem] k1
attribute [local go_sem ↓] Go.wp_at_zero Go.wp_at_succ

set_option maxRecDepth 100000 in
theorem toldMake (v f : Value) (hv : ∃ a c b, v = .func a c b) (hf : ∃ a c b, f = .func a c b) (w : World) : Calls Tryz.prog 134 #[v, f] w fun e w' => e = .returned (.func (.func 161) #[] #[.pointer (some ⟨w.heap.size, 0, none⟩), .pointer (some ⟨w.heap.size + 1, 0, none⟩)]) ∧ w' = (w.alloc (.cells #[v] 119)).alloc (.cells #[f] 71) := by
  obtain ⟨_, _, _, rfl⟩ := hv
  obtain ⟨_, _, _, rfl⟩ := hf
  go_enter Tryz.func134, Tryz.ntmps134
  go_wp2
  go_ret
  exact ⟨rfl, rfl⟩
set_option maxRecDepth 100000 in
theorem lessMake (a b : Value) (hv : ∃ f c l, a = .func f c l) (hf : ∃ f c l, b = .func f c l) (w : World) : Calls Tryz.prog 106 #[a, b] w fun e w' => e = .returned (.func (.func 133) #[] #[.pointer (some ⟨w.heap.size + 1, 0, none⟩), .pointer (some ⟨w.heap.size, 0, none⟩)]) ∧ w' = (w.alloc (.cells #[a] 119)).alloc (.cells #[b] 119) := by
  obtain ⟨_, _, _, rfl⟩ := hv
  obtain ⟨_, _, _, rfl⟩ := hf
  go_enter Tryz.func106, Tryz.ntmps106
  go_wp2
  go_ret
  exact ⟨rfl, rfl⟩
theorem lt_of_same {X Y : World} {g : Nat} (h : Y.heap[g]? = X.heap[g]?) (hg : g < X.heap.size) : g < Y.heap.size := by
  rcases Nat.lt_or_ge g Y.heap.size with h' | h'
  · exact h'
  · rw [Array.getElem?_eq_none h', Array.getElem?_eq_getElem hg] at h; cases h
/-- what Less's own iterator has in its hands -/
def LFr (O g N T1 T2 : Nat) (it : Value) (V : World) : Prop := Left O g N V ∧ g < V.heap.size ∧ V.heap[T1]? = some (.cells #[it] 119 (0, 0)) ∧ V.heap[T2]? = some (.cells #[.func (.func 135) #[] #[.pointer (some ⟨O, 0, none⟩)]] 71 (0, 0))
def LK (O g T1 T2 : Nat) : Nat → Prop := fun q => q = O ∨ q = g ∨ q = T1 ∨ q = T2
theorem LFr.stay {O g N T1 T2 : Nat} {it : Value} {X Y : World} (h : LFr O g N T1 T2 it X) (hs : ∀ b, LK O g T1 T2 b → Y.heap[b]? = X.heap[b]?) : LFr O g N T1 T2 it Y :=
  ⟨h.1.stay (hs _ (.inl rfl)) (hs _ (.inr (.inl rfl))), lt_of_same (hs _ (.inr (.inl rfl))) h.2.1, (hs _ (.inr (.inr (.inl rfl)))).trans h.2.2.1, (hs _ (.inr (.inr (.inr rfl)))).trans h.2.2.2⟩
theorem LFr.lt {O g N T1 T2 : Nat} {it : Value} {X : World} (h : LFr O g N T1 T2 it X) : ∀ b, LK O g T1 T2 b → b < X.heap.size := by
  rintro b (rfl | rfl | rfl | rfl)
  · obtain ⟨_, _, _, h1, _⟩ := h.1; exact blk_lt h1
  · exact h.2.1
  · exact blk_lt h.2.2.1
  · exact blk_lt h.2.2.2
set_option maxRecDepth 100000 in
set_option maxHeartbeats 4000000 in
theorem less1 (Ba Bb : Nat) (ita itb : Value) {St : World → Prop} {F R : Nat → Prop} {Sa Sb : List Int → Prop} {Na Nb : Nat} (hNa : Na ≤ 100000) (hNb : Nb ≤ 100000) (hSa : ∀ xs, Sa xs → xs.length ≤ Na) (hSb : ∀ xs, Sb xs → xs.length ≤ Nb)
    (ha : It Tryz.prog ita k1 St F R Sa Na) (hb : It Tryz.prog itb k1 St F R Sb Nb)
    (hbox : ∀ V, St V → V.heap[Bb]? = some (.cells #[itb] 119 (0, 0)) ∧ V.heap[Ba]? = some (.cells #[ita] 119 (0, 0)))
    (hR : ∀ V, St V → ∀ b, R b → b < V.heap.size) (hBa : ∀ V, St V → R Ba) : SeqW Tryz.prog 133 #[.pointer (some ⟨Bb, 0, none⟩), .pointer (some ⟨Ba, 0, none⟩)] k1 St F (fun xs => xs.length ≤ Na) Na := by
  intro n l J Jx C0 W hn hst hJ hJx hY hC0 h0
  have HBX := Lib.hid hbox
  have HA := Lib.hid ha
  have HJ := Lib.hid hJ
  have HJX := Lib.hid hJx
  have HYY := Lib.hid hY
  have HJ1 := Lib.hid h0
  have HC0 := Lib.hid hC0
  have HSA := Lib.hid hSa
  have HRW := Lib.hid (hR W hst)
  have HRR := Lib.hid hR
  have HFM := Lib.hid (show ∀ b, F b → b < W.heap.size from fun b hb => hR W hst b (ha.sub b hb))
  have q0 := blk_cell (hbox W hst).1 0 rfl
  have HK := Lib.hid (sKeys itb hNb hb W hst (hR W hst))
  have HSB := Lib.hid hSb
  clear hbox hR hSa hSb hJ hY hst h0 hJx hC0 ha hb hBa
  refine callsIn_wide.2 ?_
  go_enter Tryz.func133, Tryz.ntmps133
  go_wp2_with fail
  refine HK.out.mono ?_
  rintro e w1 ⟨r, xs, rfl, HX, HO, HS1, HC1⟩
  obtain ⟨A, c, rfl, hlc, _, hr⟩ := HO.out.form
  have hz1 := HC1.out.size
  have HL1 := Lib.hid (HSB.out _ HX.out)
  obtain ⟨w2, hw2⟩ : ∃ w2, w2 = w1.alloc (.cells #[.slice A xs.length c] 29) := ⟨_, rfl⟩
  have s2 : w2.heap.size = w1.heap.size + 1 := by rw [hw2]; simp
  have HB2 := Lib.hid (show Below w1.heap.size w1 w2 by rw [hw2]; exact (Below.refl _ _).alloc (Nat.le_refl _) _)
  have HO2 := Lib.hid (show w2.heap[w1.heap.size]? = some (.cells #[.slice A xs.length c] 29 (0, 0)) by rw [hw2]; exact blk_new _ _ _)
  have HR2 := Lib.hid (hr.below HB2.out)
  have HW2 := Lib.hid hw2
  have q1 : (w1.alloc (.cells #[.slice A xs.length c] 29)).cell? ⟨Ba, 0, none⟩ = some ita := blk_cell (blk_old (HBX.out _ HS1.out).2 _) 0 rfl
  have HLC := Lib.hid hlc
  clear q0 HK hr hlc hw2
  go_wp2_with fail
  refine (toldMake _ _ (by obtain ⟨gf, lb, e, _⟩ := HA.out.seq; exact ⟨_, _, _, e⟩) ⟨_, _, _, rfl⟩ _).mono ?_
  rintro e w4 ⟨rfl, hw4⟩
  rw [← HW2.out] at hw4 ⊢
  clear q1 HW2
  have s4 : w4.heap.size = w1.heap.size + 1 + 1 + 1 := by rw [hw4]; simp; omega
  have HT1 := Lib.hid (show w4.heap[w1.heap.size + 1]? = some (.cells #[ita] 119 (0, 0)) by rw [hw4, ← s2]; exact blk_old (blk_new w2 _ _) _)
  have HT2 := Lib.hid (show w4.heap[w1.heap.size + 1 + 1]? = some (.cells #[.func (.func 135) #[] #[.pointer (some ⟨w1.heap.size, 0, none⟩)]] 71 (0, 0)) by rw [hw4, ← s2]; have := blk_new (w2.alloc (.cells #[ita] 119)) #[.func (.func 135) #[] #[.pointer (some ⟨w1.heap.size, 0, none⟩)]] 71; simpa only [World.size_alloc] using this)
  have HB4 := Lib.hid (show Below w2.heap.size w2 w4 by rw [hw4]; exact ((Below.refl _ w2).alloc (Nat.le_refl _) _).alloc (by simp) _)
  rw [s2]
  obtain ⟨g, hgW, hgw, hgne, hgA⟩ : ∃ g, W.heap.size ≤ g ∧ g < w1.heap.size + 1 + 1 ∧ w1.heap.size ≠ g ∧ ∀ ad, A = some ad → ad.block = g := by
    rcases A with _ | ad
    · exact ⟨w1.heap.size + 1, by omega, by omega, by omega, fun ad e => by cases e⟩
    · have h1 := HO.out.block ad.block rfl
      exact ⟨ad.block, h1.1, by omega, by omega, fun ad' e => by cases e; rfl⟩
  have HLF := Lib.hid (show LFr w1.heap.size g Nb (w1.heap.size + 1) (w1.heap.size + 1 + 1) ita w4 from ⟨⟨A, c, xs, blk_below HO2.out HB4.out rfl, HR2.out.below HB4.out, HLC.out, HL1.out, hgA⟩, by omega, HT1.out, HT2.out⟩)
  have HK0 := Lib.hid (show ∀ q, LK w1.heap.size g (w1.heap.size + 1) (w1.heap.size + 1 + 1) q → W.heap.size ≤ q from fun q hq => by rcases hq with e | e | e | e <;> omega)
  have HST4 := Lib.hid (HA.out.stay _ _ HS1.out (fun b hb => ((HB4.out.block b (by have := HRW.out b hb; omega)).trans (HB2.out.block b (by have := HRW.out b hb; omega)))))
  have HSQ := Lib.hid (told1 (w1.heap.size + 1) (w1.heap.size + 1 + 1) w1.heap.size ita (St := fun V => St V ∧ LFr w1.heap.size g Nb (w1.heap.size + 1) (w1.heap.size + 1 + 1) ita V) (F := fun q => F q ∨ q = w1.heap.size) (R := fun q => R q ∨ LK w1.heap.size g (w1.heap.size + 1) (w1.heap.size + 1 + 1) q) (S := Sa) (N := Na) hNa HSA.out
    ((HA.out.frame (LFr w1.heap.size g Nb (w1.heap.size + 1) (w1.heap.size + 1 + 1) ita) (LK w1.heap.size g (w1.heap.size + 1) (w1.heap.size + 1 + 1)) (fun X Y h hs => h.stay hs) (fun X h => h.lt) (fun q hq hf => by have := HK0.out q hq; have := HFM.out q hf; omega)).weak (fun V => Iff.rfl) (fun q h => .inl h) (fun q h => h) (fun q h => h.elim (fun h => .inl (HA.out.sub q h)) (fun h => .inr (.inl h))) (fun _ h => h) (Nat.le_refl _))
    (fun V x hv => by
      refine (lessIs w1.heap.size g Nb x V hNb hgne hv.2.1 hv.2.2.1).mono ?_
      rintro e V' ⟨b, _, rfl, HL, HC⟩
      refine ⟨b, (), rfl, ⟨HA.out.stay _ _ hv.1 (fun q hq => HC.out.block q (HRR.out _ hv.1 q hq) (fun e => by have e' : q = w1.heap.size := e; have := HRW.out q hq; omega)), HL.out, Nat.lt_of_lt_of_le hv.2.2.1 HC.out.size, HC.out.blk hv.2.2.2.1 (fun e => by have e' : w1.heap.size + 1 = w1.heap.size := e; omega), HC.out.blk hv.2.2.2.2 (fun e => by have e' : w1.heap.size + 1 + 1 = w1.heap.size := e; omega)⟩, HC.out.mono (fun q _ h => .inr h)⟩)
    (fun V hv => hv.2.2.2) (fun V hv b hb => hb.elim (HRR.out _ hv.1 b) (hv.2.lt b)))
  have HCW := Lib.hid (show Chg F W w4 from (HC1.out.then (Chg.of_below HB2.out)).then (Chg.of_below HB4.out))
  have HCALL := Lib.hid (HSQ.out n l (fun C xs V => J C xs V ∧ ∀ q, LK w1.heap.size g (w1.heap.size + 1) (w1.heap.size + 1 + 1) q → ¬ C q) Jx C0 w4 hn ⟨HST4.out, HLF.out⟩
    (fun C => ⟨fun s X Y row hs hg hr => ⟨ownFrom_mono (HJ.out C).own (by omega) s X Y row hs.1 hg hr, hs.2⟩, fun s X Y hs hc => ⟨(HJ.out C).chg s X Y hs.1 (hc.mono (fun b _ hb => hb.imp id (fun e => by subst e; exact ⟨hz1, hs.2 _ (.inl rfl)⟩))), hs.2⟩⟩)
    (HJX.out.mono (by omega) (fun b hb => hb.imp id (fun e => by subst e; exact hz1)))
    (fun C pre x W1 h1 h2 h3 h4 h5 => by
      obtain ⟨fn, tmps, assign, body, hy, hRI⟩ := HYY.out C pre x W1 (by omega) h2 h3.1 h4.1 h5
      refine ⟨fn, tmps, assign, body, hy, hRI.mono ?_⟩
      have hlt := h4.2.lt
      rintro e W' (⟨rfl, hs', hk, C', hj, hc, hbk⟩ | ⟨rfl, hs', hk, hj, hbk⟩)
      · exact .inl ⟨rfl, ⟨hs', h4.2.stay (fun b hb => hbk b (hlt b hb) (h3.2 b hb))⟩, keepsFrom_mono hk (by omega), C', ⟨hj, fun q hq e => (hc q e).1.elim (h3.2 q hq) (fun h => by have := hlt q hq; omega)⟩, hc, hbk⟩
      · exact .inr ⟨rfl, ⟨hs', h4.2.stay (fun b hb => hbk b (hlt b hb) (h3.2 b hb))⟩, keepsFrom_mono hk (by omega), hj, hbk⟩)
    (fun k hk => by have := HC0.out k hk; omega)
    ⟨(HJ.out C0).chg _ _ _ HJ1.out (HCW.out.mono (fun b _ h => .inl h)), fun q hq e => by have := HC0.out q e; have := HK0.out q hq; omega⟩)
  clear hw4
  go_wp2_with fail
  refine (callsIn_wide.1 HCALL.out).mono ?_
  rintro e w5 ⟨⟨v, rfl⟩, hs5, hz5, h6⟩
  have HS5 := Lib.hid hs5.1
  have H6 := Lib.hid (show (∃ C xs, xs.length ≤ Na ∧ J C xs w5 ∧ ∀ k, C k → k < w5.heap.size) ∨ Jx w5 from h6.imp (fun ⟨C, ys, h1, h2, h3⟩ => ⟨C, ys, h1, h2.1, h3⟩) id)
  clear hs5 h6 HCALL HSQ
  go_wp2
  go_end0
  exact ⟨⟨_, rfl⟩, HS5.out, by omega, H6.out⟩
set_option maxRecDepth 100000 in
set_option maxHeartbeats 2000000 in
theorem sWithin (v1 v2 : Value) {St : World → Prop} {F R : Nat → Prop} {S1 S2 : List Int → Prop} {N1 N2 : Nat} (hN1 : N1 ≤ 100000) (hN2 : N2 ≤ 100000) (hS1 : ∀ xs, S1 xs → xs.length ≤ N1) (hS2 : ∀ xs, S2 xs → xs.length ≤ N2)
    (h1 : It Tryz.prog v1 k1 St F R S1 N1) (h2 : It Tryz.prog v2 k1 St F R S2 N2) (w : World) (hSt : St w) (hR : ∀ V, St V → ∀ b, R b → b < V.heap.size) :
    Calls Tryz.prog 79 #[v1, v2] w fun e w' => ∃ (r : Bool) (u : Unit), e = .returned (.bool r) ∧ Hid (St w') ∧ Hid (Chg F w w') := by
  have hFw : ∀ b, F b → b < w.heap.size := fun b hb => hR w hSt b (h1.sub b hb)
  obtain ⟨w2, hw2⟩ : ∃ w2, w2 = (w.alloc (.cells #[v1] 119)).alloc (.cells #[v2] 119) := ⟨_, rfl⟩
  have hb2 : Below w.heap.size w w2 := by rw [hw2]; exact ((Below.refl _ w).alloc (Nat.le_refl _) _).alloc (by simp) _
  have hx1 : w2.heap[w.heap.size]? = some (.cells #[v1] 119 (0, 0)) := by rw [hw2]; exact blk_old (blk_new w _ _) _
  have hx2 : w2.heap[w.heap.size + 1]? = some (.cells #[v2] 119 (0, 0)) := by rw [hw2]; have := blk_new (w.alloc (.cells #[v1] 119)) #[v2] 119; simpa only [World.size_alloc] using this
  have hst2 : St w2 := h1.stay _ _ hSt (fun b hb => hb2.block b (hR w hSt b hb))
  have i1 := (h1.box w.heap.size (.cells #[v1] 119 (0, 0)) (fun e => by have := hFw _ e; omega)).box (w.heap.size + 1) (.cells #[v2] 119 (0, 0)) (fun e => by have := hFw _ e; omega)
  have i2 := (h2.box w.heap.size (.cells #[v1] 119 (0, 0)) (fun e => by have := hFw _ e; omega)).box (w.heap.size + 1) (.cells #[v2] 119 (0, 0)) (fun e => by have := hFw _ e; omega)
  have hR2 : ∀ V, ((St V ∧ V.heap[w.heap.size]? = some (.cells #[v1] 119 (0, 0))) ∧ V.heap[w.heap.size + 1]? = some (.cells #[v2] 119 (0, 0))) → ∀ b, ((R b ∨ b = w.heap.size) ∨ b = w.heap.size + 1) → b < V.heap.size := fun V hv b hb => by
    rcases hb with (hb | hb) | hb
    · exact hR V hv.1.1 b hb
    · subst hb; exact blk_lt hv.1.2
    · subst hb; exact blk_lt hv.2
  have hsq := less1 w.heap.size (w.heap.size + 1) v1 v2 hN1 hN2 hS1 hS2 i1 i2 (fun V hv => ⟨hv.2, hv.1.2⟩) hR2 (fun V hv => .inl (.inr rfl))
  have HCT := Lib.hid (sCountW (.func (.func 133) #[] #[.pointer (some ⟨w.heap.size + 1, 0, none⟩), .pointer (some ⟨w.heap.size, 0, none⟩)]) (S := fun xs => xs.length ≤ N1) (N := N1) hN1 (fun _ h => h)
    ⟨⟨_, _, rfl, enters_of Tryz.func133 (by kernel_rfl) rfl, hsq⟩, i1.stay, i1.sub⟩ w2 ⟨⟨hst2, hx1⟩, hx2⟩ (hR2 w2 ⟨⟨hst2, hx1⟩, hx2⟩))
  have HF1 := Lib.hid h1.func
  have HF2 := Lib.hid h2.func
  have HB2 := Lib.hid hb2
  have HW2 := Lib.hid hw2
  clear h1 h2 hsq i1 i2 hR2 hst2 hx1 hx2 hb2 hw2 hFw hR hSt hS1 hS2
  go_enter Tryz.func79, Tryz.ntmps79
  go_wp2_with fail
  refine (lessMake v1 v2 HF1.out HF2.out w).mono ?_
  rintro e w3 ⟨rfl, rfl⟩
  rw [← HW2.out]
  go_wp2_with fail
  refine HCT.out.mono ?_
  rintro e w4 ⟨n, rfl, HS, HC⟩
  have HCF := Lib.hid ((Chg.of_below (S := F) HB2.out).then HC.out)
  clear HCT
  go_wp2
  go_ret
  exact ⟨_, (), rfl, HS.out.1.1, HCF.out⟩
set_option maxRecDepth 100000 in
set_option maxHeartbeats 1000000 in
theorem faceWithin (a b : SK) {G : World → Prop} {R F : Nat → Prop} (E : Env G R F) (Ia : In a G R F) (Ib : In b G R F) (hNa : a.N ≤ 100000) (hNb : b.N ≤ 100000) (w : World) (h : G w) :
    Calls Tryz.prog 52 #[a.v, b.v] w fun e w' => ∃ (r : Bool) (u : Unit), e = .returned (.bool r) ∧ Hid (G w') ∧ Hid (Chg F w w') := by
  have HE := Lib.hid E
  have HIa := Lib.hid Ia
  have HIb := Lib.hid Ib
  have H := Lib.hid h
  have HFL := Lib.hid (show ∀ q, F q → q < w.heap.size from fun q hq => E.lt w h q (E.sub q hq))
  clear E Ia Ib h
  go_enter Tryz.func52, Tryz.ntmps52
  go_wp2_with fail
  refine (faceAllG a HE.out HIa.out w H.out).mono ?_
  rintro e w1 ⟨it1, o1, rfl, rfl, HI1, HG1⟩
  go_wp2_with fail
  refine (faceAllG b HE.out HIb.out _ HG1.out.1).mono ?_
  rintro e w2 ⟨it2, o2, rfl, rfl, HI2, HG2⟩
  have HJ1 := Lib.hid (HI1.out.box (w.alloc o1).heap.size o2 (fun e => by have := HFL.out _ e; simp at this; omega))
  have HJ2 := Lib.hid ((HI2.out.box w.heap.size o1 (fun e => by have := HFL.out _ e; omega)).weak (St' := fun V => (G V ∧ V.heap[w.heap.size]? = some o1) ∧ V.heap[(w.alloc o1).heap.size]? = some o2) (R' := fun q => (R q ∨ q = w.heap.size) ∨ q = (w.alloc o1).heap.size) (F' := F) (fun V => ⟨fun h => ⟨⟨h.1.1, h.2⟩, h.1.2⟩, fun h => ⟨⟨h.1.1, h.2⟩, h.1.2⟩⟩) (fun _ h => h)
    (fun q h => h.elim (fun h => h.elim (fun h => .inl (.inl h)) .inr) (fun h => .inl (.inr h))) (fun q h => .inl (.inl (HE.out.sub q h))) (fun _ h => h) (Nat.le_refl _))
  have hst : (G ((w.alloc o1).alloc o2) ∧ ((w.alloc o1).alloc o2).heap[w.heap.size]? = some o1) ∧ ((w.alloc o1).alloc o2).heap[(w.alloc o1).heap.size]? = some o2 := ⟨⟨HG2.out.1, blk_old HG1.out.2 _⟩, HG2.out.2⟩
  have HSE := Lib.hid (sWithin it1 it2 hNa hNb a.sN b.sN HJ1.out HJ2.out _ hst (fun V hv q hq => by
    rcases hq with (hq | hq) | hq
    · exact HE.out.lt _ hv.1.1 q hq
    · subst hq; exact blk_lt hv.1.2
    · subst hq; exact blk_lt hv.2))
  clear hst
  go_wp2_with fail
  refine HSE.out.mono ?_
  rintro e w3 ⟨r, _, rfl, HG3, HC3⟩
  have HC4 := Lib.hid ((Chg.refl F w).alloc o1 |>.alloc o2 |>.then HC3.out)
  go_wp2
  go_ret
  exact ⟨r, (), rfl, HG3.out.1.1, HC4.out⟩
end Go.Proofs.YtcnaikoloagbdaaGreat
