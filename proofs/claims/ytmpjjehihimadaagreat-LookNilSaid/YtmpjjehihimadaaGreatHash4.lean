/-
  hash.Table: New, Get, Len, walked.
-/
import Derived.Test.YtmpjjehihimadaaGreatHash3
namespace Go.Proofs.YtmpjjehihimadaaGreat
set_option linter.unusedVariables false
set_option linter.unusedSimpArgs false
open Go.RowKit

theorem Tb.ne_mt {w : World} {t g m m2 : Nat} {es : List En} {seed n : Int} (h : Tb w t g m es seed n) (hm : Mt w m2) : m2 ≠ t ∧ m2 ≠ g := by
  obtain ⟨a, b, c, d, e, h0⟩ := hm
  obtain ⟨pr, h1⟩ := h.head
  obtain ⟨cs, h2, _⟩ := h.rows
  constructor
  · rintro rfl; rw [h1] at h0; cases h0
  · rintro rfl; rw [h2] at h0; cases h0
/-- a key is found (b), by the table's own search -/
def Fn (es : List En) (seed lv pf : Int) (b : Bool) : Prop := ∃ (j i0 i : Nat) (hi : i < es.length), Sz es.length j ∧ homeF seed lv pf j = (i0 : Int) ∧ Fnd es lv pf i0 i ∧ es[i].full = b
theorem Sz.one {s j j' : Nat} (h : Sz s j) (h' : Sz s j') : j = j' := by
  obtain ⟨h1, _, _⟩ := h
  obtain ⟨h2, _, _⟩ := h'
  rcases Nat.lt_trichotomy j j' with h | h | h
  · have := Nat.pow_lt_pow_right (a := 2) (by decide) h; omega
  · exact h
  · have := Nat.pow_lt_pow_right (a := 2) (by decide) h; omega
theorem Fn.one {es : List En} {seed lv pf : Int} {b b' : Bool} (h : Fn es seed lv pf b) (h' : Fn es seed lv pf b') : b = b' := by
  obtain ⟨j, i0, i, hi, h1, h2, h3, rfl⟩ := h
  obtain ⟨j', i0', i', hi', h1', h2', h3', rfl⟩ := h'
  obtain rfl := h1.one h1'
  obtain rfl : i0 = i0' := by omega
  obtain rfl := h3.one h3'
  rfl
/-- there is a free place -/
def Free (es : List En) : Prop := ∃ (f : Nat) (hf : f < es.length), es[f].full = false
set_option maxRecDepth 100000 in
set_option maxHeartbeats 2000000 in
theorem hGet (t g m j : Nat) (es : List En) (seed n lv pf : Int) (w : World) (hT : Tb w t g m es seed n) (hM : Mt w m) (hs : Sz es.length j) (hf : Free es) :
    Calls Tryz.prog 152 #[.pointer (some ⟨t, 0, none⟩), .agg #[.int .u8 lv, .int .u64 pf]] w fun e w' => ∃ (v : Int) (b : Bool), e = .returned (.tuple #[.int .u64 v, .bool b]) ∧ Hid ((b = false ∧ v = 0) ∨ (b = true ∧ ∃ (i : Nat) (hi : i < es.length), es[i].full = true ∧ es[i].lv = lv ∧ es[i].pf = pf ∧ es[i].v = v)) ∧ Hid (Fn es seed lv pf b) ∧ Hid (Tb w' t g m es seed n) ∧ Hid (Mt w' m) ∧ Hid (Chg (fun k => k = t ∨ k = m) w w') := by
  have HS := Lib.hid hs
  have HF := Lib.hid hf
  have hA := (Below.refl w.heap.size w).alloc (Nat.le_refl _) (.cells #[.int .u8 lv, .int .u64 pf] 218)
  have HT0 := Lib.hid (hT.chg (S := fun _ => False) (Chg.of_below hA) (fun h => h) (fun h => h))
  have HM0 := Lib.hid (hM.below hA)
  have HC0 := Lib.hid (Chg.of_below (S := fun k => k = t ∨ k = m) hA)
  have HK0 := Lib.hid (blk_new w #[.int .u8 lv, .int .u64 pf] 218)
  have hne := hT.ne_mt hM
  have htl := hT.cells.2.2.2.2.2.2
  have hml : m < w.heap.size := by obtain ⟨a, b, c, d, e, h0⟩ := hM; exact blk_lt h0
  clear hT hM hs hf hA
  generalize hw0 : w.alloc (.cells #[.int .u8 lv, .int .u64 pf] 218) = w0 at *
  obtain ⟨c0, c1, c2, c3, _, _, _⟩ := HT0.out.cells
  go_enter Tryz.func152, Tryz.ntmps152
  rw [← hw0] at c0 c1 c2 c3 HT0 HM0 HC0 HK0
  clear hw0
  go_wp2_with fail
  generalize w.alloc (.cells #[.int .u8 lv, .int .u64 pf] 218) = w0 at *
  refine (mtCall m _ HM0.out).mono ?_
  rintro e w1 ⟨rfl, HM1, hc1⟩
  have HT1 := Lib.hid (HT0.out.chg hc1.out (fun h => hne.1 h.symm) (fun h => hne.2 h.symm))
  have HC1 := Lib.hid (HC0.out.then (hc1.out.mono (fun b _ h => .inr h)))
  have HK1 := Lib.hid (hc1.out.blk HK0.out (by omega))
  have k0 := blk_cell HK1.out 0 rfl
  have k1 := blk_cell HK1.out 1 rfl
  clear hc1 HT0 HM0 HC0 HK0 c0 c1 c2 c3
  go_wp2_with fail
  obtain ⟨f, hf, hff⟩ := HF.out
  refine (hFind t g m j es seed n lv pf _ HT1.out HS.out f hf hff).mono ?_
  rintro e w2 ⟨i, b, rfl, HI, HFD, HT2, hc2⟩
  have HFN := Lib.hid (show Fn es seed lv pf b from by obtain ⟨hi, h1, _⟩ := HI.out; obtain ⟨i0, h2, h3⟩ := HFD.out; exact ⟨j, i0, i, hi, HS.out, h2, h3, h1⟩)
  have HM2 := Lib.hid (HM1.out.chg hc2.out (fun h => hne.1 h))
  have HC2 := Lib.hid (HC1.out.then (hc2.out.mono (fun b _ h => .inl h)))
  clear HT1 HM1 HC1 HK1 k0 k1 hc2 hff
  cases b
  · go_wp2
    go_ret2
    exact ⟨0, false, rfl, .inl ⟨rfl, rfl⟩, HFN.out, HT2.out, HM2.out, HC2.out⟩
  · obtain ⟨hi, hfu, hkey⟩ := HI.out
    obtain ⟨c0, c1, c2, c3, _, _, _⟩ := HT2.out.cells
    obtain ⟨e0, e1, e2, e3, _⟩ := HT2.out.rows.at_ hi
    have HX := Lib.hid (show es[i].full = true ∧ es[i].lv = lv ∧ es[i].pf = pf from ⟨hfu, (hkey rfl).1, (hkey rfl).2⟩)
    obtain ⟨v, hv⟩ : ∃ v, es[i].v = v := ⟨_, rfl⟩
    rw [hv] at e2
    have HV := Lib.hid hv
    clear hfu hkey hv e0 e1 e3
    go_wp2
    go_ret2
    exact ⟨v, true, rfl, .inr ⟨rfl, i, hi, HX.out.1, HX.out.2.1, HX.out.2.2, HV.out⟩, HFN.out, HT2.out, HM2.out, HC2.out⟩
end Go.Proofs.YtmpjjehihimadaaGreat
