/-
  hash.Table.find, walked.
-/
import Derived.Test.YtmpjjehihimadaaGreatHash2
namespace Go.Proofs.YtmpjjehihimadaaGreat
set_option linter.unusedVariables false
set_option linter.unusedSimpArgs false
open Go.RowKit

/-- a place of a table -/
structure En where
  lv : Int
  pf : Int
  v : Int
  full : Bool
def EnAt (cs : Array Value) (i : Nat) (e : En) : Prop := cs[i * 4]? = some (.int .u8 e.lv) ∧ cs[i * 4 + 1]? = some (.int .u64 e.pf) ∧ cs[i * 4 + 2]? = some (.int .u64 e.v) ∧ cs[i * 4 + 3]? = some (.bool e.full)
/-- a row of places -/
def Pl (w : World) (g : Nat) (es : List En) : Prop := ∃ cs, w.heap[g]? = some (.cells cs 229 (0, 0)) ∧ ∀ (i : Nat) (h : i < es.length), EnAt cs i es[i]
/-- a table -/
structure Tb (w : World) (t g m : Nat) (es : List En) (seed n : Int) : Prop where
  head : ∃ pr : Int, w.heap[t]? = some (.cells #[.pointer (some ⟨m, 0, none⟩), .slice (some ⟨g, 0, none⟩) es.length es.length, .int .u64 seed, .int .i64 n, .int .i64 pr] 157 (0, 0))
  rows : Pl w g es
theorem Pl.chg {S : Nat → Prop} {w w' : World} {g : Nat} {es : List En} (h : Pl w g es) (hc : Chg S w w') (hn : ¬ S g) : Pl w' g es := by
  obtain ⟨cs, h1, h2⟩ := h
  exact ⟨cs, hc.blk h1 hn, h2⟩
theorem Pl.lt {w : World} {g : Nat} {es : List En} (h : Pl w g es) : g < w.heap.size := by
  obtain ⟨cs, h1, _⟩ := h
  exact blk_lt h1
theorem Pl.at_ {w : World} {g : Nat} {es : List En} (h : Pl w g es) {i : Nat} (hi : i < es.length) : w.cell? ⟨g, i * 4, none⟩ = some (.int .u8 es[i].lv) ∧ w.cell? ⟨g, i * 4 + 1, none⟩ = some (.int .u64 es[i].pf) ∧ w.cell? ⟨g, i * 4 + 2, none⟩ = some (.int .u64 es[i].v) ∧ w.cell? ⟨g, i * 4 + 3, none⟩ = some (.bool es[i].full) ∧ ∀ k, w.frozen? ⟨g, k, none⟩ = false := by
  obtain ⟨cs, h1, h2⟩ := h
  obtain ⟨a, b, c, d⟩ := h2 i hi
  exact ⟨blk_cell h1 _ a, blk_cell h1 _ b, blk_cell h1 _ c, blk_cell h1 _ d, fun k => blk_free h1 k⟩
theorem Tb.ne {w : World} {t g m : Nat} {es : List En} {seed n : Int} (h : Tb w t g m es seed n) : g ≠ t := by
  rintro rfl
  obtain ⟨pr, h1⟩ := h.head
  obtain ⟨cs, h2, _⟩ := h.rows
  rw [h1] at h2
  cases h2
theorem Tb.chg {S : Nat → Prop} {w w' : World} {t g m : Nat} {es : List En} {seed n : Int} (h : Tb w t g m es seed n) (hc : Chg S w w') (h1 : ¬ S t) (h2 : ¬ S g) : Tb w' t g m es seed n := by
  obtain ⟨pr, h3⟩ := h.head
  exact ⟨⟨pr, hc.blk h3 h1⟩, h.rows.chg hc h2⟩
theorem Tb.probes {w : World} {t g m : Nat} {es : List En} {seed n : Int} (h : Tb w t g m es seed n) (x : Int) : Tb (w.setCell ⟨t, 4, none⟩ (.int .i64 x)) t g m es seed n := by
  obtain ⟨pr, h3⟩ := h.head
  exact ⟨⟨x, blk_set h3 4 _⟩, h.rows.chg (S := (· = t)) ((Chg.refl _ _).set _ (.inl rfl)) h.ne⟩
theorem Tb.cells {w : World} {t g m : Nat} {es : List En} {seed n : Int} (h : Tb w t g m es seed n) : w.cell? ⟨t, 0, none⟩ = some (.pointer (some ⟨m, 0, none⟩)) ∧ w.cell? ⟨t, 1, none⟩ = some (.slice (some ⟨g, 0, none⟩) es.length es.length) ∧ w.cell? ⟨t, 2, none⟩ = some (.int .u64 seed) ∧ w.cell? ⟨t, 3, none⟩ = some (.int .i64 n) ∧ (∃ pr : Int, w.cell? ⟨t, 4, none⟩ = some (.int .i64 pr)) ∧ (∀ k, w.frozen? ⟨t, k, none⟩ = false) ∧ t < w.heap.size := by
  obtain ⟨pr, h1⟩ := h.head
  exact ⟨blk_cell h1 0 rfl, blk_cell h1 1 rfl, blk_cell h1 2 rfl, blk_cell h1 3 rfl, ⟨pr, blk_cell h1 4 rfl⟩, fun k => blk_free h1 k, blk_lt h1⟩
theorem ring_lt {s i f : Nat} (hi : i < s) (hf : f < s) (hne : i ≠ f) : (f + s - (i + 1) % s) % s < (f + s - i) % s := by
  rcases Nat.lt_or_ge (i + 1) s with h | h
  · rw [Nat.mod_eq_of_lt h]
    rcases Nat.lt_or_ge i f with h1 | h1
    · rw [show f + s - (i + 1) = (f - (i + 1)) + s by omega, show f + s - i = (f - i) + s by omega, Nat.add_mod_right, Nat.add_mod_right, Nat.mod_eq_of_lt (by omega), Nat.mod_eq_of_lt (by omega)]
      omega
    · rw [Nat.mod_eq_of_lt (by omega), Nat.mod_eq_of_lt (by omega)]
      omega
  · obtain rfl : s = i + 1 := by omega
    rw [Nat.mod_self, Nat.sub_zero, Nat.add_mod_right, Nat.mod_eq_of_lt hf, Nat.mod_eq_of_lt (by omega)]
    omega
/-- here a search ends -/
def Stop (es : List En) (lv pf : Int) (i : Nat) : Prop := ∃ h : i < es.length, es[i].full = false ∨ (es[i].lv = lv ∧ es[i].pf = pf)
/-- the first such place from i0 on -/
def Fnd (es : List En) (lv pf : Int) (i0 i : Nat) : Prop := ∃ n, i = (i0 + n) % es.length ∧ Stop es lv pf i ∧ ∀ k, k < n → ¬ Stop es lv pf ((i0 + k) % es.length)
theorem Fnd.one {es : List En} {lv pf : Int} {i0 i i' : Nat} (h : Fnd es lv pf i0 i) (h' : Fnd es lv pf i0 i') : i = i' := by
  obtain ⟨n, rfl, h1, h2⟩ := h
  obtain ⟨m, rfl, h3, h4⟩ := h'
  rcases Nat.lt_trichotomy n m with h | h | h
  · exact absurd h1 (h4 n h)
  · rw [h]
  · exact absurd h3 (h2 m h)
/-- so far none -/
def Sofar (es : List En) (lv pf : Int) (i0 i : Nat) : Prop := ∃ n, i = (i0 + n) % es.length ∧ ∀ k, k < n → ¬ Stop es lv pf ((i0 + k) % es.length)
theorem Sofar.next {es : List En} {lv pf : Int} {i0 i : Nat} (h : Sofar es lv pf i0 i) (hs : ¬ Stop es lv pf i) : Sofar es lv pf i0 ((i + 1) % es.length) := by
  obtain ⟨n, rfl, h1⟩ := h
  refine ⟨n + 1, by rw [Nat.mod_add_mod]; rfl, fun k hk => ?_⟩
  rcases Nat.lt_or_ge k n with h | h
  · exact h1 k h
  · obtain rfl : k = n := by omega
    exact hs
theorem Sofar.found {es : List En} {lv pf : Int} {i0 i : Nat} (h : Sofar es lv pf i0 i) (hs : Stop es lv pf i) : Fnd es lv pf i0 i := by
  obtain ⟨n, rfl, h1⟩ := h
  exact ⟨n, rfl, hs, h1⟩
set_option maxRecDepth 100000 in
set_option maxHeartbeats 2000000 in
theorem hFind (t g m j : Nat) (es : List En) (seed n lv pf : Int) (w : World) (hT : Tb w t g m es seed n) (hs : Sz es.length j) (f : Nat) (hf : f < es.length) (hff : es[f].full = false) :
    Calls Tryz.prog 154 #[.pointer (some ⟨t, 0, none⟩), .agg #[.int .u8 lv, .int .u64 pf]] w fun e w' => ∃ (i : Nat) (b : Bool), e = .returned (.tuple #[.int .i64 (i : Nat), .bool b]) ∧ Hid (∃ hi : i < es.length, es[i].full = b ∧ (b = true → es[i].lv = lv ∧ es[i].pf = pf)) ∧ Hid (∃ i0 : Nat, homeF seed lv pf j = (i0 : Int) ∧ Fnd es lv pf i0 i) ∧ Hid (Tb w' t g m es seed n) ∧ Hid (Chg (· = t) w w') := by
  have HS := Lib.hid hs
  have HF := Lib.hid hff
  have hsp := sz_pos hs
  obtain ⟨c0, c1, c2, c3, ⟨pr, c4⟩, fz, htl⟩ := hT.cells
  have f4 := fz 4
  have hz : (w.setCell ⟨t, 4, none⟩ (.int .i64 1)).heap.size = w.heap.size := by simp
  have hA := (Below.refl (w.setCell ⟨t, 4, none⟩ (.int .i64 1)).heap.size (w.setCell ⟨t, 4, none⟩ (.int .i64 1))).alloc (Nat.le_refl _) (.cells #[.int .u8 lv, .int .u64 pf] 218)
  have HT0 := Lib.hid ((hT.probes 1).chg (S := fun _ => False) (Chg.of_below hA) (fun h => h) (fun h => h))
  have HC0 := Lib.hid (((Chg.refl (fun k => k = t) w).set (b := t) (i := 4) (.int .i64 1) (.inl rfl)).alloc (.cells #[.int .u8 lv, .int .u64 pf] 218))
  have hk0 := blk_new (w.setCell ⟨t, 4, none⟩ (.int .i64 1)) #[.int .u8 lv, .int .u64 pf] 218
  rw [hz] at hk0
  have HK0 := Lib.hid hk0
  clear hT hs hff fz hA hk0 hz
  go_enter Tryz.func154, Tryz.ntmps154
  go_wp2_with fail
  generalize (w.setCell ⟨t, 4, none⟩ (.int .i64 1)).alloc (.cells #[.int .u8 lv, .int .u64 pf] 218) = w0 at *
  obtain ⟨d0, d1, d2, _, _, _, dt⟩ := HT0.out.cells
  refine (hHome t g es.length j seed lv pf _ d1 d2 HS.out dt).mono ?_
  rintro e w1 ⟨i0, rfl, hi0, HH0, hb1⟩
  have HT1 := Lib.hid (HT0.out.chg (S := fun _ => False) (Chg.of_below hb1) (fun h => h) (fun h => h))
  have HC1 := Lib.hid (HC0.out.then (Chg.of_below hb1))
  have HK1 := Lib.hid (blk_below HK0.out hb1 rfl)
  clear hb1 HT0 HC0 HK0 d0 d1 d2 dt c0 c1 c2 c3 c4 f4
  go_wp2
  go_loopw [6] (fun v6 wr => ∃ i : Nat, v6 = .int .i64 i ∧ i < es.length ∧ Hid (Sofar es lv pf i0 i) ∧ Hid (Tb wr t g m es seed n) ∧ Hid (Chg (· = t) w wr) ∧ Hid (wr.heap[w.heap.size]? = some (.cells #[.int .u8 lv, .int .u64 pf] 218 (0, 0)))) (fun v6 _ => (f + es.length - (intOf v6).toNat) % es.length)
  case atStart => exact ⟨i0, rfl, hi0, ⟨0, by rw [Nat.add_zero, Nat.mod_eq_of_lt hi0], fun k h => absurd h (Nat.not_lt_zero _)⟩, HT1.out, HC1.out, HK1.out⟩
  case round =>
    clear HT1 HC1 HK1
    obtain ⟨i, rfl, hi, HSF, HT, HC, HK⟩ := hrel
    obtain ⟨c0, c1, c2, c3, ⟨pr, c4⟩, fz, htl⟩ := HT.out.cells
    have f4 := fz 4
    obtain ⟨e0, e1, e2, e3, _⟩ := HT.out.rows.at_ hi
    have k0 := blk_cell HK.out 0 rfl
    have k1 := blk_cell HK.out 1 rfl
    obtain ⟨x, hx⟩ : ∃ x, es[i] = x := ⟨_, rfl⟩
    rw [hx] at e0 e1 e2 e3
    obtain ⟨xl, xp, xv, xf⟩ := x
    simp only [] at e0 e1 e2 e3
    have HX := Lib.hid hx
    have hne := HT.out.ne
    clear hx fz
    cases xf
    · have HFN := Lib.hid (HSF.out.found ⟨hi, .inl (by rw [HX.out])⟩)
      go_wp2
      go_quiet (fail)
      go_wp2
      go_quiet (fail)
      go_wp2
      go_ret2
      exact ⟨i, false, rfl, ⟨hi, by rw [HX.out], fun h => (by cases h)⟩, ⟨i0, HH0.out, HFN.out⟩, HT.out.chg (S := fun _ => False) (((Chg.refl _ _).drewN _).drewN _) (fun h => h) (fun h => h), (HC.out.drewN _).drewN _⟩
    · by_cases hl : xl = lv
      · by_cases hp : xp = pf
        · subst hl
          subst hp
          have HFN := Lib.hid (HSF.out.found ⟨hi, .inr (by rw [HX.out]; exact ⟨rfl, rfl⟩)⟩)
          go_wp2
          go_quiet (fail)
          go_wp2
          go_quiet (fail)
          go_wp2
          go_ret2
          exact ⟨i, true, rfl, ⟨hi, by rw [HX.out], fun _ => ⟨by rw [HX.out], by rw [HX.out]⟩⟩, ⟨i0, HH0.out, HFN.out⟩, HT.out.chg (S := fun _ => False) (((Chg.refl _ _).drewN _).drewN _) (fun h => h) (fun h => h), (HC.out.drewN _).drewN _⟩
        · have HSN := Lib.hid (HSF.out.next (fun h => by obtain ⟨_, h⟩ := h; rw [HX.out] at h; rcases h with h | h; cases h; exact hp h.2))
          have hif : i ≠ f := by
            rintro rfl
            have := HF.out
            rw [HX.out] at this
            cases this
          have HRG := Lib.hid (ring_lt hi hf hif)
          go_wp2
          go_quiet (fail)
          have HT2 := Lib.hid (HT.out.chg (S := fun _ => False) ((Chg.refl _ _).drewN nq) (fun h => h) (fun h => h))
          have HC2 := Lib.hid (HC.out.drewN nq)
          have HK2 := Lib.hid (show (wr.drewN nq).heap[w.heap.size]? = some (.cells #[.int .u8 lv, .int .u64 pf] 218 (0, 0)) from HK.out)
          generalize wr.drewN nq = w2 at *
          clear HT HC HK c0 c1 c2 c3 c4 f4 e0 e1 e2 e3 k0 k1
          obtain ⟨c0, c1, c2, c3, ⟨pr2, c4⟩, fz, _⟩ := HT2.out.cells
          have f4 := fz 4
          clear fz
          go_wp2_with fail
          refine (hNext t g es.length j i _ c1 HS.out hi).mono ?_
          rintro e w3 ⟨rfl, rfl⟩
          have hm : (i + 1) % es.length < es.length := Nat.mod_lt _ (by omega)
          obtain ⟨i2, hi2⟩ : ∃ i2, (i + 1) % es.length = i2 := ⟨_, rfl⟩
          replace HSN := Lib.hid (show Sofar es lv pf i0 i2 by rw [← hi2]; exact HSN.out)
          rw [hi2] at HRG hm ⊢
          clear hi2
          go_wp2
          go_roundw
          case rel => exact ⟨i2, rfl, hm, HSN.out, HT2.out.probes _, HC2.out.set _ (.inl rfl), blk_other HK2.out _ (by omega)⟩
          case measure => have := HRG.out; simp [intOf]; omega
      · have HSN := Lib.hid (HSF.out.next (fun h => by obtain ⟨_, h⟩ := h; rw [HX.out] at h; rcases h with h | h; cases h; exact hl h.1))
        have hif : i ≠ f := by
          rintro rfl
          have := HF.out
          rw [HX.out] at this
          cases this
        have HRG := Lib.hid (ring_lt hi hf hif)
        go_wp2
        go_quiet (fail)
        have HT2 := Lib.hid (HT.out.chg (S := fun _ => False) ((Chg.refl _ _).drewN nq) (fun h => h) (fun h => h))
        have HC2 := Lib.hid (HC.out.drewN nq)
        have HK2 := Lib.hid (show (wr.drewN nq).heap[w.heap.size]? = some (.cells #[.int .u8 lv, .int .u64 pf] 218 (0, 0)) from HK.out)
        generalize wr.drewN nq = w2 at *
        clear HT HC HK c0 c1 c2 c3 c4 f4 e0 e1 e2 e3 k0 k1
        obtain ⟨c0, c1, c2, c3, ⟨pr2, c4⟩, fz, _⟩ := HT2.out.cells
        have f4 := fz 4
        clear fz
        go_wp2_with fail
        refine (hNext t g es.length j i _ c1 HS.out hi).mono ?_
        rintro e w3 ⟨rfl, rfl⟩
        have hm : (i + 1) % es.length < es.length := Nat.mod_lt _ (by omega)
        obtain ⟨i2, hi2⟩ : ∃ i2, (i + 1) % es.length = i2 := ⟨_, rfl⟩
        replace HSN := Lib.hid (show Sofar es lv pf i0 i2 by rw [← hi2]; exact HSN.out)
        rw [hi2] at HRG hm ⊢
        clear hi2
        go_wp2
        go_roundw
        case rel => exact ⟨i2, rfl, hm, HSN.out, HT2.out.probes _, HC2.out.set _ (.inl rfl), blk_other HK2.out _ (by omega)⟩
        case measure => have := HRG.out; simp [intOf]; omega
end Go.Proofs.YtmpjjehihimadaaGreat
