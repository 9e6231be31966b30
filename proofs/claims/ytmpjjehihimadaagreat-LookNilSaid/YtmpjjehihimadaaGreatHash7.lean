/-
  hash.Table: Put, walked.
-/
import Derived.Test.YtmpjjehihimadaaGreatHash6
namespace Go.Proofs.YtmpjjehihimadaaGreat
set_option linter.unusedVariables false
set_option linter.unusedSimpArgs false
open Go.RowKit

theorem Pl.val {w : World} {g : Nat} {es : List En} (h : Pl w g es) (i : Nat) (hi : i < es.length) (v : Int) : Pl (w.setCell ⟨g, i * 4 + 2, none⟩ (.int .u64 v)) g (es.set i ⟨es[i].lv, es[i].pf, v, es[i].full⟩) := by
  obtain ⟨cs, h1, h2⟩ := h
  refine ⟨_, blk_set h1 _ _, fun k hk => ?_⟩
  rw [List.length_set] at hk
  obtain ⟨a, b, c, d⟩ := h2 k hk
  have hz : k * 4 + 2 < cs.size := by
    rcases Nat.lt_or_ge (k * 4 + 2) cs.size with h | h
    · exact h
    · rw [Array.getElem?_eq_none h] at c
      cases c
  by_cases e : k = i
  · subst e
    rw [List.getElem_set_self]
    refine ⟨?_, ?_, ?_, ?_⟩
    · rw [s_ne _ _ (by omega)]; exact a
    · rw [s_ne _ _ (by omega)]; exact b
    · rw [s_eq _ _ (by omega)]
    · rw [s_ne _ _ (by omega)]; exact d
  · rw [List.getElem_set_ne (fun h => e h.symm)]
    refine ⟨?_, ?_, ?_, ?_⟩
    · rw [s_ne _ _ (by omega)]; exact a
    · rw [s_ne _ _ (by omega)]; exact b
    · rw [s_ne _ _ (by omega)]; exact c
    · rw [s_ne _ _ (by omega)]; exact d
theorem Tb.val {w : World} {t g m : Nat} {es : List En} {seed n : Int} (h : Tb w t g m es seed n) (i : Nat) (hi : i < es.length) (v : Int) : Tb (w.setCell ⟨g, i * 4 + 2, none⟩ (.int .u64 v)) t g m (es.set i ⟨es[i].lv, es[i].pf, v, es[i].full⟩) seed n := by
  obtain ⟨pr, h3⟩ := h.head
  refine ⟨⟨pr, ?_⟩, h.rows.val i hi v⟩
  rw [List.length_set]
  exact blk_other h3 _ (fun e => h.ne e.symm)
theorem Tb.count {w : World} {t g m : Nat} {es : List En} {seed n : Int} (h : Tb w t g m es seed n) (n' : Int) : Tb (w.setCell ⟨t, 3, none⟩ (.int .i64 n')) t g m es seed n' := by
  obtain ⟨pr, h3⟩ := h.head
  exact ⟨⟨pr, blk_set h3 3 _⟩, h.rows.chg (S := (· = t)) ((Chg.refl _ _).set _ (.inl rfl)) h.ne⟩
/-- values are of these -/
def Vals (es : List En) (V : Int → Prop) : Prop := ∀ x ∈ es, x = e0 ∨ V x.v
theorem Vals.set {es : List En} {V : Int → Prop} (h : Vals es V) (i : Nat) (x : En) (hx : V x.v) : Vals (es.set i x) V := fun y hy => (List.mem_or_eq_of_mem_set hy).elim (h y) (fun e => .inr (by rw [e]; exact hx))
theorem sz_twice {s j : Nat} (h : Sz s j) (hs : s ≤ 2000) : Sz (2 * s) (j + 1) := by
  obtain ⟨rfl, h3, h12⟩ := h
  refine ⟨by rw [Nat.pow_succ]; omega, by omega, ?_⟩
  rcases Nat.lt_or_ge j 12 with h | h
  · omega
  · have : 2 ^ 12 ≤ 2 ^ j := Nat.pow_le_pow_right (by decide) h
    omega
theorem hRehash2 (t g m j : Nat) (es : List En) (seed n : Int) (w : World) (hT : Tb w t g m es seed n) (hs : Sz es.length j) (hs2 : Sz (2 * es.length) (j + 1)) :
    Calls Tryz.prog 155 #[.pointer (some ⟨t, 0, none⟩), .int .i64 (2 * (es.length : Int))] w fun e w' => ∃ g' es', e = .returned (.tuple #[]) ∧ w.heap.size ≤ g' ∧ Hid (Tb w' t g' m es' seed n) ∧ Hid (es'.length = 2 * es.length ∧ cntF es' ≤ cntF es ∧ ∀ x ∈ es', x = e0 ∨ x ∈ es) ∧ Hid (Chg (· = t) w w') := by
  have h := hRehash t g m j es seed n w hT hs hs2
  rwa [show ((2 * es.length : Nat) : Int) = 2 * (es.length : Int) by omega] at h
set_option maxRecDepth 100000 in
set_option maxHeartbeats 4000000 in
theorem hPut (t g m n : Nat) (es : List En) (seed lv pf v : Int) (V : Int → Prop) (w : World) (hT : Tb w t g m es seed (n : Nat)) (hI : Ti es (n : Nat)) (hn : n < 1000) (hV : Vals es V) (hv : V v) :
    Calls Tryz.prog 142 #[.pointer (some ⟨t, 0, none⟩), .agg #[.int .u8 lv, .int .u64 pf], .int .u64 v] w fun e w' => ∃ g' es' n' b, e = .returned (.bool b) ∧ (g' = g ∨ w.heap.size ≤ g') ∧ n ≤ n' ∧ n' ≤ n + 1 ∧ Hid (Tb w' t g' m es' seed (n' : Nat)) ∧ Hid (Ti es' (n' : Nat)) ∧ Hid (Vals es' V) ∧ Hid (Chg (fun k => k = t ∨ k = g) w w') := by
  obtain ⟨j, hs⟩ := hI.size
  have hsp := sz_pos hs
  have hfew := hI.few
  have hhalf := hI.half
  have HS := Lib.hid hs
  have HI := Lib.hid hI
  have HF := Lib.hid hI.free
  have HV := Lib.hid hV
  have HVV := Lib.hid hv
  have hA := (Below.refl w.heap.size w).alloc (Nat.le_refl _) (.cells #[.int .u8 lv, .int .u64 pf] 218)
  have HT0 := Lib.hid (hT.chg (S := fun _ => False) (Chg.of_below hA) (fun h => h) (fun h => h))
  have HC0 := Lib.hid (Chg.of_below (S := fun k => k = t ∨ k = g) hA)
  have HK0 := Lib.hid (blk_new w #[.int .u8 lv, .int .u64 pf] 218)
  have htl := hT.cells.2.2.2.2.2.2
  have hgl := hT.rows.lt
  have hgt := hT.ne
  clear hT hI hs hV hv hA
  go_enter Tryz.func142, Tryz.ntmps142
  go_wp2_with fail
  generalize w.alloc (.cells #[.int .u8 lv, .int .u64 pf] 218) = w0 at *
  obtain ⟨f, hf, hff⟩ := HF.out
  refine (hFind t g m j es seed n lv pf _ HT0.out HS.out f hf hff).mono ?_
  rintro e w2 ⟨i, b, rfl, HX, _, HT2, hc2⟩
  have HC2 := Lib.hid (HC0.out.then (hc2.out.mono (fun b _ h => .inl h)))
  have HK2 := Lib.hid (hc2.out.blk HK0.out (by omega))
  clear HT0 HC0 HK0 hc2 hff
  obtain ⟨hi, hfu, _⟩ := HX.out
  obtain ⟨c0, c1, c2, c3, _, fz, _⟩ := HT2.out.cells
  obtain ⟨_, _, _, _, fr⟩ := HT2.out.rows.at_ hi
  have r0 := fr (i * 4)
  have r1 := fr (i * 4 + 1)
  have r2 := fr (i * 4 + 2)
  have r3 := fr (i * 4 + 3)
  have f3 := fz 3
  have HFU := Lib.hid hfu
  have k0 := blk_cell HK2.out 0 rfl
  have k1 := blk_cell HK2.out 1 rfl
  clear fz fr hfu
  cases b
  · go_wp2
    go_region
    have HT4 := Lib.hid ((HT2.out.put i hi ⟨lv, pf, v, true⟩).chg (S := fun _ => False) ((Chg.refl _ _).drew) (fun h => h) (fun h => h))
    have HC4 := Lib.hid ((HC2.out.put4 i (.int .u8 lv) (.int .u64 pf) (.int .u64 v) (.bool true) (.inl (.inr rfl))).drew)
    have HN4 := Lib.hid (cntF_set es i ⟨lv, pf, v, true⟩)
    have HV4 := Lib.hid (HV.out.set i ⟨lv, pf, v, true⟩ HVV.out)
    have HL4 := Lib.hid (show (es.set i ⟨lv, pf, v, true⟩).length = es.length from List.length_set)
    generalize ((((w2.setCell ⟨g, i * 4, none⟩ (.int .u8 lv)).setCell ⟨g, i * 4 + 1, none⟩ (.int .u64 pf)).setCell ⟨g, i * 4 + 2, none⟩ (.int .u64 v)).setCell ⟨g, i * 4 + 3, none⟩ (.bool true)).drew = w4 at *
    generalize es.set i ⟨lv, pf, v, true⟩ = es4 at *
    clear c0 c1 c2 c3 r0 r1 r2 r3 f3 k0 k1 HT2 HC2 HK2
    obtain ⟨c0, c1, c2, c3, _, fz, _⟩ := HT4.out.cells
    have f3 := fz 3
    rw [HL4.out] at c1
    have HT5 := Lib.hid (HT4.out.count ((n : Int) + 1))
    have HC5 := Lib.hid (HC4.out.set (b := t) (i := 3) (.int .i64 ((n : Int) + 1)) (.inl (.inl rfl)))
    have e1 : (((n + 1 : Nat)) : Int) = (n : Int) + 1 := by omega
    clear fz
    by_cases hbig : es.length < 2 * (n + 1)
    · have hb : (es.length : Int) < 2 * ((n : Int) + 1) := by omega
      go_wp2
      go_quiet (fail)
      have HT6 := Lib.hid (HT5.out.chg (S := fun _ => False) ((Chg.refl _ _).drewN nq) (fun h => h) (fun h => h))
      have HC6 := Lib.hid (HC5.out.drewN nq)
      generalize (w4.setCell ⟨t, 3, none⟩ (.int .i64 ((n : Int) + 1))).drewN nq = w5 at *
      clear c0 c1 c2 c3 f3 HT4 HC4 HT5 HC5
      obtain ⟨c0, c1, c2, c3, _, _, _⟩ := HT6.out.cells
      rw [HL4.out] at c1
      have hR := hRehash2 t g m j es4 seed ((n : Int) + 1) w5 HT6.out (by rw [HL4.out]; exact HS.out) (by rw [HL4.out]; exact sz_twice HS.out (by omega))
      rw [HL4.out] at hR
      have HRR := Lib.hid hR
      clear hR
      go_wp2_with fail
      refine HRR.out.mono ?_
      rintro e w6 ⟨g', es', rfl, hg', HT7, HE, HC7⟩
      have HC8 := Lib.hid (HC6.out.then (HC7.out.mono (fun b _ h => .inl h)))
      obtain ⟨hE1, hE2, hE3⟩ := HE.out
      have HE3 := Lib.hid hE3
      clear hE3
      go_wp2
      go_ret
      exact ⟨g', es', n + 1, true, rfl, .inr (by have := HC6.out.size; omega), by omega, Nat.le_refl _, by rw [e1]; exact HT7.out, ⟨⟨j + 1, by rw [hE1]; exact sz_twice HS.out (by omega)⟩, by have := HN4.out; omega, by rw [hE1]; omega⟩, fun x hx => (HE3.out x hx).elim .inl (fun h => HV4.out x h), HC8.out⟩
    · have hb : ¬ (es.length : Int) < 2 * ((n : Int) + 1) := by omega
      go_wp2
      go_quiet (fail)
      go_wp2
      go_ret
      exact ⟨g, es4, n + 1, true, rfl, .inl rfl, by omega, Nat.le_refl _, by rw [e1]; exact HT5.out.chg (S := fun _ => False) ((Chg.refl _ _).drewN _) (fun h => h) (fun h => h), ⟨⟨j, by rw [HL4.out]; exact HS.out⟩, by have := HN4.out; omega, by rw [HL4.out]; omega⟩, HV4.out, HC5.out.drewN _⟩
  · go_wp2
    go_ret
    exact ⟨g, _, n, false, rfl, .inl rfl, Nat.le_refl _, by omega, HT2.out.val i hi v, ⟨⟨j, by rw [List.length_set]; exact HS.out⟩, by rw [cntF_val es i ⟨es[i].lv, es[i].pf, v, es[i].full⟩ hi rfl]; exact HI.out.few, by rw [List.length_set]; exact HI.out.half⟩, HV.out.set i _ HVV.out, HC2.out.set _ (.inl (.inr rfl))⟩
end Go.Proofs.YtmpjjehihimadaaGreat
