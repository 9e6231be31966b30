/-
  hash.Table: rehash, walked.
-/
import Derived.Test.YtmpjjehihimadaaGreatHash5
namespace Go.Proofs.YtmpjjehihimadaaGreat
set_option linter.unusedVariables false
set_option linter.unusedSimpArgs false
open Go.RowKit

theorem Tb.places {w : World} {t g g' m : Nat} {es es' : List En} {seed n : Int} (h : Tb w t g m es seed n) (hp : Pl (w.setCell ⟨t, 1, none⟩ (.slice (some ⟨g', 0, none⟩) es'.length es'.length)) g' es') : Tb (w.setCell ⟨t, 1, none⟩ (.slice (some ⟨g', 0, none⟩) es'.length es'.length)) t g' m es' seed n := by
  obtain ⟨pr, h3⟩ := h.head
  exact ⟨⟨pr, blk_set h3 1 _⟩, hp⟩
theorem s_ne (cs : Array Value) {i j : Nat} (v : Value) (h : i ≠ j) : (cs.setIfInBounds i v)[j]? = cs[j]? := by rw [Array.getElem?_setIfInBounds, if_neg h]
theorem s_eq (cs : Array Value) {i : Nat} (v : Value) (h : i < cs.size) : (cs.setIfInBounds i v)[i]? = some v := by rw [Array.getElem?_setIfInBounds, if_pos rfl, if_pos h]
theorem Pl.put {w : World} {g : Nat} {es : List En} (h : Pl w g es) (i : Nat) (hi : i < es.length) (x : En) : Pl ((((w.setCell ⟨g, i * 4, none⟩ (.int .u8 x.lv)).setCell ⟨g, i * 4 + 1, none⟩ (.int .u64 x.pf)).setCell ⟨g, i * 4 + 2, none⟩ (.int .u64 x.v)).setCell ⟨g, i * 4 + 3, none⟩ (.bool x.full)) g (es.set i x) := by
  obtain ⟨cs, h1, h2⟩ := h
  refine ⟨_, blk_set (blk_set (blk_set (blk_set h1 _ _) _ _) _ _) _ _, fun k hk => ?_⟩
  rw [List.length_set] at hk
  have hz : i * 4 + 3 < cs.size := by
    rcases Nat.lt_or_ge (i * 4 + 3) cs.size with h | h
    · exact h
    · have := (h2 i hi).2.2.2
      rw [Array.getElem?_eq_none h] at this
      cases this
  by_cases e : k = i
  · subst e
    rw [List.getElem_set_self]
    refine ⟨?_, ?_, ?_, ?_⟩
    · rw [s_ne _ _ (by omega), s_ne _ _ (by omega), s_ne _ _ (by omega), s_eq _ _ (by omega)]
    · rw [s_ne _ _ (by omega), s_ne _ _ (by omega), s_eq _ _ (by simp; omega)]
    · rw [s_ne _ _ (by omega), s_eq _ _ (by simp; omega)]
    · rw [s_eq _ _ (by simp; omega)]
  · rw [List.getElem_set_ne (fun h => e h.symm)]
    obtain ⟨a, b, c, d⟩ := h2 k hk
    refine ⟨?_, ?_, ?_, ?_⟩
    · rw [s_ne _ _ (by omega), s_ne _ _ (by omega), s_ne _ _ (by omega), s_ne _ _ (by omega)]; exact a
    · rw [s_ne _ _ (by omega), s_ne _ _ (by omega), s_ne _ _ (by omega), s_ne _ _ (by omega)]; exact b
    · rw [s_ne _ _ (by omega), s_ne _ _ (by omega), s_ne _ _ (by omega), s_ne _ _ (by omega)]; exact c
    · rw [s_ne _ _ (by omega), s_ne _ _ (by omega), s_ne _ _ (by omega), s_ne _ _ (by omega)]; exact d
theorem Chg.put4 {S : Nat → Prop} {w w' : World} (h : Chg S w w') {g : Nat} (i : Nat) (a b c d : Value) (hb : S g ∨ w.heap.size ≤ g) : Chg S w ((((w'.setCell ⟨g, i * 4, none⟩ a).setCell ⟨g, i * 4 + 1, none⟩ b).setCell ⟨g, i * 4 + 2, none⟩ c).setCell ⟨g, i * 4 + 3, none⟩ d) :=
  (((h.set a hb).set b hb).set c hb).set d hb
theorem Tb.put {w : World} {t g m : Nat} {es : List En} {seed n : Int} (h : Tb w t g m es seed n) (i : Nat) (hi : i < es.length) (x : En) : Tb ((((w.setCell ⟨g, i * 4, none⟩ (.int .u8 x.lv)).setCell ⟨g, i * 4 + 1, none⟩ (.int .u64 x.pf)).setCell ⟨g, i * 4 + 2, none⟩ (.int .u64 x.v)).setCell ⟨g, i * 4 + 3, none⟩ (.bool x.full)) t g m (es.set i x) seed n := by
  obtain ⟨pr, h3⟩ := h.head
  refine ⟨⟨pr, ?_⟩, h.rows.put i hi x⟩
  rw [List.length_set]
  exact ((Chg.refl (fun k => k = g) w).put4 i _ _ _ _ (.inl rfl)).blk h3 (fun e => h.ne e.symm)
theorem cntF_take (es : List En) (k : Nat) (hk : k < es.length) : cntF (es.take (k + 1)) = cntF (es.take k) + (if es[k].full = true then 1 else 0) := by
  unfold cntF
  rw [List.take_succ_eq_append_getElem hk, List.filter_append, List.length_append]
  congr 1
  by_cases h : es[k].full = true
  · rw [if_pos h, List.filter_cons_of_pos h]; rfl
  · rw [if_neg h, List.filter_cons_of_neg h]; rfl
theorem cntF_take_le (es : List En) (k : Nat) : cntF (es.take k) ≤ cntF es := by
  unfold cntF
  conv => rhs; rw [← List.take_append_drop k es, List.filter_append, List.length_append]
  exact Nat.le_add_right _ _
set_option maxRecDepth 100000 in
set_option maxHeartbeats 4000000 in
theorem hRehash (t g m j : Nat) (es : List En) (seed n : Int) (w : World) (hT : Tb w t g m es seed n) (hs : Sz es.length j) (hs2 : Sz (2 * es.length) (j + 1)) :
    Calls Tryz.prog 155 #[.pointer (some ⟨t, 0, none⟩), .int .i64 (2 * es.length : Nat)] w fun e w' => ∃ g' es', e = .returned (.tuple #[]) ∧ w.heap.size ≤ g' ∧ Hid (Tb w' t g' m es' seed n) ∧ Hid (es'.length = 2 * es.length ∧ cntF es' ≤ cntF es ∧ ∀ x ∈ es', x = e0 ∨ x ∈ es) ∧ Hid (Chg (· = t) w w') := by
  obtain ⟨i0, hi, hz0, hz1, hz2⟩ := info_parts entry_info
  have HS := Lib.hid hs
  have HS2 := Lib.hid hs2
  have hsp := sz_pos hs
  obtain ⟨c0, c1, c2, c3, ⟨pr, c4⟩, fz, htl⟩ := hT.cells
  have f1 := fz 1
  have f4 := fz 4
  have hgt := hT.ne
  have hgl := hT.rows.lt
  have hp := pl_made (w.setCell ⟨t, 1, none⟩ (.slice (some ⟨w.heap.size, 0, none⟩) (2 * es.length) (2 * es.length))) (2 * es.length)
  rw [show (w.setCell ⟨t, 1, none⟩ (.slice (some ⟨w.heap.size, 0, none⟩) (2 * es.length) (2 * es.length))).heap.size = w.heap.size by simp] at hp
  obtain ⟨es0, he0⟩ : ∃ es0, List.replicate (2 * es.length) e0 = es0 := ⟨_, rfl⟩
  have hl0 : es0.length = 2 * es.length := by rw [← he0, List.length_replicate]
  have hm0 : ∀ x ∈ es0, x = e0 := by rw [← he0]; exact fun x hx => (List.mem_replicate.1 hx).2
  have hc0 : cntF es0 = 0 := by rw [← he0]; exact cntF_zeros _
  rw [he0] at hp
  obtain ⟨pr0, hh⟩ := hT.head
  have hh2 := blk_old (blk_set hh 1 (.slice (some ⟨w.heap.size, 0, none⟩) (2 * es.length) (2 * es.length))) (.cells (madeCells #[.int .u8 0, .int .u64 0, .int .u64 0, .bool false] (2 * es.length * 4)) 229)
  have HT1 := Lib.hid (show Tb ((w.setCell ⟨t, 1, none⟩ (.slice (some ⟨w.heap.size, 0, none⟩) (2 * es.length) (2 * es.length))).alloc (.cells (madeCells #[.int .u8 0, .int .u64 0, .int .u64 0, .bool false] (2 * es.length * 4)) 229)) t w.heap.size m es0 seed n from ⟨⟨pr0, by rw [hl0]; exact hh2⟩, hp⟩)
  have HC1 := Lib.hid (((Chg.refl (fun k => k = t) w).set (b := t) (i := 1) (.slice (some ⟨w.heap.size, 0, none⟩) (2 * es.length) (2 * es.length)) (.inl rfl)).alloc (.cells (madeCells #[.int .u8 0, .int .u64 0, .int .u64 0, .bool false] (2 * es.length * 4)) 229))
  have HP1 := Lib.hid (hT.rows.chg HC1.out hgt)
  have HL0 := Lib.hid hl0
  have HM0 := Lib.hid hm0
  have HC0 := Lib.hid hc0
  clear hT hs hs2 fz hp he0 hl0 hm0 hc0 hh hh2
  go_enter Tryz.func155, Tryz.ntmps155
  go_wp2_with (refine wpList_makeRows (2 * es.length) _ _ rfl rfl Tryz.underlying155 hi hz0 rfl rfl (by rw [hz2]; omega) (by unfold maxLen; omega) ?_; rw [hz1])
  generalize (w.setCell ⟨t, 1, none⟩ (.slice (some ⟨w.heap.size, 0, none⟩) (2 * es.length) (2 * es.length))).alloc (.cells (madeCells #[.int .u8 0, .int .u64 0, .int .u64 0, .bool false] (2 * es.length * 4)) 229) = w1 at *
  go_loopw [7, 8, 9, 25] (fun _ _ _ v25 wr => ∃ (k : Nat) (es' : List En), k ≤ es.length ∧ v25 = .int .i64 k ∧ Hid (es'.length = 2 * es.length) ∧ Hid (cntF es' ≤ cntF (es.take k)) ∧ Hid (∀ x ∈ es', x = e0 ∨ x ∈ es) ∧ Hid (Tb wr t w.heap.size m es' seed n) ∧ Hid (Pl wr g es) ∧ Hid (Chg (· = t) w wr)) (fun _ _ _ v25 _ => es.length - (intOf v25).toNat)
  case atStart => exact ⟨0, es0, Nat.zero_le _, rfl, HL0.out, by show _ ≤ _; rw [HC0.out]; exact Nat.zero_le _, fun x hx => .inl (HM0.out x hx), HT1.out, HP1.out, HC1.out⟩
  case round =>
    clear HT1 HP1 HC1 HL0 HM0 HC0 c0 c1 c2 c3 c4 f1 f4
    obtain ⟨k, es', hk, rfl, HL, HN, HM, HT, HP, HC⟩ := hrel
    by_cases hlt : k < es.length
    · obtain ⟨e0, e1, e2, e3, _⟩ := HP.out.at_ hlt
      obtain ⟨x, hx⟩ : ∃ x, es[k] = x := ⟨_, rfl⟩
      rw [hx] at e0 e1 e2 e3
      obtain ⟨xl, xp, xv, xf⟩ := x
      simp only [] at e0 e1 e2 e3
      have HX := Lib.hid hx
      have HTK := Lib.hid (cntF_take es k hlt)
      clear hx
      have hba := (Below.refl wr.heap.size wr).alloc (Nat.le_refl _) (.cells #[.int .u8 xl, .int .u64 xp, .int .u64 xv, .bool xf] 229)
      have HTA := Lib.hid (HT.out.chg (S := fun _ => False) (Chg.of_below hba) (fun h => h) (fun h => h))
      have HPA := Lib.hid (HP.out.chg (S := fun _ => False) (Chg.of_below hba) (fun h => h))
      have HCA := Lib.hid (HC.out.then (Chg.of_below hba))
      have HKA := Lib.hid (blk_new wr #[.int .u8 xl, .int .u64 xp, .int .u64 xv, .bool xf] 229)
      cases xf
      · go_wp2
        go_roundw
        case rel => exact ⟨k + 1, es', by omega, by go_num, HL.out, by show _ ≤ _; rw [HTK.out, HX.out]; exact HN.out, HM.out, HTA.out, HPA.out, HCA.out⟩
        case measure => simp [intOf]; omega
      · go_wp2_with fail
        have hfr : Free es' := free_of (by have h1 := HN.out; have h2 := cntF_take_le es k; have h3 := cntF_le es; have h4 := HL.out; omega)
        obtain ⟨f, hf, hff⟩ := hfr
        refine (hFind t w.heap.size m (j + 1) es' seed n xl xp _ HTA.out (by rw [HL.out]; exact HS2.out) f hf hff).mono ?_
        rintro e w3 ⟨i, b, rfl, HI, _, HT3, HC3⟩
        have hgb : g ≠ wr.heap.size := by have := HP.out.lt; omega
        have HPB := Lib.hid (HPA.out.chg HC3.out hgt)
        have HCB := Lib.hid (HCA.out.then HC3.out)
        have HKB := Lib.hid (HC3.out.blk HKA.out (by have := HC.out.size; omega))
        obtain ⟨hi2, _⟩ := HI.out
        obtain ⟨d0, d1, d2, d3, _, _, _⟩ := HT3.out.cells
        obtain ⟨_, _, _, _, fr⟩ := HT3.out.rows.at_ hi2
        have k0 := blk_cell HKB.out 0 rfl
        have k1 := blk_cell HKB.out 1 rfl
        have k2 := blk_cell HKB.out 2 rfl
        have k3 := blk_cell HKB.out 3 rfl
        have r0 := fr (i * 4)
        have r1 := fr (i * 4 + 1)
        have r2 := fr (i * 4 + 2)
        have r3 := fr (i * 4 + 3)
        have hl2 := HL.out
        have hi3 : (i : Int) < (es'.length : Nat) := by omega
        clear fr hff hba
        go_wp2
        go_region
        have HT4 := Lib.hid (HT3.out.put i hi2 ⟨xl, xp, xv, true⟩)
        have HP4 := Lib.hid (HPB.out.chg ((Chg.refl (fun k => k = w.heap.size) w3).put4 i (.int .u8 xl) (.int .u64 xp) (.int .u64 xv) (.bool true) (.inl rfl)) (by omega))
        have HC4 := Lib.hid (HCB.out.put4 i (.int .u8 xl) (.int .u64 xp) (.int .u64 xv) (.bool true) (.inr (Nat.le_refl _)))
        have HN4 := Lib.hid (cntF_set es' i ⟨xl, xp, xv, true⟩)
        generalize (((w3.setCell ⟨w.heap.size, i * 4, none⟩ (.int .u8 xl)).setCell ⟨w.heap.size, i * 4 + 1, none⟩ (.int .u64 xp)).setCell ⟨w.heap.size, i * 4 + 2, none⟩ (.int .u64 xv)).setCell ⟨w.heap.size, i * 4 + 3, none⟩ (.bool true) = w4 at *
        go_wp2
        go_roundw
        case rel => exact ⟨k + 1, es'.set i ⟨xl, xp, xv, true⟩, by omega, by go_num, by show _ = _; rw [List.length_set]; exact hl2, by show _ ≤ _; rw [HTK.out, HX.out]; have h1 := HN4.out; have h2 := HN.out; simp only [if_true]; omega, fun x hx => (List.mem_or_eq_of_mem_set hx).elim (HM.out x) (fun h => .inr (by rw [h, ← HX.out]; exact List.getElem_mem _)), HT4.out.chg (S := fun _ => False) ((Chg.refl _ _).drew) (fun h => h) (fun h => h), HP4.out.chg (S := fun _ => False) ((Chg.refl _ _).drew) (fun h => h), HC4.out.drew⟩
        case measure => simp [intOf]; omega
    · obtain rfl : k = es.length := by omega
      have HN5 := HN.out
      rw [List.take_of_length_le (Nat.le_refl _)] at HN5
      replace HN5 := Lib.hid HN5
      obtain ⟨d0, d1, d2, d3, ⟨pr5, d4⟩, fz, _⟩ := HT.out.cells
      have f4 := fz 4
      clear fz
      go_wp2
      go_end0
      exact ⟨w.heap.size, es', rfl, Nat.le_refl _, HT.out.probes _, ⟨HL.out, HN5.out, HM.out⟩, HC.out.set _ (.inl rfl)⟩
end Go.Proofs.YtmpjjehihimadaaGreat
