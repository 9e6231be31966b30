/-
  hash.Table with no entry: Put, then the entry is found; walked.
-/
import Derived.Test.YtmpjjehihimadaaGreatHash7
namespace Go.Proofs.YtmpjjehihimadaaGreat
set_option linter.unusedVariables false
set_option linter.unusedSimpArgs false
open Go.RowKit

theorem fn_empty {es : List En} {seed lv pf : Int} {n : Int} (hI : Ti es n) (hE : ∀ x ∈ es, x = e0) {j i0 i : Nat} (hs : Sz es.length j) (h0 : homeF seed lv pf j = (i0 : Int)) (h : Fnd es lv pf i0 i) (hi : i < es.length) (v : Int) : Fn (es.set i ⟨lv, pf, v, true⟩) seed lv pf true := by
  obtain ⟨k, hk, hst, hno⟩ := h
  have hk0 : k = 0 := by
    rcases Nat.eq_zero_or_pos k with h | h
    · exact h
    · refine absurd ?_ (hno 0 h)
      have hl : (i0 + 0) % es.length < es.length := Nat.mod_lt _ (by omega)
      exact ⟨hl, .inl (by rw [hE _ (List.getElem_mem hl)]; rfl)⟩
  subst hk0
  have hi' : i < (es.set i ⟨lv, pf, v, true⟩).length := by rw [List.length_set]; exact hi
  have hg : (es.set i ⟨lv, pf, v, true⟩)[i] = ⟨lv, pf, v, true⟩ := List.getElem_set_self _
  refine ⟨j, i0, i, hi', by rw [List.length_set]; exact hs, h0, ⟨0, by rw [List.length_set]; exact hk, ⟨hi', .inr (by rw [hg]; exact ⟨rfl, rfl⟩)⟩, fun m hm => absurd hm (by omega)⟩, by rw [hg]⟩
theorem fn_free {es : List En} {seed lv pf : Int} {b : Bool} (hE : ∀ x ∈ es, x = e0) (h : Fn es seed lv pf b) : b = false := by
  obtain ⟨j, i0, i, hi, _, _, _, rfl⟩ := h
  rw [hE _ (List.getElem_mem hi)]
  rfl
set_option maxRecDepth 100000 in
set_option maxHeartbeats 4000000 in
theorem hPut0 (t g m : Nat) (es : List En) (seed lv pf v : Int) (w : World) (hT : Tb w t g m es seed (0 : Nat)) (hI : Ti es (0 : Nat)) (hE : ∀ x ∈ es, x = e0) :
    Calls Tryz.prog 142 #[.pointer (some ⟨t, 0, none⟩), .agg #[.int .u8 lv, .int .u64 pf], .int .u64 v] w fun e w' => ∃ es', e = .returned (.bool true) ∧ Hid (Tb w' t g m es' seed (1 : Nat)) ∧ Hid (Ti es' (1 : Nat)) ∧ Hid (Fn es' seed lv pf true) ∧ Hid (∀ x ∈ es', x.full = true → x.v = v) ∧ Hid (Chg (fun k => k = t ∨ k = g) w w') := by
  obtain ⟨j, hs⟩ := hI.size
  have hsp := sz_pos hs
  have hge : 8 ≤ es.length := by
    obtain ⟨h1, h2, _⟩ := hs
    have : 2 ^ 3 ≤ 2 ^ j := Nat.pow_le_pow_right (by decide) h2
    omega
  have HS := Lib.hid hs
  have HI := Lib.hid hI
  have HE := Lib.hid hE
  have HF := Lib.hid hI.free
  have hA := (Below.refl w.heap.size w).alloc (Nat.le_refl _) (.cells #[.int .u8 lv, .int .u64 pf] 218)
  have HT0 := Lib.hid (hT.chg (S := fun _ => False) (Chg.of_below hA) (fun h => h) (fun h => h))
  have HC0 := Lib.hid (Chg.of_below (S := fun k => k = t ∨ k = g) hA)
  have HK0 := Lib.hid (blk_new w #[.int .u8 lv, .int .u64 pf] 218)
  have htl := hT.cells.2.2.2.2.2.2
  have hgl := hT.rows.lt
  have hgt := hT.ne
  clear hT hI hs hE hA
  go_enter Tryz.func142, Tryz.ntmps142
  go_wp2_with fail
  generalize w.alloc (.cells #[.int .u8 lv, .int .u64 pf] 218) = w0 at *
  obtain ⟨f, hf, hff⟩ := HF.out
  refine (hFind t g m j es seed (0 : Nat) lv pf _ HT0.out HS.out f hf hff).mono ?_
  rintro e w2 ⟨i, b, rfl, HX, HFD, HT2, hc2⟩
  have HC2 := Lib.hid (HC0.out.then (hc2.out.mono (fun b _ h => .inl h)))
  have HK2 := Lib.hid (hc2.out.blk HK0.out (by omega))
  clear HT0 HC0 HK0 hc2 hff
  obtain ⟨hi, hfu, _⟩ := HX.out
  obtain rfl : b = false := by
    rw [← hfu, HE.out _ (List.getElem_mem hi)]
    rfl
  have HFN := Lib.hid (show Fn (es.set i ⟨lv, pf, v, true⟩) seed lv pf true from by
    obtain ⟨i0, h0, h1⟩ := HFD.out
    exact fn_empty HI.out HE.out HS.out h0 h1 hi v)
  have HVL := Lib.hid (show ∀ x ∈ es.set i ⟨lv, pf, v, true⟩, x.full = true → x.v = v from fun x hx hfx => by
    rcases List.mem_or_eq_of_mem_set hx with h | h
    · rw [HE.out x h] at hfx; cases hfx
    · rw [h])
  obtain ⟨c0, c1, c2, c3, _, fz, _⟩ := HT2.out.cells
  obtain ⟨_, _, _, _, fr⟩ := HT2.out.rows.at_ hi
  have r0 := fr (i * 4)
  have r1 := fr (i * 4 + 1)
  have r2 := fr (i * 4 + 2)
  have r3 := fr (i * 4 + 3)
  have f3 := fz 3
  have k0 := blk_cell HK2.out 0 rfl
  have k1 := blk_cell HK2.out 1 rfl
  clear fz fr hfu HX HFD
  go_wp2
  go_region
  have HT4 := Lib.hid ((HT2.out.put i hi ⟨lv, pf, v, true⟩).chg (S := fun _ => False) ((Chg.refl _ _).drew) (fun h => h) (fun h => h))
  have HC4 := Lib.hid ((HC2.out.put4 i (.int .u8 lv) (.int .u64 pf) (.int .u64 v) (.bool true) (.inl (.inr rfl))).drew)
  have HN4 := Lib.hid (cntF_set es i ⟨lv, pf, v, true⟩)
  have HL4 := Lib.hid (show (es.set i ⟨lv, pf, v, true⟩).length = es.length from List.length_set)
  generalize ((((w2.setCell ⟨g, i * 4, none⟩ (.int .u8 lv)).setCell ⟨g, i * 4 + 1, none⟩ (.int .u64 pf)).setCell ⟨g, i * 4 + 2, none⟩ (.int .u64 v)).setCell ⟨g, i * 4 + 3, none⟩ (.bool true)).drew = w4 at *
  generalize es.set i ⟨lv, pf, v, true⟩ = es4 at *
  clear c0 c1 c2 c3 r0 r1 r2 r3 f3 k0 k1 HT2 HC2 HK2
  obtain ⟨c0, c1, c2, c3, _, fz, _⟩ := HT4.out.cells
  have f3 := fz 3
  rw [HL4.out] at c1
  have HT5 := Lib.hid (HT4.out.count ((0 : Int) + 1))
  have HC5 := Lib.hid (HC4.out.set (b := t) (i := 3) (.int .i64 ((0 : Int) + 1)) (.inl (.inl rfl)))
  clear fz
  have hb : ¬ (es.length : Int) < 2 := by omega
  go_wp2
  go_quiet (fail)
  go_wp2
  go_ret
  exact ⟨es4, rfl, HT5.out.chg (S := fun _ => False) ((Chg.refl _ _).drewN _) (fun h => h) (fun h => h), ⟨⟨j, by rw [HL4.out]; exact HS.out⟩, by have := HN4.out; have := HI.out.few; omega, by rw [HL4.out]; omega⟩, HFN.out, HVL.out, HC5.out.drewN _⟩
end Go.Proofs.YtmpjjehihimadaaGreat
