/-
  slices.Values of a row: its iterator tells the row; sift.Of of few rising keys; walked.
-/
import Derived.Test.YtmpjjehihimadaaGreatVSort
import Derived.Test.YtmpjjehihimadaaGreatSeqQ
namespace Go.Proofs.YtmpjjehihimadaaGreat
set_option linter.unusedVariables false
set_option linter.unusedSimpArgs false
open Go.RowKit Go.Shelf
attribute [local go_sem] Oper.semAt_some k1
attribute [local go_sem ↓] Go.wp_at_zero Go.wp_at_succ

theorem Own.stayV {k : IntKind} {e : TypeId} {w w' : World} {base : Nat} {v : Value} {l : List Int} (h : Own k e w base v l) (hs : ∀ g, v.ownBlock = some g → w'.heap[g]? = w.heap[g]?) : Own k e w' base v l := by
  obtain ⟨h1, h2⟩ := h
  refine ⟨h1, ?_⟩
  rcases h2 with h2 | ⟨g, cap, cur, rfl, hg', hh, hr⟩
  · exact .inl h2
  · exact .inr ⟨g, cap, cur, rfl, hg', (hs g rfl).trans hh, hr⟩
/-- what the iterator of a row needs: the box, the row -/
def VSt (B base : Nat) (A : Option Addr) (c : Nat) (l : List Int) (V : World) : Prop := V.heap[B]? = some (.cells #[.slice A l.length c] 38 (0, 0)) ∧ Own .u64 22 V base (.slice A l.length c) l
def VR (B : Nat) (A : Option Addr) (c n : Nat) (b : Nat) : Prop := b = B ∨ (Value.slice A n c).ownBlock = some b
theorem VSt.stay {B base : Nat} {A : Option Addr} {c : Nat} {l : List Int} {X Y : World} (h : VSt B base A c l X) (hs : ∀ b, VR B A c l.length b → Y.heap[b]? = X.heap[b]?) : VSt B base A c l Y :=
  ⟨(hs _ (.inl rfl)).trans h.1, h.2.stayV (fun g hg => hs g (.inr hg))⟩
set_option maxRecDepth 100000 in
set_option maxHeartbeats 4000000 in
theorem values1 (B base : Nat) (A : Option Addr) (c : Nat) (l : List Int) (hl : l.length ≤ 1000) : SeqQ Tryz.prog 55 #[.pointer (some ⟨B, 0, none⟩)] k1 (VSt B base A c l) (fun _ => False) (fun xs => xs = l) (Yl (fun xs => xs = l)) := by
  intro n l2 J Jx C0 W hn hst hJ hJx hY hC0 h0
  have HYY := Lib.hid hY
  have HST := Lib.hid hst
  have HJ1 := Lib.hid h0
  have HC0 := Lib.hid hC0
  obtain ⟨M, hM⟩ : ∃ M, M = W.heap.size := ⟨_, rfl⟩
  have HMM := Lib.hid hM
  have q0 := blk_cell hst.1 0 rfl
  clear hJ hY hst h0 hJx hM hC0
  refine callsIn_wide.2 ?_
  go_enter Tryz.func55, Tryz.ntmps55
  go_wp2
  go_loopw [4, 7] (fun _ v7 wk => ∃ (j : Nat) (C : Nat → Prop), v7 = .int .i64 j ∧ j ≤ l.length ∧ M ≤ wk.heap.size ∧ Hid (J C (l.take j) wk) ∧ Hid (VSt B base A c l wk) ∧ Hid (∀ q, C q → q < wk.heap.size)) (fun _ v7 _ => l.length - (intOf v7).toNat)
  case atStart => exact ⟨0, C0, rfl, Nat.zero_le _, by rw [HMM.out]; exact Nat.le_refl _, HJ1.out, HST.out, HC0.out⟩
  case round =>
    clear HJ1 HST q0
    obtain ⟨j, C, rfl, hj, hMk, HJK, HSK, HCK⟩ := hrel
    by_cases hjl : j < l.length
    · obtain ⟨A', c', e5, _, _, hr⟩ := HSK.out.2.form
      obtain ⟨rfl, _, rfl⟩ : A = A' ∧ l.length = l.length ∧ c = c' := by simpa using e5
      obtain ⟨ad, hA, had, hc⟩ := hr j hjl
      have HTK := Lib.hid (show l.take j ++ [l.getD j 0] = l.take (j + 1) by rw [List.take_add_one, List.getD_eq_getElem?_getD, List.getElem?_eq_getElem hjl]; rfl)
      obtain ⟨fn, tmps, assign, body, hy, hRI⟩ := HYY.out C (l.take j) (l.getD j 0) wr (by rw [← HMM.out]; exact hMk) HCK.out HJK.out HSK.out ⟨l, rfl, by rw [HTK.out]; exact List.take_prefix _ _⟩
      simp only [k1] at hy
      have HA := Lib.hid hA
      rw [hA]
      rw [HTK.out] at hRI
      clear hr e5 hA
      generalize l.getD j 0 = x at *
      have hn1 : 1 ≤ n := by omega
      refine (wpIn_wide (n := n)).1 ?_
      gi_wp2
      refine hRI.mono ?_
      rintro e W3 (⟨rfl, hS3, hkf, C', hJ3, hC', hkk⟩ | ⟨rfl, hS3, hkf, hJx3, _⟩)
      · have HJ4 := Lib.hid hJ3
        have HS4 := Lib.hid hS3
        have HC4 := Lib.hid (show ∀ k, C' k → k < W3.heap.size from fun k hk => (hC' k hk).2)
        have hz4 := hkf.size
        clear hJ3 hS3 hkf hkk hC'
        gi_wp2
        rw [← HA.out]
        go_roundw
        case rel => exact ⟨j + 1, C', by go_num, by omega, by omega, HJ4.out, HS4.out, HC4.out⟩
        case measure => simp [intOf]; omega
      · have HJ4 := Lib.hid hJx3
        have HS4 := Lib.hid hS3
        have hz4 := hkf.size
        clear hJx3 hS3 hkf
        gi_wp2
        refine bodyPost_ret (results_none rfl _ _ _) rfl ?_
        exact ⟨⟨_, rfl⟩, HS4.out, by rw [← HMM.out]; omega, .inr HJ4.out⟩
    · obtain rfl : j = l.length := by omega
      go_wp2
      go_end0
      exact ⟨⟨_, rfl⟩, HSK.out, by rw [← HMM.out]; exact hMk, .inl ⟨C, l, rfl, by have := HJK.out; rwa [List.take_length] at this, HCK.out⟩⟩
set_option maxRecDepth 100000 in
theorem valuesMake (A : Option Addr) (c n : Nat) (w : World) : Calls Tryz.prog 39 #[.slice A n c] w fun e w' => e = .returned (.func (.func 55) #[] #[.pointer (some ⟨w.heap.size, 0, none⟩)]) ∧ w' = w.alloc (.cells #[.slice A n c] 38) := by
  go_enter Tryz.func39, Tryz.ntmps39
  go_wp2
  go_ret
  exact ⟨rfl, rfl⟩
set_option maxRecDepth 100000 in
set_option maxHeartbeats 1000000 in
theorem siftOf (A : Option Addr) (c : Nat) (l : List Int) (w : World) (hr : Rd .u64 w A l) (hR : RiseV l) (hl : l.length ≤ 12) :
    Calls Tryz.prog 32 #[.slice A l.length c] w fun e w' => ∃ B A' c', e = .returned (.func (.func 55) #[] #[.pointer (some ⟨B, 0, none⟩)]) ∧ Hid (VSt B w.heap.size A' c' l w') ∧ Hid (∀ b, VR B A' c' l.length b → w.heap.size ≤ b ∧ b < w'.heap.size) ∧ Hid (Below w.heap.size w w') := by
  have HR := Lib.hid hr
  have HRI := Lib.hid hR
  clear hr hR
  go_enter Tryz.func32, Tryz.ntmps32
  go_wp2_with fail
  refine (clone64 A c l _ HR.out (by omega)).mono ?_
  rintro e w1 ⟨v, rfl, ho, hb⟩
  obtain ⟨A', c', rfl, hc', _, hr'⟩ := ho.form
  have HO := Lib.hid ho
  have HR' := Lib.hid hr'
  have HB := Lib.hid hb
  clear ho hr' hb
  go_wp2_with fail
  refine (sort64 A' c' l _ HR'.out HRI.out hl).mono ?_
  rintro e w2 ⟨rfl, hb2⟩
  have HO2 := Lib.hid (HO.out.below hb2)
  have HR2 := Lib.hid (HR'.out.below hb2)
  have HB2 := Lib.hid (below_then HB.out hb2)
  clear hb2 HB
  go_wp2_with fail
  refine (compact64 A' c' l _ HR2.out HRI.out (by omega)).mono ?_
  rintro e w3 ⟨rfl, hb3⟩
  have HO3 := Lib.hid (HO2.out.below hb3)
  have HB3 := Lib.hid (below_then HB2.out hb3)
  clear hb3
  go_wp2_with fail
  refine (valuesMake A' c' l.length _).mono ?_
  rintro e w4 ⟨rfl, rfl⟩
  have hA := (Below.refl w3.heap.size w3).alloc (Nat.le_refl _) (.cells #[.slice A' l.length c'] 38)
  have HO4 := Lib.hid (HO3.out.below hA)
  have HB4 := Lib.hid (below_then HB3.out hA)
  have HN4 := Lib.hid (blk_new w3 #[.slice A' l.length c'] 38)
  clear hA
  go_wp2
  go_ret
  refine ⟨w3.heap.size, A', c', rfl, ⟨HN4.out, HO4.out⟩, ?_, HB4.out⟩
  rintro b (rfl | hb)
  · exact ⟨HB3.out.size, by simp⟩
  · exact ⟨(HO4.out.block b hb).1, by obtain ⟨cs, hcs⟩ := HO4.out.cells b hb; exact blk_lt hcs⟩
end Go.Proofs.YtmpjjehihimadaaGreat
