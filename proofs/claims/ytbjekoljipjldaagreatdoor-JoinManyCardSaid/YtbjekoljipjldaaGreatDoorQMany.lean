/-
  The walk of the law JoinMany.
-/
import Derived.Test.YtbjekoljipjldaaGreatDoorQLaid
import Derived.Test.YtbjekoljipjldaaGreatDoorQTab
namespace Go.Proofs.YtbjekoljipjldaaGreatDoor
set_option linter.unusedVariables false
set_option linter.unusedSimpArgs false
open Go.RowKit

theorem row_blk {w w' : World} {row : Option Nat} {b : Nat} {cs : Array Value} {t : TypeId} (hh : w.heap[b]? = some (.cells cs t (0, 0))) (hg : w.grownBy w' row) (hrow : ∀ g, row = some g → ∃ cs, w.heap[g]? = some (.cells cs 29 (0, 0))) (ht : 29 ≠ t) : w'.heap[b]? = some (.cells cs t (0, 0)) := by
  rw [hg.block b (blk_lt hh) (fun e => ?_)]
  · exact hh
  · obtain ⟨cs', h⟩ := hrow b e.symm
    exact ty_ne h hh ht
theorem Keeps.row {w w' : World} {row : Option Nat} {base : Nat} {x : Value} {k : Int} {p : Nat → Bool} (h : Keeps w base x k p) (hg : w.grownBy w' row) (hrow : ∀ g, row = some g → ∃ cs, w.heap[g]? = some (.cells cs 29 (0, 0))) : Keeps w' base x k p := by
  rcases h with ⟨h, A, c, h1, h2, h3⟩ | ⟨h, m, s, d, ws, h1, h2, h3, h4, h5, h6⟩ | ⟨h, A, c, R, h1, h2, h3, h4⟩
  · refine .inl ⟨h, A, c, h1, h2, h3.kept hg ?_⟩
    rcases hr : row with _ | g
    · exact .inl rfl
    · refine .inr fun e => ?_
      obtain ⟨cs, hc⟩ := hrow g hr
      obtain ⟨cs', hc'⟩ := h3.cells g e.symm
      exact ty_ne hc hc' (by decide)
  · refine .inr (.inl ⟨h, m, s, d, ws, h1, h2, h3, h4, ?_, h6⟩)
    have hne : ∀ (g : Nat) (cs : Array Value) (t : TypeId), w.heap[g]? = some (.cells cs t (0, 0)) → 29 ≠ t → ¬ (row = some g) := fun g cs t hh ht e => by
      obtain ⟨cur, hc⟩ := hrow g e
      exact ty_ne hc hh ht
    exact h5.chg (S := fun k => row = some k) (Chg.of_grown hg (fun b e => e)) (hne _ _ _ h5.1 (by decide)) (hne _ _ _ h5.2.1 (by decide)) (hne _ _ _ h5.2.2.1 (by decide))
  · refine .inr (.inr ⟨h, A, c, R, h1, h2.kept hg (fun g e cs' hc => ?_), h3, h4⟩)
    obtain ⟨cur, hc2⟩ := hrow g e
    exact ty_ne hc2 hc (by decide)
theorem BoxV.row {w w' : World} {row : Option Nat} {base : Nat} {v : Value} {p : Nat → Bool} (h : BoxV w base v p) (hg : w.grownBy w' row) (hrow : ∀ g, row = some g → ∃ cs, w.heap[g]? = some (.cells cs 29 (0, 0))) : BoxV w' base v p := by
  rcases h with h | ⟨b, k, h1, x, h2, h3, h4⟩
  · exact .inl h
  · exact .inr ⟨b, k, h1, x, row_blk h2 hg hrow (by decide), h3, h4.row hg hrow⟩
theorem SetB.row {w w' : World} {row : Option Nat} {g : Nat} {p : Nat → Bool} (h : SetB w g p) (hg : w.grownBy w' row) (hrow : ∀ g, row = some g → ∃ cs, w.heap[g]? = some (.cells cs 29 (0, 0))) : SetB w' g p := by
  obtain ⟨cs, h1, h2⟩ := h
  exact ⟨cs, row_blk h1 hg hrow (by decide), h2⟩
theorem or_snoc (xs : List BxR) (v : Value) (p : Nat → Bool) (i : Nat) : (orP (psX xs) i || p i) = orP (psX (xs ++ [⟨v, p⟩])) i := by
  unfold orP psX
  simp
theorem and_snoc (xs : List BxR) (v : Value) (p : Nat → Bool) (i : Nat) (h : 0 < xs.length) : (andP (psX xs) i && p i) = andP (psX (xs ++ [⟨v, p⟩])) i := by
  rcases xs with _ | ⟨x, xs⟩
  · simp at h
  · unfold andP psX
    simp [Bool.and_assoc]
theorem and_first (xs : List BxR) (v : Value) (p : Nat → Bool) (i : Nat) (h : xs = []) : ((p i || p i) && p i) = andP (psX (xs ++ [⟨v, p⟩])) i := by
  subst h
  unfold andP psX
  simp
theorem or_nil (i : Nat) : noneP i = orP (psX []) i := rfl
theorem and_nil (i : Nat) : noneP i = andP (psX []) i := rfl
theorem row_rdX {w : World} {base : Nat} {v : Value} {xs : List BxR} (h : w.ownsRow base 29 1 v xs.length (xs.map (·.v))) (hx : ∀ x ∈ xs, BoxV w 0 x.v x.p) : ∃ A c, v = .slice A xs.length c ∧ RdX w A xs := by
  obtain ⟨_, A, c, h1, h2, h3⟩ := row_form h
  refine ⟨A, c, h1, fun i hi => ?_⟩
  obtain ⟨ad, e1, e2, e3⟩ := h3 i (by simpa using hi)
  exact ⟨ad, e1, e2, by rw [e3, List.getElem_map], hx _ (List.getElem_mem hi)⟩
theorem xp_info : (Tryz.prog.info? 29).map (fun i => (i.zero, i.size, i.bytes)) = some (some (.pointer none), 1, 8) := by kernel_rfl
set_option maxRecDepth 100000 in
set_option maxHeartbeats 8000000 in
theorem walk_joinMany (A0 : Option Addr) (c0 : Nat) (a0 : List (Nat × Nat × Nat × Nat)) (A1 : Option Addr) (c1 : Nat) (a1 : List (Nat × Nat × Nat × Nat)) (A2 : Option Addr) (c2 : Nat) (a2 : List (Nat × Nat × Nat × Nat)) (a3 : Int) (a4 : Bool) (W : World)
    (s0 : a0.length * 8 ≤ 140737488351232) (l0 : a0.length ≤ c0) (y0 : RdA W A0 a0) (s1 : a1.length * 8 ≤ 140737488351232) (l1 : a1.length ≤ c1) (y1 : RdA W A1 a1) (s2 : a2.length * 8 ≤ 140737488351232) (l2 : a2.length ≤ c2) (y2 : RdA W A2 a2)
    (w3 : (Lit.int .u8 a3).wf = true) (hL : laidMetH Tryz.prog Rows.joinManyRow.laid W) :
    Calls Tryz.prog 3 #[.slice A0 a0.length c0, .slice A1 a1.length c1, .slice A2 a2.length c2, .int .u8 a3, .bool a4] W fun e W' => e = .returned (.bool true) ∧ Below W.heap.size W W' := by
  obtain ⟨i0, hi, hz0, hz1, hz2⟩ := info_parts xp_info
  have HT := Lib.hid (tab64 hL)
  have HR0 := Lib.hid y0
  have HR1 := Lib.hid y1
  have HR2 := Lib.hid y2
  have hl0 : a0.length ≤ 140737488351232 := by omega
  have hl1 : a1.length ≤ 140737488351232 := by omega
  have hl2 : a2.length ≤ 140737488351232 := by omega
  have hn := wf_u8 w3
  obtain ⟨n, rfl⟩ := Int.eq_ofNat_of_zero_le hn.1
  obtain ⟨m, hm⟩ : ∃ m : Nat, m = n % 4 := ⟨_, rfl⟩
  have hm3 : m ≤ 3 := by omega
  have hmi : (n : Int) % 4 = (m : Int) := by omega
  clear hL y0 y1 y2 s0 s1 s2 l0 l1 l2 w3 hn hm
  go_enter Tryz.func3, Tryz.ntmps3
  go_wp2_with fail
  refine (awake10 _ HT.out).mono ?_
  rintro e w1 ⟨rfl, hb1⟩
  have HW := Lib.hid hb1
  clear hb1
  go_wp2_with fail
  refine (rNew _).mono ?_
  rintro e w2 ⟨g1, rfl, _, H1, hb2⟩
  replace HW := Lib.hid (below_then HW.out hb2)
  clear hb2
  go_wp2_with fail
  refine (rNew _).mono ?_
  rintro e w3 ⟨g2, rfl, _, H2, hb3⟩
  replace HW := Lib.hid (below_then HW.out hb3)
  replace H1 := Lib.hid (H1.out.below hb3)
  clear hb3
  have hba := (Below.refl _ w3).alloc (Nat.le_refl _) (.cells #[.slice A0 a0.length c0, .slice A1 a1.length c1, .slice A2 a2.length c2] 22)
  have HWA := Lib.hid (below_then HW.out hba)
  have HG := Lib.hid (blk_new w3 #[.slice A0 a0.length c0, .slice A1 a1.length c1, .slice A2 a2.length c2] 22)
  have H1A := Lib.hid ((H1.out.below hba).congr (fun i _ => or_nil i))
  have H2A := Lib.hid ((H2.out.below hba).congr (fun i _ => and_nil i))
  have hzz := HW.out.size
  clear hba HW H1 H2
  obtain ⟨G, hGG⟩ : ∃ G, G = w3.heap.size := ⟨_, rfl⟩
  rw [← hGG] at HG
  go_wp2
  rw [← hGG]
  clear hGG
  try rw [hmi]
  clear hmi
  go_loopw [11, 12, 13, 14, 15, 16, 17, 30] (fun v11 v12 v13 _ _ _ _ v30 wr => ∃ (k : Nat) (xs : List BxR) (g1 g2 : Nat), k ≤ m ∧ v30 = .int .i64 k ∧ Hid (xs.length = k) ∧ v12 = .slice (some ⟨g1, 0, none⟩) 65536 65536 ∧ v13 = .slice (some ⟨g2, 0, none⟩) 65536 65536 ∧ Hid (wr.ownsRow W.heap.size 29 1 v11 xs.length (xs.map (·.v))) ∧ Hid (∀ x ∈ xs, BoxV wr 0 x.v x.p) ∧ Hid (SetB wr g1 (orP (psX xs))) ∧ Hid (SetB wr g2 (andP (psX xs))) ∧ Hid (wr.heap[G]? = some (.cells #[.slice A0 a0.length c0, .slice A1 a1.length c1, .slice A2 a2.length c2] 22 (0, 0))) ∧ Hid (Below W.heap.size W wr)) (fun _ _ _ _ _ _ _ v30 _ => m - (intOf v30).toNat)
  case atStart => exact ⟨0, [], g1, g2, Nat.zero_le _, rfl, rfl, rfl, rfl, ⟨rfl, .inl ⟨rfl, rfl⟩⟩, fun x hx => absurd hx (by simp), H1A.out, H2A.out, HG.out, HWA.out⟩
  case round =>
    clear H1A H2A HG HWA
    obtain ⟨k, xs, g1, g2, hk, rfl, HXL, rfl, rfl, HRow, HXS, H1, H2, HG, HW⟩ := hrel
    by_cases hlt : k < m
    · rcases (show k = 0 ∨ k = 1 ∨ k = 2 by omega) with rfl | rfl | rfl
      · cases a4
        · skip
          skip
          have q0 := blk_cell HG.out 0 rfl
          go_wp2_with fail
          refine (layAny A0 c0 a0 false _ (HR0.out.below HW.out) (HT.out.stays HW.out) hl0).mono ?_
          rintro e w5 ⟨b, s, kb, p, rfl, HB, HS, hb5⟩
          replace HW := Lib.hid (below_then HW.out hb5)
          replace H1 := Lib.hid (H1.out.below hb5)
          replace H2 := Lib.hid (H2.out.below hb5)
          replace HRow := Lib.hid (row_kept HRow.out hb5)
          replace HXS := Lib.hid (fun x hx => (HXS.out x hx).below hb5)
          replace HG := Lib.hid (blk_below HG.out hb5 rfl)
          have HV := Lib.hid HB.out.v
          clear hb5 q0
          go_wp2_with fail
          refine (rJoin0 s s p p _ HS.out HS.out).mono ?_
          clear H2
          rintro e w6 ⟨g2, rfl, _, H2, hb6⟩
          replace HW := Lib.hid (below_then HW.out hb6)
          replace H1 := Lib.hid (H1.out.below hb6)
          replace HS := Lib.hid (HS.out.below hb6)
          replace HV := Lib.hid (HV.out.below hb6)
          replace HRow := Lib.hid (row_kept HRow.out hb6)
          replace HXS := Lib.hid (fun x hx => (HXS.out x hx).below hb6)
          replace HG := Lib.hid (blk_below HG.out hb6 rfl)
          clear hb6
          go_wp2_with (at_builtin; refine wpList_pushG W.heap.size _ xs.length (xs.map (·.v)) (.pointer (some ⟨b, 0, none⟩)) _ _ _ rfl rfl Tryz.underlying24 hi hz0 hz1 hz2 rfl rfl rfl (heap_alloc_new _ _) rfl (row_kept HRow.out ((Below.refl _ _).alloc (Nat.le_refl _) _)) (by have := HW.out.size; simp; omega) (by have := HXL.out; omega) (by have := HXL.out; unfold maxLen; omega) ?_; intro v7 w7 ho7 hg7)
          have hba := (Below.refl _ w6).alloc (Nat.le_refl _) (.cells #[.pointer (some ⟨b, 0, none⟩)] 29)
          have HRC := Lib.hid (fun g e => (row_cells (row_kept HRow.out hba) g e))
          have HW7 := Lib.hid ((HW.out.trans (hba.mono HW.out.size)).grown hg7 (by have := HW.out.size; simp; omega) (fun g e => (HRC.out g e).2))
          have HT7 := Lib.hid (fun g e => (HRC.out g e).1)
          have H17 := Lib.hid ((H1.out.below hba).row hg7 HT7.out)
          have H27 := Lib.hid ((H2.out.below hba).row hg7 HT7.out)
          have HS7 := Lib.hid ((HS.out.below hba).row hg7 HT7.out)
          have HV7 := Lib.hid ((HV.out.below hba).row hg7 HT7.out)
          have HXS7 := Lib.hid (fun x hx => ((HXS.out x hx).below hba).row hg7 HT7.out)
          have HG7 := Lib.hid (row_blk (blk_below HG.out hba rfl) hg7 HT7.out (by decide))
          have HO7 := Lib.hid ho7
          clear ho7 hg7 hba HRow HW H1 H2 HS HV HXS HG
          go_wp2_with fail
          refine (rJoin0 g1 s _ _ _ H17.out HS7.out).mono ?_
          rintro e w8 ⟨g3, rfl, _, H3, hb8⟩
          replace HW7 := Lib.hid (below_then HW7.out hb8)
          replace H27 := Lib.hid (H27.out.below hb8)
          replace HS7 := Lib.hid (HS7.out.below hb8)
          replace HV7 := Lib.hid (HV7.out.below hb8)
          replace HO7 := Lib.hid (row_kept HO7.out hb8)
          replace HXS7 := Lib.hid (fun x hx => (HXS7.out x hx).below hb8)
          replace HG7 := Lib.hid (blk_below HG7.out hb8 rfl)
          clear hb8
          go_wp2_with fail
          refine (rJoin1 g2 s _ _ _ H27.out HS7.out).mono ?_
          rintro e w9 ⟨g4, rfl, _, H4, hb9⟩
          replace HW7 := Lib.hid (below_then HW7.out hb9)
          replace H3 := Lib.hid (H3.out.below hb9)
          replace HV7 := Lib.hid (HV7.out.below hb9)
          replace HO7 := Lib.hid (row_kept HO7.out hb9)
          replace HXS7 := Lib.hid (fun x hx => (HXS7.out x hx).below hb9)
          replace HG7 := Lib.hid (blk_below HG7.out hb9 rfl)
          clear hb9
          go_wp2
          go_roundw
          case rel => exact ⟨0 + 1, xs ++ [⟨.pointer (some ⟨b, 0, none⟩), _⟩], g3, g4, by omega, by go_num, by show _ = _; simp [HXL.out], rfl, rfl, Lib.hid (by simpa using HO7.out), fun x hx => (List.mem_append.1 hx).elim (fun h => HXS7.out x h) (fun h => by simp at h; subst h; exact HV7.out), H3.out.congr (fun i _ => or_snoc xs _ _ i), H4.out.congr (fun i _ => (and_first xs _ _ i (by simpa using HXL.out))), HG7.out, HW7.out⟩
          case measure => simp [intOf]; omega
        · skip
          skip
          have q0 := blk_cell HG.out 0 rfl
          go_wp2_with fail
          refine (layAny A0 c0 a0 false _ (HR0.out.below HW.out) (HT.out.stays HW.out) hl0).mono ?_
          rintro e w5 ⟨b, s, kb, p, rfl, HB, HS, hb5⟩
          replace HW := Lib.hid (below_then HW.out hb5)
          replace H1 := Lib.hid (H1.out.below hb5)
          replace H2 := Lib.hid (H2.out.below hb5)
          replace HRow := Lib.hid (row_kept HRow.out hb5)
          replace HXS := Lib.hid (fun x hx => (HXS.out x hx).below hb5)
          replace HG := Lib.hid (blk_below HG.out hb5 rfl)
          have HV := Lib.hid HB.out.v
          clear hb5 q0
          go_wp2_with fail
          refine (rJoin0 s s p p _ HS.out HS.out).mono ?_
          clear H2
          rintro e w6 ⟨g2, rfl, _, H2, hb6⟩
          replace HW := Lib.hid (below_then HW.out hb6)
          replace H1 := Lib.hid (H1.out.below hb6)
          replace HS := Lib.hid (HS.out.below hb6)
          replace HV := Lib.hid (HV.out.below hb6)
          replace HRow := Lib.hid (row_kept HRow.out hb6)
          replace HXS := Lib.hid (fun x hx => (HXS.out x hx).below hb6)
          replace HG := Lib.hid (blk_below HG.out hb6 rfl)
          clear hb6
          go_wp2_with (at_builtin; refine wpList_pushG W.heap.size _ xs.length (xs.map (·.v)) (.pointer (some ⟨b, 0, none⟩)) _ _ _ rfl rfl Tryz.underlying24 hi hz0 hz1 hz2 rfl rfl rfl (heap_alloc_new _ _) rfl (row_kept HRow.out ((Below.refl _ _).alloc (Nat.le_refl _) _)) (by have := HW.out.size; simp; omega) (by have := HXL.out; omega) (by have := HXL.out; unfold maxLen; omega) ?_; intro v7 w7 ho7 hg7)
          have hba := (Below.refl _ w6).alloc (Nat.le_refl _) (.cells #[.pointer (some ⟨b, 0, none⟩)] 29)
          have HRC := Lib.hid (fun g e => (row_cells (row_kept HRow.out hba) g e))
          have HW7 := Lib.hid ((HW.out.trans (hba.mono HW.out.size)).grown hg7 (by have := HW.out.size; simp; omega) (fun g e => (HRC.out g e).2))
          have HT7 := Lib.hid (fun g e => (HRC.out g e).1)
          have H17 := Lib.hid ((H1.out.below hba).row hg7 HT7.out)
          have H27 := Lib.hid ((H2.out.below hba).row hg7 HT7.out)
          have HS7 := Lib.hid ((HS.out.below hba).row hg7 HT7.out)
          have HV7 := Lib.hid ((HV.out.below hba).row hg7 HT7.out)
          have HXS7 := Lib.hid (fun x hx => ((HXS.out x hx).below hba).row hg7 HT7.out)
          have HG7 := Lib.hid (row_blk (blk_below HG.out hba rfl) hg7 HT7.out (by decide))
          have HO7 := Lib.hid ho7
          clear ho7 hg7 hba HRow HW H1 H2 HS HV HXS HG
          go_wp2_with fail
          refine (rJoin0 g1 s _ _ _ H17.out HS7.out).mono ?_
          rintro e w8 ⟨g3, rfl, _, H3, hb8⟩
          replace HW7 := Lib.hid (below_then HW7.out hb8)
          replace H27 := Lib.hid (H27.out.below hb8)
          replace HS7 := Lib.hid (HS7.out.below hb8)
          replace HV7 := Lib.hid (HV7.out.below hb8)
          replace HO7 := Lib.hid (row_kept HO7.out hb8)
          replace HXS7 := Lib.hid (fun x hx => (HXS7.out x hx).below hb8)
          replace HG7 := Lib.hid (blk_below HG7.out hb8 rfl)
          clear hb8
          go_wp2_with fail
          refine (rJoin1 g2 s _ _ _ H27.out HS7.out).mono ?_
          rintro e w9 ⟨g4, rfl, _, H4, hb9⟩
          replace HW7 := Lib.hid (below_then HW7.out hb9)
          replace H3 := Lib.hid (H3.out.below hb9)
          replace HV7 := Lib.hid (HV7.out.below hb9)
          replace HO7 := Lib.hid (row_kept HO7.out hb9)
          replace HXS7 := Lib.hid (fun x hx => (HXS7.out x hx).below hb9)
          replace HG7 := Lib.hid (blk_below HG7.out hb9 rfl)
          clear hb9
          go_wp2
          go_roundw
          case rel => exact ⟨0 + 1, xs ++ [⟨.pointer (some ⟨b, 0, none⟩), _⟩], g3, g4, by omega, by go_num, by show _ = _; simp [HXL.out], rfl, rfl, Lib.hid (by simpa using HO7.out), fun x hx => (List.mem_append.1 hx).elim (fun h => HXS7.out x h) (fun h => by simp at h; subst h; exact HV7.out), H3.out.congr (fun i _ => or_snoc xs _ _ i), H4.out.congr (fun i _ => (and_first xs _ _ i (by simpa using HXL.out))), HG7.out, HW7.out⟩
          case measure => simp [intOf]; omega
      · cases a4
        · skip
          skip
          have q0 := blk_cell HG.out 1 rfl
          go_wp2_with fail
          refine (layAny A1 c1 a1 true _ (HR1.out.below HW.out) (HT.out.stays HW.out) hl1).mono ?_
          rintro e w5 ⟨b, s, kb, p, rfl, HB, HS, hb5⟩
          replace HW := Lib.hid (below_then HW.out hb5)
          replace H1 := Lib.hid (H1.out.below hb5)
          replace H2 := Lib.hid (H2.out.below hb5)
          replace HRow := Lib.hid (row_kept HRow.out hb5)
          replace HXS := Lib.hid (fun x hx => (HXS.out x hx).below hb5)
          replace HG := Lib.hid (blk_below HG.out hb5 rfl)
          have HV := Lib.hid HB.out.v
          clear hb5 q0
          go_wp2_with (at_builtin; refine wpList_pushG W.heap.size _ xs.length (xs.map (·.v)) (.pointer (some ⟨b, 0, none⟩)) _ _ _ rfl rfl Tryz.underlying24 hi hz0 hz1 hz2 rfl rfl rfl (heap_alloc_new _ _) rfl (row_kept HRow.out ((Below.refl _ _).alloc (Nat.le_refl _) _)) (by have := HW.out.size; simp; omega) (by have := HXL.out; omega) (by have := HXL.out; unfold maxLen; omega) ?_; intro v7 w7 ho7 hg7)
          have hba := (Below.refl _ w5).alloc (Nat.le_refl _) (.cells #[.pointer (some ⟨b, 0, none⟩)] 29)
          have HRC := Lib.hid (fun g e => (row_cells (row_kept HRow.out hba) g e))
          have HW7 := Lib.hid ((HW.out.trans (hba.mono HW.out.size)).grown hg7 (by have := HW.out.size; simp; omega) (fun g e => (HRC.out g e).2))
          have HT7 := Lib.hid (fun g e => (HRC.out g e).1)
          have H17 := Lib.hid ((H1.out.below hba).row hg7 HT7.out)
          have H27 := Lib.hid ((H2.out.below hba).row hg7 HT7.out)
          have HS7 := Lib.hid ((HS.out.below hba).row hg7 HT7.out)
          have HV7 := Lib.hid ((HV.out.below hba).row hg7 HT7.out)
          have HXS7 := Lib.hid (fun x hx => ((HXS.out x hx).below hba).row hg7 HT7.out)
          have HG7 := Lib.hid (row_blk (blk_below HG.out hba rfl) hg7 HT7.out (by decide))
          have HO7 := Lib.hid ho7
          clear ho7 hg7 hba HRow HW H1 H2 HS HV HXS HG
          go_wp2_with fail
          refine (rJoin0 g1 s _ _ _ H17.out HS7.out).mono ?_
          rintro e w8 ⟨g3, rfl, _, H3, hb8⟩
          replace HW7 := Lib.hid (below_then HW7.out hb8)
          replace H27 := Lib.hid (H27.out.below hb8)
          replace HS7 := Lib.hid (HS7.out.below hb8)
          replace HV7 := Lib.hid (HV7.out.below hb8)
          replace HO7 := Lib.hid (row_kept HO7.out hb8)
          replace HXS7 := Lib.hid (fun x hx => (HXS7.out x hx).below hb8)
          replace HG7 := Lib.hid (blk_below HG7.out hb8 rfl)
          clear hb8
          go_wp2_with fail
          refine (rJoin1 g2 s _ _ _ H27.out HS7.out).mono ?_
          rintro e w9 ⟨g4, rfl, _, H4, hb9⟩
          replace HW7 := Lib.hid (below_then HW7.out hb9)
          replace H3 := Lib.hid (H3.out.below hb9)
          replace HV7 := Lib.hid (HV7.out.below hb9)
          replace HO7 := Lib.hid (row_kept HO7.out hb9)
          replace HXS7 := Lib.hid (fun x hx => (HXS7.out x hx).below hb9)
          replace HG7 := Lib.hid (blk_below HG7.out hb9 rfl)
          clear hb9
          go_wp2
          go_roundw
          case rel => exact ⟨1 + 1, xs ++ [⟨.pointer (some ⟨b, 0, none⟩), _⟩], g3, g4, by omega, by go_num, by show _ = _; simp [HXL.out], rfl, rfl, Lib.hid (by simpa using HO7.out), fun x hx => (List.mem_append.1 hx).elim (fun h => HXS7.out x h) (fun h => by simp at h; subst h; exact HV7.out), H3.out.congr (fun i _ => or_snoc xs _ _ i), H4.out.congr (fun i _ => (and_snoc xs _ _ i (by have := HXL.out; omega))), HG7.out, HW7.out⟩
          case measure => simp [intOf]; omega
        · skip
          skip
          have q0 := blk_cell HG.out 1 rfl
          go_wp2_with fail
          refine (layAny A1 c1 a1 true _ (HR1.out.below HW.out) (HT.out.stays HW.out) hl1).mono ?_
          rintro e w5 ⟨b, s, kb, p, rfl, HB, HS, hb5⟩
          replace HW := Lib.hid (below_then HW.out hb5)
          replace H1 := Lib.hid (H1.out.below hb5)
          replace H2 := Lib.hid (H2.out.below hb5)
          replace HRow := Lib.hid (row_kept HRow.out hb5)
          replace HXS := Lib.hid (fun x hx => (HXS.out x hx).below hb5)
          replace HG := Lib.hid (blk_below HG.out hb5 rfl)
          have HV := Lib.hid HB.out.v
          clear hb5 q0
          go_wp2_with (at_builtin; refine wpList_pushG W.heap.size _ xs.length (xs.map (·.v)) (.pointer (some ⟨b, 0, none⟩)) _ _ _ rfl rfl Tryz.underlying24 hi hz0 hz1 hz2 rfl rfl rfl (heap_alloc_new _ _) rfl (row_kept HRow.out ((Below.refl _ _).alloc (Nat.le_refl _) _)) (by have := HW.out.size; simp; omega) (by have := HXL.out; omega) (by have := HXL.out; unfold maxLen; omega) ?_; intro v7 w7 ho7 hg7)
          have hba := (Below.refl _ w5).alloc (Nat.le_refl _) (.cells #[.pointer (some ⟨b, 0, none⟩)] 29)
          have HRC := Lib.hid (fun g e => (row_cells (row_kept HRow.out hba) g e))
          have HW7 := Lib.hid ((HW.out.trans (hba.mono HW.out.size)).grown hg7 (by have := HW.out.size; simp; omega) (fun g e => (HRC.out g e).2))
          have HT7 := Lib.hid (fun g e => (HRC.out g e).1)
          have H17 := Lib.hid ((H1.out.below hba).row hg7 HT7.out)
          have H27 := Lib.hid ((H2.out.below hba).row hg7 HT7.out)
          have HS7 := Lib.hid ((HS.out.below hba).row hg7 HT7.out)
          have HV7 := Lib.hid ((HV.out.below hba).row hg7 HT7.out)
          have HXS7 := Lib.hid (fun x hx => ((HXS.out x hx).below hba).row hg7 HT7.out)
          have HG7 := Lib.hid (row_blk (blk_below HG.out hba rfl) hg7 HT7.out (by decide))
          have HO7 := Lib.hid ho7
          clear ho7 hg7 hba HRow HW H1 H2 HS HV HXS HG
          go_wp2_with fail
          refine (rJoin0 g1 s _ _ _ H17.out HS7.out).mono ?_
          rintro e w8 ⟨g3, rfl, _, H3, hb8⟩
          replace HW7 := Lib.hid (below_then HW7.out hb8)
          replace H27 := Lib.hid (H27.out.below hb8)
          replace HS7 := Lib.hid (HS7.out.below hb8)
          replace HV7 := Lib.hid (HV7.out.below hb8)
          replace HO7 := Lib.hid (row_kept HO7.out hb8)
          replace HXS7 := Lib.hid (fun x hx => (HXS7.out x hx).below hb8)
          replace HG7 := Lib.hid (blk_below HG7.out hb8 rfl)
          clear hb8
          go_wp2_with fail
          refine (rJoin1 g2 s _ _ _ H27.out HS7.out).mono ?_
          rintro e w9 ⟨g4, rfl, _, H4, hb9⟩
          replace HW7 := Lib.hid (below_then HW7.out hb9)
          replace H3 := Lib.hid (H3.out.below hb9)
          replace HV7 := Lib.hid (HV7.out.below hb9)
          replace HO7 := Lib.hid (row_kept HO7.out hb9)
          replace HXS7 := Lib.hid (fun x hx => (HXS7.out x hx).below hb9)
          replace HG7 := Lib.hid (blk_below HG7.out hb9 rfl)
          clear hb9
          go_wp2
          go_roundw
          case rel => exact ⟨1 + 1, xs ++ [⟨.pointer (some ⟨b, 0, none⟩), _⟩], g3, g4, by omega, by go_num, by show _ = _; simp [HXL.out], rfl, rfl, Lib.hid (by simpa using HO7.out), fun x hx => (List.mem_append.1 hx).elim (fun h => HXS7.out x h) (fun h => by simp at h; subst h; exact HV7.out), H3.out.congr (fun i _ => or_snoc xs _ _ i), H4.out.congr (fun i _ => (and_snoc xs _ _ i (by have := HXL.out; omega))), HG7.out, HW7.out⟩
          case measure => simp [intOf]; omega
      · cases a4
        · skip
          skip
          have q0 := blk_cell HG.out 2 rfl
          go_wp2_with fail
          refine (layAny A2 c2 a2 false _ (HR2.out.below HW.out) (HT.out.stays HW.out) hl2).mono ?_
          rintro e w5 ⟨b, s, kb, p, rfl, HB, HS, hb5⟩
          replace HW := Lib.hid (below_then HW.out hb5)
          replace H1 := Lib.hid (H1.out.below hb5)
          replace H2 := Lib.hid (H2.out.below hb5)
          replace HRow := Lib.hid (row_kept HRow.out hb5)
          replace HXS := Lib.hid (fun x hx => (HXS.out x hx).below hb5)
          replace HG := Lib.hid (blk_below HG.out hb5 rfl)
          have HV := Lib.hid HB.out.v
          clear hb5 q0
          go_wp2_with (at_builtin; refine wpList_pushG W.heap.size _ xs.length (xs.map (·.v)) (.pointer (some ⟨b, 0, none⟩)) _ _ _ rfl rfl Tryz.underlying24 hi hz0 hz1 hz2 rfl rfl rfl (heap_alloc_new _ _) rfl (row_kept HRow.out ((Below.refl _ _).alloc (Nat.le_refl _) _)) (by have := HW.out.size; simp; omega) (by have := HXL.out; omega) (by have := HXL.out; unfold maxLen; omega) ?_; intro v7 w7 ho7 hg7)
          have hba := (Below.refl _ w5).alloc (Nat.le_refl _) (.cells #[.pointer (some ⟨b, 0, none⟩)] 29)
          have HRC := Lib.hid (fun g e => (row_cells (row_kept HRow.out hba) g e))
          have HW7 := Lib.hid ((HW.out.trans (hba.mono HW.out.size)).grown hg7 (by have := HW.out.size; simp; omega) (fun g e => (HRC.out g e).2))
          have HT7 := Lib.hid (fun g e => (HRC.out g e).1)
          have H17 := Lib.hid ((H1.out.below hba).row hg7 HT7.out)
          have H27 := Lib.hid ((H2.out.below hba).row hg7 HT7.out)
          have HS7 := Lib.hid ((HS.out.below hba).row hg7 HT7.out)
          have HV7 := Lib.hid ((HV.out.below hba).row hg7 HT7.out)
          have HXS7 := Lib.hid (fun x hx => ((HXS.out x hx).below hba).row hg7 HT7.out)
          have HG7 := Lib.hid (row_blk (blk_below HG.out hba rfl) hg7 HT7.out (by decide))
          have HO7 := Lib.hid ho7
          clear ho7 hg7 hba HRow HW H1 H2 HS HV HXS HG
          go_wp2_with fail
          refine (rJoin0 g1 s _ _ _ H17.out HS7.out).mono ?_
          rintro e w8 ⟨g3, rfl, _, H3, hb8⟩
          replace HW7 := Lib.hid (below_then HW7.out hb8)
          replace H27 := Lib.hid (H27.out.below hb8)
          replace HS7 := Lib.hid (HS7.out.below hb8)
          replace HV7 := Lib.hid (HV7.out.below hb8)
          replace HO7 := Lib.hid (row_kept HO7.out hb8)
          replace HXS7 := Lib.hid (fun x hx => (HXS7.out x hx).below hb8)
          replace HG7 := Lib.hid (blk_below HG7.out hb8 rfl)
          clear hb8
          go_wp2_with fail
          refine (rJoin1 g2 s _ _ _ H27.out HS7.out).mono ?_
          rintro e w9 ⟨g4, rfl, _, H4, hb9⟩
          replace HW7 := Lib.hid (below_then HW7.out hb9)
          replace H3 := Lib.hid (H3.out.below hb9)
          replace HV7 := Lib.hid (HV7.out.below hb9)
          replace HO7 := Lib.hid (row_kept HO7.out hb9)
          replace HXS7 := Lib.hid (fun x hx => (HXS7.out x hx).below hb9)
          replace HG7 := Lib.hid (blk_below HG7.out hb9 rfl)
          clear hb9
          go_wp2
          go_roundw
          case rel => exact ⟨2 + 1, xs ++ [⟨.pointer (some ⟨b, 0, none⟩), _⟩], g3, g4, by omega, by go_num, by show _ = _; simp [HXL.out], rfl, rfl, Lib.hid (by simpa using HO7.out), fun x hx => (List.mem_append.1 hx).elim (fun h => HXS7.out x h) (fun h => by simp at h; subst h; exact HV7.out), H3.out.congr (fun i _ => or_snoc xs _ _ i), H4.out.congr (fun i _ => (and_snoc xs _ _ i (by have := HXL.out; omega))), HG7.out, HW7.out⟩
          case measure => simp [intOf]; omega
        · skip
          skip
          have q0 := blk_cell HG.out 2 rfl
          go_wp2_with fail
          refine (layAny A2 c2 a2 false _ (HR2.out.below HW.out) (HT.out.stays HW.out) hl2).mono ?_
          rintro e w5 ⟨b, s, kb, p, rfl, HB, HS, hb5⟩
          replace HW := Lib.hid (below_then HW.out hb5)
          replace H1 := Lib.hid (H1.out.below hb5)
          replace H2 := Lib.hid (H2.out.below hb5)
          replace HRow := Lib.hid (row_kept HRow.out hb5)
          replace HXS := Lib.hid (fun x hx => (HXS.out x hx).below hb5)
          replace HG := Lib.hid (blk_below HG.out hb5 rfl)
          have HV := Lib.hid HB.out.v
          clear hb5 q0
          go_wp2_with fail
          refine (rNew _).mono ?_
          clear HS HV HB
          rintro e w5 ⟨s, rfl, _, HS, hb5⟩
          replace HW := Lib.hid (below_then HW.out hb5)
          replace H1 := Lib.hid (H1.out.below hb5)
          replace H2 := Lib.hid (H2.out.below hb5)
          replace HRow := Lib.hid (row_kept HRow.out hb5)
          replace HXS := Lib.hid (fun x hx => (HXS.out x hx).below hb5)
          replace HG := Lib.hid (blk_below HG.out hb5 rfl)
          have HV := Lib.hid (show BoxV w5 0 (.pointer none) noneP from .inl ⟨rfl, fun _ _ => rfl⟩)
          clear hb5
          go_wp2_with (at_builtin; refine wpList_pushG W.heap.size _ xs.length (xs.map (·.v)) (.pointer none) _ _ _ rfl rfl Tryz.underlying24 hi hz0 hz1 hz2 rfl rfl rfl (heap_alloc_new _ _) rfl (row_kept HRow.out ((Below.refl _ _).alloc (Nat.le_refl _) _)) (by have := HW.out.size; simp; omega) (by have := HXL.out; omega) (by have := HXL.out; unfold maxLen; omega) ?_; intro v7 w7 ho7 hg7)
          have hba := (Below.refl _ w5).alloc (Nat.le_refl _) (.cells #[.pointer none] 29)
          have HRC := Lib.hid (fun g e => (row_cells (row_kept HRow.out hba) g e))
          have HW7 := Lib.hid ((HW.out.trans (hba.mono HW.out.size)).grown hg7 (by have := HW.out.size; simp; omega) (fun g e => (HRC.out g e).2))
          have HT7 := Lib.hid (fun g e => (HRC.out g e).1)
          have H17 := Lib.hid ((H1.out.below hba).row hg7 HT7.out)
          have H27 := Lib.hid ((H2.out.below hba).row hg7 HT7.out)
          have HS7 := Lib.hid ((HS.out.below hba).row hg7 HT7.out)
          have HV7 := Lib.hid ((HV.out.below hba).row hg7 HT7.out)
          have HXS7 := Lib.hid (fun x hx => ((HXS.out x hx).below hba).row hg7 HT7.out)
          have HG7 := Lib.hid (row_blk (blk_below HG.out hba rfl) hg7 HT7.out (by decide))
          have HO7 := Lib.hid ho7
          clear ho7 hg7 hba HRow HW H1 H2 HS HV HXS HG
          go_wp2_with fail
          refine (rJoin0 g1 s _ _ _ H17.out HS7.out).mono ?_
          rintro e w8 ⟨g3, rfl, _, H3, hb8⟩
          replace HW7 := Lib.hid (below_then HW7.out hb8)
          replace H27 := Lib.hid (H27.out.below hb8)
          replace HS7 := Lib.hid (HS7.out.below hb8)
          replace HV7 := Lib.hid (HV7.out.below hb8)
          replace HO7 := Lib.hid (row_kept HO7.out hb8)
          replace HXS7 := Lib.hid (fun x hx => (HXS7.out x hx).below hb8)
          replace HG7 := Lib.hid (blk_below HG7.out hb8 rfl)
          clear hb8
          go_wp2_with fail
          refine (rJoin1 g2 s _ _ _ H27.out HS7.out).mono ?_
          rintro e w9 ⟨g4, rfl, _, H4, hb9⟩
          replace HW7 := Lib.hid (below_then HW7.out hb9)
          replace H3 := Lib.hid (H3.out.below hb9)
          replace HV7 := Lib.hid (HV7.out.below hb9)
          replace HO7 := Lib.hid (row_kept HO7.out hb9)
          replace HXS7 := Lib.hid (fun x hx => (HXS7.out x hx).below hb9)
          replace HG7 := Lib.hid (blk_below HG7.out hb9 rfl)
          clear hb9
          go_wp2
          go_roundw
          case rel => exact ⟨2 + 1, xs ++ [⟨.pointer none, _⟩], g3, g4, by omega, by go_num, by show _ = _; simp [HXL.out], rfl, rfl, Lib.hid (by simpa using HO7.out), fun x hx => (List.mem_append.1 hx).elim (fun h => HXS7.out x h) (fun h => by simp at h; subst h; exact HV7.out), H3.out.congr (fun i _ => or_snoc xs _ _ i), H4.out.congr (fun i _ => (and_snoc xs _ _ i (by have := HXL.out; omega))), HG7.out, HW7.out⟩
          case measure => simp [intOf]; omega
    · obtain rfl : k = m := by omega
      obtain ⟨A, c, rfl, hrd⟩ := row_rdX HRow.out HXS.out
      have HRD := Lib.hid hrd
      clear hrd HRow HXS HG
      go_wp2_with fail
      refine (joinOr A c xs _ HRD.out (HT.out.stays HW.out) (by have := HXL.out; omega)).mono ?_
      rintro e w5 ⟨x, rfl, HX, hb5⟩
      replace HW := Lib.hid (below_then HW.out hb5)
      replace H1 := Lib.hid (H1.out.below hb5)
      replace H2 := Lib.hid (H2.out.below hb5)
      replace HRD := Lib.hid (HRD.out.below hb5)
      clear hb5
      go_wp2_with fail
      refine (plainAny x g1 _ _ HX.out H1.out (HT.out.stays HW.out)).mono ?_
      rintro e w6 ⟨rfl, hb6⟩
      replace HW := Lib.hid (below_then HW.out hb6)
      replace H2 := Lib.hid (H2.out.below hb6)
      replace HRD := Lib.hid (HRD.out.below hb6)
      clear hb6 HX H1
      go_wp2_with fail
      refine (joinAnd A c xs _ HRD.out (HT.out.stays HW.out) (by have := HXL.out; omega)).mono ?_
      rintro e w7 ⟨y, rfl, HY, hb7⟩
      replace HW := Lib.hid (below_then HW.out hb7)
      replace H2 := Lib.hid (H2.out.below hb7)
      clear hb7 HRD
      go_wp2_with fail
      refine (plainAny y g2 _ _ HY.out H2.out (HT.out.stays HW.out)).mono ?_
      rintro e w8 ⟨rfl, hb8⟩
      replace HW := Lib.hid (below_then HW.out hb8)
      clear hb8
      go_wp2
      go_ret
      exact ⟨rfl, HW.out⟩
end Go.Proofs.YtbjekoljipjldaaGreatDoor
