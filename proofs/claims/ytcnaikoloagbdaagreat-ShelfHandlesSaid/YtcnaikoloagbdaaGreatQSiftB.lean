/-
  sift.Or: its iterator keeps its word, over one iterator, or over two that tell the key 5.
  sift.First of 262145 at most; walked.
  sift.in, the test of sift.Less; sift.told: its iterator keeps its word; walked.
-/
import Derived.Test.YtcnaikoloagbdaaGreatQSiftA
import Derived.Test.YtcnaikoloagbdaaGreatQSeqQ
namespace Go.Proofs.YtcnaikoloagbdaaGreat
set_option linter.unusedVariables false
set_option linter.unusedSimpArgs false
open Go.RowKit Go.Shelf
attribute [local go_sem] Oper.semAt_some k1
attribute [local go_sem ↓] Go.wp_at_zero Go.wp_at_succ

theorem Own.stay {k : IntKind} {e : TypeId} {w w' : World} {base : Nat} {v : Value} {l : List Int} (h : Own k e w base v l) (hs : ∀ g, v.ownBlock = some g → w'.heap[g]? = w.heap[g]?) : Own k e w' base v l := by
  obtain ⟨h1, h2⟩ := h
  refine ⟨h1, ?_⟩
  rcases h2 with h2 | ⟨g, cap, cur, rfl, hg', hh, hr⟩
  · exact .inl h2
  · exact .inr ⟨g, cap, cur, rfl, hg', (hs g rfl).trans hh, hr⟩
set_option maxRecDepth 100000 in
set_option maxHeartbeats 4000000 in
theorem or1 (B0 G cap : Nat) (its : List Value) (hm : its.length = 1 ∨ its.length = 2) {St : World → Prop} {F R : Nat → Prop} {S : List Int → Prop} {N : Nat} (hN : N ≤ 100000) (hS : ∀ xs, S xs → xs.length ≤ N) (hS2 : its.length = 2 → ∀ xs, S xs → xs = [5])
    (hits : ∀ v ∈ its, It Tryz.prog v k1 St F R S N) (hbox : ∀ V, St V → V.heap[B0]? = some (.cells #[.slice (some ⟨G, 0, none⟩) its.length cap] 139 (0, 0)) ∧ ∀ j (hj : j < its.length), V.cell? ((⟨G, 0, none⟩ : Addr).add j) = some its[j])
    (hR : ∀ V, St V → ∀ b, R b → b < V.heap.size) (hstay : ∀ X Y, St X → (∀ b, R b → Y.heap[b]? = X.heap[b]?) → St Y) (hFR : ∀ b, F b → R b) : SeqQ Tryz.prog 147 #[.pointer (some ⟨B0, 0, none⟩)] k1 St F S (Yl S) := by
  intro n l J Jx C0 W hn hst hJ hJx hY hC0 h0
  have HBX := Lib.hid hbox
  have HIT := Lib.hid hits
  have HRR := Lib.hid hR
  have HSS := Lib.hid hS
  have HS5 := Lib.hid hS2
  have HSTAY := Lib.hid hstay
  have HJ := Lib.hid hJ
  have HYY := Lib.hid hY
  have HST := Lib.hid hst
  have HJ1 := Lib.hid h0
  have HC0 := Lib.hid hC0
  have HFM := Lib.hid (show ∀ b, F b → b < W.heap.size from fun b hb => hR W hst b (hFR b hb))
  obtain ⟨M, hM⟩ : ∃ M, M = W.heap.size := ⟨_, rfl⟩
  have HMM := Lib.hid hM
  have HM12 := Lib.hid hm
  have q0 := blk_cell (hbox W hst).1 0 rfl
  obtain ⟨m, hml⟩ : ∃ m, m = its.length := ⟨_, rfl⟩
  have HML := Lib.hid hml
  rw [← hml] at q0
  clear hbox hits hR hS hS2 hstay hJ hY hst h0 hJx hM hC0 hFR hm hml
  refine callsIn_wide.2 ?_
  go_enter Tryz.func147, Tryz.ntmps147
  go_wp2
  go_loopw [3, 5, 10] (fun v3 _ v10 wr => ∃ (k : Nat) (acc : List Int), v10 = .int .i64 k ∧ k ≤ m ∧ Hid ((k = 0 ∧ v3 = .slice none 0 0 ∧ acc = []) ∨ (1 ≤ k ∧ Own .u64 22 wr M v3 acc ∧ S acc)) ∧ M ≤ wr.heap.size ∧ Hid (J C0 [] wr) ∧ Hid (St wr)) (fun _ _ v10 _ => m - (intOf v10).toNat)
  case atStart => exact ⟨0, [], rfl, Nat.zero_le _, .inl ⟨rfl, rfl, rfl⟩, by rw [HMM.out]; exact Nat.le_refl _, HJ1.out, HST.out⟩
  case round =>
    clear HJ1 HST q0
    obtain ⟨k, acc, rfl, hk, HACC, hMw, HJW, HSW⟩ := hrel
    by_cases hlt : k < m
    · obtain ⟨x, hx, hc⟩ : ∃ x, x ∈ its ∧ wr.cell? ⟨G, k, none⟩ = some x := ⟨its[k]'(by rw [← HML.out]; exact hlt), List.getElem_mem _, by have := (HBX.out wr HSW.out).2 k (by rw [← HML.out]; exact hlt); rwa [add_mk] at this⟩
      have HK := Lib.hid (sKeys x hN (HIT.out x hx) wr HSW.out (HRR.out wr HSW.out))
      clear hx
      go_wp2_with fail
      refine HK.out.mono ?_
      rintro e w2 ⟨r2, xs, rfl, HX, HO2, HS2, HC2⟩
      have HJ2 := Lib.hid ((HJ.out C0).chg [] _ _ HJW.out HC2.out)
      have hz2 := HC2.out.size
      obtain ⟨A2, c2, rfl, hl2, _, hr2⟩ := HO2.out.form
      have HR2 := Lib.hid hr2
      have HL2 := Lib.hid hl2
      have hxl := HSS.out _ HX.out
      clear HK hr2 hl2 hc
      have HEND := Lib.hid (show ∀ (w3 : World) (r : Value) (ys : List Int), Below w2.heap.size w2 w3 → Own .u64 22 w3 w2.heap.size r ys → Own .u64 22 w3 M r ys ∧ J C0 [] w3 ∧ St w3 from fun w3 r ys hb ho => ⟨ho.mono (by omega), (HJ.out C0).chg [] _ _ HJ2.out (Chg.of_below hb), HSTAY.out _ _ HS2.out (fun b hb' => hb.block b (HRR.out _ HS2.out b hb'))⟩)
      rcases HACC.out with ⟨rfl, rfl, rfl⟩ | ⟨h1k, ho, hs⟩
      · go_wp2_with fail
        refine (two0 A2 c2 xs w2 HR2.out (by omega)).mono ?_
        rintro e w3 ⟨r, rfl, HO3, HB3⟩
        have HE := Lib.hid (HEND.out w3 r xs HB3.out HO3.out)
        have hz3 := HB3.out.size
        clear HEND HACC
        go_wp2
        go_roundw
        case rel => exact ⟨1, xs, rfl, by omega, .inr ⟨Nat.le_refl _, HE.out.1, HX.out⟩, by omega, HE.out.2.1, HE.out.2.2⟩
        case measure => simp [intOf]; omega
      · obtain ⟨e1, e2⟩ : k = 1 ∧ m = 2 := by have := HM12.out; have := HML.out; omega
        have e3 := HS5.out (by rw [← HML.out]; exact e2)
        obtain rfl := e3 _ hs
        obtain rfl := e3 _ HX.out
        have HO4 := Lib.hid (ho.chg HC2.out (fun g hg hf => by have := (ho.block g hg).1; have := HFM.out g hf; have := HMM.out; omega))
        obtain ⟨A3, c3, e4, hl3, _, hr3⟩ := HO4.out.form
        rw [e4]
        have HR3 := Lib.hid hr3
        have HL3 := Lib.hid hl3
        have HSS5 := Lib.hid hs
        subst e1
        have HE2 := Lib.hid e2
        clear hr3 hl3 ho hs e3 HACC e2
        go_wp2_with fail
        refine (two5 A3 A2 c3 c2 w2 HR3.out HR2.out HL3.out HL2.out).mono ?_
        rintro e w3 ⟨r, rfl, HO3, HB3⟩
        have HE := Lib.hid (HEND.out w3 r [5] HB3.out HO3.out)
        have hz3 := HB3.out.size
        clear HEND
        go_wp2
        go_roundw
        case rel => exact ⟨2, [5], by go_num, by rw [HE2.out]; exact Nat.le_refl _, .inr ⟨by omega, HE.out.1, HSS5.out⟩, by omega, HE.out.2.1, HE.out.2.2⟩
        case measure => simp [intOf]; have := HE2.out; omega
    · obtain ⟨ho, hs⟩ : Own .u64 22 wr M u3 acc ∧ S acc := by
        rcases HACC.out with ⟨e1, _, _⟩ | ⟨_, ho, hs⟩
        · have := HM12.out; have := HML.out; omega
        · exact ⟨ho, hs⟩
      obtain ⟨A, c, rfl, _, _, _⟩ := ho.form
      have HO := Lib.hid ho
      have HSA := Lib.hid hs
      have hal := HSS.out _ hs
      clear ho hs HACC
      go_wp2
      go_loopw [7, 21] (fun _ v21 wk => ∃ (j : Nat) (C : Nat → Prop), v21 = .int .i64 j ∧ j ≤ acc.length ∧ M ≤ wk.heap.size ∧ Hid (J C (acc.take j) wk) ∧ Hid (St wk) ∧ Hid (∀ q, C q → q < wk.heap.size) ∧ Hid (∀ g, (Value.slice A acc.length c).ownBlock = some g → ¬ C g) ∧ Hid (Own .u64 22 wk M (.slice A acc.length c) acc)) (fun _ v21 _ => acc.length - (intOf v21).toNat)
      case atStart => exact ⟨0, C0, rfl, Nat.zero_le _, hMw, HJW.out, HSW.out, fun q hq => by have := HC0.out q hq; have := HMM.out; omega, fun g hg hc => by have := HC0.out g hc; have := (HO.out.block g hg).1; have := HMM.out; omega, HO.out⟩
      case round =>
        clear HO HJW HSW
        obtain ⟨j, C, rfl, hj, hMk, HJK, HSK, HCK, HCN, HOK⟩ := hrel
        by_cases hjl : j < acc.length
        · obtain ⟨A', c', e5, _, _, hr⟩ := HOK.out.form
          obtain ⟨rfl, _, rfl⟩ : A = A' ∧ acc.length = acc.length ∧ c = c' := by simpa using e5
          obtain ⟨ad, hA, had, hc⟩ := hr j hjl
          have HTK := Lib.hid (show acc.take j ++ [acc.getD j 0] = acc.take (j + 1) by rw [List.take_add_one, List.getD_eq_getElem?_getD, List.getElem?_eq_getElem hjl]; rfl)
          obtain ⟨fn, tmps, assign, body, hy, hRI⟩ := HYY.out C (acc.take j) (acc.getD j 0) wr (by rw [← HMM.out]; exact hMk) HCK.out HJK.out HSK.out ⟨acc, HSA.out, by rw [HTK.out]; exact List.take_prefix _ _⟩
          simp only [k1] at hy
          have HA := Lib.hid hA
          rw [hA]
          rw [HTK.out] at hRI
          clear hr e5 hA
          generalize acc.getD j 0 = x at *
          have hn1 : 1 ≤ n := by omega
          refine (wpIn_wide (n := n)).1 ?_
          gi_wp2
          refine hRI.mono ?_
          rintro e W3 (⟨rfl, hS3, hkf, C', hJ3, hC', hkk⟩ | ⟨rfl, hS3, hkf, hJx3, _⟩)
          · have HJ4 := Lib.hid hJ3
            have HS4 := Lib.hid hS3
            have HO4 := Lib.hid (HOK.out.stay (fun g hg => hkk g (by obtain ⟨cs, hcs⟩ := HOK.out.cells g hg; exact blk_lt hcs) (HCN.out g hg)))
            have HC4 := Lib.hid (show ∀ k, C' k → k < W3.heap.size from fun k hk => (hC' k hk).2)
            have HCN4 := Lib.hid (show ∀ g, (Value.slice A acc.length c).ownBlock = some g → ¬ C' g from fun g hg hc => by
              rcases (hC' g hc).1 with h | h
              · exact HCN.out g hg h
              · obtain ⟨cs, hcs⟩ := HOK.out.cells g hg; have := blk_lt hcs; omega)
            have hz4 := hkf.size
            clear hJ3 hS3 hkf hkk hC'
            gi_wp2
            rw [← HA.out]
            go_roundw
            case rel => exact ⟨j + 1, C', by go_num, by omega, by omega, HJ4.out, HS4.out, HC4.out, HCN4.out, HO4.out⟩
            case measure => simp [intOf]; omega
          · have HJ4 := Lib.hid hJx3
            have HS4 := Lib.hid hS3
            have hz4 := hkf.size
            clear hJx3 hS3 hkf
            gi_wp2
            refine bodyPost_ret (results_none rfl _ _ _) rfl ?_
            exact ⟨⟨_, rfl⟩, HS4.out, by rw [← HMM.out]; omega, .inr HJ4.out⟩
        · obtain rfl : j = acc.length := by omega
          go_wp2
          go_end0
          exact ⟨⟨_, rfl⟩, HSK.out, by rw [← HMM.out]; exact hMk, .inl ⟨C, acc, HSA.out, by have := HJK.out; rwa [List.take_length] at this, HCK.out⟩⟩
end Go.Proofs.YtcnaikoloagbdaaGreat
namespace Go.Proofs.YtcnaikoloagbdaaGreat
set_option linter.unusedVariables false
set_option linter.unusedSimpArgs false
open Go.RowKit Go.Shelf
attribute [local go_sem] Oper.semAt_some k1 run_eql_seq_nil
attribute [local go_sem ↓] Go.wp_at_zero Go.wp_at_succ

set_option maxRecDepth 100000 in
set_option maxHeartbeats 4000000 in
theorem sFirst (v : Value) {St : World → Prop} {F R : Nat → Prop} {S : List Int → Prop} {N : Nat} (hN : N ≤ 100000) (hit : It Tryz.prog v k1 St F R S N) (w : World) (hSt : St w) (hR : ∀ b, R b → b < w.heap.size) :
    Calls Tryz.prog 75 #[v, .int .i64 262145] w fun e w' => ∃ r xs, e = .returned r ∧ S xs ∧ Own .u64 22 w' w.heap.size r xs ∧ St w' ∧ Chg F w w' := by
  obtain ⟨i0, hi, hz0, hz1, hz2⟩ := info_parts u64_info
  obtain ⟨⟨gf, lb, rfl, heg, hseq⟩, hstay, hsub⟩ := hit
  have HST := Lib.hid hSt
  have HSTAY := Lib.hid hstay
  have HRW := Lib.hid hR
  have HF := Lib.hid (show ∀ b, F b → b < w.heap.size from fun b h => hR b (hsub b h))
  have hnF : ¬ F (w.heap.size + 1) := fun h => by have := HF.out _ h; omega
  have hnF0 : ¬ F w.heap.size := fun h => by have := HF.out _ h; omega
  clear hSt
  refine (callsIn_wide (n := 9)).1 ?_
  refine callsIn_of_wp_marks Tryz.func75 rfl trivial ?_ rfl
  simp only [Tryz.ntmps75, List.size_toArray, List.length_cons, List.length_nil, Nat.reduceAdd, Nat.reduceSub, Array.replicate_succ, Array.replicate_zero, List.push_toArray, List.append_toArray, List.nil_append, List.cons_append]
  gi_wp2
  obtain ⟨W0, hW0⟩ : ∃ W0, W0 = (w.alloc (.cells #[.int .i64 262145] 3)).alloc (.cells #[.slice none 0 0] 29) := ⟨_, rfl⟩
  rw [← hW0]
  have s0 : W0.heap.size = w.heap.size + 1 + 1 := by rw [hW0]; simp
  have HB0 := Lib.hid (show Below w.heap.size w W0 by rw [hW0]; exact ((Below.refl _ w).alloc (Nat.le_refl _) _).alloc (by simp) _)
  have HK0 := Lib.hid (show W0.heap[w.heap.size]? = some (.cells #[.int .i64 262145] 3 (0, 0)) by rw [hW0]; exact blk_old (blk_new w _ _) _)
  have HS0 := Lib.hid (show W0.heap[w.heap.size + 1]? = some (.cells #[.slice none 0 0] 29 (0, 0)) by rw [hW0]; have := blk_new (w.alloc (.cells #[.int .i64 262145] 3)) #[.slice none 0 0] 29; simpa only [World.size_alloc] using this)
  clear hW0
  refine range_F (n := 9) (R := R) (by decide) (gf := gf) (lb := lb) rfl heg hseq hstay (fun b h => by have := hR b h; omega) hsub (hstay _ _ HST.out (fun b h => HB0.out.block b (hR b h))) (fun _ => rfl)
    (fun C pre V => (∃ v, (V.heap[w.heap.size + 1]? = some (.cells #[v] 29 (0, 0)) ∧ Own .u64 22 V (w.heap.size + 1 + 1) v pre) ∧ ∀ q, C q ↔ (q = w.heap.size + 1 ∨ v.ownBlock = some q)) ∧ V.heap[w.heap.size]? = some (.cells #[.int .i64 262145] 3 (0, 0)) ∧ Chg F w V)
    (fun _ _ => False)
    (fun C => (stab_OwnC 29 22 .u64 (w.heap.size + 1 + 1) C hnF (fun b h => by have := HF.out b h; omega)).and ((stab_obj (by omega) hnF0).and (stab_chg (by omega) (fun b h => .inl h))))
    (stab_pure _ _ _)
    (fun q => q = w.heap.size + 1) (fun q hq => by omega)
    ⟨⟨_, ⟨HS0.out, Own.nil _ _ _ _⟩, fun q => ⟨fun e => .inl e, fun e => by rcases e with e | e; exact e; cases e⟩⟩, HK0.out, Chg.of_below HB0.out⟩
    (fun x a' V => a' = { tmps := #[.func (.func gf) #[] lb, .int .i64 262145, undef, .pointer (some ⟨w.heap.size, 0, none⟩), .slice none 0 0, .pointer (some ⟨w.heap.size + 1, 0, none⟩), .int .u64 x, .func (.func gf) #[] lb, .bool false, .bool false, .int .i64 262145, .bool false, .bool false, .func (.func gf) #[] lb, .int .u64 x, undef, undef, undef, undef, undef, undef, undef, undef, undef], defers := [] })
    (fun x a' _ _ _ _ h _ _ => h) ?assign ?body ?done (fun _ _ _ _ h => h.elim)
  case assign =>
    clear hstay hsub hseq hR heg
    intro l2 C pre x V K hI hK
    gi_wp2
    exact hK _ _ (KeepsFrom.refl _ _) (Below.refl _ _) hI rfl
  case body =>
    clear hstay hsub hseq hR heg
    rintro l2 C pre x a' V hl2 hM2 hCb ⟨⟨v, ⟨hv, ho⟩, hCv⟩, hkV, hcV⟩ hst rfl hlen
    have HCVB := Lib.hid hCv
    have HO := Lib.hid ho
    have HV := Lib.hid hv
    have HKV := Lib.hid hkV
    have HCV := Lib.hid hcV
    have HSTV := Lib.hid hst
    have g1 : pre.length + 1 ≤ maxLen := by unfold maxLen; omega
    have g2 : (pre.length + 1) * 8 ≤ 140737488355328 := by omega
    have G1 := Lib.hid g1
    have G2 := Lib.hid g2
    have G3 := Lib.hid (show w.heap.size + 1 + 1 ≤ (V.alloc (.cells #[.int .u64 x] 22)).heap.size by simp; omega)
    have hl2 : (((pre.length + 1 : Nat) : Int) == 262145) = false := by rw [beq_eq_false_iff_ne]; omega
    have hl3 : (((pre.length : Int) + 1) == 262145) = false := by rw [beq_eq_false_iff_ne]; omega
    have c0 := blk_cell hv 0 (v := v) rfl
    have HBX := Lib.hid (show ∀ w1, (V.alloc (.cells #[.int .u64 x] 22)).grownBy w1 v.ownBlock → w1.heap[w.heap.size + 1]? = some (.cells #[v] 29 (0, 0)) ∧ w1.heap[w.heap.size]? = some (.cells #[.int .i64 262145] 3 (0, 0)) from fun w1 hg => ⟨(hg.block _ (by have := blk_lt hv; simp; omega) (fun e => by have := (ho.block _ e.symm).1; omega)).trans (blk_old hv _), (hg.block _ (by have := blk_lt hkV; simp; omega) (fun e => by have := (ho.block _ e.symm).1; omega)).trans (blk_old hkV _)⟩)
    clear hv ho hcV g1 g2 hst hCv hkV hCb
    gi_wp2_with (gi_at_builtin; refine listIn_append _ rfl _ _ 29 rfl (w.heap.size + 1 + 1) 22 i0 (.int .u64 0) 1 8 Tryz.underlying29 hi hz0 hz1 hz2 rfl (by decide) _ _ _ rfl (HO.out.below ((Below.refl _ _).alloc (Nat.le_refl _) _)).asRow ⟨V.heap.size, 0, none⟩ 1 1 [.int .u64 x] rfl rfl (one_cell V _ _) (one_one _ _) G1.out G2.out G3.out ?_; intro v' w1 hown' hgrow hown2; have HV2 := Lib.hid hown2; clear hown2; obtain ⟨g', cap', rfl⟩ := ownsRow_succ hown'; have hb1 := HBX.out _ hgrow; have c1 := blk_cell hb1.1 0 (v := v) rfl; have f1 := blk_free hb1.1 0; have d1 := blk_cell hb1.2 0 (v := .int .i64 262145) rfl; have HN := Lib.hid hown'; have HG := Lib.hid hgrow; have HB1 := Lib.hid hb1; clear hown' hgrow hb1)
    have HG2 : (V.alloc (.cells #[.int .u64 x] 22)).grownBy w1 v.ownBlock := HG.out
    have hvb := fun g hg => (HO.out.block g hg).1
    have hV1 : V.heap.size ≤ w1.heap.size := by have := HG2.size; simp at this; omega
    have HON : Own .u64 22 w1 (w.heap.size + 1 + 1) (.slice (some ⟨g', 0, none⟩) (pre.length + 1) cap') (pre ++ [x]) := by
      have h := HN.out
      unfold Own
      rw [List.length_append, List.map_append]
      exact h
    have hgb := HON.block g' rfl
    have hS1 : Below (w.heap.size + 1) V w1 := ((Below.refl _ V).alloc (by omega) _).grown HG2 (by simp; omega) (fun g hg => by have := hvb g hg; omega)
    have hS2 : Below (w.heap.size + 1) V (w1.setCell ⟨w.heap.size + 1, 0, none⟩ (.slice (some ⟨g', 0, none⟩) (pre.length + 1) cap')) := hS1.setCell (p := ⟨w.heap.size + 1, 0, none⟩) (Nat.le_refl _) _
    refine ⟨?_, HSTAY.out _ _ HSTV.out (fun b h => hS2.block b (by have := HRW.out b h; omega)), (fun q => q = w.heap.size + 1 ∨ q = g'), ⟨⟨_, ⟨by simpa using blk_set HB1.out.1 0 _, ?_⟩, fun q => ⟨fun e => e.imp id (fun e => by rw [e]; rfl), fun e => e.imp id (fun e => by simp only [Value.ownBlock, Option.some.injEq] at e; exact e.symm)⟩⟩, ?_, ?_⟩, ?_, ?_⟩
    · refine (KeepsOthers.trans (KeepsOthers.alloc V _) (KeepsOthers.trans (KeepsOthers.of_grownBy HG2 (fun j o ej hj => ?_)) (KeepsOthers.setCell _ _ _))).from _
      obtain ⟨cs, hcs⟩ := HO.out.cells j ej
      rw [blk_old hcs _] at hj
      cases hj
      rfl
    · exact HON.chg (S := (· = w.heap.size + 1)) ((Chg.refl _ _).set _ (.inl rfl)) (fun g hg e => by have e' : g = w.heap.size + 1 := e; simp only [Value.ownBlock, Option.some.injEq] at hg; omega)
    · exact (Below.heap_setCell _ ⟨w.heap.size + 1, 0, none⟩ _ w.heap.size (by show w.heap.size ≠ w.heap.size + 1; omega)).trans HB1.out.2
    · exact HCV.out.trans (Chg.of_belowB (S := fun b => w.heap.size ≤ b) hS2 (by have := HCV.out.size; omega) (fun k h1 _ => by show w.heap.size ≤ k; omega)) (fun b hb h => by have h' : w.heap.size ≤ b := h; omega)
    · intro k hk
      rw [World.size_setCell]
      rcases hk with hk | hk
      · exact ⟨.inl ((HCVB.out k).2 (.inl hk)), by omega⟩
      · refine ⟨?_, by omega⟩
        subst hk
        rcases HV2.out with h | h
        · exact .inl ((HCVB.out k).2 (.inr (show v.ownBlock = some k from h.symm)))
        · simp only [Value.ownBlock, World.size_alloc, Option.some.injEq] at h; exact .inr (by omega)
    · intro k hk1 hk2
      have n1 : k ≠ w.heap.size + 1 := fun e => hk2 ((HCVB.out k).2 (.inl e))
      have n2 : v.ownBlock ≠ some k := fun e => hk2 ((HCVB.out k).2 (.inr e))
      rw [Below.heap_setCell w1 ⟨w.heap.size + 1, 0, none⟩ _ k n1, HG2.block k (by simp; omega) (fun e => n2 e.symm)]
      exact (World.grownBy_alloc V _ none).block k hk1 (by intro e; cases e)
  case done =>
    clear hstay hsub hseq hR heg
    rintro D C xs V hD hxs ⟨⟨v, ⟨hv, ho⟩, _⟩, hkV, hcV⟩ hst hM _ hK
    have c0 := blk_cell hv 0 (v := v) rfl
    have HO := Lib.hid ho
    have HCV := Lib.hid hcV
    have HXS := Lib.hid hxs
    have HSTV := Lib.hid hst
    clear hv ho hcV hxs hst
    gi_wp2
    refine ⟨by simp, .inl ⟨_, _, rfl, run_takeDeferred hK, ?_⟩⟩
    refine ⟨_, results_tmp rfl _ _ _, _, xs, rfl, HXS.out, (HO.out.kept (grownBy_putObj' V D _) (.inr (fun e => ?_))).mono (by omega), HSTAY.out _ _ HSTV.out (same_put HRW.out (by omega)), chg_putObj HCV.out (by omega)⟩
    obtain ⟨cs, hcs⟩ := HO.out.cells D e.symm
    rw [hK] at hcs
    cases hcs
end Go.Proofs.YtcnaikoloagbdaaGreat
namespace Go.Proofs.YtcnaikoloagbdaaGreat
set_option linter.unusedVariables false
set_option linter.unusedSimpArgs false
open Go.RowKit Go.Shelf
attribute [local go_sem] Oper.semAt_some k1
attribute [local go_sem ↓] Go.wp_at_zero Go.wp_at_succ

theorem Rd.stay {k : IntKind} {w w' : World} {A : Option Addr} {l : List Int} (h : Rd k w A l) (hs : ∀ ad, A = some ad → w'.heap[ad.block]? = w.heap[ad.block]?) : Rd k w' A l := fun i hi => by
  obtain ⟨ad, e, h1, h2⟩ := h i hi
  have hb := hs ad e
  refine ⟨ad, e, ?_, (World.cell?_of_block (by rw [block_of_add]; exact hb)).trans h2⟩
  rcases Nat.lt_or_ge ad.block w'.heap.size with h | h
  · exact h
  · rw [Array.getElem?_eq_none h, Array.getElem?_eq_getElem h1] at hb; cases hb
set_option maxRecDepth 100000 in
set_option maxHeartbeats 1000000 in
theorem in64 (A : Option Addr) (c : Nat) (l : List Int) (k : Int) (w : World) (hr : Rd .u64 w A l) (hc : l.length ≤ c) (hlen : l.length ≤ 100000) :
    Calls Tryz.prog 136 #[.slice A l.length c, .int .u64 k] w fun e w' => ∃ (A' : Option Addr) (c' : Nat) (l' : List Int) (b : Bool), e = .returned (.tuple #[.slice A' l'.length c', .bool b]) ∧ Hid (Rd .u64 w' A' l' ∧ l'.length ≤ c' ∧ l'.length ≤ l.length ∧ ∀ ad, A' = some ad → ∃ ad0, A = some ad0 ∧ ad.block = ad0.block) ∧ Hid (Below w.heap.size w w') := by
  have HR := Lib.hid hr
  clear hr
  go_enter Tryz.func136, Tryz.ntmps136
  go_wp2_with fail
  refine (bs64 A c l k _ HR.out (by omega)).mono ?_
  rintro e w1 ⟨i, b, rfl, hil, _, HB1⟩
  have HR1 := Lib.hid (HR.out.below HB1.out)
  have hi1 : (i : Int) ≤ (c : Int) := by omega
  have hi2 : (i : Int) ≤ (l.length : Int) := by omega
  have HD := Lib.hid (HR1.out.drop i)
  have HLD := Lib.hid (show (l.drop i).length = l.length - i from List.length_drop)
  by_cases hci : c = i
  · subst hci
    obtain rfl : c = l.length := by omega
    go_wp2
    go_ret2
    exact ⟨A, 0, [], b, by simp, ⟨Rd.nil _ _ _, by simp, by simp, fun ad h => ⟨ad, h, rfl⟩⟩, HB1.out⟩
  · rcases A with _ | ad
    · have hl : l = [] := by
        rcases l with _ | ⟨x, l⟩
        · rfl
        · obtain ⟨_, e, _⟩ := HR1.out 0 (by simp); cases e
      subst hl
      obtain rfl : i = 0 := by simpa using hil
      go_wp2
      go_ret2
      exact ⟨none, c, [], b, by simp, ⟨Rd.nil _ _ _, by simp, by simp, fun ad h => by cases h⟩, HB1.out⟩
    · go_wp2
      go_ret2
      refine ⟨some (ad.add i), c - i, l.drop i, b, ?_, ⟨HD.out, by rw [HLD.out]; omega, by rw [HLD.out]; omega, fun ad1 h => ⟨ad, rfl, by cases h; exact block_of_add _ _⟩⟩, HB1.out⟩
      rw [HLD.out]
      rfl
/-- the other's keys that are left, in the box O; their row's block is g -/
def Left (O g N : Nat) (V : World) : Prop := ∃ (A : Option Addr) (c : Nat) (l : List Int), V.heap[O]? = some (.cells #[.slice A l.length c] 29 (0, 0)) ∧ Rd .u64 V A l ∧ l.length ≤ c ∧ l.length ≤ N ∧ ∀ ad, A = some ad → ad.block = g
theorem Left.stay {O g N : Nat} {X Y : World} (h : Left O g N X) (hO : Y.heap[O]? = X.heap[O]?) (hg : Y.heap[g]? = X.heap[g]?) : Left O g N Y := by
  obtain ⟨A, c, l, h1, h2, h3, h4, h5⟩ := h
  exact ⟨A, c, l, hO.trans h1, h2.stay (fun ad e => by rw [h5 ad e]; exact hg), h3, h4, h5⟩
set_option maxRecDepth 100000 in
set_option maxHeartbeats 1000000 in
theorem lessIs (O g N : Nat) (x : Int) (w : World) (hN : N ≤ 100000) (hne : O ≠ g) (h : Left O g N w) (hg : g < w.heap.size) :
    Calls Tryz.prog 135 #[.int .u64 x, .pointer (some ⟨O, 0, none⟩)] w fun e w' => ∃ (b : Bool) (u : Unit), e = .returned (.bool b) ∧ Hid (Left O g N w') ∧ Hid (Chg (· = O) w w') := by
  obtain ⟨A, c, l, h1, h2, h3, h4, h5⟩ := h
  have H1 := Lib.hid h1
  have H2 := Lib.hid h2
  have H5 := Lib.hid h5
  have q0 := blk_cell h1 0 rfl
  clear h1 h2 h5
  go_enter Tryz.func135, Tryz.ntmps135
  go_wp2_with fail
  refine (in64 A c l x _ H2.out h3 (by omega)).mono ?_
  rintro e w1 ⟨A', c', l', b, rfl, HI, HB1⟩
  have HO1 := Lib.hid (blk_below H1.out HB1.out rfl)
  have f0 := blk_free HO1.out 0
  have q1 := blk_cell HO1.out 0 (v := .slice A l.length c) rfl
  have HC := Lib.hid ((Chg.of_below (S := (· = O)) HB1.out).set (b := O) (i := 0) (.slice A' l'.length c') (.inl rfl))
  have HS := Lib.hid (blk_set HO1.out 0 (.slice A' l'.length c'))
  have HCS := Lib.hid ((Chg.refl (· = O) w1).set (b := O) (i := 0) (.slice A' l'.length c') (.inl rfl))
  have hz := HB1.out.size
  have HL := Lib.hid (show Left O g N (w1.setCell ⟨O, 0, none⟩ (.slice A' l'.length c')) from ⟨A', c', l', by simpa using HS.out, HI.out.1.stay (fun ad e => by
    obtain ⟨ad0, e0, eb⟩ := HI.out.2.2.2 ad e
    exact HCS.out.block _ (by rw [eb, H5.out ad0 e0]; omega) (fun e' => by have e2 : ad.block = O := e'; rw [eb, H5.out ad0 e0] at e2; exact hne e2.symm)), HI.out.2.1, by have := HI.out.2.2.1; omega, fun ad e => by
    obtain ⟨ad0, e0, eb⟩ := HI.out.2.2.2 ad e
    rw [eb]; exact H5.out ad0 e0⟩)
  clear q0
  cases b
  · go_wp2
    go_ret
    exact ⟨_, (), rfl, HL.out, HC.out⟩
  · go_wp2
    go_ret
    exact ⟨_, (), rfl, HL.out, HC.out⟩
set_option maxRecDepth 100000 in
set_option maxHeartbeats 4000000 in
theorem told1 (B1 B2 O : Nat) (it : Value) {St : World → Prop} {F R : Nat → Prop} {S : List Int → Prop} {N : Nat} (hN : N ≤ 100000) (hS : ∀ xs, S xs → xs.length ≤ N) (hit : It Tryz.prog it k1 St F R S N)
    (HIS : ∀ V x, St V → Calls Tryz.prog 135 #[.int .u64 x, .pointer (some ⟨O, 0, none⟩)] V fun e V' => ∃ (b : Bool) (u : Unit), e = .returned (.bool b) ∧ Hid (St V') ∧ Hid (Chg F V V'))
    (hbox : ∀ V, St V → V.heap[B1]? = some (.cells #[it] 119 (0, 0)) ∧ V.heap[B2]? = some (.cells #[.func (.func 135) #[] #[.pointer (some ⟨O, 0, none⟩)]] 71 (0, 0)))
    (hR : ∀ V, St V → ∀ b, R b → b < V.heap.size) : SeqF Tryz.prog 161 #[.pointer (some ⟨B1, 0, none⟩), .pointer (some ⟨B2, 0, none⟩)] k1 St F (fun xs => xs.length ≤ N) N := by
  intro n l J Jx C0 W hn hst hJ hJx hY hC0 h0
  have HBX := Lib.hid hbox
  have HI := Lib.hid HIS
  have HSS := Lib.hid hS
  have HJ := Lib.hid hJ
  have HYY := Lib.hid hY
  have HJ1 := Lib.hid h0
  have HC0 := Lib.hid hC0
  have HFM := Lib.hid (show ∀ b, F b → b < W.heap.size from fun b hb => hR W hst b (hit.sub b hb))
  obtain ⟨M, hM⟩ : ∃ M, M = W.heap.size := ⟨_, rfl⟩
  have HMM := Lib.hid hM
  have q0 := blk_cell (hbox W hst).1 0 rfl
  have HK := Lib.hid (sKeys it hN hit W hst (hR W hst))
  clear hbox HIS hR hS hJ hY hst h0 hJx hM hC0 hit
  refine callsIn_wide.2 ?_
  go_enter Tryz.func161, Tryz.ntmps161
  go_wp2_with fail
  refine HK.out.mono ?_
  rintro e w2 ⟨r2, acc, rfl, HX, HO2, HS2, HC2⟩
  have HJ2 := Lib.hid ((HJ.out C0).chg [] _ _ HJ1.out HC2.out)
  have hz2 := HC2.out.size
  have hal := HSS.out _ HX.out
  obtain ⟨A, c, rfl, _, _, _⟩ := HO2.out.form
  clear HK q0 HX HC2 HJ1
  go_wp2
  go_loopw [5, 9] (fun _ v9 wr => ∃ (j : Nat) (pre : List Int) (C : Nat → Prop), v9 = .int .i64 j ∧ j ≤ acc.length ∧ pre.length ≤ j ∧ M ≤ wr.heap.size ∧ Hid (J C pre wr) ∧ Hid (St wr) ∧ Hid (∀ q, C q → q < wr.heap.size) ∧ Hid (∀ g, (Value.slice A acc.length c).ownBlock = some g → ¬ C g) ∧ Hid (Own .u64 22 wr M (.slice A acc.length c) acc)) (fun _ v9 _ => acc.length - (intOf v9).toNat)
  case atStart => exact ⟨0, [], C0, rfl, Nat.zero_le _, Nat.le_refl _, by rw [HMM.out]; exact hz2, HJ2.out, HS2.out, fun q hq => by have := HC0.out q hq; omega, fun g hg hc => by have := HC0.out g hc; have := (HO2.out.block g hg).1; omega, by rw [HMM.out]; exact HO2.out⟩
  case round =>
    clear HO2 HJ2 HS2
    obtain ⟨j, pre, C, rfl, hj, hpj, hMk, HJK, HSK, HCK, HCN, HOK⟩ := hrel
    by_cases hjl : j < acc.length
    · obtain ⟨A', c', e5, _, _, hr⟩ := HOK.out.form
      obtain ⟨rfl, _, rfl⟩ : A = A' ∧ acc.length = acc.length ∧ c = c' := by simpa using e5
      obtain ⟨ad, hA, had, hc⟩ := hr j hjl
      have HA := Lib.hid hA
      rw [hA]
      clear hr e5 hA
      generalize acc.getD j 0 = x at *
      have q2 := blk_cell (HBX.out wr HSK.out).2 0 rfl
      have hn1 : 1 ≤ n := by omega
      have hfn : Fence.wide.fn 135 := trivial
      refine (wpIn_wide (n := n)).1 ?_
      gi_wp2
      refine ((callsIn_wide (n := n - 1)).2 (HI.out _ x HSK.out)).mono ?_
      rintro e w5 ⟨b, _, rfl, HS5, HC5⟩
      have HJ5 := Lib.hid ((HJ.out C).chg pre _ _ HJK.out HC5.out)
      have hz5 := HC5.out.size
      have HO5 := Lib.hid (HOK.out.chg HC5.out (fun g hg hf => by have := (HOK.out.block g hg).1; have := HFM.out g hf; have := HMM.out; omega))
      have HC5' := Lib.hid (show ∀ q, C q → q < w5.heap.size from fun q hq => Nat.lt_of_lt_of_le (HCK.out q hq) hz5)
      clear hc q2 HOK HJK HSK HCK
      cases b
      · gi_wp2
        refine ⟨fun _ h => (by cases h), ?_⟩
        gi_wp2
        rw [← HA.out]
        go_roundw
        case rel => exact ⟨j + 1, pre, C, by go_num, by omega, by omega, by omega, HJ5.out, HS5.out, HC5'.out, HCN.out, HO5.out⟩
        case measure => simp [intOf]; omega
      · obtain ⟨fn, tmps, assign, body, hy, hRI⟩ := HYY.out C pre x w5 (by rw [← HMM.out]; omega) HC5'.out HJ5.out HS5.out (by omega)
        simp only [k1] at hy
        gi_wp2
        refine hRI.mono ?_
        rintro e W3 (⟨rfl, hS3, hkf, C', hJ3, hC', hkk⟩ | ⟨rfl, hS3, hkf, hJx3, _⟩)
        · have HJ4 := Lib.hid hJ3
          have HS4 := Lib.hid hS3
          have HO4 := Lib.hid (HO5.out.stay (fun g hg => hkk g (by obtain ⟨cs, hcs⟩ := HO5.out.cells g hg; exact blk_lt hcs) (HCN.out g hg)))
          have HC4 := Lib.hid (show ∀ k, C' k → k < W3.heap.size from fun k hk => (hC' k hk).2)
          have HCN4 := Lib.hid (show ∀ g, (Value.slice A acc.length c).ownBlock = some g → ¬ C' g from fun g hg hc => by
            rcases (hC' g hc).1 with h | h
            · exact HCN.out g hg h
            · obtain ⟨cs, hcs⟩ := HO5.out.cells g hg; have := blk_lt hcs; omega)
          have hz4 := hkf.size
          clear hJ3 hS3 hkf hkk hC'
          gi_wp2
          rw [← HA.out]
          go_roundw
          case rel => exact ⟨j + 1, pre ++ [x], C', by go_num, by omega, by simp; omega, by omega, HJ4.out, HS4.out, HC4.out, HCN4.out, HO4.out⟩
          case measure => simp [intOf]; omega
        · have HJ4 := Lib.hid hJx3
          have HS4 := Lib.hid hS3
          have hz4 := hkf.size
          clear hJx3 hS3 hkf
          gi_wp2
          refine bodyPost_ret (results_none rfl _ _ _) rfl ?_
          exact ⟨⟨_, rfl⟩, HS4.out, by rw [← HMM.out]; omega, .inr HJ4.out⟩
    · obtain rfl : j = acc.length := by omega
      go_wp2
      go_end0
      exact ⟨⟨_, rfl⟩, HSK.out, by rw [← HMM.out]; exact hMk, .inl ⟨C, pre, by omega, HJK.out, HCK.out⟩⟩
end Go.Proofs.YtcnaikoloagbdaaGreat
