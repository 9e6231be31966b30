/-
  yfast.YFast: put (of the first bucket), walked.
  yfast.YFast: Insert, walked.
-/
import Derived.Test.YtcnaikoloagbdaaGreatQYfB
namespace Go.Proofs.YtcnaikoloagbdaaGreat
set_option linter.unusedVariables false
set_option linter.unusedSimpArgs false
open Go.RowKit

theorem own_one {w : World} {B : Nat} {k : Int} (h : w.heap[B]? = some (.cells #[.int .u64 k] 22 (0, 0))) : Own .u64 22 w 0 (.slice (some ⟨B, 0, none⟩) 1 1) [k] :=
  ⟨rfl, .inr ⟨B, 1, _, rfl, Nat.zero_le _, h, Nat.le_refl _, by simp [maxLen], rfl, rfl⟩⟩
/-- what put leaves -/
structure YPut (w w' : World) (d d' : YD) (B : Nat) (k : Int) : Prop where
  yp : YP w' d'
  y : d'.y = d.y
  n : d'.n = d.n
  limit : d'.limit = d.limit
  xlimit : d'.xd.limit = d.xd.limit
  ls : d'.ls = [d'.ce]
  ks : d'.ks = [k]
  xl : d'.xd.ls.length ≤ 1
  own : ∀ q, d'.own q → d.own q ∨ q = B ∨ w.heap.size ≤ q
  chg : Chg d.own w w'
set_option maxRecDepth 100000 in
set_option maxHeartbeats 4000000 in
theorem yPut (d : YD) (B : Nat) (k : Int) (w : World) (h : YP w d) (hls : d.ls = []) (hx : d.xd.ls = []) (ht : d.tn = 0) (hB : w.heap[B]? = some (.cells #[.int .u64 k] 22 (0, 0))) (hBo : ¬ d.own B) (hl1 : 1000 ≤ d.limit) (hl2 : 1000 ≤ d.xd.limit) :
    Calls Tryz.prog 371 #[.pointer (some ⟨d.y, 0, none⟩), .int .i64 (-1), .int .u64 0, .slice (some ⟨B, 0, none⟩) 1 1] w fun e w' => ∃ d' : YD, e = .returned (.tuple #[]) ∧ Hid (YPut w w' d d' B k) := by
  have hA := (Below.refl w.heap.size w).alloc (Nat.le_refl _) (.cells #[.int .u64 0, .slice (some ⟨B, 0, none⟩) 1 1, .int .i64 (-1), .int .i64 (-1)] 232)
  have H1 := Lib.hid (h.below hA)
  have HC1 := Lib.hid (Chg.of_below (S := d.own) hA)
  have HK1 := Lib.hid (blk_new w #[.int .u64 0, .slice (some ⟨B, 0, none⟩) 1 1, .int .i64 (-1), .int .i64 (-1)] 232)
  have HB1 := Lib.hid (blk_below hB hA rfl)
  have HLT := Lib.hid h.lt
  have HBO := Lib.hid hBo
  have hBl := blk_lt hB
  have HLS := Lib.hid hls
  have HX := Lib.hid hx
  have HT := Lib.hid ht
  have hlim := h.lim.2
  have hz1 : (w.alloc (.cells #[.int .u64 0, .slice (some ⟨B, 0, none⟩) 1 1, .int .i64 (-1), .int .i64 (-1)] 232)).heap.size = w.heap.size + 1 := by simp
  have hlen : d.ls.length = 0 := by rw [hls]; rfl
  clear h hA hB hBo hls hx ht
  go_enter Tryz.func371, Tryz.ntmps371
  have s0 := blk_cell HK1.out 0 rfl
  have s1 := blk_cell HK1.out 1 rfl
  have s2 := blk_cell HK1.out 2 rfl
  have s3 := blk_cell HK1.out 3 rfl
  have c3 := H1.out.cells.2.2.2.1
  go_wp2
  generalize w.alloc (.cells #[.int .u64 0, .slice (some ⟨B, 0, none⟩) 1 1, .int .i64 (-1), .int .i64 (-1)] 232) = w1 at *
  have HD := Lib.hid H1.out.drewn
  go_region_law (first | ((with_reducible refine gate_scall (f := 385) rfl ?_); refine step_goes rfl Tryz.func385 (by kernel_rfl) rfl #[.pointer (some ⟨d.p, 0, none⟩), .agg #[.int .u64 0, .slice (some ⟨B, 0, none⟩) 1 1, .int .i64 (-1), .int .i64 (-1)]] rfl (by simp only [List.map_toArray, List.map_cons, List.map_nil]; rfl) (pcAlloc d.p d.xd.m d.v d.ls d.limit _ HD.out.pool _ _ _ _ _ _ (Nat.zero_le _) (by omega) hlim (by omega)) ?_; rintro e w2 ⟨v', rfl, HP2, HV2, HC2⟩; refine ⟨_, rfl, ?_⟩))
  all_goals
    have hz1d : w1.drew.heap.size = w1.heap.size := rfl
    have hp2 := HP2.out
    rw [HLS.out, List.nil_append] at hp2
    have hB2 := HC2.out.blk (show w1.drew.heap[B]? = _ from HB1.out) (by rintro (e | e); exact HBO.out (by rw [e]; exact .inr (.inr (.inr (.inr (.inl rfl))))); exact HBO.out (.inr (.inr (.inr (.inr (.inr (.inl e)))))))
    have H2 := Lib.hid ((HD.out.setP HC2.out (fun _ e => e) hp2).setK (A := some ⟨B, 0, none⟩) (c := 1) (ks := [k]) (own_one hB2))
    have HVC := Lib.hid (show ¬ v'.ownBlock = some w.heap.size from fun e => by
      rcases HV2.out with h | ⟨g, h, hg⟩
      · have := HLT.out w.heap.size (.inr (.inr (.inr (.inr (.inr (.inl (h.symm.trans e))))))); omega
      · rw [h] at e; cases e; omega)
    have HVO := Lib.hid (show ∀ q, v'.ownBlock = some q → d.own q ∨ w.heap.size ≤ q from fun q hq => by
      rcases HV2.out with h | ⟨g, h, hg⟩
      · exact .inl (.inr (.inr (.inr (.inr (.inr (.inl (h.symm.trans hq)))))))
      · rw [h] at hq; cases hq; right; omega)
    have HK2 := Lib.hid (HC2.out.blk (show w1.drew.heap[w.heap.size]? = _ from HK1.out) (by rintro (e | e); have := HLT.out d.p (.inr (.inr (.inr (.inr (.inl rfl))))); omega; have := HLT.out _ (.inr (.inr (.inr (.inr (.inr (.inl e)))))); omega))
    have HCC2 := Lib.hid (HC1.out.drew.then (HC2.out.mono (T := d.own) (fun q _ e => by rcases e with e | e; exact .inr (.inr (.inr (.inr (.inl e)))); exact .inr (.inr (.inr (.inr (.inr (.inl e)))))))) 
    have hlen0 : (d.ls.length : Int) = 0 := by omega
    clear hp2 hB2 HP2 HV2 HC2 HD H1 HC1 HK1 HB1
    go_wp2_with fail
    refine (yLink1 { d with v := v', ls := [⟨0, some ⟨B, 0, none⟩, 1, 1, -1, -1⟩], kA := some ⟨B, 0, none⟩, kc := 1, ks := [k] } _ _ _ _ H2.out rfl).mono ?_
    rintro e w3 ⟨rfl, H3, HC3⟩
    have HK3 := Lib.hid (HC3.out.blk HK2.out HVC.out)
    have HCC3 := Lib.hid (HCC2.out.trans HC3.out (fun q hq e => (HVO.out q e).resolve_right (by omega)))
    have s3 := blk_cell HK3.out 3 (v := .int .i64 (-1)) rfl
    clear H2 HC3 HK2 HCC2
    go_wp2_with fail
    refine (yLink2 { d with v := v', ls := [⟨0, some ⟨B, 0, none⟩, 1, 1, -1, -1⟩], kA := some ⟨B, 0, none⟩, kc := 1, ks := [k] } _ _ _ _ H3.out rfl).mono ?_
    rintro e w4 ⟨rfl, H4, HC4⟩
    have HCC4 := Lib.hid (HCC3.out.trans HC4.out (fun q hq e => (HVO.out q e).resolve_right (by omega)))
    have c1 : w4.cell? ⟨d.y, 1, none⟩ = some (.pointer (some ⟨d.xd.x, 0, none⟩)) := H4.out.cells.2.1
    have hz4 := HCC4.out.size
    clear H3 HC4 HCC3 HK3 s3
    go_wp2_with fail
    refine (xInsert d.xd 0 _ H4.out.xf (by rw [HX.out]; simp) hl2 ⟨by decide, by decide⟩).mono ?_
    rintro e w5 ⟨er, xd', rfl, _, HXS⟩
    have H5 := Lib.hid (H4.out.setX HXS.out)
    have HCC5 := Lib.hid (HCC4.out.then (HXS.out.chg.mono (T := d.own) (fun q _ e => .inr (.inl e))))
    have c2 : w5.cell? ⟨d.y, 2, none⟩ = some (.pointer (some ⟨d.t, 0, none⟩)) := H5.out.cells.2.2.1
    have HD5 := Lib.hid H5.out.drewn
    have htn : d.tn < 1000 := by rw [HT.out]; omega
    go_wp2
    go_region_law (first | ((with_reducible refine gate_scall (f := 378) rfl ?_); refine step_goes rfl Tryz.func378 (by kernel_rfl) rfl #[.int .u64 0] rfl (by simp only [List.map_toArray, List.map_cons, List.map_nil]; rfl) (yKey 0 _) ?_; rintro e w6 ⟨rfl, HB6⟩; have H6 := Lib.hid (HD5.out.below HB6.out); have q2 : w6.cell? ⟨d.y, 2, none⟩ = some (.pointer (some ⟨d.t, 0, none⟩)) := H6.out.cells.2.2.1; refine ⟨_, rfl, ?_⟩) | ((with_reducible refine gate_scall (f := 140) rfl ?_); refine step_goes rfl Tryz.func140 (by kernel_rfl) rfl #[.pointer (some ⟨d.t, 0, none⟩), .agg #[.int .u8 0, .int .u64 0], .int .u64 0] rfl (by simp only [List.map_toArray, List.map_cons, List.map_nil]; rfl) (hPut d.t d.g xd'.m d.tn d.es xd'.seed _ _ _ (· = 0) _ H6.out.tb H6.out.ti htn H6.out.vals rfl) ?_; rintro e w7 ⟨g', es', n', bb, rfl, hg', hn1, hn2, HT7, HI7, HV7, HC7⟩; refine ⟨_, rfl, ?_⟩))
    all_goals
      have H7 := Lib.hid (H6.out.setT HT7.out HI7.out HV7.out (by have := HT.out; omega) hg' HC7.out)
      have HCC7 := Lib.hid (((HCC5.out.drew.then (Chg.of_below HB6.out)).then (HC7.out.mono (T := d.own) (fun q _ e => by rcases e with e | e; exact .inr (.inr (.inl e)); exact .inr (.inr (.inr (.inl e)))))))
      have hz6 := (HCC5.out.drew.then (Chg.of_below HB6.out)).size
      go_wp2
      go_end0
      refine ⟨rfl, _, H7.out, rfl, rfl, rfl, HXS.out.limit, rfl, rfl, by have := HXS.out.len; rw [HX.out] at this; exact this, ?_, HCC7.out⟩
      rintro q (e | e | e | e | e | e | e)
      · exact .inl (.inl e)
      · rcases HXS.out.own q e with e | e
        · exact .inl (.inr (.inl e))
        · exact .inr (.inr (by omega))
      · exact .inl (.inr (.inr (.inl e)))
      · rcases hg' with h | h
        · exact .inl (.inr (.inr (.inr (.inl (e.trans h)))))
        · right; right
          have e' : q = g' := e
          omega
      · exact .inl (.inr (.inr (.inr (.inr (.inl e)))))
      · rcases HVO.out q e with h | h
        · exact .inl h
        · exact .inr (.inr h)
      · cases e; exact .inr (.inl rfl)
end Go.Proofs.YtcnaikoloagbdaaGreat
namespace Go.Proofs.YtcnaikoloagbdaaGreat
set_option linter.unusedVariables false
set_option linter.unusedSimpArgs false
open Go.RowKit

/-- what an Insert leaves -/
structure YStep (w w' : World) (d d' : YD) : Prop where
  yf : YF w' d'
  y : d'.y = d.y
  limit : d'.limit = d.limit
  xlimit : d'.xd.limit = d.xd.limit
  len : d'.ks.length ≤ d.ks.length + 1
  n : d'.n ≤ d.n + 1
  own : ∀ q, d'.own q → d.own q ∨ w.heap.size ≤ q
  chg : Chg d.own w w'
theorem YStep.same {w w' : World} {d : YD} (h : YP w' d) (hs : YS d) (hc : Chg d.own w w') : YStep w w' d d := ⟨⟨h, hs⟩, rfl, rfl, rfl, by omega, by omega, fun _ h => .inl h, hc⟩
theorem YStep.of_put {w w1 w2 : World} {d d' : YD} {B : Nat} {k : Int} (hk : 0 ≤ k ∧ k ≤ 18446744073709551615) (hs : YS d) (hn : d.n = 0) (hc : Chg d.own w w1) (hB : w.heap.size ≤ B) (h : YPut w1 w2 d d' B k) : YStep w (w2.setCell ⟨d.y, 4, none⟩ (.int .i64 1)) d { d' with n := 1 } := by
  have h1 : YP (w2.setCell ⟨d.y, 4, none⟩ (.int .i64 1)) { d' with n := 1 } := by have := h.yp.setN 1; rw [← h.y]; exact this
  refine ⟨⟨h1, ⟨.inr ⟨h.ls, by rw [h.ks]; simp⟩, ⟨by show (0 : Int) ≤ 1; omega, ⟨fun e => absurd (show (1 : Int) = 0 from e) (by decide), fun e => (by have e' : d'.ks = [] := e; rw [h.ks] at e'; cases e')⟩⟩, by rw [h.ks]; simp, by show (1 : Int) ≤ 100; omega, h.xl, (fun e => by rw [h.ks] at e; cases e), by rw [h.ks]; exact U64.nil.snoc hk⟩⟩, h.y, h.limit, h.xlimit, by rw [h.ks]; simp, by show (1 : Int) ≤ d.n + 1; omega, fun q hq => ?_, ?_⟩
  · have hq' : d'.own q := hq
    rcases h.own q hq' with e | e | e
    · exact .inl e
    · exact .inr (by omega)
    · exact .inr (Nat.le_trans hc.size e)
  · exact (hc.trans h.chg (fun _ _ e => e)).set _ (.inl (.inl rfl))
set_option maxRecDepth 100000 in
set_option maxHeartbeats 4000000 in
theorem yInsert (d : YD) (k : Int) (w : World) (h : YF w d) (hl : d.ks.length ≤ 90) (hnl : d.n ≤ 90) (hl1 : 1000 ≤ d.limit) (hl2 : 1000 ≤ d.xd.limit) (hk : 0 ≤ k ∧ k ≤ 18446744073709551615) : Calls Tryz.prog 353 #[.pointer (some ⟨d.y, 0, none⟩), .int .u64 k] w fun e w' => ∃ (er : Int) (d' : YD), e = .returned (.int .i64 er) ∧ Hid (er ≠ 6) ∧ Hid (YStep w w' d d') := by
  have HS := Lib.hid h.2
  have H := Lib.hid h
  have HRO := Lib.hid d.red_own
  have HLT := Lib.hid h.1.lt
  have HKR := Lib.hid hk
  clear h hk
  go_enter Tryz.func353, Tryz.ntmps353
  go_wp2_with fail
  refine (yHas d k _ H.out).mono ?_
  rintro e w1 ⟨r, _, rfl, H1, HC1⟩
  have HC1' := Lib.hid (HC1.out.mono (fun q _ e => HRO.out q e))
  have c4 := H1.out.cells.2.2.2.2.1
  have c5 := H1.out.cells.2.2.2.2.2
  have c1 := H1.out.cells.2.1
  cases r
  · by_cases hn : 0 < d.n
    · have hne : (d.n == 0) = false := by rw [beq_eq_false_iff_ne]; omega
      have HNP := Lib.hid hn
      have HUL := Lib.hid (show ∀ u : Int, 0 ≤ u → u ≤ 900 → decide (d.limit < IntKind.i64.wrap (u + 1)) = false from fun u h0 h1 => decide_eq_false (by rw [IntKind.wrap_i64]; omega))
      have HS1 := Lib.hid (HS.out.one hn)
      have hn0 := HS.out.cnt.1
      have hls2 : d.ls.length ≤ 2 := by rw [HS1.out]; simp
      have hn200 : d.n ≤ 200 := by omega
      clear hn
      go_wp2_with fail
      refine (yFind d k _ H1.out d.ce HS1.out).mono ?_
      rintro e w2 ⟨rfl, H2, HC2⟩
      have hA := (Below.refl w2.heap.size w2).alloc (Nat.le_refl _) (.cells #[.int .u64 0, .slice d.kA d.ks.length d.kc, .int .i64 (-1), .int .i64 (-1)] 232)
      have H3 := Lib.hid (H2.out.below hA)
      have HC3 := Lib.hid ((HC1'.out.then (HC2.out.mono (fun q _ e => HRO.out q e))).then (Chg.of_below hA))
      have HN3 := Lib.hid (blk_new w2 #[.int .u64 0, .slice d.kA d.ks.length d.kc, .int .i64 (-1), .int .i64 (-1)] 232)
      have hz2 := (HC1'.out.then (HC2.out.mono (T := d.own) (fun q _ e => HRO.out q e))).size
      clear hA c4 c5 c1 H2 HC2
      go_wp2_with fail
      refine (bkAdd d.kA d.kc d.ks k _ H3.out.rd.1 H3.out.rd.2 (by omega)).mono ?_
      rintro e w4 ⟨V, bb, l', rfl, HLL, HO, HB4⟩
      have hb4 := Lib.hid HB4
      have ho4 := Lib.hid HO
      clear HB4 HO
      obtain ⟨A', c', rfl, hlc, _, _⟩ := ho4.out.form
      have hll := HLL.out.1
      have H4 := Lib.hid (H3.out.below hb4.out)
      have HC4 := Lib.hid (HC3.out.then (Chg.of_below hb4.out))
      have HN4 := Lib.hid (blk_below HN3.out hb4.out rfl)
      have HD := Lib.hid H4.out.drewn
      have c5 := H4.out.cells.2.2.2.2.2
      have hl128 : ¬ (128 : Int) < (l'.length : Nat) := by omega
      have hz4 := hb4.out.size
      have hz5 : w2.heap.size + 1 ≤ w4.heap.size := by simpa using hz4
      clear H3 HC3 HN3
      go_wp2
      apply use_same
      case main =>
        intro K
        go_region_law (first | ((with_reducible refine gate_scall (f := 360) rfl ?_); refine step_goes rfl Tryz.func360 (by kernel_rfl) rfl #[.pointer (some ⟨d.y, 0, none⟩)] rfl (by simp only [List.map_toArray, List.map_cons, List.map_nil]; rfl) (yUsed d _ HD.out hls2 hn0 hn200) ?_; rintro e w5 ⟨u, rfl, hu0, hu1, HB5⟩; have H5 := Lib.hid (HD.out.below HB5.out); have c55 := H5.out.cells.2.2.2.2.2; refine ⟨_, rfl, ?_⟩))
        all_goals
          have HB5' := Lib.hid ((Below.refl w4.heap.size w4).drew.trans HB5.out)
          clear c55 HB5 H5
          revert HB5'
          revert hu0 hu1
          revert u w5
          exact K
      case rest =>
        intro w5 u hu0 hu1 HB5
        rw [HUL.out u hu0 hu1]
        have H5 := Lib.hid (H4.out.below HB5.out)
        have HC5 := Lib.hid (HC4.out.then (Chg.of_below HB5.out))
        have HN5 := Lib.hid (blk_below HN4.out HB5.out rfl)
        have HO5 := Lib.hid (ho4.out.below HB5.out)
        have f1 := blk_free HN5.out 1
        have n1 := blk_cell HN5.out 1 rfl
        have hsC := (Chg.refl (fun q => q = w2.heap.size) w5).set (b := w2.heap.size) (i := 1) (.slice A' l'.length c') (.inl rfl)
        have H6 := Lib.hid (H5.out.chg hsC (fun q hq e => by have := HLT.out q hq; omega))
        have HC6 := Lib.hid (HC5.out.set (b := w2.heap.size) (i := 1) (.slice A' l'.length c') (.inr hz2))
        have HN6 := Lib.hid (blk_set HN5.out 1 (.slice A' l'.length c'))
        have HOB := Lib.hid (show ∀ g, (Value.slice A' l'.length c').ownBlock = some g → w2.heap.size + 1 ≤ g from fun g hg => by have := (ho4.out.block g hg).1; simpa using this)
        have HO6 := Lib.hid (HO5.out.chg hsC (fun g hg e => by have := HOB.out g hg; have e' : g = w2.heap.size := e; omega))
        have h3 := H6.out.cells.2.2.2.1
        have h4 := H6.out.cells.2.2.2.2.1
        have HD6 := Lib.hid H6.out.drewn
        have s0 := blk_cell HN6.out 0 (v := .int .u64 0) rfl
        have s1 := blk_cell HN6.out 1 (v := .slice A' l'.length c') rfl
        have s2 := blk_cell HN6.out 2 (v := .int .i64 (-1)) rfl
        have s3 := blk_cell HN6.out 3 (v := .int .i64 (-1)) rfl
        clear H4 HC4 HN4 HD c5 hsC H5 HC5 HN5 HO5 ho4
        go_wp2
        generalize w5.setCell ⟨w2.heap.size, 1, none⟩ (.slice A' l'.length c') = w6 at *
        go_region_law (first | ((with_reducible refine gate_scall (f := 367) rfl ?_); refine step_goes rfl Tryz.func367 (by kernel_rfl) rfl #[.pointer (some ⟨d.p, 0, none⟩), .int .i64 0, .agg #[.int .u64 0, .slice A' l'.length c', .int .i64 (-1), .int .i64 (-1)]] rfl (by simp only [List.map_toArray, List.map_cons, List.map_nil]; rfl) (pcPut d.p d.xd.m d.v d.ls d.limit _ HD6.out.pool 0 _ _ _ _ _ _ (Nat.zero_le _)) ?_; rintro e w7 ⟨⟨r, rfl⟩, HP7, HC7⟩; refine ⟨_, rfl, ?_⟩))
        all_goals
          have H7 := Lib.hid (show YP w7 { d with ls := [⟨0, A', l'.length, c', -1, -1⟩] } from by
            have h1 := HD6.out.setP HC7.out (fun k e => .inr e) HP7.out
            have e : putAt d.ls 0 ⟨0, A', l'.length, c', -1, -1⟩ = [⟨0, A', l'.length, c', -1, -1⟩] := by rw [HS1.out]; rfl
            rw [e] at h1
            exact h1)
          have HO7 := Lib.hid ((HO6.out.chg (S := fun _ => False) (Chg.refl _ _).drew (fun _ _ h => h)).chg HC7.out (fun g hg e => by
            obtain ⟨cs1, h1⟩ := HO6.out.cells g hg
            obtain ⟨cs2, h2⟩ := (HD6.out.tys.2.2.2.2.1 g e)
            have h2' : w6.heap[g]? = _ := h2
            rw [h1] at h2'
            cases h2'))
          have H8 := Lib.hid (H7.out.setK (A := A') (c := c') (ks := l') (HO7.out.mono (Nat.zero_le _)))
          have HC8 := Lib.hid (HC6.out.drew.then (HC7.out.mono (T := d.own) (fun q _ e => .inr (.inr (.inr (.inr (.inr (.inl e))))))))
          have c48 : w7.cell? ⟨d.y, 4, none⟩ = some (.int .i64 d.n) := H8.out.cells.2.2.2.2.1
          have f48 : w7.frozen? ⟨d.y, 4, none⟩ = false := blk_free H8.out.head 4
          have hwn : IntKind.i64.wrap (d.n + 1) = d.n + 1 := by rw [IntKind.wrap_i64]; omega
          have HFIN := Lib.hid (show YStep w (w7.setCell ⟨d.y, 4, none⟩ (.int .i64 (d.n + 1))) d { d with ls := [⟨0, A', l'.length, c', -1, -1⟩], kA := A', kc := c', ks := l', n := d.n + 1 } from by
            refine ⟨⟨H8.out.setN (d.n + 1), ⟨.inr ⟨rfl, ?_⟩, ⟨by show 0 ≤ d.n + 1; omega, ⟨fun e => ?_, fun e => ?_⟩⟩, by show l'.length ≤ 100; omega, by show d.n + 1 ≤ 100; omega, HS.out.xl, fun e => ?_, fun x hx => by rcases HLL.out.2 x hx with h | h; exact HS.out.u x h; subst h; exact HKR.out⟩⟩, rfl, rfl, rfl, hll.2, Int.le_refl _, ?_, HC8.out.set _ (.inl (.inl rfl))⟩
            · intro e
              have e' : l' = [] := e
              have h1 := hll.1
              rw [e'] at h1
              have h2 := HS.out.cnt
              have h3 := HNP.out
              have : d.ks = [] := List.eq_nil_of_length_eq_zero (by simpa using h1)
              have := h2.2.2 this
              omega
            · have e' : d.n + 1 = 0 := e; omega
            · exfalso
              have e' : l' = [] := e
              have h1 := hll.1
              rw [e'] at h1
              have : d.ks = [] := List.eq_nil_of_length_eq_zero (by simpa using h1)
              have := HS.out.cnt.2.2 this
              have h3 := HNP.out
              omega
            · exfalso
              have e' : l' = [] := e
              have h1 := hll.1
              rw [e'] at h1
              have : d.ks = [] := List.eq_nil_of_length_eq_zero (by simpa using h1)
              have := HS.out.cnt.2.2 this
              have h3 := HNP.out
              omega
            · rintro q (e | e | e | e | e | e | e)
              · exact .inl (.inl e)
              · exact .inl (.inr (.inl e))
              · exact .inl (.inr (.inr (.inl e)))
              · exact .inl (.inr (.inr (.inr (.inl e))))
              · exact .inl (.inr (.inr (.inr (.inr (.inl e)))))
              · exact .inl (.inr (.inr (.inr (.inr (.inr (.inl e))))))
              · have := HOB.out q e; exact .inr (by omega))
          clear H7 HO7 H8 HC8 HP7 HC7 HD6
          go_wp2
          go_ret
          exact ⟨0, _, rfl, by show (0 : Int) ≠ 6; decide, HFIN.out⟩
    · have hn0 : d.n = 0 := by have := HS.out.cnt.1; omega
      obtain ⟨hks, hls, hxl⟩ := HS.out.zero hn
      have HKS := Lib.hid hks
      have HLS := Lib.hid hls
      have HXL := Lib.hid hxl
      have HN0 := Lib.hid hn0
      have HT0 := Lib.hid (HS.out.t0 hks)
      rw [hn0] at c4
      clear hks hls hxl hn0 hn
      have HD := Lib.hid H1.out.drewn
      have HLM := Lib.hid (show ∀ nd : Int, 0 ≤ nd → nd ≤ 66 → (d.limit < nd + 1 + 1) = False from fun nd h0 h1 => eq_false (by omega))
      go_wp2
      apply use_same
      case main =>
        intro K
        go_region_law (first | ((with_reducible refine gate_scall (f := 324) rfl ?_); refine step_goes rfl Tryz.func324 (by kernel_rfl) rfl #[.pointer (some ⟨d.xd.x, 0, none⟩), .int .u64 0] rfl (by simp only [List.map_toArray, List.map_cons, List.map_nil]; rfl) (xNeeds d.xd 0 _ HD.out.xf) ?_; rintro e w3 ⟨nd, rfl, hnd0, hnd1, HX3, HC3⟩; have H3 := Lib.hid (HD.out.readx HX3.out HC3.out); have c53 := H3.out.cells.2.2.2.2.2; have hlm := HLM.out nd hnd0 hnd1; refine ⟨_, rfl, ?_⟩))
        all_goals
          have HC3' := Lib.hid (HC1'.out.drew.then (HC3.out.mono (T := d.own) (fun q _ e => HRO.out q (.inl e))))
          clear c53 hlm HX3 HC3
          revert HC3' H3
          revert hnd0 hnd1
          revert nd w3
          exact K
      case rest =>
        intro w3 nd hnd0 hnd1 H3 HC3
        have hlm := HLM.out nd hnd0 hnd1
        have hlm2 : decide (d.limit < IntKind.i64.wrap (IntKind.i64.wrap (nd + 1) + 1)) = false := decide_eq_false (by rw [IntKind.wrap_i64, IntKind.wrap_i64]; omega)
        rw [hlm2]
        clear hlm hlm2
        clear HD c1 c4 c5 HLM
        have hz3 := HC3.out.size
        have hA := (Below.refl w3.heap.size w3).alloc (Nat.le_refl _) (.cells #[.int .u64 k] 22)
        have H4 := Lib.hid (H3.out.below hA)
        have HC4 := Lib.hid (HC3.out.then (Chg.of_below hA))
        have HB4 := Lib.hid (blk_new w3 #[.int .u64 k] 22)
        clear hA
        go_wp2_with fail
        refine (yPut d w3.heap.size k _ H4.out HLS.out HXL.out HT0.out HB4.out (fun e => by have := HLT.out _ e; omega) hl1 hl2).mono ?_
        rintro e w5 ⟨d', rfl, HP⟩
        have HST := Lib.hid (YStep.of_put HKR.out HS.out HN0.out HC4.out hz3 HP.out)
        have c4 : w5.cell? ⟨d.y, 4, none⟩ = some (.int .i64 0) := by have := HP.out.yp.cells.2.2.2.2.1; rw [HP.out.y, HP.out.n, HN0.out] at this; exact this
        have f4 : w5.frozen? ⟨d.y, 4, none⟩ = false := by have := blk_free HP.out.yp.head 4; rw [HP.out.y] at this; exact this
        go_wp2
        go_ret
        exact ⟨0, _, rfl, by show (0 : Int) ≠ 6; decide, HST.out⟩
  · go_wp2
    go_ret
    exact ⟨4, d, rfl, by show (4 : Int) ≠ 6; decide, YStep.same H1.out HS.out HC1'.out⟩
end Go.Proofs.YtcnaikoloagbdaaGreat
