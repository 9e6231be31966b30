/-
  xfast.XFast: Insert, walked.
-/
import Derived.Test.YtcnaikoloagbdaaGreatQXfB
import Derived.Test.YtcnaikoloagbdaaGreatQChn4
namespace Go.Proofs.YtcnaikoloagbdaaGreat
set_option linter.unusedVariables false
set_option linter.unusedSimpArgs false
open Go.RowKit

theorem use_same {T G : Prop} (rest : T) (main : T → G) : G := main rest
/-- with other entries, links -/
abbrev XD.ins (d : XD) (g : Nat) (es : List En) (n : Nat) (v : Value) (ls : List Lk) (fst : Int) (R : Nat) : XD := ⟨d.x, d.h, g, d.c, d.p, d.m, es, d.seed, n, v, ls, d.limit, fst, R⟩
theorem XF.behind {w w' : World} {d : XD} {v : Value} {ls : List Lk} {fst : Int} {R : Nat} (h : XF w d) (hc : Ch w' d.c d.m d.p v ls d.limit fst) (hr : Rk ls fst R) (hg : Chg (chO d.c d.m d.p d.v) w w') (hl : ls.length ≤ 8) (hf : d.ls.length ≤ ls.length) : XF w' (d.ins d.g d.es d.n v ls fst R) := by
  obtain ⟨t1, t2, t3, t4, t5, t6, t7⟩ := h.tys
  have ne : ∀ q t, ty w q t → t ≠ 276 → t ≠ 259 → t ≠ 274 → t ≠ 385 → ¬ chO d.c d.m d.p d.v q := by
    rintro q t hq h1 h2 h3 h4 (e | e | e | e)
    · exact hq.ne t4 h1 e
    · exact hq.ne t6 h2 e
    · exact hq.ne t5 h3 e
    · exact hq.ne (t7 q e) h4 rfl
  exact ⟨hg.blk h.head (ne _ _ t1 (by decide) (by decide) (by decide) (by decide)), h.tb.chg hg (ne _ _ t2 (by decide) (by decide) (by decide) (by decide)) (ne _ _ t3 (by decide) (by decide) (by decide) (by decide)), h.ti, hc, hr, by have := h.few; show d.n ≤ 65 * ls.length; omega, hl, h.lim⟩
theorem XF.puts {w w' : World} {d : XD} {g : Nat} {es : List En} {n : Nat} (h : XF w d) (ht : Tb w' d.h g d.m es d.seed (n : Nat)) (hi : Ti es (n : Nat)) (hg : Chg (fun k => k = d.h ∨ k = d.g) w w') (hn : n ≤ 65 * d.ls.length) : XF w' (d.ins g es n d.v d.ls d.fst d.R) := by
  obtain ⟨t1, t2, t3, t4, t5, t6, t7⟩ := h.tys
  have ne : ∀ q t, ty w q t → t ≠ 252 → t ≠ 255 → ¬ (q = d.h ∨ q = d.g) := by
    rintro q t hq h1 h2 (e | e)
    · exact hq.ne t2 h1 e
    · exact hq.ne t3 h2 e
  exact ⟨hg.blk h.head (ne _ _ t1 (by decide) (by decide)), ht, hi, h.ch.chg hg (ne _ _ t4 (by decide) (by decide)) (ne _ _ t6 (by decide) (by decide)) (ne _ _ t5 (by decide) (by decide)) (fun q hq => ne _ _ (t7 q hq) (by decide) (by decide)), h.rk, hn, h.len, h.lim⟩
/-- what an Insert leaves -/
structure XStep (w w' : World) (d d' : XD) : Prop where
  xf : XF w' d'
  x : d'.x = d.x
  m : d'.m = d.m
  h : d'.h = d.h
  seed : d'.seed = d.seed
  limit : d'.limit = d.limit
  len : d'.ls.length ≤ d.ls.length + 1
  R : d'.R ≤ 2 * d.R + 1
  own : ∀ q, d'.own q → d.own q ∨ w.heap.size ≤ q
  chg : Chg d.own w w'
theorem XStep.same {w w' : World} {d : XD} (h : XF w' d) (hc : Chg d.own w w') : XStep w w' d d := ⟨h, rfl, rfl, rfl, rfl, rfl, by omega, by omega, fun _ h => .inl h, hc⟩
theorem XD.chO_own (d : XD) : ∀ q, chO d.c d.m d.p d.v q → d.own q := fun q h => by
  rcases h with h | h | h | h
  · exact .inr (.inr (.inr (.inl h)))
  · exact .inr (.inr (.inr (.inr (.inr (.inl h)))))
  · exact .inr (.inr (.inr (.inr (.inl h))))
  · exact .inr (.inr (.inr (.inr (.inr (.inr h)))))
theorem XD.ins_own (d : XD) {B g : Nat} {es : List En} {n : Nat} {v : Value} {ls : List Lk} {fst : Int} {R : Nat} (hg : d.own g ∨ B ≤ g) (hv : ∀ q, v.ownBlock = some q → d.own q ∨ B ≤ q) : ∀ q, (d.ins g es n v ls fst R).own q → d.own q ∨ B ≤ q := by
  rintro q (e | e | e | e | e | e | e)
  · exact .inl (.inl e)
  · exact .inl (.inr (.inl e))
  · cases e; exact hg
  · exact .inl (.inr (.inr (.inr (.inl e))))
  · exact .inl (.inr (.inr (.inr (.inr (.inl e)))))
  · exact .inl (.inr (.inr (.inr (.inr (.inr (.inl e))))))
  · exact hv q e
set_option maxRecDepth 100000 in
set_option maxHeartbeats 4000000 in
theorem xInsert (d : XD) (k : Int) (w : World) (h : XF w d) (hl : d.ls.length ≤ 6) (hlim : 1000 ≤ d.limit) (hk : 0 ≤ k ∧ k ≤ 18446744073709551615) : Calls Tryz.prog 306 #[.pointer (some ⟨d.x, 0, none⟩), .int .u64 k] w fun e w' => ∃ (er : Int) (d' : XD), e = .returned (.int .i64 er) ∧ Hid (er ≠ 6) ∧ Hid (XStep w w' d d') := by
  have H := Lib.hid h
  have hlim2 := h.lim.2
  have hfew := h.few
  have HRO := Lib.hid d.red_own
  have HKR := Lib.hid hk
  clear h hk
  go_enter Tryz.func306, Tryz.ntmps306
  go_wp2_with fail
  refine (xHas d k _ H.out).mono ?_
  rintro e w1 ⟨r, rfl, HF, H1, HC1⟩
  have HC1 := Lib.hid (HC1.out.mono (fun q _ e => HRO.out q e))
  cases r
  · have HF2 := Lib.hid (HF.out rfl)
    clear HF
    have c3 := H1.out.cells.2.2.2
    have HD := Lib.hid H1.out.drewn
    have HWR := Lib.hid (show ∀ nd : Int, 0 ≤ nd → nd ≤ 66 → IntKind.i64.wrap ((d.n : Int) + (d.ls.length : Int) + nd) = (d.n : Int) + (d.ls.length : Int) + nd from fun nd h0 h1 => by rw [IntKind.wrap_i64]; omega)
    have HLT := Lib.hid (show ∀ nd : Int, 0 ≤ nd → nd ≤ 66 → (d.limit < (d.n : Int) + (d.ls.length : Int) + nd) = False from fun nd h0 h1 => eq_false (by omega))
    go_wp2
    apply use_same
    case main =>
      intro K
      go_region_law (first | ((with_reducible refine gate_scall (f := 313) rfl ?_); refine step_goes rfl Tryz.func313 (by kernel_rfl) rfl #[.pointer (some ⟨d.x, 0, none⟩)] rfl (by simp only [List.map_toArray, List.map_cons, List.map_nil]; rfl) (xUsed d _ HD.out) ?_; rintro e w2 ⟨rfl, HB2⟩; have H2 := Lib.hid (HD.out.below HB2.out); have c32 := H2.out.cells.2.2.2; refine ⟨_, rfl, ?_⟩) | ((with_reducible refine gate_scall (f := 324) rfl ?_); refine step_goes rfl Tryz.func324 (by kernel_rfl) rfl #[.pointer (some ⟨d.x, 0, none⟩), .int .u64 k] rfl (by simp only [List.map_toArray, List.map_cons, List.map_nil]; rfl) (xNeeds d k _ H2.out) ?_; rintro e w3 ⟨nd, rfl, hnd0, hnd1, H3, HC3⟩; have c33 := H3.out.cells.2.2.2; have hwr := HWR.out nd hnd0 hnd1; have hlt := HLT.out nd hnd0 hnd1; refine ⟨_, rfl, ?_⟩))
      all_goals
        have HC3' := Lib.hid ((HC1.out.drew.then (Chg.of_below HB2.out)).then (HC3.out.mono (fun q _ e => HRO.out q e)))
        clear HB2 H2 c32 c33 hwr hlt HC3
        clear w2
        revert HC3' H3
        revert hnd0 hnd1
        revert nd w3
        exact K
    case rest =>
      intro w3 nd hnd0 hnd1 H3 HC3
      clear HD c3
      clear HWR HLT
      go_wp2_with fail
      refine (xAfter d k _ H3.out HF2.out).mono ?_
      rintro e w4 ⟨ah, rfl, H4, HC4⟩
      replace HC4 := Lib.hid (HC3.out.then (HC4.out.mono (fun q _ e => HRO.out q e)))
      have c2 := H4.out.cells.2.2.1
      clear H3 HC3 HF2
      go_wp2_with fail
      refine (chBehind d.c d.m d.p d.v d.ls d.limit d.fst ah k d.R _ H4.out.ch H4.out.rk (by omega) hlim2 (by omega) HKR.out).mono ?_
      rintro e w5 ⟨at_, ok, v', ls', fst', rfl, HCH, HOK, HV, HC5⟩
      have hw4 := HC4.out.size
      have HV5 := Lib.hid (show ∀ q, v'.ownBlock = some q → d.own q ∨ w.heap.size ≤ q from fun q hq => by
        rcases HV.out with h | ⟨g, h, hg⟩
        · exact .inl (.inr (.inr (.inr (.inr (.inr (.inr (h.symm.trans hq)))))))
        · rw [h] at hq; cases hq; exact .inr (by omega))
      have HC5' := Lib.hid (HC4.out.then (HC5.out.mono (fun q _ e => d.chO_own q e)))
      clear c2
      cases ok
      · rcases HOK.out with ⟨_, e1, e2⟩ | ⟨e, _⟩
        · subst e1
          subst e2
          have H5 := Lib.hid (H4.out.behind HCH.out H4.out.rk HC5.out (by omega) (Nat.le_refl _))
          go_wp2
          go_ret
          exact ⟨5, _, rfl, by show (5 : Int) ≠ 6; decide, H5.out, rfl, rfl, rfl, rfl, rfl, Nat.le_succ _, by show d.R ≤ 2 * d.R + 1; omega, d.ins_own (.inl (.inr (.inr (.inl rfl)))) HV5.out, HC5'.out⟩
        · cases e
      · obtain ⟨hlen, hrk⟩ : ls'.length = d.ls.length + 1 ∧ Rk ls' fst' (2 * d.R + 1) := by
          rcases HOK.out with ⟨e, _⟩ | ⟨_, h⟩
          · cases e
          · exact h
        have H5 := Lib.hid (H4.out.behind HCH.out hrk HC5.out (by omega) (by omega))
        have HLEN := Lib.hid hlen
        have hl7 : ls'.length ≤ 7 := by omega
        have q2 : w5.cell? ⟨d.x, 2, none⟩ = some (.pointer (some ⟨d.c, 0, none⟩)) := H5.out.cells.2.2.1
        clear hlen hrk HOK HCH HC5 H4 HC4
        go_wp2_with fail
        refine (chNext d.c d.m d.p v' ls' d.limit fst' at_ _ H5.out.ch).mono ?_
        rintro e w6 ⟨bh, rfl, H6c, HC6⟩
        have H6 := Lib.hid (H5.out.chn H6c.out HC6.out)
        replace HC6 := Lib.hid (HC5'.out.then (HC6.out.mono (fun q _ e => HRO.out q (.inr e))))
        clear H6c H5 HC5' q2
        go_wp2
        go_loopw [9, 10, 11, 63, 69, 76] (fun v9 _ _ _ _ _ wr => ∃ (b : Nat) (g : Nat) (es : List En) (n : Nat), v9 = .int .i64 b ∧ b ≤ 65 ∧ n ≤ d.n + b ∧ Hid (d.own g ∨ w.heap.size ≤ g) ∧ Hid (XF wr (d.ins g es n v' ls' fst' (2 * d.R + 1))) ∧ Hid (Chg d.own w wr)) (fun v9 _ _ _ _ _ _ => 65 - (intOf v9).toNat)
        case atStart => exact ⟨0, d.g, d.es, d.n, rfl, by omega, by omega, .inl (.inr (.inr (.inl rfl))), H6.out, HC6.out⟩
        case round =>
          clear H6 HC6
          obtain ⟨b, g, es, n, rfl, hb, hn, HG, HX, HC⟩ := hrel
          by_cases hle : b ≤ 64
          · have hbi : (b : Int) ≤ 64 := by omega
            go_wp2_with fail
            refine (xFind (d.ins g es n v' ls' fst' (2 * d.R + 1)) k b hle _ HX.out).mono ?_
            rintro e w7 ⟨lo, hi, ok, rfl, _, HX7, HC7⟩
            have HX9 := Lib.hid (fun a b => HX7.out.below ((Below.refl w7.heap.size w7).alloc (Nat.le_refl _) (.cells #[.int .i64 a, .int .i64 b] 371)))
            have HC9 := Lib.hid (fun a b => (HC.out.then (HC7.out.mono (fun q _ e => HRO.out q e))).alloc (.cells #[.int .i64 a, .int .i64 b] 371))
            have HY9 := Lib.hid (fun a b => blk_new w7 #[.int .i64 a, .int .i64 b] 371)
            have y0 := blk_cell (HY9.out lo hi) 0 rfl
            have y1 := blk_cell (HY9.out lo hi) 1 rfl
            have g0 := blk_free (HY9.out lo hi) 0
            have g1 := blk_free (HY9.out lo hi) 1
            clear HX HC HX7 HC7
            cases ok
            · go_wp2
              skip
              replace HX9 := Lib.hid (HX9.out at_ at_)
              replace HC9 := Lib.hid (HC9.out at_ at_)
              replace HY9 := Lib.hid (HY9.out at_ at_)
              clear y0 y1 g0 g1
              generalize w7.alloc (.cells #[.int .i64 at_, .int .i64 at_] 371) = w9 at *
              have y0 := blk_cell HY9.out 0 (v := .int .i64 at_) rfl
              have y1 := blk_cell HY9.out 1 (v := .int .i64 at_) rfl
              have q1 : w9.cell? ⟨d.x, 1, none⟩ = some (.pointer (some ⟨d.h, 0, none⟩)) := HX9.out.cells.2.1
              have HXD := Lib.hid HX9.out.drewn
              have hn9 : n < 1000 := by have := HX9.out.few; have e : n ≤ 65 * ls'.length := this; omega
              have hn65 : n + 1 ≤ 65 * ls'.length := by have := HLEN.out; omega
              have hgs : g < w9.heap.size := HX9.out.tb.rows.lt
              have hw9 := HC9.out.size
              go_region_law (first | ((with_reducible refine gate_scall (f := 320) rfl ?_); refine step_goes rfl Tryz.func320 (by kernel_rfl) rfl #[.int .u64 k, .int .i64 (b : Nat)] rfl (by simp only [List.map_toArray, List.map_cons, List.map_nil]; rfl) (xPrefix k b hle _) ?_; rintro e w10 ⟨rfl, HB10⟩; have HX10 := Lib.hid (HXD.out.below HB10.out); have HY10 := Lib.hid (blk_below (show w9.drew.heap[w7.heap.size]? = _ from HY9.out) HB10.out rfl); have z0 := blk_cell HY10.out 0 (v := .int .i64 at_) rfl; have z1 := blk_cell HY10.out 1 (v := .int .i64 at_) rfl; have q10 : w10.cell? ⟨d.x, 1, none⟩ = some (.pointer (some ⟨d.h, 0, none⟩)) := HX10.out.cells.2.1; refine ⟨_, rfl, ?_⟩) | ((with_reducible refine gate_scall (f := 321) rfl ?_); refine step_goes rfl Tryz.func321 (by kernel_rfl) rfl #[.agg #[.int .i64 at_, .int .i64 at_]] rfl (by simp only [List.map_toArray, List.map_cons, List.map_nil]; rfl) (xPack at_ at_ _) ?_; rintro e w11 ⟨pv, rfl, HB11⟩; have HX11 := Lib.hid (HX10.out.below HB11.out); have q11 : w11.cell? ⟨d.x, 1, none⟩ = some (.pointer (some ⟨d.h, 0, none⟩)) := HX11.out.cells.2.1; refine ⟨_, rfl, ?_⟩) | ((with_reducible refine gate_scall (f := 140) rfl ?_); refine step_goes rfl Tryz.func140 (by kernel_rfl) rfl #[.pointer (some ⟨d.h, 0, none⟩), .agg #[.int .u8 (b : Nat), .int .u64 (pfx k b)], .int .u64 pv] rfl (by simp only [List.map_toArray, List.map_cons, List.map_nil]; rfl) (hPut d.h g d.m n es d.seed _ _ _ (fun _ => True) _ HX11.out.tb HX11.out.ti hn9 (fun _ _ => .inr trivial) trivial) ?_; rintro e w12 ⟨g', es', n', bb, rfl, hg', hn1, hn2, HT, HI, _, HC12⟩; refine ⟨_, rfl, ?_⟩))
              all_goals
                have HX12 := Lib.hid (HX11.out.puts HT.out HI.out HC12.out (by show n' ≤ 65 * ls'.length; omega))
                have HC13 := Lib.hid (((HC9.out.drew.then (Chg.of_below HB10.out)).then (Chg.of_below HB11.out)).trans HC12.out (fun q hq e => by
                  rcases e with e | e
                  · exact .inr (.inl e)
                  · subst e
                    rcases HG.out with h | h
                    · exact h
                    · omega))
                have HG2 := Lib.hid (show d.own g' ∨ w.heap.size ≤ g' from by
                  rcases hg' with e | e
                  · subst e; exact HG.out
                  · have h1 := HB10.out.size; have h2 := HB11.out.size; have e9 : w9.drew.heap.size = w9.heap.size := rfl; right; omega)
                clear HXD HX10 HX11 HY10 HT HI HC12 hg' HB10 HB11
                go_wp2
                go_roundw
                case rel => exact ⟨b + 1, g', es', n', by go_num, by omega, by omega, HG2.out, HX12.out, HC13.out⟩
                case measure => simp [intOf]; omega
            · by_cases hlb : lo = bh
              · have hlb1 : (lo == bh) = true := by simpa using hlb
                clear hlb
                go_wp2
                skip
                replace HX9 := Lib.hid (HX9.out at_ hi)
                replace HC9 := Lib.hid (HC9.out at_ hi)
                replace HY9 := Lib.hid (HY9.out at_ hi)
                clear y0 y1 g0 g1
                generalize w7.alloc (.cells #[.int .i64 at_, .int .i64 hi] 371) = w9 at *
                have y0 := blk_cell HY9.out 0 (v := .int .i64 at_) rfl
                have y1 := blk_cell HY9.out 1 (v := .int .i64 hi) rfl
                have q1 : w9.cell? ⟨d.x, 1, none⟩ = some (.pointer (some ⟨d.h, 0, none⟩)) := HX9.out.cells.2.1
                have HXD := Lib.hid HX9.out.drewn
                have hn9 : n < 1000 := by have := HX9.out.few; have e : n ≤ 65 * ls'.length := this; omega
                have hn65 : n + 1 ≤ 65 * ls'.length := by have := HLEN.out; omega
                have hgs : g < w9.heap.size := HX9.out.tb.rows.lt
                have hw9 := HC9.out.size
                go_region_law (first | ((with_reducible refine gate_scall (f := 320) rfl ?_); refine step_goes rfl Tryz.func320 (by kernel_rfl) rfl #[.int .u64 k, .int .i64 (b : Nat)] rfl (by simp only [List.map_toArray, List.map_cons, List.map_nil]; rfl) (xPrefix k b hle _) ?_; rintro e w10 ⟨rfl, HB10⟩; have HX10 := Lib.hid (HXD.out.below HB10.out); have HY10 := Lib.hid (blk_below (show w9.drew.heap[w7.heap.size]? = _ from HY9.out) HB10.out rfl); have z0 := blk_cell HY10.out 0 (v := .int .i64 at_) rfl; have z1 := blk_cell HY10.out 1 (v := .int .i64 hi) rfl; have q10 : w10.cell? ⟨d.x, 1, none⟩ = some (.pointer (some ⟨d.h, 0, none⟩)) := HX10.out.cells.2.1; refine ⟨_, rfl, ?_⟩) | ((with_reducible refine gate_scall (f := 321) rfl ?_); refine step_goes rfl Tryz.func321 (by kernel_rfl) rfl #[.agg #[.int .i64 at_, .int .i64 hi]] rfl (by simp only [List.map_toArray, List.map_cons, List.map_nil]; rfl) (xPack at_ hi _) ?_; rintro e w11 ⟨pv, rfl, HB11⟩; have HX11 := Lib.hid (HX10.out.below HB11.out); have q11 : w11.cell? ⟨d.x, 1, none⟩ = some (.pointer (some ⟨d.h, 0, none⟩)) := HX11.out.cells.2.1; refine ⟨_, rfl, ?_⟩) | ((with_reducible refine gate_scall (f := 140) rfl ?_); refine step_goes rfl Tryz.func140 (by kernel_rfl) rfl #[.pointer (some ⟨d.h, 0, none⟩), .agg #[.int .u8 (b : Nat), .int .u64 (pfx k b)], .int .u64 pv] rfl (by simp only [List.map_toArray, List.map_cons, List.map_nil]; rfl) (hPut d.h g d.m n es d.seed _ _ _ (fun _ => True) _ HX11.out.tb HX11.out.ti hn9 (fun _ _ => .inr trivial) trivial) ?_; rintro e w12 ⟨g', es', n', bb, rfl, hg', hn1, hn2, HT, HI, _, HC12⟩; refine ⟨_, rfl, ?_⟩))
                all_goals
                  have HX12 := Lib.hid (HX11.out.puts HT.out HI.out HC12.out (by show n' ≤ 65 * ls'.length; omega))
                  have HC13 := Lib.hid (((HC9.out.drew.then (Chg.of_below HB10.out)).then (Chg.of_below HB11.out)).trans HC12.out (fun q hq e => by
                    rcases e with e | e
                    · exact .inr (.inl e)
                    · subst e
                      rcases HG.out with h | h
                      · exact h
                      · omega))
                  have HG2 := Lib.hid (show d.own g' ∨ w.heap.size ≤ g' from by
                    rcases hg' with e | e
                    · subst e; exact HG.out
                    · have h1 := HB10.out.size; have h2 := HB11.out.size; have e9 : w9.drew.heap.size = w9.heap.size := rfl; right; omega)
                  clear HXD HX10 HX11 HY10 HT HI HC12 hg' HB10 HB11
                  go_wp2
                  go_roundw
                  case rel => exact ⟨b + 1, g', es', n', by go_num, by omega, by omega, HG2.out, HX12.out, HC13.out⟩
                  case measure => simp [intOf]; omega
              · have hlb1 : (lo == bh) = false := by simpa using hlb
                clear hlb
                by_cases hha : hi = ah
                · have hha1 : (hi == ah) = true := by simpa using hha
                  clear hha
                  go_wp2
                  skip
                  replace HX9 := Lib.hid (HX9.out lo at_)
                  replace HC9 := Lib.hid (HC9.out lo at_)
                  replace HY9 := Lib.hid (HY9.out lo at_)
                  clear y0 y1 g0 g1
                  generalize w7.alloc (.cells #[.int .i64 lo, .int .i64 at_] 371) = w9 at *
                  have y0 := blk_cell HY9.out 0 (v := .int .i64 lo) rfl
                  have y1 := blk_cell HY9.out 1 (v := .int .i64 at_) rfl
                  have q1 : w9.cell? ⟨d.x, 1, none⟩ = some (.pointer (some ⟨d.h, 0, none⟩)) := HX9.out.cells.2.1
                  have HXD := Lib.hid HX9.out.drewn
                  have hn9 : n < 1000 := by have := HX9.out.few; have e : n ≤ 65 * ls'.length := this; omega
                  have hn65 : n + 1 ≤ 65 * ls'.length := by have := HLEN.out; omega
                  have hgs : g < w9.heap.size := HX9.out.tb.rows.lt
                  have hw9 := HC9.out.size
                  go_region_law (first | ((with_reducible refine gate_scall (f := 320) rfl ?_); refine step_goes rfl Tryz.func320 (by kernel_rfl) rfl #[.int .u64 k, .int .i64 (b : Nat)] rfl (by simp only [List.map_toArray, List.map_cons, List.map_nil]; rfl) (xPrefix k b hle _) ?_; rintro e w10 ⟨rfl, HB10⟩; have HX10 := Lib.hid (HXD.out.below HB10.out); have HY10 := Lib.hid (blk_below (show w9.drew.heap[w7.heap.size]? = _ from HY9.out) HB10.out rfl); have z0 := blk_cell HY10.out 0 (v := .int .i64 lo) rfl; have z1 := blk_cell HY10.out 1 (v := .int .i64 at_) rfl; have q10 : w10.cell? ⟨d.x, 1, none⟩ = some (.pointer (some ⟨d.h, 0, none⟩)) := HX10.out.cells.2.1; refine ⟨_, rfl, ?_⟩) | ((with_reducible refine gate_scall (f := 321) rfl ?_); refine step_goes rfl Tryz.func321 (by kernel_rfl) rfl #[.agg #[.int .i64 lo, .int .i64 at_]] rfl (by simp only [List.map_toArray, List.map_cons, List.map_nil]; rfl) (xPack lo at_ _) ?_; rintro e w11 ⟨pv, rfl, HB11⟩; have HX11 := Lib.hid (HX10.out.below HB11.out); have q11 : w11.cell? ⟨d.x, 1, none⟩ = some (.pointer (some ⟨d.h, 0, none⟩)) := HX11.out.cells.2.1; refine ⟨_, rfl, ?_⟩) | ((with_reducible refine gate_scall (f := 140) rfl ?_); refine step_goes rfl Tryz.func140 (by kernel_rfl) rfl #[.pointer (some ⟨d.h, 0, none⟩), .agg #[.int .u8 (b : Nat), .int .u64 (pfx k b)], .int .u64 pv] rfl (by simp only [List.map_toArray, List.map_cons, List.map_nil]; rfl) (hPut d.h g d.m n es d.seed _ _ _ (fun _ => True) _ HX11.out.tb HX11.out.ti hn9 (fun _ _ => .inr trivial) trivial) ?_; rintro e w12 ⟨g', es', n', bb, rfl, hg', hn1, hn2, HT, HI, _, HC12⟩; refine ⟨_, rfl, ?_⟩))
                  all_goals
                    have HX12 := Lib.hid (HX11.out.puts HT.out HI.out HC12.out (by show n' ≤ 65 * ls'.length; omega))
                    have HC13 := Lib.hid (((HC9.out.drew.then (Chg.of_below HB10.out)).then (Chg.of_below HB11.out)).trans HC12.out (fun q hq e => by
                      rcases e with e | e
                      · exact .inr (.inl e)
                      · subst e
                        rcases HG.out with h | h
                        · exact h
                        · omega))
                    have HG2 := Lib.hid (show d.own g' ∨ w.heap.size ≤ g' from by
                      rcases hg' with e | e
                      · subst e; exact HG.out
                      · have h1 := HB10.out.size; have h2 := HB11.out.size; have e9 : w9.drew.heap.size = w9.heap.size := rfl; right; omega)
                    clear HXD HX10 HX11 HY10 HT HI HC12 hg' HB10 HB11
                    go_wp2
                    go_roundw
                    case rel => exact ⟨b + 1, g', es', n', by go_num, by omega, by omega, HG2.out, HX12.out, HC13.out⟩
                    case measure => simp [intOf]; omega
                · have hha1 : (hi == ah) = false := by simpa using hha
                  clear hha
                  go_wp2
                  skip
                  replace HX9 := Lib.hid (HX9.out lo hi)
                  replace HC9 := Lib.hid (HC9.out lo hi)
                  replace HY9 := Lib.hid (HY9.out lo hi)
                  clear y0 y1 g0 g1
                  generalize w7.alloc (.cells #[.int .i64 lo, .int .i64 hi] 371) = w9 at *
                  have y0 := blk_cell HY9.out 0 (v := .int .i64 lo) rfl
                  have y1 := blk_cell HY9.out 1 (v := .int .i64 hi) rfl
                  have q1 : w9.cell? ⟨d.x, 1, none⟩ = some (.pointer (some ⟨d.h, 0, none⟩)) := HX9.out.cells.2.1
                  have HXD := Lib.hid HX9.out.drewn
                  have hn9 : n < 1000 := by have := HX9.out.few; have e : n ≤ 65 * ls'.length := this; omega
                  have hn65 : n + 1 ≤ 65 * ls'.length := by have := HLEN.out; omega
                  have hgs : g < w9.heap.size := HX9.out.tb.rows.lt
                  have hw9 := HC9.out.size
                  go_region_law (first | ((with_reducible refine gate_scall (f := 320) rfl ?_); refine step_goes rfl Tryz.func320 (by kernel_rfl) rfl #[.int .u64 k, .int .i64 (b : Nat)] rfl (by simp only [List.map_toArray, List.map_cons, List.map_nil]; rfl) (xPrefix k b hle _) ?_; rintro e w10 ⟨rfl, HB10⟩; have HX10 := Lib.hid (HXD.out.below HB10.out); have HY10 := Lib.hid (blk_below (show w9.drew.heap[w7.heap.size]? = _ from HY9.out) HB10.out rfl); have z0 := blk_cell HY10.out 0 (v := .int .i64 lo) rfl; have z1 := blk_cell HY10.out 1 (v := .int .i64 hi) rfl; have q10 : w10.cell? ⟨d.x, 1, none⟩ = some (.pointer (some ⟨d.h, 0, none⟩)) := HX10.out.cells.2.1; refine ⟨_, rfl, ?_⟩) | ((with_reducible refine gate_scall (f := 321) rfl ?_); refine step_goes rfl Tryz.func321 (by kernel_rfl) rfl #[.agg #[.int .i64 lo, .int .i64 hi]] rfl (by simp only [List.map_toArray, List.map_cons, List.map_nil]; rfl) (xPack lo hi _) ?_; rintro e w11 ⟨pv, rfl, HB11⟩; have HX11 := Lib.hid (HX10.out.below HB11.out); have q11 : w11.cell? ⟨d.x, 1, none⟩ = some (.pointer (some ⟨d.h, 0, none⟩)) := HX11.out.cells.2.1; refine ⟨_, rfl, ?_⟩) | ((with_reducible refine gate_scall (f := 140) rfl ?_); refine step_goes rfl Tryz.func140 (by kernel_rfl) rfl #[.pointer (some ⟨d.h, 0, none⟩), .agg #[.int .u8 (b : Nat), .int .u64 (pfx k b)], .int .u64 pv] rfl (by simp only [List.map_toArray, List.map_cons, List.map_nil]; rfl) (hPut d.h g d.m n es d.seed _ _ _ (fun _ => True) _ HX11.out.tb HX11.out.ti hn9 (fun _ _ => .inr trivial) trivial) ?_; rintro e w12 ⟨g', es', n', bb, rfl, hg', hn1, hn2, HT, HI, _, HC12⟩; refine ⟨_, rfl, ?_⟩))
                  all_goals
                    have HX12 := Lib.hid (HX11.out.puts HT.out HI.out HC12.out (by show n' ≤ 65 * ls'.length; omega))
                    have HC13 := Lib.hid (((HC9.out.drew.then (Chg.of_below HB10.out)).then (Chg.of_below HB11.out)).trans HC12.out (fun q hq e => by
                      rcases e with e | e
                      · exact .inr (.inl e)
                      · subst e
                        rcases HG.out with h | h
                        · exact h
                        · omega))
                    have HG2 := Lib.hid (show d.own g' ∨ w.heap.size ≤ g' from by
                      rcases hg' with e | e
                      · subst e; exact HG.out
                      · have h1 := HB10.out.size; have h2 := HB11.out.size; have e9 : w9.drew.heap.size = w9.heap.size := rfl; right; omega)
                    clear HXD HX10 HX11 HY10 HT HI HC12 hg' HB10 HB11
                    go_wp2
                    go_roundw
                    case rel => exact ⟨b + 1, g', es', n', by go_num, by omega, by omega, HG2.out, HX12.out, HC13.out⟩
                    case measure => simp [intOf]; omega
          · go_wp2
            go_ret
            exact ⟨0, _, rfl, by show (0 : Int) ≠ 6; decide, HX.out, rfl, rfl, rfl, rfl, rfl, by show ls'.length ≤ _; rw [HLEN.out]; exact Nat.le_refl _, Nat.le_refl _, d.ins_own HG.out HV5.out, HC.out⟩
  · go_wp2
    go_ret
    exact ⟨4, d, rfl, by show (4 : Int) ≠ 6; decide, XStep.same H1.out HC1.out⟩
end Go.Proofs.YtcnaikoloagbdaaGreat
