/-
  xfast.XFast: missing, Needs, Has, Len, Used, told, after, Next, Prev, New, walked.
  xfast.XFast: told, after, Next, Prev, New, walked.
-/
import Derived.Test.YtcnaikoloagbdaaGreatQXfA
namespace Go.Proofs.YtcnaikoloagbdaaGreat
set_option linter.unusedVariables false
set_option linter.unusedSimpArgs false
open Go.RowKit

theorem Fn.some {es : List En} {seed lv pf : Int} (h : Fn es seed lv pf true) : 1 ≤ cntF es := by
  obtain ⟨j, i0, i, hi, _, _, _, h1⟩ := h
  unfold cntF
  exact List.length_pos_of_mem (List.mem_filter.2 ⟨List.getElem_mem hi, h1⟩)
theorem XF.none {w : World} {d : XD} (h : XF w d) (hl : d.ls.length = 0) (lv pf : Int) : ¬ Fn d.es d.seed lv pf true := fun hf => by
  have h1 := hf.some
  have h2 := h.few
  have h3 := h.ti.few
  omega
set_option maxRecDepth 100000 in
theorem xMissing (d : XD) (k : Int) (w : World) (h : XF w d) : Calls Tryz.prog 339 #[.pointer (some ⟨d.x, 0, none⟩), .int .u64 k] w fun e w' => ∃ n : Int, e = .returned (.int .i64 n) ∧ 0 ≤ n ∧ n ≤ 65 ∧ Hid (XF w' d) ∧ Hid (Chg d.red w w') := by
  have H := Lib.hid h
  clear h
  go_enter Tryz.func339, Tryz.ntmps339
  go_wp2_with fail
  refine (xLongest d k _ H.out).mono ?_
  rintro e w1 ⟨b, lo, hi, rfl, hb1, hb2, _, H1, HC1⟩
  have hA := (Below.refl w1.heap.size w1).alloc (Nat.le_refl _) (.cells #[.int .i64 lo, .int .i64 hi] 371)
  have H2 := Lib.hid (H1.out.below hA)
  have HC2 := Lib.hid (HC1.out.then (Chg.of_below hA))
  clear hA
  go_wp2
  go_ret
  exact ⟨64 - b, by first | rfl | exact ret_int (by omega), by omega, by omega, H2.out, HC2.out⟩
set_option maxRecDepth 100000 in
theorem xNeeds (d : XD) (k : Int) (w : World) (h : XF w d) : Calls Tryz.prog 324 #[.pointer (some ⟨d.x, 0, none⟩), .int .u64 k] w fun e w' => ∃ n : Int, e = .returned (.int .i64 n) ∧ 0 ≤ n ∧ n ≤ 66 ∧ Hid (XF w' d) ∧ Hid (Chg d.red w w') := by
  have H := Lib.hid h
  clear h
  go_enter Tryz.func324, Tryz.ntmps324
  go_wp2_with fail
  refine (xMissing d k _ H.out).mono ?_
  rintro e w1 ⟨n, rfl, h0, h1, H1, HC1⟩
  by_cases hn : 0 < n
  · go_wp2
    go_ret
    exact ⟨n + 1, rfl, by omega, by omega, H1.out, HC1.out⟩
  · go_wp2
    go_ret
    exact ⟨0, rfl, by omega, by omega, H1.out, HC1.out⟩
set_option maxRecDepth 100000 in
theorem xHas (d : XD) (k : Int) (w : World) (h : XF w d) : Calls Tryz.prog 305 #[.pointer (some ⟨d.x, 0, none⟩), .int .u64 k] w fun e w' => ∃ r : Bool, e = .returned (.bool r) ∧ Hid (r = false → ¬ Fn d.es d.seed 64 k true) ∧ Hid (XF w' d) ∧ Hid (Chg d.red w w') := by
  have H := Lib.hid h
  have HN := Lib.hid (fun hl => h.none hl 64 k)
  clear h
  go_enter Tryz.func305, Tryz.ntmps305
  go_wp2_with fail
  refine (xStart d _ H.out).mono ?_
  rintro e w1 ⟨rfl, H1, HC1⟩
  by_cases hl : 0 < (d.ls.length : Int)
  · rw [decide_eq_true hl]
    go_wp2_with fail
    have hF := xFind d k 64 (Nat.le_refl _) w1 H1.out
    rw [pfx_64] at hF
    refine hF.mono ?_
    rintro e w2 ⟨lo, hi, ok, rfl, HFN, H2, HC2⟩
    have hA := (Below.refl w2.heap.size w2).alloc (Nat.le_refl _) (.cells #[.int .i64 lo, .int .i64 hi] 371)
    have H3 := Lib.hid (H2.out.below hA)
    have HC3 := Lib.hid ((HC1.out.then HC2.out).then (Chg.of_below hA))
    clear hA hF
    go_wp2
    go_ret
    exact ⟨ok, rfl, fun e hf => (by have := HFN.out.one hf; rw [e] at this; cases this), H3.out, HC3.out⟩
  · rw [decide_eq_false hl]
    go_wp2
    go_ret
    exact ⟨false, rfl, fun _ => HN.out (by omega), H1.out, HC1.out⟩
set_option maxRecDepth 100000 in
theorem xLen (d : XD) (w : World) (h : XF w d) : Calls Tryz.prog 307 #[.pointer (some ⟨d.x, 0, none⟩)] w fun e w' => e = .returned (.int .i64 (d.ls.length : Nat)) ∧ w' = w := by
  have H := Lib.hid h
  obtain ⟨_, _, c2, _⟩ := h.cells
  clear h
  go_enter Tryz.func307, Tryz.ntmps307
  go_wp2_with fail
  refine (chLen d.c d.m d.p d.v d.ls d.limit d.fst _ H.out.ch).mono ?_
  rintro e w2 ⟨rfl, rfl⟩
  go_wp2
  go_ret
  exact ⟨rfl, rfl⟩
set_option maxRecDepth 100000 in
theorem xUsed (d : XD) (w : World) (h : XF w d) : Calls Tryz.prog 313 #[.pointer (some ⟨d.x, 0, none⟩)] w fun e w' => e = .returned (.int .i64 ((d.n : Nat) + (d.ls.length : Nat) : Nat)) ∧ Hid (Below w.heap.size w w') := by
  have H := Lib.hid h
  obtain ⟨_, c1, c2, _⟩ := h.cells
  have hf := h.few
  have hl := h.len
  clear h
  go_enter Tryz.func313, Tryz.ntmps313
  go_wp2
  go_quiet (first | (go_at_call 222; refine Calls.quiet_of_same (hLenT d.h d.g d.m d.es d.seed (d.n : Nat) _ (H.out.drewsN _).tb)) | (go_at_call 327; refine Calls.quiet_of_same (chLen d.c d.m d.p d.v d.ls d.limit d.fst _ (H.out.drewsN _).ch)))
  go_wp2
  go_ret
  exact ⟨by first | rfl | exact ret_int (by omega), below_drewN (Below.refl _ _) _⟩
end Go.Proofs.YtcnaikoloagbdaaGreat
namespace Go.Proofs.YtcnaikoloagbdaaGreat
set_option linter.unusedVariables false
set_option linter.unusedSimpArgs false
open Go.RowKit

theorem XF.chn {w w' : World} {d : XD} (h : XF w d) (hc : Ch w' d.c d.m d.p d.v d.ls d.limit d.fst) (hg : Chg (fun k => k = d.m) w w') : XF w' d := h.readm hc.mt hg
theorem XD.redm (d : XD) {w w' : World} (hg : Chg (fun k => k = d.m) w w') : Chg d.red w w' := hg.mono (fun _ _ e => .inr e)
set_option maxRecDepth 100000 in
theorem xTold (d : XD) (i : Int) (w : World) (h : XF w d) : Calls Tryz.prog 329 #[.pointer (some ⟨d.x, 0, none⟩), .int .i64 i] w fun e w' => ∃ (x : Int) (b : Bool), e = .returned (.tuple #[.int .u64 x, .bool b]) ∧ Hid (XF w' d) ∧ Hid (Chg d.red w w') := by
  have H := Lib.hid h
  obtain ⟨_, _, c2, _⟩ := h.cells
  clear h
  by_cases hi : i = -1
  · subst hi
    go_enter Tryz.func329, Tryz.ntmps329
    go_wp2
    go_ret2
    exact ⟨0, false, rfl, H.out, Chg.refl _ _⟩
  · have hi1 : (i == -1) = false := by simpa using hi
    clear hi
    go_enter Tryz.func329, Tryz.ntmps329
    go_wp2_with fail
    refine (chKey d.c d.m d.p d.v d.ls d.limit d.fst i _ H.out.ch).mono ?_
    rintro e w1 ⟨x, b, rfl, H1, HC1⟩
    have H2 := Lib.hid (H.out.chn H1.out HC1.out)
    have HC2 := Lib.hid (d.redm HC1.out)
    clear H1 HC1
    go_wp2
    go_ret2
    exact ⟨x, b, rfl, H2.out, HC2.out⟩
set_option maxRecDepth 100000 in
set_option maxHeartbeats 1000000 in
theorem xAfter (d : XD) (k : Int) (w : World) (h : XF w d) (hf : ¬ Fn d.es d.seed 64 k true) : Calls Tryz.prog 325 #[.pointer (some ⟨d.x, 0, none⟩), .int .u64 k] w fun e w' => ∃ x : Int, e = .returned (.int .i64 x) ∧ Hid (XF w' d) ∧ Hid (Chg d.red w w') := by
  have H := Lib.hid h
  have HF := Lib.hid hf
  clear h hf
  go_enter Tryz.func325, Tryz.ntmps325
  go_wp2_with fail
  refine (xLongest d k _ H.out).mono ?_
  rintro e w1 ⟨b, lo, hi, rfl, hb1, hb2, HB, H1, HC1⟩
  have hb64 : b ≠ 64 := fun e => HF.out (HB.out e)
  have hA := (Below.refl w1.heap.size w1).alloc (Nat.le_refl _) (.cells #[.int .i64 lo, .int .i64 hi] 371)
  have H2 := Lib.hid (H1.out.below hA)
  have HC2 := Lib.hid (HC1.out.then (Chg.of_below hA))
  have HN2 := Lib.hid (blk_new w1 #[.int .i64 lo, .int .i64 hi] 371)
  have n0 := blk_cell HN2.out 0 rfl
  have n1 := blk_cell HN2.out 1 rfl
  clear hA
  by_cases hb : b = -1
  · subst hb
    clear hb64
    go_wp2
    go_ret
    exact ⟨-1, rfl, H2.out, HC2.out⟩
  · have hbm : (b == -1) = false := by simpa using hb
    obtain ⟨n, rfl⟩ := Int.eq_ofNat_of_zero_le (show 0 ≤ b by omega)
    have hn : n ≤ 63 := by omega
    have hsh : ((63 : Int) - n < 0) = False := eq_false (by omega)
    clear hb hb64
    by_cases hx : bits .and .u64 (k / 2 ^ (63 - n)) 1 = 1
    · have hx1 : (bits .and .u64 (k / 2 ^ (63 - n)) 1 == 1) = true := by simpa using hx
      clear hx
      go_wp2
      go_ret
      exact ⟨hi, rfl, H2.out, HC2.out⟩
    · have hx1 : (bits .and .u64 (k / 2 ^ (63 - n)) 1 == 1) = false := by simpa using hx
      clear hx
      have c2 := H2.out.cells.2.2.1
      have HD := Lib.hid H2.out.drewn
      go_wp2
      go_region_law (first | ((with_reducible refine gate_scall (f := 318) rfl ?_); refine step_goes rfl Tryz.func318 (by kernel_rfl) rfl #[.pointer (some ⟨d.c, 0, none⟩), .int .i64 lo] rfl (by simp only [List.map_toArray, List.map_cons, List.map_nil]; rfl) (chPrev d.c d.m d.p d.v d.ls d.limit d.fst lo _ HD.out.ch) ?_; rintro e w3 ⟨x, rfl, H3, HC3⟩; refine ⟨_, rfl, ?_⟩))
      all_goals
        have H4 := Lib.hid (HD.out.chn H3.out HC3.out)
        have HC4 := Lib.hid (HC2.out.drew.then (d.redm HC3.out))
        clear H3 HC3 HD
        go_wp2
        go_ret
        exact ⟨_, rfl, H4.out, HC4.out⟩
set_option maxRecDepth 100000 in
set_option maxHeartbeats 2000000 in
theorem xNext (d : XD) (k : Int) (w : World) (h : XF w d) : Calls Tryz.prog 311 #[.pointer (some ⟨d.x, 0, none⟩), .int .u64 k] w fun e w' => ∃ (x : Int) (b : Bool), e = .returned (.tuple #[.int .u64 x, .bool b]) ∧ Hid (XF w' d) ∧ Hid (Chg d.red w w') := by
  have H := Lib.hid h
  clear h
  go_enter Tryz.func311, Tryz.ntmps311
  go_wp2_with fail
  refine (xStart d _ H.out).mono ?_
  rintro e w0 ⟨rfl, H0, HC0⟩
  by_cases hl : 0 < (d.ls.length : Int)
  · rw [decide_eq_true hl]
    go_wp2_with fail
    refine (xLongest d k _ H0.out).mono ?_
    rintro e w1 ⟨b, lo, hi, rfl, hb1, hb2, _, H1, HC1⟩
    have hA := (Below.refl w1.heap.size w1).alloc (Nat.le_refl _) (.cells #[.int .i64 lo, .int .i64 hi] 371)
    have H2 := Lib.hid (H1.out.below hA)
    have HC2 := Lib.hid ((HC0.out.then HC1.out).then (Chg.of_below hA))
    have HN2 := Lib.hid (blk_new w1 #[.int .i64 lo, .int .i64 hi] 371)
    have n0 := blk_cell HN2.out 0 rfl
    have n1 := blk_cell HN2.out 1 rfl
    clear hA
    by_cases h64 : b = 64
    · subst h64
      go_wp2
      go_ret2
      exact ⟨k, true, rfl, H2.out, HC2.out⟩
    · have hb64 : (b == 64) = false := by simpa using h64
      obtain ⟨n, hn⟩ := Int.eq_ofNat_of_zero_le (show 0 ≤ b + 1 by omega)
      obtain rfl : b = (n : Int) - 1 := by omega
      have hn : n ≤ 64 := by omega
      have hsh : ((63 : Int) - ((n : Int) - 1)) = ((64 - n : Nat) : Int) := by omega
      clear h64
      obtain ⟨y, hy⟩ : ∃ y, bits .and .u64 (k / 2 ^ (64 - n)) 1 = y := ⟨_, rfl⟩
      by_cases hx : y = 0
      · have hx1 : (y == 0) = true := by simpa using hx
        clear hx
        go_wp2_with fail
        refine (xTold d lo _ H2.out).mono ?_
        rintro e w3 ⟨x, r, rfl, H3, HC3⟩
        have HC4 := Lib.hid (HC2.out.then HC3.out)
        clear HC3
        go_wp2
        go_ret2
        exact ⟨x, r, rfl, H3.out, HC4.out⟩
      · have hx1 : (y == 0) = false := by simpa using hx
        clear hx
        have c2 := H2.out.cells.2.2.1
        have HD := Lib.hid H2.out.drewn
        go_wp2
        go_region_law (first | ((with_reducible refine gate_scall (f := 319) rfl ?_); refine step_goes rfl Tryz.func319 (by kernel_rfl) rfl #[.pointer (some ⟨d.c, 0, none⟩), .int .i64 hi] rfl (by simp only [List.map_toArray, List.map_cons, List.map_nil]; rfl) (chNext d.c d.m d.p d.v d.ls d.limit d.fst hi _ HD.out.ch) ?_; rintro e w3 ⟨x, rfl, H3, HC3⟩; have H4 := Lib.hid (HD.out.chn H3.out HC3.out); have HC4 := Lib.hid (HC2.out.drew.then (d.redm HC3.out)); clear H3 HC3; refine ⟨_, rfl, ?_⟩) | ((with_reducible refine gate_scall (f := 329) rfl ?_); refine step_goes rfl Tryz.func329 (by kernel_rfl) rfl #[.pointer (some ⟨d.x, 0, none⟩), .int .i64 x] rfl (by simp only [List.map_toArray, List.map_cons, List.map_nil]; rfl) (xTold d x _ H4.out) ?_; rintro e w5 ⟨z, r, rfl, H5, HC5⟩; refine ⟨_, rfl, ?_⟩))
        all_goals
          have HC6 := Lib.hid (HC4.out.then HC5.out)
          clear HC5 HD
          go_wp2
          go_ret2
          exact ⟨_, _, rfl, H5.out, HC6.out⟩
  · rw [decide_eq_false hl]
    go_wp2
    go_ret2
    exact ⟨0, false, rfl, H0.out, HC0.out⟩
set_option maxRecDepth 100000 in
set_option maxHeartbeats 2000000 in
theorem xPrev (d : XD) (k : Int) (w : World) (h : XF w d) : Calls Tryz.prog 312 #[.pointer (some ⟨d.x, 0, none⟩), .int .u64 k] w fun e w' => ∃ (x : Int) (b : Bool), e = .returned (.tuple #[.int .u64 x, .bool b]) ∧ Hid (XF w' d) ∧ Hid (Chg d.red w w') := by
  have H := Lib.hid h
  clear h
  go_enter Tryz.func312, Tryz.ntmps312
  go_wp2_with fail
  refine (xStart d _ H.out).mono ?_
  rintro e w0 ⟨rfl, H0, HC0⟩
  by_cases hl : 0 < (d.ls.length : Int)
  · rw [decide_eq_true hl]
    go_wp2_with fail
    refine (xLongest d k _ H0.out).mono ?_
    rintro e w1 ⟨b, lo, hi, rfl, hb1, hb2, _, H1, HC1⟩
    have hA := (Below.refl w1.heap.size w1).alloc (Nat.le_refl _) (.cells #[.int .i64 lo, .int .i64 hi] 371)
    have H2 := Lib.hid (H1.out.below hA)
    have HC2 := Lib.hid ((HC0.out.then HC1.out).then (Chg.of_below hA))
    have HN2 := Lib.hid (blk_new w1 #[.int .i64 lo, .int .i64 hi] 371)
    have n0 := blk_cell HN2.out 0 rfl
    have n1 := blk_cell HN2.out 1 rfl
    clear hA
    by_cases h64 : b = 64
    · subst h64
      go_wp2
      go_ret2
      exact ⟨k, true, rfl, H2.out, HC2.out⟩
    · have hb64 : (b == 64) = false := by simpa using h64
      obtain ⟨n, hn⟩ := Int.eq_ofNat_of_zero_le (show 0 ≤ b + 1 by omega)
      obtain rfl : b = (n : Int) - 1 := by omega
      have hn : n ≤ 64 := by omega
      have hsh : ((63 : Int) - ((n : Int) - 1)) = ((64 - n : Nat) : Int) := by omega
      clear h64
      obtain ⟨y, hy⟩ : ∃ y, bits .and .u64 (k / 2 ^ (64 - n)) 1 = y := ⟨_, rfl⟩
      by_cases hx : y = 1
      · have hx1 : (y == 1) = true := by simpa using hx
        clear hx
        go_wp2_with fail
        refine (xTold d hi _ H2.out).mono ?_
        rintro e w3 ⟨x, r, rfl, H3, HC3⟩
        have HC4 := Lib.hid (HC2.out.then HC3.out)
        clear HC3
        go_wp2
        go_ret2
        exact ⟨x, r, rfl, H3.out, HC4.out⟩
      · have hx1 : (y == 1) = false := by simpa using hx
        clear hx
        have c2 := H2.out.cells.2.2.1
        have HD := Lib.hid H2.out.drewn
        go_wp2
        go_region_law (first | ((with_reducible refine gate_scall (f := 318) rfl ?_); refine step_goes rfl Tryz.func318 (by kernel_rfl) rfl #[.pointer (some ⟨d.c, 0, none⟩), .int .i64 lo] rfl (by simp only [List.map_toArray, List.map_cons, List.map_nil]; rfl) (chPrev d.c d.m d.p d.v d.ls d.limit d.fst lo _ HD.out.ch) ?_; rintro e w3 ⟨x, rfl, H3, HC3⟩; have H4 := Lib.hid (HD.out.chn H3.out HC3.out); have HC4 := Lib.hid (HC2.out.drew.then (d.redm HC3.out)); clear H3 HC3; refine ⟨_, rfl, ?_⟩) | ((with_reducible refine gate_scall (f := 329) rfl ?_); refine step_goes rfl Tryz.func329 (by kernel_rfl) rfl #[.pointer (some ⟨d.x, 0, none⟩), .int .i64 x] rfl (by simp only [List.map_toArray, List.map_cons, List.map_nil]; rfl) (xTold d x _ H4.out) ?_; rintro e w5 ⟨z, r, rfl, H5, HC5⟩; refine ⟨_, rfl, ?_⟩))
        all_goals
          have HC6 := Lib.hid (HC4.out.then HC5.out)
          clear HC5 HD
          go_wp2
          go_ret2
          exact ⟨_, _, rfl, H5.out, HC6.out⟩
  · rw [decide_eq_false hl]
    go_wp2
    go_ret2
    exact ⟨0, false, rfl, H0.out, HC0.out⟩
set_option maxRecDepth 100000 in
theorem xPack (lo hi : Int) (w : World) : Calls Tryz.prog 321 #[.agg #[.int .i64 lo, .int .i64 hi]] w fun e w' => ∃ x : Int, e = .returned (.int .u64 x) ∧ Hid (Below w.heap.size w w') := by
  go_enter Tryz.func321, Tryz.ntmps321
  go_wp2
  go_ret
  exact ⟨_, rfl, (Below.refl _ w).alloc (Nat.le_refl _) _⟩
set_option maxRecDepth 100000 in
set_option maxHeartbeats 1000000 in
theorem xNew (seed limit : Int) (w : World) (h0 : 0 ≤ limit) (h1 : limit ≤ 1048576) : Calls Tryz.prog 112 #[.int .u64 seed, .int .i64 limit] w fun e w' => ∃ d : XD, e = .returned (.tuple #[.pointer (some ⟨d.x, 0, none⟩), .int .i64 0]) ∧ Hid (XF w' d) ∧ Hid (d.ls = [] ∧ d.limit = limit ∧ d.seed = seed ∧ d.R = 0) ∧ Hid (∀ q, d.own q → w.heap.size ≤ q) ∧ Hid (Below w.heap.size w w') := by
  go_enter Tryz.func112, Tryz.ntmps112
  go_wp2_with fail
  refine (mtNew _).mono ?_
  rintro e w1 ⟨rfl, hw1⟩
  have HM1 := Lib.hid (show Mt w1 w.heap.size from ⟨_, _, _, _, _, by rw [hw1]; exact blk_new w _ _⟩)
  have HB1 := Lib.hid (show Below w.heap.size w w1 by rw [hw1]; exact (Below.refl _ w).alloc (Nat.le_refl _) _)
  have hz1 : w.heap.size < w1.heap.size := by rw [hw1]; simp
  clear hw1
  go_wp2_with fail
  refine (chNew w.heap.size limit _ HM1.out h0 h1).mono ?_
  rintro e w2 ⟨c, p, rfl, hc, hp, HCH, HB2⟩
  have hz2 := HB2.out.size
  go_wp2_with fail
  refine (hNew w.heap.size seed _).mono ?_
  rintro e w3 ⟨t, g, es, rfl, ht, hg, HT, HI, HE, HB3⟩
  have HB3' := Lib.hid HB3
  have hz3 := HB3.size
  clear HB3
  have hA := (Below.refl w3.heap.size w3).alloc (Nat.le_refl _) (.cells #[.pointer (some ⟨w.heap.size, 0, none⟩), .pointer (some ⟨t, 0, none⟩), .pointer (some ⟨c, 0, none⟩), .int .i64 limit] 227)
  have HX := Lib.hid (show XF (w3.alloc (.cells #[.pointer (some ⟨w.heap.size, 0, none⟩), .pointer (some ⟨t, 0, none⟩), .pointer (some ⟨c, 0, none⟩), .int .i64 limit] 227)) ⟨w3.heap.size, t, g, c, p, w.heap.size, es, seed, 0, .slice none 0 0, [], limit, -1, 0⟩ from
    ⟨blk_new _ _ _, HT.out.chg (S := fun _ => False) (Chg.of_below hA) (fun h => h) (fun h => h), HI.out, (HCH.out.below HB3'.out).below hA, Rk.nil, by simp, by simp, ⟨h0, h1⟩⟩)
  have HO := Lib.hid (((HB1.out.trans (HB2.out.mono (by omega))).trans (HB3'.out.mono (by omega))).trans (hA.mono (by omega)))
  clear hA
  go_wp2
  go_ret2
  refine ⟨⟨w3.heap.size, t, g, c, p, w.heap.size, es, seed, 0, .slice none 0 0, [], limit, -1, 0⟩, rfl, HX.out, ⟨rfl, rfl, rfl, rfl⟩, ?_, HO.out⟩
  rintro q (e | e | e | e | e | e | e)
  all_goals first | (simp only at e; omega) | cases e
end Go.Proofs.YtcnaikoloagbdaaGreat
