/-
  The law's own lay: a shelf with an XFast and a YFast; walked.
-/
import Derived.Test.YtcnaikoloagbdaaGreatQLaw1
import Derived.Test.YtcnaikoloagbdaaGreatQShelf5
namespace Go.Proofs.YtcnaikoloagbdaaGreat
set_option linter.unusedVariables false
set_option linter.unusedSimpArgs false
open Go.RowKit Go.Shelf
attribute [local go_sem ↓] Go.wp_at_zero Go.wp_at_succ

/-- a set with j keys at most -/
def LayK (j : Nat) : SK → Prop
  | .x d => d.limit = 100000 ∧ d.ls.length ≤ j ∧ d.R ≤ 2 ^ j - 1
  | .y d => d.limit = 100000 ∧ d.xd.limit = 100000 ∧ d.ks.length ≤ j ∧ d.n ≤ j
  | _ => False
structure LI (tag : Int) (j : Nat) (x : IT) : Prop where
  tg : x.tag = tag
  lm : x.lim = 100000
  lk : LayK j x.s
  x2 : tag = 2 → ∃ d, x.s = .x d
  y3 : tag = 3 → ∃ d, x.s = .y d
theorem LI.fresh {tag : Int} {x : IT} (h1 : x.tag = tag) (h2 : x.lim = 100000) (h3 : Fresh tag 100000 x.s) (ht : tag ≠ 4 := by decide) : LI tag 0 x := by
  obtain ⟨i, k, tg, seed, lim, ver, s⟩ := x
  cases s with
  | e d => exact absurd h3.1 ht
  | t d => exact h3.elim
  | x d =>
    obtain ⟨a, b, c, e⟩ := h3
    exact ⟨h1, h2, ⟨c, by rw [b]; simp, by rw [e]; simp⟩, fun _ => ⟨d, rfl⟩, fun h => absurd (a.symm.trans h) (by decide)⟩
  | y d =>
    obtain ⟨a, b, c, e, f⟩ := h3
    exact ⟨h1, h2, ⟨c, e, by rw [b]; simp, by rw [f]; simp⟩, fun h => absurd (a.symm.trans h) (by decide), fun _ => ⟨d, rfl⟩⟩
theorem LI.ski {tag : Int} {j : Nat} {x : IT} (h : LI tag j x) (hj : j ≤ 5) {k : Int} (hk : 0 ≤ k ∧ k ≤ 18446744073709551615) : SKI k x.s := by
  have hk' := h.lk
  revert hk'
  cases x.s with
  | e d => exact fun h => h.elim
  | t d => exact fun h => h.elim
  | x d => exact fun h => ⟨by have := h.2.1; omega, by rw [h.1]; decide, hk⟩
  | y d => exact fun h => ⟨by have := h.2.2.1; omega, by have := h.2.2.2; omega, by rw [h.1]; decide, by rw [h.2.1]; decide, hk⟩
theorem LI.next {tag : Int} {j : Nat} {x : IT} {er : Int} {s' : SK} {ver' : Int} (h : LI tag j x) (hn : SKn er x.s s') : LI tag (j + 1) { x with s := s', ver := ver' } := by
  obtain ⟨i, k, tg, seed, lim, ver, s⟩ := x
  obtain ⟨h1, h2, h3, h4, h5⟩ := h
  cases s with
  | e d => exact h3.elim
  | t d => exact h3.elim
  | x d =>
    cases s' with
    | x d' =>
      refine ⟨h1, h2, ⟨hn.1.trans h3.1, by have := hn.2.1; have := h3.2.1; omega, ?_⟩, fun _ => ⟨d', rfl⟩, fun h => by obtain ⟨d2, e⟩ := h5 h; cases e⟩
      have a := hn.2.2
      have b := h3.2.2
      have c : 1 ≤ 2 ^ j := Nat.one_le_two_pow
      rw [Nat.pow_succ]
      omega
    | e d' => exact hn.elim
    | t d' => exact hn.elim
    | y d' => exact hn.elim
  | y d =>
    cases s' with
    | y d' => exact ⟨h1, h2, ⟨hn.1.trans h3.1, hn.2.1.trans h3.2.1, by have := hn.2.2.1; have := h3.2.2.1; omega, by have := hn.2.2.2; have := h3.2.2.2; omega⟩, (fun h => by obtain ⟨d2, e⟩ := h4 h; cases e), fun _ => ⟨d', rfl⟩⟩
    | e d' => exact hn.elim
    | t d' => exact hn.elim
    | x d' => exact hn.elim
theorem upd_upd (l : Nat → Option IT) (n : Nat) (a b : Option IT) : upd (upd l n a) n b = upd l n b := by
  funext h
  unfold upd
  split <;> rfl
theorem rd2 {w : World} {g : Nat} (h : w.heap[g]? = some (.cells #[.int .u64 1, .int .u64 2] 22 (0, 0))) : Rd .u64 w (some ⟨g, 0, none⟩) [1, 2] := fun i hi => by
  refine ⟨_, rfl, blk_lt h, ?_⟩
  rw [add_mk]
  match i, hi with
  | 0, _ => exact blk_cell h 0 rfl
  | 1, _ => exact blk_cell h 1 rfl
theorem rd1 {w : World} {g : Nat} (h : w.heap[g]? = some (.cells #[.int .u64 7] 22 (0, 0))) : Rd .u64 w (some ⟨g, 0, none⟩) [7] := fun i hi => by
  refine ⟨_, rfl, blk_lt h, ?_⟩
  rw [add_mk]
  match i, hi with
  | 0, _ => exact blk_cell h 0 rfl
theorem ty_not {w : World} {b : Nat} {T : TypeId} (h : ty w b T) (hT : T ≠ 29) (cur : Array Value) : w.heap[b]? ≠ some (.cells cur 29 (0, 0)) := fun e => by
  obtain ⟨cs, h'⟩ := h
  rw [h'] at e
  cases e
  exact hT rfl
theorem XF.not29 {w : World} {d : XD} (h : XF w d) : ∀ b, d.own b → ∀ cur, w.heap[b]? ≠ some (.cells cur 29 (0, 0)) := by
  obtain ⟨h1, h2, h3, h4, h5, h6, h7⟩ := h.tys
  rintro k (rfl | rfl | rfl | rfl | rfl | rfl | hk)
  · exact ty_not h1 (by decide)
  · exact ty_not h2 (by decide)
  · exact ty_not h3 (by decide)
  · exact ty_not h4 (by decide)
  · exact ty_not h5 (by decide)
  · exact ty_not h6 (by decide)
  · exact ty_not (h7 k hk) (by decide)
theorem TP.not29 {w : World} {d : TD} (h : TP w d) : ∀ b, d.own b → ∀ cur, w.heap[b]? ≠ some (.cells cur 29 (0, 0)) := by
  obtain ⟨h1, h2, h3, h4, h5⟩ := h.tys
  rintro k (rfl | rfl | rfl | hk | hk)
  · exact ty_not h1 (by decide)
  · exact ty_not h2 (by decide)
  · exact ty_not h3 (by decide)
  · exact ty_not (h4 k hk) (by decide)
  · exact ty_not (h5 k hk) (by decide)
theorem ITok.not29 {w : World} {x : IT} (h : ITok w x) : ∀ b, x.own b → ∀ cur, w.heap[b]? ≠ some (.cells cur 29 (0, 0)) := by
  rintro b (rfl | rfl | hb)
  · exact ty_not ⟨_, h.item⟩ (by decide)
  · exact ty_not ⟨_, h.kept⟩ (by decide)
  · have hp := h.p
    revert hp hb
    cases x.s with
    | e d => exact fun hb hp => (show T0 w d from hp).tp.not29 b hb
    | t d => exact fun hb hp => (show T5 w d from hp).tp.not29 b hb
    | x d => exact fun hb hp => (show XF w d from hp).not29 b hb
    | y d =>
      intro hb hp
      obtain ⟨h1, h2, h3, h4, h5, h6⟩ := (show YF w d from hp).1.tys
      rcases hb with rfl | hk | rfl | rfl | rfl | hk | hk
      · exact ty_not h1 (by decide)
      · exact (show YF w d from hp).1.xf.not29 b hk
      · exact ty_not h2 (by decide)
      · exact ty_not h3 (by decide)
      · exact ty_not h4 (by decide)
      · exact ty_not (h5 b hk) (by decide)
      · exact ty_not (h6 b hk) (by decide)
theorem row_info : (Tryz.prog.info? 29).map (fun i => (i.zero, i.size, i.bytes)) = some (some (.slice none 0 0), 1, 24) := by kernel_rfl
set_option maxRecDepth 100000 in
set_option maxHeartbeats 4000000 in
theorem layW (G g0 g1 : Nat) (w : World) (h0 : w.heap[g0]? = some (.cells #[.int .u64 1, .int .u64 2] 22 (0, 0))) (h1 : w.heap[g1]? = some (.cells #[.int .u64 7] 22 (0, 0))) (hG : w.heap[G]? = some (.cells #[.slice (some ⟨g0, 0, none⟩) 2 2, .slice (some ⟨g1, 0, none⟩) 1 1] 29 (0, 0))) :
    Calls Tryz.prog 5 #[.int .u8 1, .int .u64 3, .slice (some ⟨G, 0, none⟩) 2 2] w fun e w' => ∃ (s : Nat) (v : Value) (l : Nat → Option IT), e = .returned (.tuple #[.pointer (some ⟨s, 0, none⟩), v]) ∧ Hid (SH w.heap.size w' s l) ∧ Hid ((∃ a, l 0 = some a ∧ LI 2 2 a) ∧ (∃ b, l 1 = some b ∧ LI 3 1 b) ∧ ∀ n, 2 ≤ n → l n = none) ∧ Hid (Below w.heap.size w w') := by
  obtain ⟨i0, hinf, hz0, hz1, hz2x⟩ := info_parts row_info
  have HR0 := Lib.hid (show ∀ V, Below w.heap.size w V → Rd .u64 V (some ⟨g0, 0, none⟩) [1, 2] from fun V hb => (rd2 h0).below hb)
  have HR1 := Lib.hid (show ∀ V, Below w.heap.size w V → Rd .u64 V (some ⟨g1, 0, none⟩) [7] from fun V hb => (rd1 h1).below hb)
  clear h0 h1
  go_enter Tryz.func5, Tryz.ntmps5
  go_wp2_with fail
  refine (shNew w.heap.size w (Nat.le_refl _)).mono ?_
  rintro e w1 ⟨rfl, HS1, HB1⟩
  obtain ⟨s, hs⟩ : ∃ s, s = w.heap.size := ⟨_, rfl⟩
  rw [← hs]
  have HS1' := Lib.hid (show SH w.heap.size w1 s (fun _ => none) from by rw [hs]; exact HS1.out)
  clear HS1 hs
  go_wp2
  go_loopw [9, 10, 11, 13, 17] (fun v9 _ _ _ v17 wr => ∃ (k : Nat) (l : Nat → Option IT) (vs : List Value), v17 = .int .i64 k ∧ k ≤ 2 ∧ Hid (SH w.heap.size wr s l) ∧ Hid (1 ≤ k → ∃ a, l 0 = some a ∧ LI 2 2 a) ∧ Hid (2 ≤ k → ∃ b, l 1 = some b ∧ LI 3 1 b) ∧ Hid (∀ n, k ≤ n → l n = none) ∧ Hid (wr.ownsRow w.heap.size 29 1 v9 k vs) ∧ Hid (Below w.heap.size w wr)) (fun _ _ _ _ v17 _ => 2 - (intOf v17).toNat)
  case atStart => exact ⟨0, _, [], rfl, by omega, HS1'.out, fun h => absurd h (by omega), fun h => absurd h (by omega), fun _ _ => rfl, ⟨rfl, .inl ⟨rfl, rfl⟩⟩, HB1.out⟩
  case round =>
    clear HS1' HB1
    obtain ⟨k, l, vs, rfl, hk, HSH, HL0, HL1, HNO, HOUT, HBW⟩ := hrel
    have HDIF := Lib.hid (show ∀ h y, l h = some y → ∀ b, y.own b → ∀ cur, wr.heap[b]? ≠ some (.cells cur 29 (0, 0)) from fun h y hy b hb => (HSH.out.ok h y hy).not29 b hb)
    by_cases hk0 : k = 0
    · subst hk0
      have hG1 := (HBW.out.cell (p := ⟨G, 0, none⟩) (blk_lt hG)).trans (blk_cell hG 0 (v := .slice (some ⟨g0, 0, none⟩) 2 2) rfl)
      have HRD := Lib.hid (show Rd .u64 wr (some ⟨g0, 0, none⟩) [1, 2] from HR0.out wr HBW.out)
      have HWD := Lib.hid (lWords (some ⟨g0, 0, none⟩) 2 30 [1, 2] wr HRD.out (by simp) (by omega))
      have hzw := HBW.out.size
      go_wp2_with fail
      refine HWD.out.mono ?_
      rintro e w2 ⟨r, L', rfl, HOL, _, HEQ, HB2⟩
      obtain rfl := HEQ.out (by simp)
      have HS2 := Lib.hid (HSH.out.below HB2.out)
      have HOUT2 := Lib.hid (rowG_chg (S := fun _ => False) HOUT.out (Chg.of_below HB2.out) (fun _ _ h => h))
      have HBW2 := Lib.hid (below_then HBW.out HB2.out)
      obtain ⟨A', c', rfl, _, _, _⟩ := HOL.out.form
      have HOP := Lib.hid (shOpen HS2.out 0 (by omega) (HNO.out 0 (Nat.le_refl _)) 2 3 100000 (.inl rfl) (by omega) (by omega) (by omega))
      have hz2 := HB2.out.size
      have hs2 := blk_lt HSH.out.head
      clear HWD hG1 HRD
      go_wp2_with fail
      refine HOP.out.mono ?_
      rintro e w3 ⟨x, rfl, HS3, HX3, _, HOW, HC3⟩
      have HLI := Lib.hid (show LI 2 0 x from LI.fresh HX3.out.1 HX3.out.2.2.1 HX3.out.2.2.2)
      have HOL3 := Lib.hid (HOL.out.chg HC3.out (fun g hg e => by have := (HOL.out.block g hg).1; have e' : g = s := e; omega))
      have HOUT3 := Lib.hid (rowG_chg HOUT2.out HC3.out (fun g hg e => by
        obtain ⟨cur, h1⟩ := rowG_ty HOUT2.out g hg
        have e' : g = s := e
        rw [e', HS2.out.head] at h1
        cases h1))
      have HBW3 := Lib.hid (show Below w.heap.size w w3 from ⟨HC3.out.os.trans HBW2.out.os, HC3.out.tape.trans HBW2.out.tape, HC3.out.output.trans HBW2.out.output, Nat.le_trans HBW2.out.size HC3.out.size, fun q hq => (HC3.out.block q (by have := HBW2.out.size; omega) (fun e => by have e' : q = s := e; have := HSH.out.lo.1; omega)).trans (HBW2.out.block q hq)⟩)
      clear HOP HOUT2 HX3
      go_wp2
      go_loopw [13, 43] (fun _ v43 wk => ∃ (j : Nat) (x : IT), v43 = .int .i64 j ∧ j ≤ 2 ∧ Hid (SH w.heap.size wk s (upd l 0 (some x))) ∧ Hid (LI 2 j x) ∧ Hid (∀ q, x.own q → w2.heap.size ≤ q) ∧ Hid (Own .u64 22 wk wr.heap.size (.slice A' 2 c') [1, 2]) ∧ Hid (wk.ownsRow w.heap.size 29 1 u9 0 vs ∧ ∀ g, u9.ownBlock = some g → g < w2.heap.size) ∧ Hid (w2.heap.size ≤ wk.heap.size) ∧ Hid (Below w.heap.size w wk)) (fun _ v43 _ => 2 - (intOf v43).toNat)
      case atStart => exact ⟨0, x, rfl, Nat.zero_le _, HS3.out, HLI.out, HOW.out, HOL3.out, ⟨HOUT3.out, fun g hg => by have := (rowG_lt HOUT.out g hg).2; omega⟩, HC3.out.size, HBW3.out⟩
      case round =>
        clear HS3 HLI HOW HOL3 HOUT3 HBW3
        obtain ⟨j, x, rfl, hj, HSK, HLI, HOW, HOLK, HOUTK, HZK, HBK⟩ := hrel
        by_cases hjl : j < 2
        · obtain ⟨A2, c2, e2, _, _, hr2⟩ := HOLK.out.form
          simp only [Value.slice.injEq] at e2
          obtain ⟨e3, e4, e5⟩ := e2
          clear e4 e5
          obtain ⟨ad, hA, _, hc⟩ := hr2 j (by simpa using hjl)
          rw [← e3] at hA
          have HAD := Lib.hid hA
          have hkr : 0 ≤ ([1, 2] : List Int).getD j 0 ∧ ([1, 2] : List Int).getD j 0 ≤ 18446744073709551615 := U64.at_ (by intro y hy; simp at hy; omega) (by simpa using hjl)
          have HIN := Lib.hid (isInsert HSK.out 0 (([1, 2] : List Int).getD j 0) (x := x) (by unfold lk; rw [if_pos (by omega)]; exact upd_same _ _ _) (HLI.out.ski (by omega) hkr))
          generalize ([1, 2] : List Int).getD j 0 = kk at *
          rw [hA]
          clear hr2 hA hkr e3
          go_wp2_with fail
          refine HIN.out.mono ?_
          rintro e w5 ⟨er, s', ver', rfl, _, HSN, HS5, _, HO5, HC5⟩
          have HLI5 := Lib.hid (show LI 2 (j + 1) { x with s := s', ver := ver' } from HLI.out.next HSN.out)
          have hz5 := HC5.out.size
          have HOW5 := Lib.hid (show ∀ q, ({ x with s := s', ver := ver' } : IT).own q → w2.heap.size ≤ q from fun q hq => (HO5.out q hq).elim (HOW.out q) (fun h => Nat.le_trans HZK.out h))
          have HOL5 := Lib.hid (HOLK.out.chg HC5.out (fun g hg e => by
            have h1 := HOW.out g e
            have h2 := (HOL.out.block g hg).2
            omega))
          have HOUT5 := Lib.hid (rowG_chg HOUTK.out.1 HC5.out (fun g hg e => by have h1 := HOW.out g e; have := HOUTK.out.2 g hg; omega))
          have HS5' := Lib.hid (show SH w.heap.size w5 s (upd l 0 (some { x with s := s', ver := ver' })) from by have := HS5.out; rwa [upd_upd] at this)
          have HB5 := Lib.hid (show Below w.heap.size w w5 from ⟨HC5.out.os.trans HBK.out.os, HC5.out.tape.trans HBK.out.tape, HC5.out.output.trans HBK.out.output, Nat.le_trans HBK.out.size hz5, fun q hq => (HC5.out.block q (by have := HBK.out.size; omega) (fun e => by have := HOW.out q e; omega)).trans (HBK.out.block q hq)⟩)
          have HZ5 := Lib.hid (Nat.le_trans HZK.out hz5)
          clear HIN hc HSN HS5 HO5 HC5
          go_wp2
          first
          | (refine ⟨⟨j + 1, { x with s := s', ver := ver' }, by go_num, by omega, HS5'.out, HLI5.out, HOW5.out, HOL5.out, ⟨HOUT5.out, HOUTK.out.2⟩, HZ5.out, HB5.out⟩, ?_⟩
             simp [intOf]; omega)
          | (rw [← HAD.out]
             go_roundw
             case rel => exact ⟨j + 1, { x with s := s', ver := ver' }, by go_num, by omega, HS5'.out, HLI5.out, HOW5.out, HOL5.out, ⟨HOUT5.out, HOUTK.out.2⟩, HZ5.out, HB5.out⟩
             case measure => simp [intOf]; omega)
        · obtain rfl : j = 2 := by omega
          have HOF := Lib.hid (lOf A' c' [1, 2] wr (by
            obtain ⟨A2, c2, e2, _, _, hr2⟩ := HOLK.out.form
            simp only [Value.slice.injEq] at e2
            rw [e2.1]; exact hr2) (by simp))
          go_wp2_with fail
          refine HOF.out.mono ?_
          rintro e w6 ⟨r6, rfl, HR6, HB6⟩
          obtain ⟨l6, ho6, _⟩ := HR6.out
          obtain ⟨A6, c6, rfl, _, _, _⟩ := ho6.form
          have HNB := Lib.hid (blk_new w6 #[.slice A6 l6.length c6] 29)
          have HOUT6 := Lib.hid (fun (o2 : Obj) => rowG_chg (w' := w6.alloc o2) (S := fun _ => False) HOUTK.out.1 ((Chg.of_below HB6.out).alloc o2) (fun _ _ h => h))
          have hz6 := HB6.out.size
          have hzw6 : w.heap.size ≤ w6.heap.size := Nat.le_trans HBK.out.size hz6
          have HSZ6 := Lib.hid (show ∀ o2, w.heap.size ≤ (w6.alloc o2).heap.size from fun o2 => by simp; omega)
          have HB7 := Lib.hid (below_then HBK.out HB6.out)
          have HS7 := Lib.hid (HSK.out.below HB6.out)
          clear HOF ho6 HR6
          go_wp2_with (at_builtin; refine wpList_pushR w.heap.size u9 0 vs [.slice A6 l6.length c6] _ _ _ rfl rfl Tryz.underlying26 hinf hz0 hz1 hz2x rfl (by decide) rfl rfl HNB.out rfl (by intro u hu; rw [List.mem_singleton] at hu; subst hu; rfl) (HOUT6.out _) (HSZ6.out _) (by omega) (by unfold maxLen; omega) ?_; intro v7 w7 ho hg hv; have HO7 := Lib.hid ho; have HG7 := Lib.hid hg; clear ho hg hv)
          have HB8 := Lib.hid ((HB7.out.alloc hzw6 _).grown HG7.out (by simp; omega) (fun g hg => (rowG_lt HOUTK.out.1 g hg).1))
          have HS8 := Lib.hid (show SH w.heap.size w7 s (upd l 0 (some x)) from HS7.out.stay ((HG7.out.block s (by have := blk_lt HS7.out.head; simp; omega) (fun e => by
            obtain ⟨cur, h1⟩ := rowG_ty HOUTK.out.1 s e.symm
            have h2 := HSK.out.head
            rw [h1] at h2
            cases h2)).trans (heap_alloc_old _ _ (blk_lt HS7.out.head))) (fun h y hy b hb => (HG7.out.block b (by have := (HS7.out.ok h y hy).lt b hb; simp; omega) (fun e => by
              have h1 := HOUTK.out.2 b e.symm
              by_cases eh : h = 0
              · subst eh
                rw [upd_same] at hy
                cases hy
                have := HOW.out b hb
                omega
              · rw [upd_other _ _ eh] at hy
                obtain ⟨cur, h2⟩ := rowG_ty HOUT.out b e.symm
                exact HDIF.out h y hy b hb cur h2)).trans (heap_alloc_old _ _ ((HS7.out.ok h y hy).lt b hb))))
          clear HG7 HNB HOUT6
          go_wp2
          refine ⟨⟨0 + 1, upd l 0 (some x), _, rfl, by omega, HS8.out, (fun _ => ⟨x, upd_same _ _ _, HLI.out⟩), (fun h => absurd h (by omega)), fun n hn => by rw [upd_other _ _ (by omega)]; exact HNO.out n (by omega), HO7.out, HB8.out⟩, ?_⟩
          simp [intOf]
    · by_cases hk1 : k = 1
      · subst hk1
        have hG1 := (HBW.out.cell (p := ⟨G, 1, none⟩) (blk_lt hG)).trans (blk_cell hG 1 (v := .slice (some ⟨g1, 0, none⟩) 1 1) rfl)
        have HRD := Lib.hid (show Rd .u64 wr (some ⟨g1, 0, none⟩) [7] from HR1.out wr HBW.out)
        have HWD := Lib.hid (lWords (some ⟨g1, 0, none⟩) 1 30 [7] wr HRD.out (by simp) (by omega))
        have hzw := HBW.out.size
        go_wp2_with fail
        refine HWD.out.mono ?_
        rintro e w2 ⟨r, L', rfl, HOL, _, HEQ, HB2⟩
        obtain rfl := HEQ.out (by simp)
        have HS2 := Lib.hid (HSH.out.below HB2.out)
        have HOUT2 := Lib.hid (rowG_chg (S := fun _ => False) HOUT.out (Chg.of_below HB2.out) (fun _ _ h => h))
        have HBW2 := Lib.hid (below_then HBW.out HB2.out)
        obtain ⟨A', c', rfl, _, _, _⟩ := HOL.out.form
        have HOP := Lib.hid (shOpen HS2.out 1 (by omega) (HNO.out 1 (Nat.le_refl _)) 3 3 100000 (.inr (.inl rfl)) (by omega) (by omega) (by omega))
        have hz2 := HB2.out.size
        have hs2 := blk_lt HSH.out.head
        clear HWD hG1 HRD
        go_wp2_with fail
        refine HOP.out.mono ?_
        rintro e w3 ⟨x, rfl, HS3, HX3, _, HOW, HC3⟩
        have HLI := Lib.hid (show LI 3 0 x from LI.fresh HX3.out.1 HX3.out.2.2.1 HX3.out.2.2.2)
        have HOL3 := Lib.hid (HOL.out.chg HC3.out (fun g hg e => by have := (HOL.out.block g hg).1; have e' : g = s := e; omega))
        have HOUT3 := Lib.hid (rowG_chg HOUT2.out HC3.out (fun g hg e => by
          obtain ⟨cur, h1⟩ := rowG_ty HOUT2.out g hg
          have e' : g = s := e
          rw [e', HS2.out.head] at h1
          cases h1))
        have HBW3 := Lib.hid (show Below w.heap.size w w3 from ⟨HC3.out.os.trans HBW2.out.os, HC3.out.tape.trans HBW2.out.tape, HC3.out.output.trans HBW2.out.output, Nat.le_trans HBW2.out.size HC3.out.size, fun q hq => (HC3.out.block q (by have := HBW2.out.size; omega) (fun e => by have e' : q = s := e; have := HSH.out.lo.1; omega)).trans (HBW2.out.block q hq)⟩)
        clear HOP HOUT2 HX3
        go_wp2
        go_loopw [13, 43] (fun _ v43 wk => ∃ (j : Nat) (x : IT), v43 = .int .i64 j ∧ j ≤ 1 ∧ Hid (SH w.heap.size wk s (upd l 1 (some x))) ∧ Hid (LI 3 j x) ∧ Hid (∀ q, x.own q → w2.heap.size ≤ q) ∧ Hid (Own .u64 22 wk wr.heap.size (.slice A' 1 c') [7]) ∧ Hid (wk.ownsRow w.heap.size 29 1 u9 1 vs ∧ ∀ g, u9.ownBlock = some g → g < w2.heap.size) ∧ Hid (w2.heap.size ≤ wk.heap.size) ∧ Hid (Below w.heap.size w wk)) (fun _ v43 _ => 1 - (intOf v43).toNat)
        case atStart => exact ⟨0, x, rfl, Nat.zero_le _, HS3.out, HLI.out, HOW.out, HOL3.out, ⟨HOUT3.out, fun g hg => by have := (rowG_lt HOUT.out g hg).2; omega⟩, HC3.out.size, HBW3.out⟩
        case round =>
          clear HS3 HLI HOW HOL3 HOUT3 HBW3
          obtain ⟨j, x, rfl, hj, HSK, HLI, HOW, HOLK, HOUTK, HZK, HBK⟩ := hrel
          by_cases hjl : j < 1
          · obtain ⟨A2, c2, e2, _, _, hr2⟩ := HOLK.out.form
            simp only [Value.slice.injEq] at e2
            obtain ⟨e3, e4, e5⟩ := e2
            clear e4 e5
            obtain ⟨ad, hA, _, hc⟩ := hr2 j (by simpa using hjl)
            rw [← e3] at hA
            have HAD := Lib.hid hA
            have hkr : 0 ≤ ([7] : List Int).getD j 0 ∧ ([7] : List Int).getD j 0 ≤ 18446744073709551615 := U64.at_ (by intro y hy; simp at hy; omega) (by simpa using hjl)
            have HIN := Lib.hid (isInsert HSK.out 1 (([7] : List Int).getD j 0) (x := x) (by unfold lk; rw [if_pos (by omega)]; exact upd_same _ _ _) (HLI.out.ski (by omega) hkr))
            generalize ([7] : List Int).getD j 0 = kk at *
            rw [hA]
            clear hr2 hA hkr e3
            go_wp2_with fail
            refine HIN.out.mono ?_
            rintro e w5 ⟨er, s', ver', rfl, _, HSN, HS5, _, HO5, HC5⟩
            have HLI5 := Lib.hid (show LI 3 (j + 1) { x with s := s', ver := ver' } from HLI.out.next HSN.out)
            have hz5 := HC5.out.size
            have HOW5 := Lib.hid (show ∀ q, ({ x with s := s', ver := ver' } : IT).own q → w2.heap.size ≤ q from fun q hq => (HO5.out q hq).elim (HOW.out q) (fun h => Nat.le_trans HZK.out h))
            have HOL5 := Lib.hid (HOLK.out.chg HC5.out (fun g hg e => by
              have h1 := HOW.out g e
              have h2 := (HOL.out.block g hg).2
              omega))
            have HOUT5 := Lib.hid (rowG_chg HOUTK.out.1 HC5.out (fun g hg e => by have h1 := HOW.out g e; have := HOUTK.out.2 g hg; omega))
            have HS5' := Lib.hid (show SH w.heap.size w5 s (upd l 1 (some { x with s := s', ver := ver' })) from by have := HS5.out; rwa [upd_upd] at this)
            have HB5 := Lib.hid (show Below w.heap.size w w5 from ⟨HC5.out.os.trans HBK.out.os, HC5.out.tape.trans HBK.out.tape, HC5.out.output.trans HBK.out.output, Nat.le_trans HBK.out.size hz5, fun q hq => (HC5.out.block q (by have := HBK.out.size; omega) (fun e => by have := HOW.out q e; omega)).trans (HBK.out.block q hq)⟩)
            have HZ5 := Lib.hid (Nat.le_trans HZK.out hz5)
            clear HIN hc HSN HS5 HO5 HC5
            go_wp2
            first
            | (refine ⟨⟨j + 1, { x with s := s', ver := ver' }, by go_num, by omega, HS5'.out, HLI5.out, HOW5.out, HOL5.out, ⟨HOUT5.out, HOUTK.out.2⟩, HZ5.out, HB5.out⟩, ?_⟩
               simp [intOf]; omega)
            | (rw [← HAD.out]
               go_roundw
               case rel => exact ⟨j + 1, { x with s := s', ver := ver' }, by go_num, by omega, HS5'.out, HLI5.out, HOW5.out, HOL5.out, ⟨HOUT5.out, HOUTK.out.2⟩, HZ5.out, HB5.out⟩
               case measure => simp [intOf]; omega)
          · obtain rfl : j = 1 := by omega
            have HOF := Lib.hid (lOf A' c' [7] wr (by
              obtain ⟨A2, c2, e2, _, _, hr2⟩ := HOLK.out.form
              simp only [Value.slice.injEq] at e2
              rw [e2.1]; exact hr2) (by simp))
            go_wp2_with fail
            refine HOF.out.mono ?_
            rintro e w6 ⟨r6, rfl, HR6, HB6⟩
            obtain ⟨l6, ho6, _⟩ := HR6.out
            obtain ⟨A6, c6, rfl, _, _, _⟩ := ho6.form
            have HNB := Lib.hid (blk_new w6 #[.slice A6 l6.length c6] 29)
            have HOUT6 := Lib.hid (fun (o2 : Obj) => rowG_chg (w' := w6.alloc o2) (S := fun _ => False) HOUTK.out.1 ((Chg.of_below HB6.out).alloc o2) (fun _ _ h => h))
            have hz6 := HB6.out.size
            have hzw6 : w.heap.size ≤ w6.heap.size := Nat.le_trans HBK.out.size hz6
            have HSZ6 := Lib.hid (show ∀ o2, w.heap.size ≤ (w6.alloc o2).heap.size from fun o2 => by simp; omega)
            have HB7 := Lib.hid (below_then HBK.out HB6.out)
            have HS7 := Lib.hid (HSK.out.below HB6.out)
            clear HOF ho6 HR6
            go_wp2_with (at_builtin; refine wpList_pushR w.heap.size u9 1 vs [.slice A6 l6.length c6] _ _ _ rfl rfl Tryz.underlying26 hinf hz0 hz1 hz2x rfl (by decide) rfl rfl HNB.out rfl (by intro u hu; rw [List.mem_singleton] at hu; subst hu; rfl) (HOUT6.out _) (HSZ6.out _) (by omega) (by unfold maxLen; omega) ?_; intro v7 w7 ho hg hv; have HO7 := Lib.hid ho; have HG7 := Lib.hid hg; clear ho hg hv)
            have HB8 := Lib.hid ((HB7.out.alloc hzw6 _).grown HG7.out (by simp; omega) (fun g hg => (rowG_lt HOUTK.out.1 g hg).1))
            have HS8 := Lib.hid (show SH w.heap.size w7 s (upd l 1 (some x)) from HS7.out.stay ((HG7.out.block s (by have := blk_lt HS7.out.head; simp; omega) (fun e => by
              obtain ⟨cur, h1⟩ := rowG_ty HOUTK.out.1 s e.symm
              have h2 := HSK.out.head
              rw [h1] at h2
              cases h2)).trans (heap_alloc_old _ _ (blk_lt HS7.out.head))) (fun h y hy b hb => (HG7.out.block b (by have := (HS7.out.ok h y hy).lt b hb; simp; omega) (fun e => by
                have h1 := HOUTK.out.2 b e.symm
                by_cases eh : h = 1
                · subst eh
                  rw [upd_same] at hy
                  cases hy
                  have := HOW.out b hb
                  omega
                · rw [upd_other _ _ eh] at hy
                  obtain ⟨cur, h2⟩ := rowG_ty HOUT.out b e.symm
                  exact HDIF.out h y hy b hb cur h2)).trans (heap_alloc_old _ _ ((HS7.out.ok h y hy).lt b hb))))
            clear HG7 HNB HOUT6
            go_wp2
            refine ⟨⟨1 + 1, upd l 1 (some x), _, rfl, by omega, HS8.out, (fun _ => by rw [upd_other _ _ (by omega)]; exact HL0.out (by omega)), (fun _ => ⟨x, upd_same _ _ _, HLI.out⟩), fun n hn => by rw [upd_other _ _ (by omega)]; exact HNO.out n (by omega), HO7.out, HB8.out⟩, ?_⟩
            simp [intOf]
      · obtain rfl : k = 2 := by omega
        go_wp2
        go_ret2
        exact ⟨s, _, l, rfl, HSH.out, ⟨HL0.out (by omega), HL1.out (by omega), HNO.out⟩, HBW.out⟩
end Go.Proofs.YtcnaikoloagbdaaGreat
