/-
  chain.All, xfast.All: iterators that keep their word (SeqF).
  xfast.All: an iterator that keeps its word: it ranges over its chain's.
-/
import Derived.Test.YtcnaikoloagbdaaGreatQXf6
import Derived.Test.YtcnaikoloagbdaaGreatQColl
namespace Go.Proofs.YtcnaikoloagbdaaGreat
set_option linter.unusedVariables false
set_option linter.unusedSimpArgs false
open Go.RowKit Go.Shelf
attribute [local go_sem] Oper.semAt_some
attribute [local go_sem ↓] Go.wp_at_zero Go.wp_at_succ

/-- how many links are still to come -/
def rem (rk : Nat → Nat) (i : Int) : Nat := if 0 ≤ i then rk i.toNat + 1 else 0
/-- links as they are yielded -/
def k2 (x : Int × Int) : Array Value := #[.int .i64 x.1, .int .u64 x.2]
set_option maxRecDepth 100000 in
set_option maxHeartbeats 4000000 in
theorem chAll1 (c m p B1 : Nat) (v : Value) (ls : List Lk) (limit fst : Int) (R : Nat) (hrk : Rk ls fst R) (St : World → Prop) (F : Nat → Prop)
    (hStC : ∀ V, St V → Ch V c m p v ls limit fst ∧ V.heap[B1]? = some (.cells #[.pointer (some ⟨c, 0, none⟩)] 223 (0, 0))) (hStB : ∀ X Y, St X → Below X.heap.size X Y → St Y) :
    SeqF Tryz.prog 330 #[.pointer (some ⟨B1, 0, none⟩)] k2 St F (fun xs => xs.length ≤ R ∧ U64 (xs.map (·.2))) R := by
  intro n l J Jx C0 W hn hst hJ hJx hY hC0 h0
  obtain ⟨⟨hfst, hku⟩, rk, hrk2⟩ := hrk
  have HKU := Lib.hid hku
  have HRK := Lib.hid hrk2
  have HSC := Lib.hid hStC
  have HSB := Lib.hid hStB
  have HJ := Lib.hid hJ
  have HYY := Lib.hid hY
  have HST := Lib.hid hst
  have HJ1 := Lib.hid h0
  have HC0 := Lib.hid hC0
  have HCH := Lib.hid (hStC W hst).1
  have q0 := blk_cell (hStC W hst).2 0 rfl
  obtain ⟨M, hM⟩ : ∃ M, M = W.heap.size := ⟨_, rfl⟩
  have HMM := Lib.hid hM
  clear hku hrk2 hStC hStB hJ hY hst h0 hJx hM hC0
  refine callsIn_wide.2 ?_
  go_enter Tryz.func330, Tryz.ntmps330
  go_wp2_with fail
  refine (chFirst c m p v ls limit fst _ HCH.out).mono ?_
  rintro e w1 ⟨rfl, rfl⟩
  have hr0 : rem rk fst ≤ R := by
    unfold rem
    split
    · have := (HRK.out fst.toNat (by omega)).1; omega
    · omega
  clear q0 HCH
  go_wp2
  go_loopw [3, 4, 5] (fun v3 _ _ wr => ∃ (i : Int) (pre : List (Int × Int)) (C : Nat → Prop), v3 = .int .i64 i ∧ i < (ls.length : Int) ∧ pre.length + rem rk i ≤ R ∧ M ≤ wr.heap.size ∧ Hid (J C pre wr) ∧ Hid (St wr) ∧ Hid (∀ k, C k → k < wr.heap.size) ∧ Hid (U64 (pre.map (·.2)))) (fun v3 _ _ _ => rem rk (intOf v3))
  case atStart => exact ⟨fst, [], C0, rfl, hfst, by simpa using hr0, by rw [HMM.out]; exact Nat.le_refl _, HJ1.out, HST.out, HC0.out, U64.nil⟩
  case round =>
    clear HJ1 HST HC0
    obtain ⟨i, pre, C, rfl, hil, hpr, hMw, HJW, HSW, HCW0, HPU⟩ := hrel
    have HCW := Lib.hid (HSC.out wr HSW.out).1
    have q0 := blk_cell (HSC.out wr HSW.out).2 0 rfl
    have q1 := HCW.out.cells.2.1
    by_cases hi1 : i = -1
    · subst hi1
      go_wp2
      go_end0
      exact ⟨⟨_, rfl⟩, HSW.out, by rw [← HMM.out]; exact hMw, .inl ⟨C, pre, ⟨by omega, HPU.out⟩, HJW.out, HCW0.out⟩⟩
    · have hib : (i == -1) = false := by simpa using hi1
      clear hi1
      have hib2 : (i != -1) = true := by simp [bne, hib]
      have hn1 : 1 ≤ n := by omega
      have hfn : Fence.wide.fn 332 := trivial
      refine (wpIn_wide (n := n)).1 ?_
      gi_wp2
      refine ((callsIn_wide (n := n - 1)).2 (plPeek p m v ls limit _ HCW.out.pool i (Nat.zero_le _))).mono ?_
      rintro e w2 ⟨x, rfl, HX, _, HB2⟩
      obtain ⟨xk, xp, xn⟩ := x
      have hA := (Below.refl w2.heap.size w2).alloc (Nat.le_refl _) (.cells #[.int .u64 xk, .int .i64 xp, .int .i64 xn] 271)
      have HB3 := Lib.hid (below_then HB2.out hA)
      have HS3 := Lib.hid (HSB.out _ _ HSW.out HB3.out)
      have HJ3 := Lib.hid ((HJ.out C).chg pre _ _ HJW.out (Chg.of_below HB3.out))
      have HN3 := Lib.hid (blk_new w2 #[.int .u64 xk, .int .i64 xp, .int .i64 xn] 271)
      have n0 := blk_cell HN3.out 0 rfl
      have n1 := blk_cell HN3.out 1 rfl
      have n2 := blk_cell HN3.out 2 rfl
      have hM3 : M ≤ (w2.alloc (.cells #[.int .u64 xk, .int .i64 xp, .int .i64 xn] 271)).heap.size := Nat.le_trans hMw HB3.out.size
      clear hA
      by_cases h0 : 0 ≤ i
      · have hd : decide (0 ≤ i ∧ i < (ls.length : Int)) = true := decide_eq_true ⟨h0, hil⟩
        rw [hd]
        obtain ⟨hn', hx⟩ := HX.out ⟨h0, hil⟩
        have HNX := Lib.hid (show xn < (ls.length : Int) ∧ rem rk xn < rem rk i from by
          have h1 := HRK.out i.toNat hn'
          have e : xn = ls[i.toNat].next := congrArg Lk.next hx
          rw [e]
          refine ⟨h1.2.1, ?_⟩
          unfold rem
          rw [if_pos h0]
          split
          · rename_i h2; have := h1.2.2 h2; omega
          · omega)
        have HXU := Lib.hid (show U64 ((pre ++ [(i, xk)]).map (·.2)) from by
          rw [List.map_append]
          exact HPU.out.snoc (by have e : xk = ls[i.toNat].key := congrArg Lk.key hx; rw [e]; exact HKU.out _ (List.getElem_mem _)))
        have hri : 1 ≤ rem rk i := by unfold rem; rw [if_pos h0]; omega
        have hnx := HNX.out
        obtain ⟨fn, tmps, assign, body, hy, hR⟩ := HYY.out C pre (i, xk) _ (by rw [← HMM.out]; exact hM3) (fun k hk => Nat.lt_of_lt_of_le (HCW0.out k hk) HB3.out.size) HJ3.out HS3.out (by omega)
        simp only [k2] at hy
        clear hx hn' hd HX
        gi_wp2
        refine hR.mono ?_
        rintro e W3 (⟨rfl, hS3, hkf, C', hJ3, hC', hkk⟩ | ⟨rfl, hS3, hkf, hJx3, _⟩)
        · have HJ4 := Lib.hid hJ3
          have HS4 := Lib.hid hS3
          have HKF := Lib.hid hkf
          have HKK := Lib.hid hkk
          have HN4 := Lib.hid (show W3.heap[w2.heap.size]? = some (.cells #[.int .u64 xk, .int .i64 xp, .int .i64 xn] 271 (0, 0)) from (hkk _ (blk_lt HN3.out) (fun e => by have h1 := HCW0.out _ e; have h2 := HB2.out.size; omega)).trans HN3.out)
          have HC4 := Lib.hid (show ∀ k, C' k → k < W3.heap.size from fun k hk => (hC' k hk).2)
          have n2' := blk_cell HN4.out 2 rfl
          have hz4 := hkf.size
          clear hJ3 hS3 hkf hkk n0 n1 n2 hC'
          gi_wp2
          go_roundw
          case rel => exact ⟨xn, pre ++ [(i, xk)], C', rfl, hnx.1, by simp; omega, by omega, HJ4.out, HS4.out, HC4.out, HXU.out⟩
          case measure => simp only [intOf]; exact hnx.2
        · have HJ4 := Lib.hid hJx3
          have HS4 := Lib.hid hS3
          have hz4 := hkf.size
          clear hJx3 hS3 hkf
          gi_wp2
          refine bodyPost_ret (results_none rfl _ _ _) rfl ?_
          exact ⟨⟨_, rfl⟩, HS4.out, by rw [← HMM.out]; omega, .inr HJ4.out⟩
      · have hd : decide (0 ≤ i ∧ i < (ls.length : Int)) = false := decide_eq_false (fun h => h0 h.1)
        rw [hd]
        gi_wp2
        refine ⟨fun _ h => (by cases h), ?_⟩
        gi_wp2
        refine bodyPost_ret (results_none rfl _ _ _) rfl ?_
        exact ⟨⟨_, rfl⟩, HS3.out, by rw [← HMM.out]; exact hM3, .inl ⟨C, pre, ⟨by omega, HPU.out⟩, HJ3.out, fun k hk => Nat.lt_of_lt_of_le (HCW0.out k hk) HB3.out.size⟩⟩
end Go.Proofs.YtcnaikoloagbdaaGreat
namespace Go.Proofs.YtcnaikoloagbdaaGreat
set_option linter.unusedVariables false
set_option linter.unusedSimpArgs false
open Go.RowKit Go.Shelf
attribute [local go_sem] Oper.semAt_some k1 k2
attribute [local go_sem ↓] Go.wp_at_zero Go.wp_at_succ

set_option maxRecDepth 100000 in
theorem chAllMake (c : Nat) (w : World) : Calls Tryz.prog 315 #[.pointer (some ⟨c, 0, none⟩)] w fun e w' => e = .returned (.func (.func 330) #[] #[.pointer (some ⟨w.heap.size, 0, none⟩)]) ∧ w' = w.alloc (.cells #[.pointer (some ⟨c, 0, none⟩)] 223) := by
  go_enter Tryz.func315, Tryz.ntmps315
  go_wp2
  go_ret
  exact ⟨rfl, rfl⟩
set_option maxRecDepth 100000 in
theorem xAllMake (x : Nat) (w : World) : Calls Tryz.prog 302 #[.pointer (some ⟨x, 0, none⟩)] w fun e w' => e = .returned (.func (.func 314) #[] #[.pointer (some ⟨w.heap.size, 0, none⟩)]) ∧ w' = w.alloc (.cells #[.pointer (some ⟨x, 0, none⟩)] 178) := by
  go_enter Tryz.func302, Tryz.ntmps302
  go_wp2
  go_ret
  exact ⟨rfl, rfl⟩
/-- what xfast.All needs: the set, and the iterator's box -/
def xSt (d : XD) (B1 : Nat) (V : World) : Prop := XF V d ∧ V.heap[B1]? = some (.cells #[.pointer (some ⟨d.x, 0, none⟩)] 178 (0, 0))
def xStR (d : XD) (B1 : Nat) : Nat → Prop := fun k => d.own k ∨ k = B1
theorem xSt.stay {d : XD} {B1 : Nat} {X Y : World} (h : xSt d B1 X) (hs : ∀ b, xStR d B1 b → Y.heap[b]? = X.heap[b]?) : xSt d B1 Y := ⟨h.1.stay (fun b hb => hs b (.inl hb)), (hs B1 (.inr rfl)).trans h.2⟩
theorem xSt.lt {d : XD} {B1 : Nat} {X : World} (h : xSt d B1 X) : ∀ b, xStR d B1 b → b < X.heap.size := fun b hb => by
  rcases hb with hb | hb
  · exact h.1.lt b hb
  · rw [hb]; exact blk_lt h.2
set_option maxRecDepth 100000 in
set_option maxHeartbeats 4000000 in
theorem xAll1 (d : XD) (B1 : Nat) (F : Nat → Prop) (hF : ∀ b, ¬ F b) : SeqF Tryz.prog 314 #[.pointer (some ⟨B1, 0, none⟩)] k1 (xSt d B1) F (fun xs => xs.length ≤ d.R ∧ U64 xs) d.R := by
  intro n l J Jx C0 W hn hst hJ hJx hY hC0 h0
  have HST := Lib.hid hst
  have HJ := Lib.hid hJ
  have HJX := Lib.hid hJx
  have HYY := Lib.hid hY
  have HC0 := Lib.hid hC0
  have q0 := blk_cell hst.2 0 rfl
  have q1 := hst.1.cells.2.2.1
  have HLT := Lib.hid hst.lt
  have hW1 := Lib.hid (show xSt d B1 (W.alloc (.cells #[.func (.yield l) #[] #[]] 71)) from hst.stay (fun b hb => heap_alloc_old W _ (hst.lt b hb)))
  have q0' := blk_cell hW1.out.2 0 rfl
  have q1' := hW1.out.1.cells.2.2.1
  refine (callsIn_wide (n := n)).2 ((callsIn_wide (n := 20)).1 ?_)
  refine callsIn_of_wp_marks Tryz.func314 rfl trivial ?_ rfl
  simp only [Tryz.ntmps314, List.size_toArray, List.length_cons, List.length_nil, Nat.reduceAdd, Nat.reduceSub, Array.replicate_succ, Array.replicate_zero, List.push_toArray, List.append_toArray, List.nil_append, List.cons_append]
  have hfp : Fence.wide.fn 315 := trivial
  have hRK := Lib.hid hst.1.rk
  clear hst hJ hJx hY hC0
  gi_wp2
  refine (callsIn_wide.2 (chAllMake d.c _)).mono ?_
  rintro e w1 ⟨rfl, rfl⟩
  obtain ⟨W2, hW2⟩ : ∃ W2, W2 = (W.alloc (.cells #[.func (.yield l) #[] #[]] 71)).alloc (.cells #[.pointer (some ⟨d.c, 0, none⟩)] 223) := ⟨_, rfl⟩
  rw [← hW2]
  simp only [World.size_alloc]
  have s2 : W2.heap.size = W.heap.size + 1 + 1 := by rw [hW2]; simp
  have HB2 := Lib.hid (show Below W.heap.size W W2 by rw [hW2]; exact ((Below.refl _ W).alloc (Nat.le_refl _) _).alloc (by simp) _)
  have HY0 := Lib.hid (show W2.heap[W.heap.size]? = some (.cells #[.func (.yield l) #[] #[]] 71 (0, 0)) by rw [hW2]; exact blk_old (blk_new W _ _) _)
  have HS0 := Lib.hid (show W2.heap[W.heap.size + 1]? = some (.cells #[.pointer (some ⟨d.c, 0, none⟩)] 223 (0, 0)) by rw [hW2]; have := blk_new (W.alloc (.cells #[.func (.yield l) #[] #[]] 71)) #[.pointer (some ⟨d.c, 0, none⟩)] 223; simpa only [World.size_alloc] using this)
  have HJ0 := Lib.hid (show J C0 [] W2 from (HJ.out C0).chg _ _ _ h0 (Chg.of_below HB2.out))
  have HX2 := Lib.hid (show xSt d B1 W2 from HST.out.stay (fun b hb => HB2.out.block b (HLT.out b hb)))
  have HSEQ := Lib.hid (chAll1 d.c d.m d.p (W.heap.size + 1) d.v d.ls d.limit d.fst d.R hRK.out (fun V => xSt d B1 V ∧ V.heap[W.heap.size + 1]? = some (.cells #[.pointer (some ⟨d.c, 0, none⟩)] 223 (0, 0))) F
    (fun V h => ⟨h.1.1.ch, h.2⟩) (fun X Y h hb => ⟨h.1.stay (fun b hr => hb.block b (h.1.lt b hr)), (hb.block _ (blk_lt h.2)).trans h.2⟩))
  have hn20 : 1 ≤ 20 := by omega
  clear hW2 h0 q0 q1 q0' q1' hW1
  gi_wp2
  refine range_F (n := 20) (by decide) (gf := 330) (lb := #[.pointer (some ⟨W.heap.size + 1, 0, none⟩)]) rfl (enters_of Tryz.func330 (by kernel_rfl) rfl) HSEQ.out
    (R := fun k => xStR d B1 k ∨ k = W.heap.size + 1) (fun X Y h hs => ⟨h.1.stay (fun b hb => hs b (.inl hb)), (hs _ (.inr rfl)).trans h.2⟩) (fun b hb => by rcases hb with hb | hb; have := HLT.out b hb; omega; omega) (fun b hb => absurd hb (hF b)) ⟨HX2.out, HS0.out⟩ (fun _ => rfl)
    (fun C pre V => J C (pre.map (·.2)) V ∧ (V.heap[W.heap.size]? = some (.cells #[.func (.yield l) #[] #[]] 71 (0, 0)) ∧ ((¬ C W.heap.size ∧ ¬ C (W.heap.size + 1)) ∧ W2.heap.size ≤ V.heap.size)))
    (fun c V => c = .ret ∧ Jx V)
    (fun C => (show Stab W2.heap.size F (fun (pre : List (Int × Int)) V => J C (pre.map (·.2)) V) from ⟨fun s X Y row hs hg hr => ((HJ.out C).mono (by omega) (fun _ h => h)).own (s.map (·.2)) X Y row hs hg hr, fun s X Y hs hc => (HJ.out C).chg (s.map (·.2)) X Y hs hc⟩).and ((stab_blk (hF _) (fun _ => #[.func (.yield l) #[] #[]]) _).and ((stab_pure _ _ _).and (stab_size _ _ _))))
    ⟨fun s X Y row hs hg hr => ⟨hs.1, (HJX.out.mono (show W.heap.size ≤ W2.heap.size by omega) (fun _ h => h)).own () X Y row hs.2 hg hr⟩, fun s X Y hs hc => ⟨hs.1, HJX.out.chg () X Y hs.2 hc⟩⟩
    C0 (fun k hk => by have := HC0.out k hk; omega) ⟨HJ0.out, HY0.out, ⟨fun e => by have := HC0.out _ e; omega, fun e => by have := HC0.out _ e; omega⟩, Nat.le_refl _⟩
    (fun x a' V => a' = { tmps := #[.func (.yield l) #[] #[], .pointer (some ⟨B1, 0, none⟩), .pointer (some ⟨W.heap.size, 0, none⟩), undef, .int .u64 x.2, .pointer (some ⟨d.x, 0, none⟩), .bool false, .pointer (some ⟨d.x, 0, none⟩), .pointer (some ⟨d.x, 0, none⟩), .pointer (some ⟨d.x, 2, none⟩), .pointer (some ⟨d.c, 0, none⟩), .func (.func 330) #[] #[.pointer (some ⟨W.heap.size + 1, 0, none⟩)], .int .i64 x.1, .int .u64 x.2, undef, undef, undef, undef], defers := [] })
    (fun x a' _ _ _ _ h _ _ => h) ?assign ?body ?done ?stop
  case assign =>
    intro l2 C pre x V K hI hK
    gi_wp2
    exact hK _ _ (KeepsFrom.refl _ _) (Below.refl _ _) hI rfl
  case body =>
    rintro l2 C pre x a' V hl2 hV hCb ⟨hJV, hYV, hCW, hsz⟩ hstV rfl hlen
    obtain ⟨fn, tmps, assign, body, hy, hR⟩ := HYY.out C (pre.map (·.2)) x.2 V (by omega) hCb hJV hstV.1 (by simpa using hlen)
    simp only [k1] at hy
    have t0 := blk_cell hYV 0 rfl
    have HYV := Lib.hid hYV
    have HSZV := Lib.hid hsz
    have HSTV := Lib.hid hstV
    have HCW := Lib.hid hCW
    have HCB := Lib.hid hCb
    clear hYV hsz hJV hstV hCW hCb
    gi_wp2
    refine (roundIn_wide hR).mono ?_
    rintro e V3 (⟨rfl, hS3, hkf, C', hJ3, hC', hkk⟩ | ⟨rfl, hS3, hkf, hJx3, hkk⟩)
    · have HJ3 := Lib.hid hJ3
      have HS3 := Lib.hid hS3
      have HKF := Lib.hid hkf
      have HC' := Lib.hid hC'
      have HKK := Lib.hid hkk
      clear hJ3 hS3 hkf hC' hkk
      gi_wp2
      have hbx : W.heap.size + 1 < V.heap.size := by omega
      refine ⟨keepsFrom_mono HKF.out (by omega), ⟨HS3.out, (HKK.out _ hbx HCW.out.2).trans HSTV.out.2⟩, C', ⟨?_, ?_, ⟨?_, ?_⟩, ?_⟩, HC'.out, HKK.out⟩
      · rw [List.map_append]; exact HJ3.out
      · exact (HKK.out _ (by omega) HCW.out.1).trans HYV.out
      · intro e
        rcases (HC'.out _ e).1 with h | h
        · exact HCW.out.1 h
        · omega
      · intro e
        rcases (HC'.out _ e).1 with h | h
        · exact HCW.out.2 h
        · omega
      · exact Nat.le_trans HSZV.out HKF.out.size
    · have HJ3 := Lib.hid hJx3
      have HS3 := Lib.hid hS3
      have HKF := Lib.hid hkf
      have HKK := Lib.hid hkk
      clear hJx3 hS3 hkf hkk
      gi_wp2
      have hbx : W.heap.size + 1 < V.heap.size := by omega
      exact ⟨keepsFrom_mono HKF.out (by omega), ⟨HS3.out, (HKK.out _ hbx HCW.out.2).trans HSTV.out.2⟩, ⟨rfl, HJ3.out⟩, HKK.out⟩
  case done =>
    rintro D C ys V hD hys ⟨hJV, hYV, hCW, hsz⟩ hstV hsz2 hCb hK
    have HCB := Lib.hid hCb
    have HJV := Lib.hid hJV
    have HYS := Lib.hid hys
    have HSTV := Lib.hid hstV
    clear hJV hys hstV hYV hCW hCb
    gi_wp2
    refine ⟨by simp, .inl ⟨_, _, rfl, run_takeDeferred hK, ?_⟩⟩
    refine ⟨_, results_none rfl _ _ _, ⟨_, rfl⟩, ?_, ?_, .inl ⟨C, ys.map (·.2), ?_, ?_, ?_⟩⟩
    · exact HSTV.out.1.stay (same_put HLT.out (by omega))
    · rw [put_size]; omega
    · exact ⟨by simpa using HYS.out.1, HYS.out.2⟩
    · exact (HJ.out C).own.putObj _ HJV.out (by omega) hK rfl
    · intro k hk; rw [put_size]; exact HCB.out k hk
  case stop =>
    rintro D c V hD ⟨rfl, hJV⟩ hstV hK
    have HJV := Lib.hid hJV
    have HSTV := Lib.hid hstV
    clear hJV hstV
    gi_wp2
    refine ⟨by simp, .inl ⟨_, _, rfl, run_takeDeferred hK, ?_⟩⟩
    refine ⟨_, results_none rfl _ _ _, ⟨_, rfl⟩, ?_, ?_, .inr ?_⟩
    · exact HSTV.out.1.stay (same_put HLT.out (by omega))
    · rw [put_size]; have := blk_lt hK; omega
    · exact HJX.out.own.putObj (s := ()) _ HJV.out (by omega) hK rfl
end Go.Proofs.YtcnaikoloagbdaaGreat
