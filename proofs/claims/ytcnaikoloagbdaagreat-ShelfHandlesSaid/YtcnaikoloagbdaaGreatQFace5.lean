/-
  face.fill: a new YFast with a few keys, a new trie with the key 5; walked.
-/
import Derived.Test.YtcnaikoloagbdaaGreatQFaceA
namespace Go.Proofs.YtcnaikoloagbdaaGreat
set_option linter.unusedVariables false
set_option linter.unusedSimpArgs false
open Go.RowKit Go.Shelf
attribute [local go_sem] Oper.semAt_some k1
attribute [local go_sem ↓] Go.wp_at_zero Go.wp_at_succ

theorem blk_put {w : World} {b D : Nat} {x : Obj} (h : w.heap[b]? = some x) (o : Obj) (hne : b ≠ D) : (w.putObj D o).heap[b]? = some x := (World.putObj_heap_other hne).trans h
/-- the new set under way -/
structure FW (F : Nat → Prop) (w : World) (bs : Nat) (Ins : SK → Prop) (C : Nat → Prop) (V : World) (s : SK) : Prop where
  ins : Ins s
  p : s.P V
  box : V.heap[bs]? = some (.cells #[s.v] 73 (0, 0))
  own : ∀ q, s.own q → w.heap.size + 2 ≤ q ∧ q ≠ bs
  c : ∀ q, C q ↔ (s.own q ∨ q = w.heap.size ∨ q = w.heap.size + 1)
  r8 : V.heap[w.heap.size]? = some (.cells #[.nilIface] 73 (0, 0))
  r9 : V.heap[w.heap.size + 1]? = some (.cells #[.int .i64 0] 30 (0, 0))
  chg : Chg F w V
theorem FW.stab {F : Nat → Prop} {w : World} {bs B : Nat} {Ins : List Int → SK → Prop} {C : Nat → Prop} (hF : ∀ b, F b → b < w.heap.size) (hbs : w.heap.size + 2 ≤ bs) (hB : w.heap.size ≤ B) : Stab B F (fun (pre : List Int) (V : World) => ∃ s, FW F w bs (Ins pre) C V s) := by
  constructor
  · rintro pre X Y row ⟨s, h⟩ hg hr
    exact ⟨s, h.ins, (SK.stab (β := Unit) (s := s) (F := F) (fun b hb hf => by have := h.own b hb; have := hF b hf; omega)).own () X Y row h.p hg hr, ownFrom_blk B bs (fun _ : Unit => #[s.v]) _ () X Y row h.box hg hr, h.own, h.c, ownFrom_blk B _ (fun _ : Unit => #[.nilIface]) _ () X Y row h.r8 hg hr, ownFrom_blk B _ (fun _ : Unit => #[.int .i64 0]) _ () X Y row h.r9 hg hr, (stab_chg (β := Unit) (S := F) (F := F) hB (fun b h => .inl h)).own () X Y row h.chg hg hr⟩
  · rintro pre X Y ⟨s, h⟩ hc
    exact ⟨s, h.ins, SK.chg h.p hc (fun b hb hf => by have := h.own b hb; have := hF b hf; omega), hc.blk h.box (fun e => by have := hF _ e; omega), h.own, h.c, hc.blk h.r8 (fun e => by have := hF _ e; omega), hc.blk h.r9 (fun e => by have := hF _ e; omega), h.chg.then hc⟩
theorem FW.step {F : Nat → Prop} {w V V' : World} {bs : Nat} {Ins Ins' : SK → Prop} {C : Nat → Prop} {s s' : SK} (h : FW F w bs Ins C V s) (hbs : w.heap.size + 2 ≤ bs) (hi : Ins' s') (hp : s'.P V') (hv : s'.v = s.v) (ho : ∀ q, s'.own q → s.own q ∨ V.heap.size ≤ q) (hc : Chg s.own V V') (B : Nat) :
    KeepsFrom B V V' ∧ (∀ b, b < w.heap.size → V'.heap[b]? = V.heap[b]?) ∧ FW F w bs Ins' (fun q => s'.own q ∨ q = w.heap.size ∨ q = w.heap.size + 1) V' s' ∧ (∀ k, (s'.own k ∨ k = w.heap.size ∨ k = w.heap.size + 1) → (C k ∨ V.heap.size ≤ k) ∧ k < V'.heap.size) ∧ ∀ k, k < V.heap.size → ¬ C k → V'.heap[k]? = V.heap[k]? := by
  have h8 := blk_lt h.r8
  have h9 := blk_lt h.r9
  have hb := blk_lt h.box
  have hz := hc.size
  refine ⟨⟨hz, fun k o _ hk hcell => hc.blk hk (fun e => by
    obtain ⟨cs, t, h1⟩ := SK.cellsOf h.p k e
    rw [h1] at hk; cases hk; cases hcell)⟩, fun b hb => hc.block b (by omega) (fun e => by have := h.own b e; omega),
    ⟨hi, hp, by rw [hv]; exact hc.blk h.box (fun e => (h.own _ e).2 rfl), fun q hq => (ho q hq).elim (h.own q) (fun e => ⟨by omega, by omega⟩), fun q => Iff.rfl, hc.blk h.r8 (fun e => by have := h.own _ e; omega), hc.blk h.r9 (fun e => by have := h.own _ e; omega), h.chg.trans hc (fun b hb e => by have := h.own b e; omega)⟩,
    fun k hk => ?_, fun k hk hnk => hc.block k hk (fun e => hnk ((h.c k).2 (.inl e)))⟩
  rcases hk with hk | hk | hk
  · exact ⟨(ho k hk).imp (fun e => (h.c k).2 (.inl e)) id, SK.lt hp k hk⟩
  · exact ⟨.inl ((h.c k).2 (.inr (.inl hk))), by omega⟩
  · exact ⟨.inl ((h.c k).2 (.inr (.inr hk))), by omega⟩
/-- the two uses: a YFast, the trie of the key 5 -/
def Mode (tag limit : Int) (S : List Int → Prop) : Bool → Prop
  | true => tag = 3 ∧ 1000 ≤ limit ∧ ∀ xs, S xs → xs.length ≤ 80 ∧ U64 xs
  | false => tag = 4 ∧ 11 ≤ limit ∧ ∀ xs, S xs → xs = [5]
def FIns (limit : Int) : Bool → List Int → SK → Prop
  | true, pre, s => ∃ d, s = .y d ∧ d.ks.length ≤ pre.length ∧ d.n ≤ pre.length ∧ d.limit = limit ∧ d.xd.limit = limit
  | false, pre, s => (pre = [] ∧ ∃ d, s = .e d) ∨ (pre = [5] ∧ ∃ d, s = .t d)
def FQ : Bool → Int → Prop
  | true, er => er ≠ 6
  | false, er => er = 0
def FRes : Bool → SK → Prop
  | true, s => ∃ d, s = .y d ∧ d.ks.length ≤ 80
  | false, s => ∃ d, s = .t d
set_option maxRecDepth 100000 in
set_option maxHeartbeats 4000000 in
theorem faceFill (md : Bool) (tag seed limit : Int) {S : List Int → Prop} (hmd : Mode tag limit S md) (h1 : limit ≤ 1048576) (it : Value) {St : World → Prop} {F R : Nat → Prop} (hit : ItQ Tryz.prog it k1 St F R S) (w : World) (hSt : St w) (hR : ∀ b, R b → b < w.heap.size) :
    Calls Tryz.prog 86 #[.int .i64 tag, .int .u64 seed, .int .i64 limit, it] w fun e w' => ∃ (v : Value) (er : Int), e = .returned (.tuple #[v, .int .i64 er]) ∧ Hid (FQ md er) ∧ Hid (er ≠ 0 → v = .nilIface) ∧ Hid (er = 0 → ∃ s' : SK, v = s'.v ∧ s'.P w' ∧ (∀ q, s'.own q → w.heap.size ≤ q) ∧ FRes md s') ∧ Hid (St w') ∧ Hid (Chg F w w') := by
  obtain ⟨⟨gf, lb, rfl, heg, hseq⟩, hstay, hsub⟩ := hit
  have HST := Lib.hid hSt
  have HSTAY := Lib.hid hstay
  have HRW := Lib.hid hR
  have HF := Lib.hid (show ∀ b, F b → b < w.heap.size from fun b h => hR b (hsub b h))
  have HMD := Lib.hid hmd
  obtain ⟨W1, hW1⟩ : ∃ W1, W1 = (w.alloc (.cells #[.nilIface] 73)).alloc (.cells #[.int .i64 0] 30) := ⟨_, rfl⟩
  have s1 : W1.heap.size = w.heap.size + 1 + 1 := by rw [hW1]; simp
  have HB1 := Lib.hid (show Below w.heap.size w W1 by rw [hW1]; exact ((Below.refl _ w).alloc (Nat.le_refl _) _).alloc (by simp) _)
  have HX1 := Lib.hid (show W1.heap[w.heap.size]? = some (.cells #[.nilIface] 73 (0, 0)) by rw [hW1]; exact blk_old (blk_new w _ _) _)
  have HY1 := Lib.hid (show W1.heap[w.heap.size + 1]? = some (.cells #[.int .i64 0] 30 (0, 0)) by rw [hW1]; have := blk_new (w.alloc (.cells #[.nilIface] 73)) #[.int .i64 0] 30; simpa only [World.size_alloc] using this)
  have HW1 := Lib.hid hW1
  have HNEW := Lib.hid (faceNew tag seed limit W1 (by cases md; exact .inr (.inr hmd.1); exact .inr (.inl hmd.1)) (by cases md; have := hmd.2.1; omega; have := hmd.2.1; omega) (fun e => by cases md; exact hmd.2.1; have := hmd.2.1; omega) h1)
  clear hSt hmd hW1
  refine (callsIn_wide (n := 9)).1 ?_
  refine callsIn_of_wp_marks Tryz.func86 rfl trivial ?_ rfl
  simp only [Tryz.ntmps86, List.size_toArray, List.length_cons, List.length_nil, Nat.reduceAdd, Nat.reduceSub, Array.replicate_succ, Array.replicate_zero, List.push_toArray, List.append_toArray, List.nil_append, List.cons_append]
  have hfn : Fence.wide.fn 85 := trivial
  gi_wp2
  rw [← HW1.out]
  refine (callsIn_wide.2 HNEW.out).mono ?_
  rintro e W2 ⟨s0, rfl, HP0, HFR, HOW, HB2⟩
  have hz2 := HB2.out.size
  obtain ⟨ti, vi, hsv⟩ := s0.iface
  have hsv2 := hsv
  rw [hsv]
  clear HNEW HW1
  gi_wp2
  obtain ⟨W0, hW0⟩ : ∃ W0, W0 = W2.alloc (.cells #[.iface ti vi] 73) := ⟨_, rfl⟩
  rw [← hW0]
  have s0' : W0.heap.size = W2.heap.size + 1 := by rw [hW0]; simp
  have HB0 := Lib.hid (show Below W2.heap.size W2 W0 by rw [hW0]; exact (Below.refl _ _).alloc (Nat.le_refl _) _)
  have HX0 := Lib.hid (show W0.heap[W2.heap.size]? = some (.cells #[s0.v] 73 (0, 0)) by rw [hW0, hsv2]; exact blk_new _ _ _)
  have HBW := Lib.hid (show Below w.heap.size w W0 from below_then (below_then HB1.out HB2.out) HB0.out)
  have hbs : w.heap.size + 2 ≤ W2.heap.size := by omega
  have HINI := Lib.hid (show FW F w W2.heap.size (FIns limit md []) (fun q => s0.own q ∨ q = w.heap.size ∨ q = w.heap.size + 1) W0 s0 from
    ⟨by
      have hfr := HFR.out
      cases md with
      | true =>
        obtain ⟨rfl, _, _⟩ := HMD.out
        cases s0 with
        | y d => exact ⟨d, rfl, by rw [hfr.2.1]; simp, by have h : d.n = 0 := hfr.2.2.2.2; rw [h]; simp, hfr.2.2.1, hfr.2.2.2.1⟩
        | e d => exact absurd hfr.1 (by decide)
        | t d => exact hfr.elim
        | x d => exact absurd hfr.1 (by decide)
      | false =>
        obtain ⟨rfl, _, _⟩ := HMD.out
        cases s0 with
        | e d => exact .inl ⟨rfl, d, rfl⟩
        | y d => exact absurd hfr.1 (by decide)
        | t d => exact hfr.elim
        | x d => exact absurd hfr.1 (by decide), SK.below HP0.out HB0.out, HX0.out, fun q hq => ⟨by have := HOW.out q hq; omega, fun e => by have := SK.lt HP0.out q hq; omega⟩, fun q => Iff.rfl,
      blk_below (blk_below HX1.out HB2.out rfl) HB0.out rfl, blk_below (blk_below HY1.out HB2.out rfl) HB0.out rfl, Chg.of_below HBW.out⟩)
  have HS0 := Lib.hid (show ∀ q, s0.own q → q < W0.heap.size from fun q hq => by have := SK.lt HP0.out q hq; omega)
  clear hW0
  refine range_Q (n := 9) (R := R) (by decide) (gf := gf) (lb := lb) rfl heg hseq hstay (fun b h => by have := hR b h; omega) hsub (hstay _ _ HST.out (fun b h => HBW.out.block b (hR b h))) (fun _ => rfl)
    (fun C pre V => ∃ s, FW F w W2.heap.size (FIns limit md pre) C V s)
    (fun c V => c = .ret ∧ V.heap[w.heap.size]? = some (.cells #[.nilIface] 73 (0, 0)) ∧ V.heap[w.heap.size + 1]? = some (.cells #[.int .i64 5] 30 (0, 0)) ∧ FQ md 5 ∧ Chg F w V)
    (fun C => FW.stab HF.out hbs (by omega))
    ((stab_pure _ _ _).and ((stab_obj (by omega) (fun h => by have := HF.out _ h; omega)).and ((stab_obj (by omega) (fun h => by have := HF.out _ h; omega)).and ((stab_pure _ _ _).and (stab_chg (by omega) (fun b h => .inl h))))))
    (fun q => s0.own q ∨ q = w.heap.size ∨ q = w.heap.size + 1) (fun q hq => by rcases hq with h | h | h; exact HS0.out q h; omega; omega)
    ⟨s0, HINI.out⟩
    (fun x a' V => a' = { tmps := #[.int .i64 tag, .int .u64 seed, .int .i64 limit, .func (.func gf) #[] lb, undef, undef, undef, undef, .pointer (some ⟨w.heap.size, 0, none⟩), .pointer (some ⟨w.heap.size + 1, 0, none⟩), .pointer (some ⟨W2.heap.size, 0, none⟩), .int .i64 0, .int .u64 x, .tuple #[.iface ti vi, .int .i64 0], .int .i64 tag, .int .u64 seed, .int .i64 limit, .tuple #[.iface ti vi, .int .i64 0], .iface ti vi, .int .i64 0, .int .i64 0, .bool false, undef, .func (.func gf) #[] lb, .int .u64 x, undef, undef, undef, undef, undef], defers := [] })
    (fun x a' _ _ _ _ h _ _ => h) ?assign ?body ?done ?stop
  case assign =>
    clear hstay hsub hseq hR heg
    intro l2 C pre x V K hI hK
    gi_wp2
    exact hK _ _ (KeepsFrom.refl _ _) (Below.refl _ _) hI rfl
  case body =>
    clear hstay hsub hseq hR heg
    rintro l2 C pre x a' V hl2 hV hCb ⟨s, hfw⟩ hst rfl ⟨ys, hys, hpre⟩
    have HFW := Lib.hid hfw
    have HSTV := Lib.hid hst
    have c10 := blk_cell hfw.box 0 (v := s.v) rfl
    clear hfw hst hCb
    cases md with
    | true =>
      obtain ⟨d, rfl, hk, hn, hl, hxl⟩ := HFW.out.ins
      obtain ⟨_, hlim, hS⟩ := HMD.out
      have hlen := hpre.length_le
      have hy80 := (hS ys hys).1
      have hx : 0 ≤ x ∧ x ≤ 18446744073709551615 := (hS ys hys).2 x (hpre.subset (by simp))
      simp only [List.length_append, List.length_cons, List.length_nil] at hlen
      have HINS := Lib.hid (yInsert d x V HFW.out.p (by omega) (by omega) (by omega) (by omega) hx)
      have HPB := Lib.hid (show pre.length ≤ 79 ∧ d.ks.length ≤ pre.length ∧ d.n ≤ pre.length ∧ d.limit = limit ∧ d.xd.limit = limit from ⟨by omega, hk, hn, hl, hxl⟩)
      simp only [SK.v] at c10
      have hfn2 : Fence.wide.fn 353 := trivial
      clear hS hk hn hl hxl hx hpre hys hlim
      gi_wp2
      refine ⟨fun _ _ => trivial, ?_⟩
      go_invoke
      gi_wp2
      refine (callsIn_wide.2 HINS.out).mono ?_
      rintro e V' ⟨er, d', rfl, HE, HYS⟩
      have HSTEP := Lib.hid (HFW.out.step (Ins' := FIns limit true (pre ++ [x])) (s' := .y d') (V' := V') hbs ⟨d', rfl, by have := HYS.out.len; have := HPB.out; simp; omega, by have := HYS.out.n; have := HPB.out; simp; omega, by rw [HYS.out.limit]; exact HPB.out.2.2.2.1, by rw [HYS.out.xlimit]; exact HPB.out.2.2.2.2⟩ HYS.out.yf (by simp only [SK.v, HYS.out.y]) HYS.out.own HYS.out.chg w.heap.size)
      have HST2 := Lib.hid (HSTAY.out _ _ HSTV.out (fun b hb => HSTEP.out.2.1 b (HRW.out b hb)))
      clear HINS c10
      by_cases h5 : er = 5
      · subst h5
        have f8 := blk_free HSTEP.out.2.2.1.r8 0
        have f9 := blk_free HSTEP.out.2.2.1.r9 0
        have c8 := blk_cell HSTEP.out.2.2.1.r8 0 (v := .nilIface) rfl
        have c9 := blk_cell HSTEP.out.2.2.1.r9 0 (v := .int .i64 0) rfl
        gi_wp2
        have hs8 := blk_set HSTEP.out.2.2.1.r8 0 .nilIface
        have hs8' : ((V'.setCell ⟨w.heap.size, 0, none⟩ .nilIface).setCell ⟨w.heap.size + 1, 0, none⟩ (.int .i64 5)).heap[w.heap.size]? = some (.cells #[.nilIface] 73 (0, 0)) := (Below.heap_setCell _ ⟨w.heap.size + 1, 0, none⟩ (.int .i64 5) w.heap.size (by show w.heap.size ≠ w.heap.size + 1; omega)).trans (by simpa using hs8)
        have hs9 := blk_set (show (V'.setCell ⟨w.heap.size, 0, none⟩ .nilIface).heap[w.heap.size + 1]? = _ from (Below.heap_setCell V' ⟨w.heap.size, 0, none⟩ .nilIface (w.heap.size + 1) (by show w.heap.size + 1 ≠ w.heap.size; omega)).trans HSTEP.out.2.2.1.r9) 0 (.int .i64 5)
        have hcs := ((Chg.refl (fun q => q = w.heap.size ∨ q = w.heap.size + 1) V').set (b := w.heap.size) (i := 0) .nilIface (.inl (.inl rfl))).set (b := w.heap.size + 1) (i := 0) (.int .i64 5) (.inl (.inr rfl))
        have hVV := HSTEP.out.1.size
        refine ⟨(keepsFrom_mono HSTEP.out.1 (by omega)).trans (((KeepsOthers.setCell _ _ _).trans (KeepsOthers.setCell _ _ _)).from _), HSTAY.out _ _ HST2.out (fun b hb => hcs.block b (by have := HRW.out b hb; omega) (fun e => by have := HRW.out b hb; omega)), ⟨rfl, hs8', by simpa using hs9, by show (5 : Int) ≠ 6; decide, (HSTEP.out.2.2.1.chg.set _ (.inr (Nat.le_refl _))).set _ (.inr (by omega))⟩, fun k hk hnk => (hcs.block k (by omega) (fun e => hnk ((HFW.out.c k).2 (.inr e)))).trans (HSTEP.out.2.2.2.2 k hk hnk)⟩
      · have h52 : (er == 5) = false := by simpa using h5
        clear h5
        gi_wp2
        exact ⟨keepsFrom_mono HSTEP.out.1 (by omega), HST2.out, _, ⟨_, HSTEP.out.2.2.1⟩, HSTEP.out.2.2.2.1, HSTEP.out.2.2.2.2⟩
    | false =>
      obtain ⟨_, hlim, hS⟩ := HMD.out
      have hy5 := hS ys hys
      subst hy5
      obtain ⟨rfl, rfl⟩ : pre = [] ∧ x = 5 := by
        rcases pre with _ | ⟨p0, pre⟩
        · simpa using hpre
        · have := hpre.length_le; simp at this
      obtain ⟨d, rfl⟩ : ∃ d, s = .e d := by
        rcases HFW.out.ins with ⟨_, h⟩ | ⟨h, _⟩
        · exact h
        · cases h
      have hT0 : T0 V d := HFW.out.p
      have HINS := Lib.hid (tInsert d V hT0.tp hT0.n hT0.ls hT0.lim hT0.kb)
      simp only [SK.v] at c10
      have hfn2 : Fence.wide.fn 394 := trivial
      clear hS hpre hys hlim hT0
      gi_wp2
      refine ⟨fun _ _ => trivial, ?_⟩
      go_invoke
      gi_wp2
      refine (callsIn_wide.2 HINS.out).mono ?_
      rintro e V' ⟨rfl, d', HT1, HT2, HT3, HT4, HT5⟩
      have HSTEP := Lib.hid (HFW.out.step (Ins' := FIns limit false ([] ++ [5])) (s' := .t d') (V' := V') hbs (.inr ⟨rfl, d', rfl⟩) ⟨HT1.out, HT3.out, HT2.out.2.1, HT2.out.2.2.1, HT2.out.2.2.2⟩ (by simp only [SK.v, HT2.out.1]) HT4.out HT5.out w.heap.size)
      have HST2 := Lib.hid (HSTAY.out _ _ HSTV.out (fun b hb => HSTEP.out.2.1 b (HRW.out b hb)))
      clear HINS c10
      gi_wp2
      exact ⟨keepsFrom_mono HSTEP.out.1 (by omega), HST2.out, _, ⟨_, HSTEP.out.2.2.1⟩, HSTEP.out.2.2.2.1, HSTEP.out.2.2.2.2⟩
  case done =>
    clear hstay hsub hseq hR heg
    rintro D C xs V hD hxs ⟨s, hfw⟩ hst hM hCb hK
    have HFW := Lib.hid hfw
    have HSTV := Lib.hid hst
    have c10 := blk_cell hfw.box 0 (v := s.v) rfl
    have f8 := blk_free hfw.r8 0
    have f9 := blk_free hfw.r9 0
    have c8 := blk_cell hfw.r8 0 (v := .nilIface) rfl
    have c9 := blk_cell hfw.r9 0 (v := .int .i64 0) rfl
    have HXS := Lib.hid hxs
    obtain ⟨t2, v2, hsv3⟩ := s.iface
    have HSV := Lib.hid hsv3
    rw [hsv3] at c10
    clear hfw hst hxs hsv3
    gi_wp2
    have h8 := blk_lt HFW.out.r8
    have h9 := blk_lt HFW.out.r9
    have hs8 := blk_set HFW.out.r8 0 (.iface t2 v2)
    have hs8' : ((V.setCell ⟨w.heap.size, 0, none⟩ (.iface t2 v2)).setCell ⟨w.heap.size + 1, 0, none⟩ (.int .i64 0)).heap[w.heap.size]? = some (.cells #[.iface t2 v2] 73 (0, 0)) := (Below.heap_setCell _ ⟨w.heap.size + 1, 0, none⟩ (.int .i64 0) w.heap.size (by show w.heap.size ≠ w.heap.size + 1; omega)).trans (by simpa using hs8)
    have hs9 := blk_set (show (V.setCell ⟨w.heap.size, 0, none⟩ (.iface t2 v2)).heap[w.heap.size + 1]? = _ from (Below.heap_setCell V ⟨w.heap.size, 0, none⟩ (.iface t2 v2) (w.heap.size + 1) (by show w.heap.size + 1 ≠ w.heap.size; omega)).trans HFW.out.r9) 0 (.int .i64 0)
    have hcs := ((Chg.refl (fun q => q = w.heap.size ∨ q = w.heap.size + 1) V).set (b := w.heap.size) (i := 0) (.iface t2 v2) (.inl (.inl rfl))).set (b := w.heap.size + 1) (i := 0) (.int .i64 0) (.inl (.inr rfl))
    have hK2 := hcs.blk hK (fun e => by omega)
    have HCE := Lib.hid ((HFW.out.chg.set (b := w.heap.size) (i := 0) (.iface t2 v2) (.inr (by omega))).set (b := w.heap.size + 1) (i := 0) (.int .i64 0) (.inr (by omega)))
    have HSE := Lib.hid (HSTAY.out _ _ HSTV.out (fun b hb => hcs.block b (by have := HRW.out b hb; omega) (fun e => by have := HRW.out b hb; omega)))
    have HP2 := Lib.hid (SK.stay HFW.out.p (Y := ((V.setCell ⟨w.heap.size, 0, none⟩ (.iface t2 v2)).setCell ⟨w.heap.size + 1, 0, none⟩ (.int .i64 0)).putObj D (.deferred none)) (fun q hq => (World.putObj_heap_other (fun e => by
      obtain ⟨cs, t, h1⟩ := SK.cellsOf HFW.out.p q hq
      rw [e, hK] at h1; cases h1)).trans (hcs.block q (SK.lt HFW.out.p q hq) (fun e => by have := HFW.out.own q hq; omega))))
    refine ⟨by simp, .inl ⟨_, _, rfl, run_takeDeferred hK2, ?_⟩⟩
    have r4 := blk_cell (blk_put hs8' (.deferred none) (D := D) (by omega)) 0 (v := .iface t2 v2) rfl
    have r5 := blk_cell (blk_put hs9 (.deferred none) (D := D) (by omega)) 0 (v := .int .i64 0) rfl
    have HRS := Lib.hid (show FRes md s from by
      have hi := HFW.out.ins
      cases md with
      | true =>
        obtain ⟨d, rfl, hk, _⟩ := hi
        exact ⟨d, rfl, Nat.le_trans hk (HMD.out.2.2 xs HXS.out).1⟩
      | false =>
        have h5 := HMD.out.2.2 xs HXS.out
        rcases hi with ⟨h, _⟩ | ⟨_, h⟩
        · rw [h] at h5; cases h5
        · exact h)
    exact ⟨.tuple #[.iface t2 v2, .int .i64 0], (by simp [results, Tryz.results86, go_sem, r4, r5]), .iface t2 v2, 0, rfl, (by cases md; rfl; exact (by decide : (0 : Int) ≠ 6)), fun h => absurd rfl h, fun _ => ⟨s, HSV.out.symm, HP2.out, fun q hq => by have := HFW.out.own q hq; omega, HRS.out⟩, HSTAY.out _ _ HSE.out (same_put HRW.out (by omega)), chg_putObj HCE.out (by omega)⟩
  case stop =>
    clear hstay hsub hseq hR heg
    rintro D c V hD ⟨rfl, h8, h9, hq, hc⟩ hst hK
    have HCV := Lib.hid hc
    have HSTV := Lib.hid hst
    have H8 := Lib.hid h8
    have H9 := Lib.hid h9
    have HQ := Lib.hid hq
    clear h8 h9 hc hst hq
    gi_wp2
    refine ⟨by simp, .inl ⟨_, _, rfl, run_takeDeferred hK, ?_⟩⟩
    have r4 := blk_cell (blk_put H8.out (.deferred none) (D := D) (by omega)) 0 (v := .nilIface) rfl
    have r5 := blk_cell (blk_put H9.out (.deferred none) (D := D) (by omega)) 0 (v := .int .i64 5) rfl
    exact ⟨.tuple #[.nilIface, .int .i64 5], (by simp [results, Tryz.results86, go_sem, r4, r5]), .nilIface, 5, rfl, HQ.out, fun _ => rfl, (fun h => by cases h), HSTAY.out _ _ HSTV.out (same_put HRW.out (by omega)), chg_putObj HCV.out (by omega)⟩
end Go.Proofs.YtcnaikoloagbdaaGreat
