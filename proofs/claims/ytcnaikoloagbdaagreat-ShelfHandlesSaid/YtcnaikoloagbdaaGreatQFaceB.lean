/-
  face.Rank, Select, Count of a set that doesn't know its ranks; walked.
  face.Count, face.Encode; walked.
-/
import Derived.Test.YtcnaikoloagbdaaGreatQFaceA
import Derived.Test.YtcnaikoloagbdaaGreatQFace5
import Derived.Test.YtcnaikoloagbdaaGreatQSiftB
import Derived.Test.YtcnaikoloagbdaaGreatQCode
namespace Go.Proofs.YtcnaikoloagbdaaGreat
set_option linter.unusedVariables false
set_option linter.unusedSimpArgs false
open Go.RowKit Go.Shelf
attribute [local go_sem] Oper.semAt_some k1
attribute [local go_sem ↓] Go.wp_at_zero Go.wp_at_succ

theorem stab_int {β : Type} {B b : Nat} {F : Nat → Prop} {k : IntKind} {t : TypeId} (hb : ¬ F b) : Stab B F (fun (_ : β) (W : World) => ∃ n : Int, W.heap[b]? = some (.cells #[.int k n] t (0, 0))) :=
  ⟨fun _ X Y row hs hg hr => by
    obtain ⟨n, h⟩ := hs
    exact ⟨n, ownFrom_blk B b (fun _ : Unit => #[.int k n]) t () X Y row h hg hr⟩, fun _ X Y hs hc => by
    obtain ⟨n, h⟩ := hs
    exact ⟨n, hc.blk h hb⟩⟩
def SK.bare : SK → Prop
  | .x _ => True
  | .y _ => True
  | _ => False
set_option maxRecDepth 100000 in
theorem ranked_iface : ∃ want, Tryz.prog.underlying 115 = some (.interface want) ∧ ((Tryz.prog.info? 178).map (fun i => (lacking want i.methods).isEmpty) = some false) ∧ ((Tryz.prog.info? 182).map (fun i => (lacking want i.methods).isEmpty) = some false) := by
  have h : (match Tryz.prog.underlying 115 with | some (.interface want) => (Tryz.prog.info? 178).map (fun i => (lacking want i.methods).isEmpty) == some false && (Tryz.prog.info? 182).map (fun i => (lacking want i.methods).isEmpty) == some false | _ => false) = true := by kernel_rfl
  generalize Tryz.prog.underlying 115 = o at h
  match o, h with
  | some (.interface a), h => 
    simp only [Bool.and_eq_true, beq_iff_eq] at h
    exact ⟨a, rfl, h.1, h.2⟩
theorem unranked (s : SK) (hs : s.bare) (xT : TypeId) (w : World) : (Instr.typeAssert s.v xT 115 true).run Tryz.prog w = .ok (.tuple #[.nilIface, .bool false]) w := by
  obtain ⟨want, hu, hx, hy⟩ := ranked_iface
  cases s with
  | e d => exact hs.elim
  | t d => exact hs.elim
  | x d => exact run_typeAssert_lacksB hu hx (by kernel_rfl) _ xT w
  | y d => exact run_typeAssert_lacksB hu hy (by kernel_rfl) _ xT w
set_option maxRecDepth 100000 in
set_option maxHeartbeats 4000000 in
theorem faceRank (s : SK) (hs : s.bare) {G : World → Prop} {R F : Nat → Prop} (E : Env G R F) (I : In s G R F) (k : Int) (w : World) (h : G w) :
    Calls Tryz.prog 39 #[s.v, .int .u64 k] w fun e w' => ∃ n : Int, e = .returned (.int .i64 n) ∧ Hid (G w') ∧ Hid (Chg F w w') := by
  have HE := Lib.hid E
  have HI := Lib.hid I
  have H := Lib.hid h
  have HFL := Lib.hid (show ∀ q, F q → q < w.heap.size from fun q hq => E.lt w h q (E.sub q hq))
  have hta := unranked s hs 73 (w.alloc (.cells #[.int .u64 k] 22))
  clear E I h
  refine (callsIn_wide (n := 9)).1 ?_
  refine callsIn_of_wp_marks Tryz.func39 rfl trivial ?_ rfl
  simp only [Tryz.ntmps39, List.size_toArray, List.length_cons, List.length_nil, Nat.reduceAdd, Nat.reduceSub, Array.replicate_succ, Array.replicate_zero, List.push_toArray, List.append_toArray, List.nil_append, List.cons_append]
  have hfn : Fence.wide.fn 71 := trivial
  gi_wp2
  have hB2 := ((Below.refl w.heap.size w).alloc (Nat.le_refl _) (.cells #[.int .u64 k] 22)).alloc (by simp) (.cells #[.int .i64 0] 3)
  refine (callsIn_wide.2 (faceAllG s HE.out HI.out _ (HE.out.below H.out hB2))).mono ?_
  rintro e w2 ⟨it, o, rfl, rfl, HIT, HG⟩
  obtain ⟨W0, hW0⟩ : ∃ W0, W0 = ((w.alloc (.cells #[.int .u64 k] 22)).alloc (.cells #[.int .i64 0] 3)).alloc o := ⟨_, rfl⟩
  rw [← hW0] at HG ⊢
  simp only [World.size_alloc] at HIT HG
  have s0 : W0.heap.size = w.heap.size + 1 + 1 + 1 := by rw [hW0]; simp
  have HB0 := Lib.hid (show Below w.heap.size w W0 by rw [hW0]; exact hB2.alloc (by simp; omega) _)
  have HK0 := Lib.hid (show W0.heap[w.heap.size]? = some (.cells #[.int .u64 k] 22 (0, 0)) by rw [hW0]; exact blk_old (blk_old (blk_new w _ _) _) _)
  have HN0 := Lib.hid (show W0.heap[w.heap.size + 1]? = some (.cells #[.int .i64 0] 3 (0, 0)) by rw [hW0]; exact blk_old (by have := blk_new (w.alloc (.cells #[.int .u64 k] 22)) #[.int .i64 0] 3; simpa only [World.size_alloc] using this) _)
  obtain ⟨⟨gf, lb, rfl, heg, hseq⟩, hstay, hsub⟩ := HIT.out
  clear hW0 hB2 hta HIT
  gi_wp2
  have HSTAY := Lib.hid hstay
  have HFN := Lib.hid (show ∀ q, F q → q ≠ w.heap.size ∧ q ≠ w.heap.size + 1 from fun q hq => by have := HFL.out q hq; omega)
  have HRL := Lib.hid (show ∀ q, (R q ∨ q = w.heap.size + 1 + 1) → q < w.heap.size ∨ q = w.heap.size + 1 + 1 from fun q hq => hq.imp (fun h => HE.out.lt w H.out q h) id)
  have hRW : ∀ q, (R q ∨ q = w.heap.size + 1 + 1) → q < W0.heap.size := fun q hq => by have := HRL.out q hq; omega
  have HRW := Lib.hid hRW
  refine range_F (n := 9) (R := fun q => R q ∨ q = w.heap.size + 1 + 1) (by decide) (gf := gf) (lb := lb) rfl heg hseq hstay hRW hsub HG.out (fun _ => rfl)
    (fun C pre V => (∀ q, C q ↔ q = w.heap.size + 1) ∧ (∃ n : Int, V.heap[w.heap.size + 1]? = some (.cells #[.int .i64 n] 3 (0, 0))) ∧ V.heap[w.heap.size]? = some (.cells #[.int .u64 k] 22 (0, 0)) ∧ Chg F w V)
    (fun c V => c = .exit 0 ∧ (∃ n : Int, V.heap[w.heap.size + 1]? = some (.cells #[.int .i64 n] 3 (0, 0))) ∧ Chg F w V)
    (fun C => (stab_pure _ _ _).and ((stab_int (fun h => (HFN.out _ h).2 rfl)).and ((stab_obj (by omega) (fun h => (HFN.out _ h).1 rfl)).and (stab_chg (by omega) (fun b h => .inl h)))))
    ((stab_pure _ _ _).and ((stab_int (fun h => (HFN.out _ h).2 rfl)).and (stab_chg (by omega) (fun b h => .inl h))))
    (fun q => q = w.heap.size + 1) (fun q hq => by omega) ⟨fun q => Iff.rfl, ⟨0, HN0.out⟩, HK0.out, Chg.of_below HB0.out⟩
    (fun x a' V => a' = { tmps := #[s.v, .int .u64 k, undef, .pointer (some ⟨w.heap.size, 0, none⟩), .int .i64 0, .nilIface, .bool false, .pointer (some ⟨w.heap.size + 1, 0, none⟩), .int .u64 x, .tuple #[.nilIface, .bool false], s.v, .tuple #[.nilIface, .bool false], .nilIface, .bool false, .bool false, undef, undef, undef, s.v, .func (.func gf) #[] lb, .int .u64 x, undef, undef, undef, undef, undef, undef], defers := [] })
    (fun x a' _ _ _ _ h _ _ => h) ?assign ?body ?done ?stop
  case assign =>
    clear hstay hsub hseq hRW heg
    intro l2 C pre x V K hI hK
    gi_wp2
    exact hK _ _ (KeepsFrom.refl _ _) (Below.refl _ _) hI rfl
  case body =>
    clear hstay hsub hseq hRW heg
    rintro l2 C pre x a' V hl2 hV hCb ⟨hC, ⟨n, hn⟩, hk, hc⟩ hst rfl hlen
    have c0 := blk_cell hk 0 rfl
    have c1 := blk_cell hn 0 rfl
    have f1 := blk_free hn 0
    have HC := Lib.hid hC
    have HN := Lib.hid hn
    have HKV := Lib.hid hk
    have HCV := Lib.hid hc
    have HSTV := Lib.hid hst
    clear hn hk hc hst hC hCb
    by_cases hx : k ≤ x
    · gi_wp2
      exact ⟨KeepsFrom.refl _ _, HSTV.out, ⟨rfl, ⟨n, HN.out⟩, HCV.out⟩, fun _ _ _ => rfl⟩
    · gi_wp2
      have hs3 := blk_set HN.out 0 (.int .i64 (wrap64 (n + 1)))
      have hcs := (Chg.refl (· = w.heap.size + 1) V).set (b := w.heap.size + 1) (i := 0) (.int .i64 (wrap64 (n + 1))) (.inl rfl)
      refine ⟨(KeepsOthers.setCell _ _ _).from _, HSTAY.out _ _ HSTV.out (fun b hb => hcs.block b (by have := HRW.out b hb; omega) (fun e => by have e' : b = w.heap.size + 1 := e; have := HRL.out b hb; omega)), C, ⟨HC.out, ⟨wrap64 (n + 1), by simpa using hs3⟩, hcs.blk HKV.out (fun e => by have e' : w.heap.size = w.heap.size + 1 := e; omega), HCV.out.set _ (.inr (by omega))⟩, fun q hq => ⟨.inl hq, ?_⟩, fun q hq hnq => hcs.block q hq (fun e => hnq ((HC.out q).2 e))⟩
      have := (HC.out q).1 hq
      rw [World.size_setCell]
      omega
  case done =>
    clear hstay hsub hseq hRW heg
    rintro D C xs V hD hxs ⟨hC, ⟨n, hn⟩, hk, hc⟩ hst hM _ hK
    have c1 := blk_cell hn 0 rfl
    have HCV := Lib.hid hc
    have HSTV := Lib.hid hst
    clear hn hk hc hst hC
    gi_wp2
    refine ⟨by simp, .inl ⟨_, _, rfl, run_takeDeferred hK, ?_⟩⟩
    exact ⟨_, results_tmp rfl _ _ _, n, rfl, (HSTAY.out _ _ HSTV.out (same_put HRW.out (by omega))).1, chg_putObj HCV.out (by omega)⟩
  case stop =>
    clear hstay hsub hseq hRW heg
    rintro D c V hD ⟨rfl, ⟨n, hn⟩, hc⟩ hst hK
    have c1 := blk_cell hn 0 rfl
    have HCV := Lib.hid hc
    have HSTV := Lib.hid hst
    clear hn hc hst
    gi_wp2
    refine ⟨by simp, .inl ⟨_, _, rfl, run_takeDeferred hK, ?_⟩⟩
    exact ⟨_, results_tmp rfl _ _ _, n, rfl, (HSTAY.out _ _ HSTV.out (same_put HRW.out (by omega))).1, chg_putObj HCV.out (by omega)⟩
theorem stab_bool {β : Type} {B b : Nat} {F : Nat → Prop} {t : TypeId} (hb : ¬ F b) : Stab B F (fun (_ : β) (W : World) => ∃ n : Bool, W.heap[b]? = some (.cells #[.bool n] t (0, 0))) :=
  ⟨fun _ X Y row hs hg hr => by
    obtain ⟨n, h⟩ := hs
    exact ⟨n, ownFrom_blk B b (fun _ : Unit => #[.bool n]) t () X Y row h hg hr⟩, fun _ X Y hs hc => by
    obtain ⟨n, h⟩ := hs
    exact ⟨n, hc.blk h hb⟩⟩
set_option maxRecDepth 100000 in
set_option maxHeartbeats 4000000 in
theorem faceSelect (s : SK) (hs : s.bare) {G : World → Prop} {R F : Nat → Prop} (E : Env G R F) (I : In s G R F) (k : Int) (w : World) (h : G w) :
    Calls Tryz.prog 41 #[s.v, .int .i64 k] w fun e w' => ∃ (x : Int) (b : Bool), e = .returned (.tuple #[.int .u64 x, .bool b]) ∧ Hid (G w') ∧ Hid (Chg F w w') := by
  have HE := Lib.hid E
  have HI := Lib.hid I
  have H := Lib.hid h
  have HFL := Lib.hid (show ∀ q, F q → q < w.heap.size from fun q hq => E.lt w h q (E.sub q hq))
  obtain ⟨W3, hW3⟩ : ∃ W3, W3 = ((w.alloc (.cells #[.int .i64 k] 3)).alloc (.cells #[.int .u64 0] 22)).alloc (.cells #[.bool false] 4) := ⟨_, rfl⟩
  have hta := unranked s hs 73 W3
  have s3 : W3.heap.size = w.heap.size + 1 + 1 + 1 := by rw [hW3]; simp
  have HB3 := Lib.hid (show Below w.heap.size w W3 by rw [hW3]; exact (((Below.refl w.heap.size w).alloc (Nat.le_refl _) _).alloc (by simp) _).alloc (by simp; omega) _)
  have HK3 := Lib.hid (show W3.heap[w.heap.size]? = some (.cells #[.int .i64 k] 3 (0, 0)) by rw [hW3]; exact blk_old (blk_old (blk_new w _ _) _) _)
  have HX3 := Lib.hid (show W3.heap[w.heap.size + 1]? = some (.cells #[.int .u64 0] 22 (0, 0)) by rw [hW3]; exact blk_old (by have := blk_new (w.alloc (.cells #[.int .i64 k] 3)) #[.int .u64 0] 22; simpa only [World.size_alloc] using this) _)
  have HY3 := Lib.hid (show W3.heap[w.heap.size + 1 + 1]? = some (.cells #[.bool false] 4 (0, 0)) by rw [hW3]; have := blk_new ((w.alloc (.cells #[.int .i64 k] 3)).alloc (.cells #[.int .u64 0] 22)) #[.bool false] 4; simpa only [World.size_alloc] using this)
  have HW3 := Lib.hid hW3
  clear E I h hW3
  refine (callsIn_wide (n := 9)).1 ?_
  refine callsIn_of_wp_marks Tryz.func41 rfl trivial ?_ rfl
  simp only [Tryz.ntmps41, List.size_toArray, List.length_cons, List.length_nil, Nat.reduceAdd, Nat.reduceSub, Array.replicate_succ, Array.replicate_zero, List.push_toArray, List.append_toArray, List.nil_append, List.cons_append]
  have hfn : Fence.wide.fn 71 := trivial
  rw [HW3.out] at hta
  gi_wp2
  rw [← HW3.out]
  clear hta
  refine (callsIn_wide.2 (faceAllG s HE.out HI.out _ (HE.out.below H.out HB3.out))).mono ?_
  rintro e w2 ⟨it, o, rfl, rfl, HIT, HG⟩
  obtain ⟨W0, hW0⟩ : ∃ W0, W0 = W3.alloc o := ⟨_, rfl⟩
  rw [← hW0] at HG ⊢
  rw [s3] at HIT HG
  have s0 : W0.heap.size = w.heap.size + 1 + 1 + 1 + 1 := by rw [hW0, World.size_alloc, s3]
  have HB0 := Lib.hid (show Below w.heap.size w W0 by rw [hW0]; exact HB3.out.alloc (by omega) _)
  have HK0 := Lib.hid (show W0.heap[w.heap.size]? = some (.cells #[.int .i64 k] 3 (0, 0)) by rw [hW0]; exact blk_old HK3.out _)
  have HX0 := Lib.hid (show W0.heap[w.heap.size + 1]? = some (.cells #[.int .u64 0] 22 (0, 0)) by rw [hW0]; exact blk_old HX3.out _)
  have HY0 := Lib.hid (show W0.heap[w.heap.size + 1 + 1]? = some (.cells #[.bool false] 4 (0, 0)) by rw [hW0]; exact blk_old HY3.out _)
  obtain ⟨⟨gf, lb, rfl, heg, hseq⟩, hstay, hsub⟩ := HIT.out
  clear hW0 HIT HB3 HK3 HX3 HY3 HW3
  gi_wp2
  have HSTAY := Lib.hid hstay
  have HFN := Lib.hid (show ∀ q, F q → q ≠ w.heap.size ∧ q ≠ w.heap.size + 1 ∧ q ≠ w.heap.size + 1 + 1 from fun q hq => by have := HFL.out q hq; omega)
  have HRL := Lib.hid (show ∀ q, (R q ∨ q = w.heap.size + 1 + 1 + 1) → q < w.heap.size ∨ q = w.heap.size + 1 + 1 + 1 from fun q hq => hq.imp (fun h => HE.out.lt w H.out q h) id)
  have hRW : ∀ q, (R q ∨ q = w.heap.size + 1 + 1 + 1) → q < W0.heap.size := fun q hq => by have := HRL.out q hq; omega
  have HRW := Lib.hid hRW
  refine range_F (n := 9) (R := fun q => R q ∨ q = w.heap.size + 1 + 1 + 1) (by decide) (gf := gf) (lb := lb) rfl heg hseq hstay hRW hsub HG.out (fun _ => rfl)
    (fun C pre V => (∀ q, C q ↔ (w.heap.size ≤ q ∧ q < w.heap.size + 3)) ∧ (∃ n : Int, V.heap[w.heap.size]? = some (.cells #[.int .i64 n] 3 (0, 0))) ∧ (∃ n : Int, V.heap[w.heap.size + 1]? = some (.cells #[.int .u64 n] 22 (0, 0))) ∧ (∃ n : Bool, V.heap[w.heap.size + 1 + 1]? = some (.cells #[.bool n] 4 (0, 0))) ∧ Chg F w V)
    (fun c V => c = .ret ∧ (∃ n : Int, V.heap[w.heap.size + 1]? = some (.cells #[.int .u64 n] 22 (0, 0))) ∧ (∃ n : Bool, V.heap[w.heap.size + 1 + 1]? = some (.cells #[.bool n] 4 (0, 0))) ∧ Chg F w V)
    (fun C => (stab_pure _ _ _).and ((stab_int (fun h => (HFN.out _ h).1 rfl)).and ((stab_int (fun h => (HFN.out _ h).2.1 rfl)).and ((stab_bool (fun h => (HFN.out _ h).2.2 rfl)).and (stab_chg (by omega) (fun b h => .inl h))))))
    ((stab_pure _ _ _).and ((stab_int (fun h => (HFN.out _ h).2.1 rfl)).and ((stab_bool (fun h => (HFN.out _ h).2.2 rfl)).and (stab_chg (by omega) (fun b h => .inl h)))))
    (fun q => w.heap.size ≤ q ∧ q < w.heap.size + 3) (fun q hq => by omega) ⟨fun q => Iff.rfl, ⟨k, HK0.out⟩, ⟨0, HX0.out⟩, ⟨false, HY0.out⟩, Chg.of_below HB0.out⟩
    (fun x a' V => a' = { tmps := #[s.v, .int .i64 k, undef, .pointer (some ⟨w.heap.size, 0, none⟩), .pointer (some ⟨w.heap.size + 1, 0, none⟩), .pointer (some ⟨w.heap.size + 1 + 1, 0, none⟩), .nilIface, .bool false, .int .u64 x, .tuple #[.nilIface, .bool false], s.v, .tuple #[.nilIface, .bool false], .nilIface, .bool false, .bool false, undef, undef, undef, undef, undef, s.v, .func (.func gf) #[] lb, .int .u64 x, undef, undef, undef, undef, undef], defers := [] })
    (fun x a' _ _ _ _ h _ _ => h) ?assign ?body ?done ?stop
  case assign =>
    clear hstay hsub hseq hRW heg
    intro l2 C pre x V K hI hK
    gi_wp2
    exact hK _ _ (KeepsFrom.refl _ _) (Below.refl _ _) hI rfl
  case body =>
    clear hstay hsub hseq hRW heg
    rintro l2 C pre x a' V hl2 hV hCb ⟨hC, ⟨n, hn⟩, ⟨m, hm⟩, ⟨b, hb⟩, hc⟩ hst rfl hlen
    have c0 := blk_cell hn 0 rfl
    have c1 := blk_cell hm 0 rfl
    have c2 := blk_cell hb 0 rfl
    have f0 := blk_free hn 0
    have f1 := blk_free hm 0
    have f2 := blk_free hb 0
    have HC := Lib.hid hC
    have HN := Lib.hid hn
    have HM := Lib.hid hm
    have HBV := Lib.hid hb
    have HCV := Lib.hid hc
    have HSTV := Lib.hid hst
    have HNW := Lib.hid (show ∀ b, (R b ∨ b = w.heap.size + 1 + 1 + 1) → b < V.heap.size ∧ b ≠ w.heap.size ∧ b ≠ w.heap.size + 1 ∧ b ≠ w.heap.size + 1 + 1 from fun b hb => by have h1 := HRW.out b hb; have h2 := HRL.out b hb; omega)
    clear hn hm hb hc hst hC hCb
    by_cases hx : n = 0
    · subst hx
      gi_wp2
      have hs4 := blk_set HM.out 0 (.int .u64 x)
      have hs5 := blk_set (show (V.setCell ⟨w.heap.size + 1, 0, none⟩ (.int .u64 x)).heap[w.heap.size + 1 + 1]? = _ from (Below.heap_setCell V ⟨w.heap.size + 1, 0, none⟩ (.int .u64 x) (w.heap.size + 1 + 1) (by show w.heap.size + 1 + 1 ≠ w.heap.size + 1; omega)).trans HBV.out) 0 (.bool true)
      have hcs := ((Chg.refl (fun q => q = w.heap.size + 1 ∨ q = w.heap.size + 1 + 1) V).set (b := w.heap.size + 1) (i := 0) (.int .u64 x) (.inl (.inl rfl))).set (b := w.heap.size + 1 + 1) (i := 0) (.bool true) (.inl (.inr rfl))
      refine ⟨((KeepsOthers.setCell _ _ _).trans (KeepsOthers.setCell _ _ _)).from _, HSTAY.out _ _ HSTV.out (fun b hb => hcs.block b (HNW.out b hb).1 (fun e => by have := HNW.out b hb; omega)), ⟨rfl, ⟨x, ?_⟩, ⟨true, by simpa using hs5⟩, (HCV.out.set _ (.inr (by omega))).set _ (.inr (by omega))⟩, fun q hq hnq => hcs.block q hq (fun e => hnq ((HC.out q).2 (by omega)))⟩
      exact (Below.heap_setCell _ ⟨w.heap.size + 1 + 1, 0, none⟩ (.bool true) (w.heap.size + 1) (by show w.heap.size + 1 ≠ w.heap.size + 1 + 1; omega)).trans (by simpa using hs4)
    · have hx2 : (n == 0) = false := by simpa using hx
      clear hx
      gi_wp2
      have hs3 := blk_set HN.out 0 (.int .i64 (wrap64 (n - 1)))
      have hcs := (Chg.refl (· = w.heap.size) V).set (b := w.heap.size) (i := 0) (.int .i64 (wrap64 (n - 1))) (.inl rfl)
      refine ⟨(KeepsOthers.setCell _ _ _).from _, HSTAY.out _ _ HSTV.out (fun b hb => hcs.block b (HNW.out b hb).1 (fun e => (HNW.out b hb).2.1 e)), C, ⟨HC.out, ⟨wrap64 (n - 1), by simpa using hs3⟩, ⟨m, hcs.blk HM.out (fun e => by have e' : w.heap.size + 1 = w.heap.size := e; omega)⟩, ⟨b, hcs.blk HBV.out (fun e => by have e' : w.heap.size + 1 + 1 = w.heap.size := e; omega)⟩, HCV.out.set _ (.inr (Nat.le_refl _))⟩, fun q hq => ⟨.inl hq, ?_⟩, fun q hq hnq => hcs.block q hq (fun e => hnq ((HC.out q).2 (by have e' : q = w.heap.size := e; omega)))⟩
      have := (HC.out q).1 hq
      rw [World.size_setCell]
      omega
  case done =>
    clear hstay hsub hseq hRW heg
    rintro D C xs V hD hxs ⟨hC, ⟨n, hn⟩, ⟨m, hm⟩, ⟨b, hb⟩, hc⟩ hst hM _ hK
    have c1 := blk_cell hm 0 rfl
    have c2 := blk_cell hb 0 rfl
    have f1 := blk_free hm 0
    have f2 := blk_free hb 0
    have HCV := Lib.hid hc
    have HSTV := Lib.hid hst
    have HM := Lib.hid hm
    have HBV := Lib.hid hb
    have HK := Lib.hid hK
    have HNW := Lib.hid (show ∀ b, (R b ∨ b = w.heap.size + 1 + 1 + 1) → b < V.heap.size ∧ b ≠ w.heap.size ∧ b ≠ w.heap.size + 1 ∧ b ≠ w.heap.size + 1 + 1 from fun b hb => by have h1 := HRW.out b hb; have h2 := HRL.out b hb; omega)
    clear hn hm hb hc hst hC hK
    gi_wp2
    have hs4 := blk_set HM.out 0 (.int .u64 0)
    have hs5 := blk_set (show (V.setCell ⟨w.heap.size + 1, 0, none⟩ (.int .u64 0)).heap[w.heap.size + 1 + 1]? = _ from (Below.heap_setCell V ⟨w.heap.size + 1, 0, none⟩ (.int .u64 0) (w.heap.size + 1 + 1) (by show w.heap.size + 1 + 1 ≠ w.heap.size + 1; omega)).trans HBV.out) 0 (.bool false)
    have hs4' : ((V.setCell ⟨w.heap.size + 1, 0, none⟩ (.int .u64 0)).setCell ⟨w.heap.size + 1 + 1, 0, none⟩ (.bool false)).heap[w.heap.size + 1]? = some (.cells #[.int .u64 0] 22 (0, 0)) := (Below.heap_setCell _ ⟨w.heap.size + 1 + 1, 0, none⟩ (.bool false) (w.heap.size + 1) (by show w.heap.size + 1 ≠ w.heap.size + 1 + 1; omega)).trans (by simpa using hs4)
    have hcs := ((Chg.refl (fun q => q = w.heap.size + 1 ∨ q = w.heap.size + 1 + 1) V).set (b := w.heap.size + 1) (i := 0) (.int .u64 0) (.inl (.inl rfl))).set (b := w.heap.size + 1 + 1) (i := 0) (.bool false) (.inl (.inr rfl))
    have hK2 := hcs.blk HK.out (fun e => by omega)
    have HCE := Lib.hid ((HCV.out.set (b := w.heap.size + 1) (i := 0) (.int .u64 0) (.inr (by omega))).set (b := w.heap.size + 1 + 1) (i := 0) (.bool false) (.inr (by omega)))
    have HSE := Lib.hid (HSTAY.out _ _ HSTV.out (fun b hb => hcs.block b (HNW.out b hb).1 (fun e => by have := HNW.out b hb; omega)))
    refine ⟨by simp, .inl ⟨_, _, rfl, run_takeDeferred hK2, ?_⟩⟩
    have r4 := blk_cell (blk_put hs4' (.deferred none) (D := D) (by omega)) 0 (v := .int .u64 0) rfl
    have r5 := blk_cell (blk_put hs5 (.deferred none) (D := D) (by omega)) 0 (v := .bool false) rfl
    exact ⟨.tuple #[.int .u64 0, .bool false], (by simp [results, Tryz.results41, go_sem, r4, r5]), 0, false, rfl, (HSTAY.out _ _ HSE.out (same_put HRW.out (by omega))).1, chg_putObj HCE.out (by omega)⟩
  case stop =>
    clear hstay hsub hseq hRW heg
    rintro D c V hD ⟨rfl, ⟨m, hm⟩, ⟨b, hb⟩, hc⟩ hst hK
    have HCV := Lib.hid hc
    have HSTV := Lib.hid hst
    have HM := Lib.hid hm
    have HBV := Lib.hid hb
    clear hm hb hc hst
    gi_wp2
    refine ⟨by simp, .inl ⟨_, _, rfl, run_takeDeferred hK, ?_⟩⟩
    have r4 := blk_cell (blk_put HM.out (.deferred none) (D := D) (by omega)) 0 (v := .int .u64 m) rfl
    have r5 := blk_cell (blk_put HBV.out (.deferred none) (D := D) (by omega)) 0 (v := .bool b) rfl
    exact ⟨.tuple #[.int .u64 m, .bool b], (by simp [results, Tryz.results41, go_sem, r4, r5]), m, b, rfl, (HSTAY.out _ _ HSTV.out (same_put HRW.out (by omega))).1, chg_putObj HCV.out (by omega)⟩
end Go.Proofs.YtcnaikoloagbdaaGreat
namespace Go.Proofs.YtcnaikoloagbdaaGreat
set_option linter.unusedVariables false
set_option linter.unusedSimpArgs false
open Go.RowKit Go.Shelf
attribute [local go_sem] run_eql_set_nil
attribute [local go_sem ↓] Go.wp_at_zero Go.wp_at_succ

theorem SK.bare_cases {s : SK} (h : s.bare) : (∃ d, s = .x d) ∨ ∃ d, s = .y d := by
  cases s with
  | e d => exact h.elim
  | t d => exact h.elim
  | x d => exact .inl ⟨d, rfl⟩
  | y d => exact .inr ⟨d, rfl⟩
set_option maxRecDepth 100000 in
set_option maxHeartbeats 2000000 in
theorem faceCount (s : SK) (hs : s.bare) {G : World → Prop} {R F : Nat → Prop} (E : Env G R F) (I : In s G R F) (k m : Int) (w : World) (h : G w) :
    Calls Tryz.prog 42 #[s.v, .int .u64 k, .int .u64 m] w fun e w' => ∃ (n er : Int), e = .returned (.tuple #[.int .i64 n, .int .i64 er]) ∧ er ≠ 6 ∧ Hid (G w') ∧ Hid (Chg F w w') := by
  have HE := Lib.hid E
  have HI := Lib.hid I
  have H := Lib.hid h
  clear E I h
  by_cases hkm : m < k
  · rcases SK.bare_cases hs with ⟨d, rfl⟩ | ⟨d, rfl⟩
    · simp only [SK.v]
      go_enter Tryz.func42, Tryz.ntmps42
      go_wp2
      go_ret2
      exact ⟨0, 8, rfl, by decide, H.out, Chg.refl _ _⟩
    · simp only [SK.v]
      go_enter Tryz.func42, Tryz.ntmps42
      go_wp2
      go_ret2
      exact ⟨0, 8, rfl, by decide, H.out, Chg.refl _ _⟩
  · have HR1 := Lib.hid (faceRank s hs HE.out HI.out m w H.out)
    have HR2 := Lib.hid (fun w1 h1 => faceRank s hs HE.out HI.out k w1 h1)
    rcases SK.bare_cases hs with ⟨d, rfl⟩ | ⟨d, rfl⟩
    · simp only [SK.v] at HR1 HR2 ⊢
      go_enter Tryz.func42, Tryz.ntmps42
      go_wp2_with fail
      refine HR1.out.mono ?_
      rintro e w1 ⟨n1, rfl, HG1, HC1⟩
      go_wp2_with fail
      refine (HR2.out w1 HG1.out).mono ?_
      rintro e w2 ⟨n2, rfl, HG2, HC2⟩
      clear HR1 HR2
      go_wp2_with fail
      refine (xHas d m w2 (HI.out.p _ HG2.out)).mono ?_
      rintro e w3 ⟨r, rfl, _, HX3, HC3⟩
      have HG3 := Lib.hid (HI.out.put _ _ HG2.out HX3.out HC3.out)
      have HC4 := Lib.hid ((HC1.out.then HC2.out).then (HC3.out.mono (fun b _ hb => HI.out.red b hb)))
      cases r
      · go_wp2
        go_ret2
        exact ⟨_, 0, rfl, by decide, HG3.out, HC4.out⟩
      · go_wp2
        go_ret2
        exact ⟨_, 0, rfl, by decide, HG3.out, HC4.out⟩
    · simp only [SK.v] at HR1 HR2 ⊢
      go_enter Tryz.func42, Tryz.ntmps42
      go_wp2_with fail
      refine HR1.out.mono ?_
      rintro e w1 ⟨n1, rfl, HG1, HC1⟩
      go_wp2_with fail
      refine (HR2.out w1 HG1.out).mono ?_
      rintro e w2 ⟨n2, rfl, HG2, HC2⟩
      clear HR1 HR2
      go_wp2_with fail
      refine (yHas d m w2 (HI.out.p _ HG2.out)).mono ?_
      rintro e w3 ⟨r, _, rfl, HX3, HC3⟩
      have HG3 := Lib.hid (HI.out.put _ _ HG2.out ⟨HX3.out, (show YF w2 d from HI.out.p _ HG2.out).2⟩ HC3.out)
      have HC4 := Lib.hid ((HC1.out.then HC2.out).then (HC3.out.mono (fun b _ hb => HI.out.red b hb)))
      cases r
      · go_wp2
        go_ret2
        exact ⟨_, 0, rfl, by decide, HG3.out, HC4.out⟩
      · go_wp2
        go_ret2
        exact ⟨_, 0, rfl, by decide, HG3.out, HC4.out⟩
theorem keysR_ne (l : List Int) : (keysR l).2 ≠ 6 := by
  unfold keysR
  split
  · decide
  · split <;> simp
set_option maxRecDepth 100000 in
set_option maxHeartbeats 2000000 in
theorem faceEncode (s : SK) {G : World → Prop} {R F : Nat → Prop} (E : Env G R F) (I : In s G R F) (hN : s.N ≤ 100000) (w : World) (h : G w) :
    Calls Tryz.prog 44 #[s.v] w fun e w' => ∃ (v : Value) (er : Int), e = .returned (.tuple #[v, .int .i64 er]) ∧ er ≠ 6 ∧ Hid (G w') ∧ Hid (Chg F w w') := by
  have HE := Lib.hid E
  have HI := Lib.hid I
  have H := Lib.hid h
  clear E I h
  go_enter Tryz.func44, Tryz.ntmps44
  go_wp2_with fail
  refine (faceAllG s HE.out HI.out w H.out).mono ?_
  rintro e w1 ⟨it, o, rfl, rfl, HI1, HG1⟩
  have HF := Lib.hid (sFirst it hN HI1.out _ HG1.out (fun q hq => by
    rcases hq with hq | hq
    · exact HE.out.lt _ HG1.out.1 q hq
    · subst hq; simp))
  go_wp2_with fail
  refine HF.out.mono ?_
  rintro e w2 ⟨r, xs, rfl, hxs, ho, hst, hc⟩
  obtain ⟨A, c, rfl, _, _, hr⟩ := ho.form
  have HL := Lib.hid (s.sN xs hxs)
  have HK := Lib.hid (keys_any A c xs w2 (s.sU xs hxs) hr (by have := HL.out; omega))
  have HST := Lib.hid hst
  have HCC := Lib.hid ((Chg.refl F w).alloc o |>.then hc)
  clear hr hst hc ho hxs HF
  go_wp2_with fail
  refine HK.out.mono ?_
  rintro e w3 ⟨v, rfl, ho3, hb3⟩
  have HB3 := Lib.hid hb3
  have HNE := Lib.hid (keysR_ne xs)
  clear ho3 hb3 HK
  generalize (keysR xs).2 = er at *
  go_wp2
  go_ret2
  exact ⟨v, er, rfl, HNE.out, HE.out.below HST.out.1 HB3.out, HCC.out.then (Chg.of_below HB3.out)⟩
end Go.Proofs.YtcnaikoloagbdaaGreat
