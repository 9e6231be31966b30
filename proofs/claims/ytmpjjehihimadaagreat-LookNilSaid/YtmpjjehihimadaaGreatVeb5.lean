/-
  veb.VEB: what a change leaves; put of a key in a node of one key, walked.
-/
import Derived.Test.YtmpjjehihimadaaGreatVeb4
namespace Go.Proofs.YtmpjjehihimadaaGreat
set_option linter.unusedVariables false
set_option linter.unusedSimpArgs false
open Go.RowKit
attribute [local go_sem] gmax2_int gmin2_int gmax_two gmin_two

/-- behind a change: what it is then -/
structure VO (w w' : World) (d d' : VD) : Prop where
  vp : VP w' d'
  t : d'.t = d.t
  limit : d'.limit = d.limit
  seed : d'.seed = d.seed
  own : ∀ q, d'.own q → d.own q ∨ w.heap.size ≤ q
  chg : Chg d.own w w'
theorem VO.then {w w' w'' : World} {d d' d'' : VD} (h : VO w w' d d') (k : VO w' w'' d' d'') : VO w w'' d d'' :=
  ⟨k.vp, k.t.trans h.t, k.limit.trans h.limit, k.seed.trans h.seed, fun q hq => (k.own q hq).elim (h.own q) (fun e => .inr (Nat.le_trans h.chg.size e)), h.chg.trans k.chg (fun b hb hq => (h.own b hq).elim id (fun e => absurd hb (Nat.not_lt_of_le e)))⟩
theorem VO.red {w w' : World} {d : VD} (h : VP w' d) (hc : Chg d.red w w') : VO w w' d d := ⟨h, rfl, rfl, rfl, fun q hq => .inl hq, hc.mono (fun b _ hb => d.red_own b hb)⟩
theorem VO.below {w w' : World} {d : VD} (h : VP w d) (hb : Below w.heap.size w w') : VO w w' d d := ⟨h.below hb, rfl, rfl, rfl, fun q hq => .inl hq, Chg.of_below hb⟩
/-- behind a change of the pool -/
theorem VP.puts {w w' : World} {d : VD} {ls' : List Ve} {v' : Value} (h : VP w d) (hp : PoV w' 0 d.p d.m v' ls' d.limit) (hv : v'.ownBlock = d.v.ownBlock ∨ ∃ g, v'.ownBlock = some g ∧ w.heap.size ≤ g) (hc : Chg (fun k => k = d.p ∨ d.v.ownBlock = some k) w w') (hl : ls'.length ≤ 10) : VO w w' d { d with v := v', ls := ls' } := by
  obtain ⟨t1, t2, t3, t4, t5, t6⟩ := h.tys
  have hn : ∀ q, q ≠ d.p → (∀ g, d.v.ownBlock = some g → q ≠ g) → ¬ (q = d.p ∨ d.v.ownBlock = some q) := fun q h1 h2 e => e.elim h1 (fun e => h2 q e rfl)
  refine ⟨⟨hc.blk h.head (hn _ (t1.ne t2 (by decide)) (fun g hg => t1.ne (t6 g hg) (by decide))), hp, h.tb.chg hc (hn _ (t3.ne t2 (by decide)) (fun g hg => t3.ne (t6 g hg) (by decide))) (hn _ (t4.ne t2 (by decide)) (fun g hg => t4.ne (t6 g hg) (by decide))), h.mt.chg hc (hn _ (t5.ne t2 (by decide)) (fun g hg => t5.ne (t6 g hg) (by decide))), h.ti, h.lim, hl⟩, rfl, rfl, rfl, ?_, hc.mono (fun b _ e => e.elim (fun e => .inr (.inl e)) (fun e => .inr (.inr (.inr (.inr (.inr e))))))⟩
  rintro q (e | e | e | e | e | e)
  · exact .inl (.inl e)
  · exact .inl (.inr (.inl e))
  · exact .inl (.inr (.inr (.inl e)))
  · exact .inl (.inr (.inr (.inr (.inl e))))
  · exact .inl (.inr (.inr (.inr (.inr (.inl e)))))
  · rcases hv with h1 | ⟨g, h1, h2⟩
    · exact .inl (.inr (.inr (.inr (.inr (.inr (h1.symm.trans e))))))
    · have e' : v'.ownBlock = some q := e
      rw [h1] at e'
      cases e'
      exact .inr h2
/-- behind a change of the table -/
theorem VP.tput {w w' : World} {d : VD} {es' : List En} {n' : Nat} (h : VP w d) (ht : Tb w' d.h d.g d.m es' d.seed (n' : Nat)) (hi : Ti es' (n' : Nat)) (hc : Chg (fun k => k = d.h ∨ k = d.g) w w') : VO w w' d { d with es := es', tn := n' } := by
  obtain ⟨t1, t2, t3, t4, t5, t6⟩ := h.tys
  refine ⟨⟨hc.blk h.head (fun e => e.elim (t1.ne t3 (by decide)) (t1.ne t4 (by decide))), h.pool.chg hc (fun e => e.elim (t2.ne t3 (by decide)) (t2.ne t4 (by decide))) (fun g hg e => e.elim ((t6 g hg).ne t3 (by decide)) ((t6 g hg).ne t4 (by decide))), ht, h.mt.chg hc (fun e => e.elim (t5.ne t3 (by decide)) (t5.ne t4 (by decide))), hi, h.lim, h.len⟩, rfl, rfl, rfl, fun q hq => .inl hq, hc.mono (fun b _ e => e.elim (fun e => .inr (.inr (.inl e))) (fun e => .inr (.inr (.inr (.inl e)))))⟩
/-- behind a store of the root, or of how many -/
theorem VP.heads {w : World} {d : VD} (h : VP w d) (r n : Int) {w' : World} (hh : w'.heap[d.t]? = some (.cells #[.pointer (some ⟨d.m, 0, none⟩), .pointer (some ⟨d.p, 0, none⟩), .pointer (some ⟨d.h, 0, none⟩), .int .i64 r, .int .i64 n] 116 (0, 0))) (hc : Chg (· = d.t) w w') : VO w w' d { d with root := r, n := n } := by
  obtain ⟨t1, t2, t3, t4, t5, t6⟩ := h.tys
  refine ⟨⟨hh, h.pool.chg hc (t2.ne t1 (by decide)) (fun g hg => (t6 g hg).ne t1 (by decide)), h.tb.chg hc (t3.ne t1 (by decide)) (t4.ne t1 (by decide)), h.mt.chg hc (t5.ne t1 (by decide)), h.ti, h.lim, h.len⟩, rfl, rfl, rfl, fun q hq => .inl hq, hc.mono (fun b _ e => .inl e)⟩
theorem VP.root {w : World} {d : VD} (h : VP w d) (r : Int) : VO w (w.setCell ⟨d.t, 3, none⟩ (.int .i64 r)) d { d with root := r } := h.heads r d.n (by simpa using blk_set h.head 3 (.int .i64 r)) ((Chg.refl (· = d.t) w).set (b := d.t) (i := 3) (.int .i64 r) (.inl rfl))
theorem VP.cnt {w : World} {d : VD} (h : VP w d) (n : Int) : VO w (w.setCell ⟨d.t, 4, none⟩ (.int .i64 n)) d { d with n := n } := h.heads d.root n (by simpa using blk_set h.head 4 (.int .i64 n)) ((Chg.refl (· = d.t) w).set (b := d.t) (i := 4) (.int .i64 n) (.inl rfl))
set_option maxRecDepth 100000 in
set_option maxHeartbeats 4000000 in
theorem vPutS (d : VD) (w : World) (h : VP w d) (j : Nat) (hj : j < d.ls.length) (a c q : Int) (hx : d.ls[j] = ⟨a, a, c, q⟩) (wide k : Int) (hw : wide = 64 ∨ wide = 32) (hk : a < k) : Calls Tryz.prog 123 #[.pointer (some ⟨d.t, 0, none⟩), .int .i64 j, .int .i64 wide, .int .u64 k] w fun e w' => (∃ r, e = .returned r) ∧ Hid (VO w w' d { d with ls := d.ls.set j ⟨a, k, c, q⟩ }) := by
  have H := Lib.hid h
  have HX := Lib.hid hx
  have hk1 : (k < a) = False := eq_false (by omega)
  clear h hx
  rcases hw with rfl | rfl
  all_goals
    go_enter Tryz.func123, Tryz.ntmps123
    go_wp2_with fail
    refine (vSee d _ H.out j hj _ HX.out).mono ?_
    rintro e w1 ⟨rfl, HB1⟩
    have hA := (Below.refl w1.heap.size w1).alloc (Nat.le_refl _) (.cells #[.int .u64 a, .int .u64 a, .int .i64 c, .int .u64 q] 112)
    have HN2 := Lib.hid (blk_new w1 #[.int .u64 a, .int .u64 a, .int .i64 c, .int .u64 q] 112)
    have HB2 := Lib.hid (below_then HB1.out hA)
    have hz1 := HB1.out.size
    clear hA
    go_wp2_with fail
    refine (vSingle a a c q _).mono ?_
    rintro e w3 ⟨rfl, HB3⟩
    rw [decide_eq_true (rfl : a = a)]
    have HN3 := Lib.hid (blk_below HN2.out HB3.out rfl)
    have HC4 := Lib.hid (((Chg.of_below (S := d.own) (below_then HB2.out HB3.out)).set (b := w1.heap.size) (i := 0) (.int .u64 a) (.inr hz1)).set (b := w1.heap.size) (i := 1) (.int .u64 k) (.inr hz1))
    have HN4 := Lib.hid (blk_set (blk_set HN3.out 0 (.int .u64 a)) 1 (.int .u64 k))
    have n0 := blk_cell HN3.out 0 rfl
    have n1 := blk_cell HN3.out 1 rfl
    have n2 := blk_cell HN3.out 2 rfl
    have n3 := blk_cell HN3.out 3 rfl
    have f0 := blk_free HN3.out 0
    have f1 := blk_free HN3.out 1
    have H3 := Lib.hid (H.out.below (below_then HB2.out HB3.out))
    have HV4 := Lib.hid (H3.out.chg (S := (· = w1.heap.size)) (((Chg.refl (· = w1.heap.size) w3).set (b := w1.heap.size) (i := 0) (.int .u64 a) (.inl rfl)).set (b := w1.heap.size) (i := 1) (.int .u64 k) (.inl rfl)) (fun q hq e => by have := H.out.lt q hq; have e' : q = w1.heap.size := e; omega))
    have HZ4 := Lib.hid (show w.heap.size ≤ ((w3.setCell ⟨w1.heap.size, 0, none⟩ (.int .u64 a)).setCell ⟨w1.heap.size, 1, none⟩ (.int .u64 k)).heap.size from HC4.out.size)
    go_wp2
    generalize ((w3.setCell ⟨w1.heap.size, 0, none⟩ (.int .u64 a)).setCell ⟨w1.heap.size, 1, none⟩ (.int .u64 k)) = w4 at *
    clear n0 n1 n2 n3 f0 f1 hk1
    have p1 := HV4.out.cells.2.1
    have n0 := blk_cell HN4.out 0 (v := .int .u64 a) rfl
    have n1 := blk_cell HN4.out 1 (v := .int .u64 k) rfl
    have n2 := blk_cell HN4.out 2 (v := .int .i64 c) rfl
    have n3 := blk_cell HN4.out 3 (v := .int .u64 q) rfl
    have HD := Lib.hid HV4.out.drewn
    go_region_law (first | ((with_reducible refine gate_scall (f := 128) rfl ?_); refine step_goes rfl Tryz.func128 (by kernel_rfl) rfl #[.pointer (some ⟨d.p, 0, none⟩), .int .i64 j, .agg #[.int .u64 a, .int .u64 k, .int .i64 c, .int .u64 q]] rfl (by simp only [List.map_toArray, List.map_cons, List.map_nil]; rfl) (pvPut d.p d.m d.v d.ls d.limit _ HD.out.pool j a k c q (Nat.zero_le _)) ?_; rintro e w5 ⟨⟨r, rfl⟩, HP5, HC5⟩; refine ⟨_, rfl, ?_⟩))
    all_goals
      have HO5 := Lib.hid (show VO w w5 d { d with ls := d.ls.set j ⟨a, k, c, q⟩ } from by
        have hp := HP5.out
        rw [← putAt_nat] at hp
        have ho := HD.out.puts (v' := d.v) hp (.inl rfl) (HC5.out.mono (fun b _ e => .inr e)) (by rw [List.length_set]; exact H.out.len)
        refine ⟨ho.vp, rfl, rfl, rfl, fun q hq => .inl hq, (HC4.out.drew).trans ho.chg (fun b _ e => e)⟩)
      clear HP5 HC5 HD HN4 HV4
      go_wp2
      refine bodyPost_ret (results_none rfl _ _ _) rfl ?_
      exact ⟨⟨_, rfl⟩, HO5.out⟩
end Go.Proofs.YtmpjjehihimadaaGreat
