/-
  pool.Pool of a yfast's cells: New, Room, Live, Len, walked.
  pool.Pool of a yfast's cells: Peek, walked.
  pool.Pool of a yfast's cells: At, walked.
  pool.Pool of a yfast's cells: Put, walked.
  pool.Pool of a yfast's cells: Alloc, walked.
-/
import Derived.Test.YtcnaikoloagbdaaGreatQRowM
namespace Go.Proofs.YtcnaikoloagbdaaGreat
set_option linter.unusedVariables false
set_option linter.unusedSimpArgs false
open Go.RowKit

structure Ce where
  rep : Int
  kA : Option Addr
  kn : Nat
  kc : Nat
  prev : Int
  next : Int
def cellsC (x : Ce) : List Value := [.int .u64 x.rep, .slice x.kA x.kn x.kc, .int .i64 x.prev, .int .i64 x.next, .bool true]
theorem cellsC_len (x : Ce) : (cellsC x).length = 5 := rfl
/-- a pool, all of whose places live; v: its row -/
structure PoC (w : World) (base p m : Nat) (v : Value) (ls : List Ce) (limit : Int) : Prop where
  head : w.heap[p]? = some (.cells #[.pointer (some ⟨m, 0, none⟩), v, .slice none 0 0, .int .i64 (ls.length : Nat), .int .i64 limit] 279 (0, 0))
  row : w.ownsRow base 401 5 v ls.length (ls.flatMap cellsC)
theorem PoC.cells {w : World} {base p m : Nat} {v : Value} {ls : List Ce} {limit : Int} (h : PoC w base p m v ls limit) : w.cell? ⟨p, 0, none⟩ = some (.pointer (some ⟨m, 0, none⟩)) ∧ w.cell? ⟨p, 1, none⟩ = some v ∧ w.cell? ⟨p, 2, none⟩ = some (.slice none 0 0) ∧ w.cell? ⟨p, 3, none⟩ = some (.int .i64 (ls.length : Nat)) ∧ w.cell? ⟨p, 4, none⟩ = some (.int .i64 limit) ∧ (∀ k, w.frozen? ⟨p, k, none⟩ = false) ∧ p < w.heap.size :=
  ⟨blk_cell h.head 0 rfl, blk_cell h.head 1 rfl, blk_cell h.head 2 rfl, blk_cell h.head 3 rfl, blk_cell h.head 4 rfl, fun k => blk_free h.head k, blk_lt h.head⟩
theorem PoC.chg {S : Nat → Prop} {w w' : World} {base p m : Nat} {v : Value} {ls : List Ce} {limit : Int} (h : PoC w base p m v ls limit) (hc : Chg S w w') (h1 : ¬ S p) (h2 : ∀ g, v.ownBlock = some g → ¬ S g) : PoC w' base p m v ls limit :=
  ⟨hc.blk h.head h1, rowG_chg h.row hc h2⟩
theorem PoC.below {w w' : World} {base p m : Nat} {v : Value} {ls : List Ce} {limit : Int} (h : PoC w base p m v ls limit) (hb : Below w.heap.size w w') : PoC w' base p m v ls limit := h.chg (S := fun _ => False) (Chg.of_below hb) (fun h => h) (fun _ _ h => h)
theorem PoC.own_lt {w : World} {base p m : Nat} {v : Value} {ls : List Ce} {limit : Int} (h : PoC w base p m v ls limit) : ∀ g, v.ownBlock = some g → g < w.heap.size := fun g hg => (rowG_lt h.row g hg).2
theorem PoC.ne_mt {w : World} {base p m m2 : Nat} {v : Value} {ls : List Ce} {limit : Int} (h : PoC w base p m v ls limit) (hm : Mt w m2) : ¬ (p = m2) ∧ ∀ g, v.ownBlock = some g → ¬ (g = m2) := by
  obtain ⟨a, b, c, d, e, h0⟩ := hm
  constructor
  · rintro rfl; rw [h.head] at h0; cases h0
  · rintro g hg rfl
    obtain ⟨cur, hh⟩ := rowG_ty h.row g hg
    rw [hh] at h0
    cases h0
theorem PoC.ne_own {w : World} {base p m : Nat} {v : Value} {ls : List Ce} {limit : Int} (h : PoC w base p m v ls limit) : ∀ g, v.ownBlock = some g → ¬ (g = p) := fun g hg => by
  rintro rfl
  obtain ⟨cur, hh⟩ := rowG_ty h.row g hg
  have := h.head
  rw [hh] at this
  cases this
/-- where a pool's row is read -/
theorem PoC.at_ {w : World} {base p m : Nat} {v : Value} {ls : List Ce} {limit : Int} (h : PoC w base p m v ls limit) : ∃ A c, v = .slice A ls.length c ∧ ∀ (i : Nat) (hi : i < ls.length), ∃ g, A = some ⟨g, 0, none⟩ ∧ base ≤ g ∧ g < w.heap.size ∧ w.cell? ⟨g, i * 5, none⟩ = some (.int .u64 ls[i].rep) ∧ w.cell? ⟨g, i * 5 + 1, none⟩ = some (.slice ls[i].kA ls[i].kn ls[i].kc) ∧ w.cell? ⟨g, i * 5 + 2, none⟩ = some (.int .i64 ls[i].prev) ∧ w.cell? ⟨g, i * 5 + 3, none⟩ = some (.int .i64 ls[i].next) ∧ w.cell? ⟨g, i * 5 + 4, none⟩ = some (.bool true) ∧ ∀ k, w.frozen? ⟨g, k, none⟩ = false := by
  rcases h.row.2 with ⟨rfl, hn⟩ | ⟨g, cap, cur, rfl, hg, hh, hnc, hcap, hsz, htk⟩
  · exact ⟨none, 0, by rw [hn], fun i hi => by omega⟩
  · refine ⟨_, cap, rfl, fun i hi => ⟨g, rfl, hg, blk_lt hh, ?_⟩⟩
    have key : ∀ k, k < 5 → cur[i * 5 + k]? = (cellsC ls[i])[k]? := fun k hk => by
      have h1 : (cur.toList.take (ls.length * 5))[i * 5 + k]? = (ls.flatMap cellsC)[i * 5 + k]? := by rw [htk]
      rw [List.getElem?_take, if_pos (by omega)] at h1
      rw [← Array.getElem?_toList, h1]
      exact flatN cellsC 5 cellsC_len ls i k hi hk
    exact ⟨blk_cell hh _ (key 0 (by decide)), blk_cell hh _ (key 1 (by decide)), blk_cell hh _ (key 2 (by decide)), blk_cell hh _ (key 3 (by decide)), blk_cell hh _ (key 4 (by decide)), fun k => blk_free hh k⟩

set_option maxRecDepth 100000 in
theorem pcLen {base : Nat} (p m : Nat) (v : Value) (ls : List Ce) (limit : Int) (w : World) (h : PoC w base p m v ls limit) : Calls Tryz.prog 377 #[.pointer (some ⟨p, 0, none⟩)] w fun e w' => e = .returned (.int .i64 (ls.length : Nat)) ∧ w' = w := by
  obtain ⟨_, _, _, c3, _⟩ := h.cells
  clear h
  go_enter Tryz.func377, Tryz.ntmps377
  go_wp2
  go_ret
  exact ⟨rfl, rfl⟩
set_option maxRecDepth 100000 in
theorem pcNew (m : Nat) (limit : Int) (w : World) (h0 : 0 ≤ limit) (h1 : limit ≤ 1048576) : Calls Tryz.prog 145 #[.pointer (some ⟨m, 0, none⟩), .int .i64 limit] w fun e w' => ∃ p, e = .returned (.tuple #[.pointer (some ⟨p, 0, none⟩), .int .i64 0]) ∧ w.heap.size ≤ p ∧ Hid (PoC w' w.heap.size p m (.slice none 0 0) [] limit) ∧ Below w.heap.size w w' := by
  go_enter Tryz.func145, Tryz.ntmps145
  go_wp2
  go_ret2
  exact ⟨_, rfl, Nat.le_refl _, ⟨blk_new _ _ _, ⟨rfl, .inl ⟨rfl, rfl⟩⟩⟩, (Below.refl _ w).alloc (Nat.le_refl _) _⟩
set_option maxRecDepth 100000 in
theorem pcRoom {base : Nat} (p m : Nat) (v : Value) (ls : List Ce) (limit : Int) (w : World) (h : PoC w base p m v ls limit) (q : Int) (hq : q ≤ limit - ls.length) (h0 : 0 ≤ limit) (h1 : limit ≤ 1048576) (hl : ls.length ≤ 1000) : Calls Tryz.prog 389 #[.pointer (some ⟨p, 0, none⟩), .int .i64 q] w fun e w' => e = .returned (.bool true) ∧ Hid (Below w.heap.size w w') := by
  obtain ⟨_, _, _, c3, c4, _⟩ := h.cells
  clear h
  go_enter Tryz.func389, Tryz.ntmps389
  go_wp2
  go_quiet (fail)
  go_wp2
  go_ret
  exact ⟨rfl, below_drewN (Below.refl _ _) _⟩
set_option maxRecDepth 100000 in
set_option maxHeartbeats 1000000 in
theorem pcLive {base : Nat} (p m : Nat) (v : Value) (ls : List Ce) (limit : Int) (w : World) (h : PoC w base p m v ls limit) (i : Int) : Calls Tryz.prog 381 #[.pointer (some ⟨p, 0, none⟩), .int .i64 i] w fun e w' => e = .returned (.bool (decide (0 ≤ i ∧ i < ls.length))) ∧ w' = w := by
  obtain ⟨A, c, rfl, hat⟩ := h.at_
  obtain ⟨_, c1, _⟩ := h.cells
  by_cases h0 : 0 ≤ i
  · by_cases h1 : i < ls.length
    · have HD := Lib.hid (decide_eq_true (show 0 ≤ i ∧ i < ls.length from ⟨h0, h1⟩))
      obtain ⟨n, rfl⟩ := Int.eq_ofNat_of_zero_le h0
      obtain ⟨g, rfl, _, _, _, _, _, _, e9, _⟩ := hat n (by omega)
      rw [HD.out]
      clear h hat
      go_enter Tryz.func381, Tryz.ntmps381
      go_wp2
      go_ret
      exact ⟨rfl, rfl⟩
    · have HD := Lib.hid (decide_eq_false (show ¬ (0 ≤ i ∧ i < ls.length) from fun h => h1 h.2))
      rw [HD.out]
      clear h hat
      go_enter Tryz.func381, Tryz.ntmps381
      go_wp2
      go_ret
      exact ⟨rfl, rfl⟩
  · have HD := Lib.hid (decide_eq_false (show ¬ (0 ≤ i ∧ i < ls.length) from fun h => h0 h.1))
    rw [HD.out]
    clear h hat
    go_enter Tryz.func381, Tryz.ntmps381
    go_wp2
    go_ret
    exact ⟨rfl, rfl⟩
end Go.Proofs.YtcnaikoloagbdaaGreat
namespace Go.Proofs.YtcnaikoloagbdaaGreat
set_option linter.unusedVariables false
set_option linter.unusedSimpArgs false
open Go.RowKit

set_option maxRecDepth 100000 in
set_option maxHeartbeats 1000000 in
theorem pcPeek {base : Nat} (p m : Nat) (v : Value) (ls : List Ce) (limit : Int) (w : World) (h : PoC w base p m v ls limit) (i : Int) (hb : base ≤ w.heap.size) : Calls Tryz.prog 379 #[.pointer (some ⟨p, 0, none⟩), .int .i64 i] w fun e w' => ∃ x : Ce, e = .returned (.tuple #[.agg #[.int .u64 x.rep, .slice x.kA x.kn x.kc, .int .i64 x.prev, .int .i64 x.next], .bool (decide (0 ≤ i ∧ i < ls.length))]) ∧ Hid ((0 ≤ i ∧ i < ls.length) → ∃ hi : i.toNat < ls.length, x = ls[i.toNat]) ∧ Hid (¬ (0 ≤ i ∧ i < ls.length) → x = ⟨0, none, 0, 0, 0, 0⟩) ∧ Hid (Below w.heap.size w w') := by
  have H := Lib.hid h
  have hA := (Below.refl w.heap.size w).alloc (Nat.le_refl _) (.cells #[.int .u64 0, .slice none 0 0, .int .i64 0, .int .i64 0] 232)
  clear h
  go_enter Tryz.func379, Tryz.ntmps379
  go_wp2_with fail
  refine (pcLive p m v ls limit _ (H.out.below hA) i).mono ?_
  rintro e w1 ⟨rfl, rfl⟩
  have HA := Lib.hid hA
  have q4 := blk_new w #[.int .u64 0, .slice none 0 0, .int .i64 0, .int .i64 0] 232
  have s0 := blk_cell q4 0 rfl
  have s1 := blk_cell q4 1 rfl
  have s2 := blk_cell q4 2 rfl
  have s3 := blk_cell q4 3 rfl
  have H1 := Lib.hid (H.out.below hA)
  clear hA q4
  by_cases h0 : 0 ≤ i ∧ i < ls.length
  · rw [decide_eq_true h0]
    obtain ⟨n, rfl⟩ := Int.eq_ofNat_of_zero_le h0.1
    have hn : n < ls.length := by omega
    obtain ⟨A, c, rfl, hat⟩ := H1.out.at_
    obtain ⟨g, rfl, hbg, hg, e0, e1, e2, e3, e9, _⟩ := hat n hn
    obtain ⟨_, c1, _⟩ := H1.out.cells
    have HI := Lib.hid h0
    have HX := Lib.hid (show ∃ x, ls[n] = x from ⟨_, rfl⟩)
    obtain ⟨x, hx⟩ := HX.out
    rw [hx] at e0 e1 e2 e3
    obtain ⟨xrep, xkA, xkn, xkc, xprev, xnext⟩ := x
    simp only [] at e0 e1 e2 e3
    have HX := Lib.hid hx
    clear hat hx h0
    go_wp2
    have k0 := blk_cell (blk_new w #[.int .u64 xrep, .slice xkA xkn xkc, .int .i64 xprev, .int .i64 xnext] 232) 0 rfl
    have k1 := blk_cell (blk_new w #[.int .u64 xrep, .slice xkA xkn xkc, .int .i64 xprev, .int .i64 xnext] 232) 1 rfl
    have k2 := blk_cell (blk_new w #[.int .u64 xrep, .slice xkA xkn xkc, .int .i64 xprev, .int .i64 xnext] 232) 2 rfl
    have k3 := blk_cell (blk_new w #[.int .u64 xrep, .slice xkA xkn xkc, .int .i64 xprev, .int .i64 xnext] 232) 3 rfl
    refine bodyPost_ret (v := .tuple #[.agg #[.int .u64 xrep, .slice xkA xkn xkc, .int .i64 xprev, .int .i64 xnext], .bool true]) (by simp [results, Tryz.results379, go_sem, k0, k1, k2, k3]) rfl ⟨⟨xrep, xkA, xkn, xkc, xprev, xnext⟩, by rw [decide_eq_true HI.out], fun _ => ⟨hn, HX.out.symm⟩, fun h => absurd HI.out h, (Below.refl _ w).alloc (Nat.le_refl _) _⟩
  · rw [decide_eq_false h0]
    have HI := Lib.hid h0
    clear h0
    go_wp2
    have hb2 : Below w.heap.size w ((w.alloc (.cells #[.int .u64 0, .slice none 0 0, .int .i64 0, .int .i64 0] 232)).alloc (.cells #[.int .u64 0, .slice none 0 0, .int .i64 0, .int .i64 0] 232)) := ((Below.refl _ w).alloc (Nat.le_refl _) _).alloc (by simp) _
    have k0 := blk_cell (blk_old (blk_new w #[.int .u64 0, .slice none 0 0, .int .i64 0, .int .i64 0] 232) (.cells #[.int .u64 0, .slice none 0 0, .int .i64 0, .int .i64 0] 232)) 0 rfl
    have k1 := blk_cell (blk_old (blk_new w #[.int .u64 0, .slice none 0 0, .int .i64 0, .int .i64 0] 232) (.cells #[.int .u64 0, .slice none 0 0, .int .i64 0, .int .i64 0] 232)) 1 rfl
    have k2 := blk_cell (blk_old (blk_new w #[.int .u64 0, .slice none 0 0, .int .i64 0, .int .i64 0] 232) (.cells #[.int .u64 0, .slice none 0 0, .int .i64 0, .int .i64 0] 232)) 2 rfl
    have k3 := blk_cell (blk_old (blk_new w #[.int .u64 0, .slice none 0 0, .int .i64 0, .int .i64 0] 232) (.cells #[.int .u64 0, .slice none 0 0, .int .i64 0, .int .i64 0] 232)) 3 rfl
    refine bodyPost_ret (v := .tuple #[.agg #[.int .u64 0, .slice none 0 0, .int .i64 0, .int .i64 0], .bool false]) (by simp [results, Tryz.results379, go_sem, k0, k1, k2, k3]) rfl ⟨⟨0, none, 0, 0, 0, 0⟩, by rw [decide_eq_false HI.out], fun h => absurd h HI.out, fun _ => rfl, hb2⟩
end Go.Proofs.YtcnaikoloagbdaaGreat
namespace Go.Proofs.YtcnaikoloagbdaaGreat
set_option linter.unusedVariables false
set_option linter.unusedSimpArgs false
open Go.RowKit

theorem putC {S : Nat → Prop} {w w' : World} (h : Chg S w w') {b : Nat} (x0 x1 x2 x3 : Value) (hb : S b ∨ w.heap.size ≤ b) : Chg S w ((((w'.setCell ⟨b, 0, none⟩ x0).setCell ⟨b, 1, none⟩ x1).setCell ⟨b, 2, none⟩ x2).setCell ⟨b, 3, none⟩ x3) := ((((h.set x0 hb).set x1 hb).set x2 hb).set x3 hb)
set_option maxRecDepth 100000 in
set_option maxHeartbeats 1000000 in
theorem pcAt {base : Nat} (p m : Nat) (v : Value) (ls : List Ce) (limit : Int) (w : World) (h : PoC w base p m v ls limit) (i : Int) (hM : Mt w m) (hb : base ≤ w.heap.size) : Calls Tryz.prog 375 #[.pointer (some ⟨p, 0, none⟩), .int .i64 i] w fun e w' => ∃ (x : Ce) (b : Bool), e = .returned (.tuple #[.agg #[.int .u64 x.rep, .slice x.kA x.kn x.kc, .int .i64 x.prev, .int .i64 x.next], .bool b]) ∧ Hid (b = decide (0 ≤ i ∧ i < ls.length)) ∧ Hid (b = true → ∃ hi : i.toNat < ls.length, x = ls[i.toNat]) ∧ Hid (b = false → x = ⟨0, none, 0, 0, 0, 0⟩) ∧ Hid (PoC w' base p m v ls limit) ∧ Hid (Mt w' m) ∧ Hid (Chg (fun k => k = m) w w') := by
  have hA := (Below.refl w.heap.size w).alloc (Nat.le_refl _) (.cells #[.int .u64 0, .slice none 0 0, .int .i64 0, .int .i64 0] 232)
  have H0 := Lib.hid (h.below hA)
  have HM0 := Lib.hid (hM.below hA)
  have HC0 := Lib.hid (Chg.of_below (S := fun k => k = m) hA)
  have hk := blk_new w #[.int .u64 0, .slice none 0 0, .int .i64 0, .int .i64 0] 232
  have HK0 := Lib.hid hk
  have hne := h.ne_mt hM
  have hpl := h.cells.2.2.2.2.2.2
  have hvl := h.own_lt
  have hml : m < w.heap.size := by obtain ⟨a, b, c, d, e, h0⟩ := hM; exact blk_lt h0
  clear h hM hk hA
  go_enter Tryz.func375, Tryz.ntmps375
  go_wp2_with fail
  generalize hw0 : w.alloc (.cells #[.int .u64 0, .slice none 0 0, .int .i64 0, .int .i64 0] 232) = w0 at *
  refine (pcPeek p m v ls limit _ H0.out i (by rw [← hw0]; simp; omega)).mono ?_
  have hz0 : w.heap.size < w0.heap.size := by rw [← hw0]; simp
  clear hw0
  rintro e w1 ⟨x, rfl, HX, HZ, HB1⟩
  obtain ⟨b, hbb⟩ : ∃ b, decide (0 ≤ i ∧ i < (ls.length : Int)) = b := ⟨_, rfl⟩
  have HBB := Lib.hid hbb
  rw [hbb]
  clear hbb
  obtain ⟨xrep, xkA, xkn, xkc, xprev, xnext⟩ := x
  have hB2 := (Below.refl w1.heap.size w1).alloc (Nat.le_refl _) (.cells #[.int .u64 xrep, .slice xkA xkn xkc, .int .i64 xprev, .int .i64 xnext] 232)
  have H2 := Lib.hid ((H0.out.below HB1.out).below hB2)
  have HM2 := Lib.hid ((HM0.out.below HB1.out).below hB2)
  have HC2 := Lib.hid ((HC0.out.then (Chg.of_below HB1.out)).then (Chg.of_below hB2))
  have HK2 := Lib.hid (blk_below (blk_below HK0.out HB1.out rfl) hB2 rfl)
  have HN2 := Lib.hid (blk_new w1 #[.int .u64 xrep, .slice xkA xkn xkc, .int .i64 xprev, .int .i64 xnext] 232)
  obtain ⟨c0, _⟩ := H2.out.cells
  clear hB2 H0 HM0 HC0 HK0
  cases b
  · have f0 := blk_free HK2.out 0
    have f1 := blk_free HK2.out 1
    have f2 := blk_free HK2.out 2
    have f3 := blk_free HK2.out 3
    have s0 := blk_cell HK2.out 0 rfl
    have s1 := blk_cell HK2.out 1 rfl
    have s2 := blk_cell HK2.out 2 rfl
    have s3 := blk_cell HK2.out 3 rfl
    have n0 := blk_cell HN2.out 0 rfl
    have n1 := blk_cell HN2.out 1 rfl
    have n2 := blk_cell HN2.out 2 rfl
    have n3 := blk_cell HN2.out 3 rfl
    have HP3 := Lib.hid (H2.out.chg (S := (· = w.heap.size)) (putC (Chg.refl _ _) (.int .u64 xrep) (.slice xkA xkn xkc) (.int .i64 xprev) (.int .i64 xnext) (.inl rfl)) (by omega) (fun g hg => by have := hvl g hg; omega))
    have HM3 := Lib.hid (HM2.out.chg (S := (· = w.heap.size)) (putC (Chg.refl _ _) (.int .u64 xrep) (.slice xkA xkn xkc) (.int .i64 xprev) (.int .i64 xnext) (.inl rfl)) (by omega))
    have HC3 := Lib.hid (putC HC2.out (.int .u64 xrep) (.slice xkA xkn xkc) (.int .i64 xprev) (.int .i64 xnext) (b := w.heap.size) (.inr (Nat.le_refl _)))
    go_wp2
    have h3 := (blk_set (blk_set (blk_set (blk_set HK2.out 0 (.int .u64 xrep)) 1 (.slice xkA xkn xkc)) 2 (.int .i64 xprev)) 3 (.int .i64 xnext))
    have k0 := blk_cell h3 0 rfl
    have k1 := blk_cell h3 1 rfl
    have k2 := blk_cell h3 2 rfl
    have k3 := blk_cell h3 3 rfl
    refine bodyPost_ret (v := .tuple #[.agg #[.int .u64 xrep, .slice xkA xkn xkc, .int .i64 xprev, .int .i64 xnext], .bool false]) (by simp [results, Tryz.results375, go_sem, k0, k1, k2, k3]) rfl ⟨⟨xrep, xkA, xkn, xkc, xprev, xnext⟩, false, rfl, HBB.out.symm, fun h => (by cases h), fun _ => HZ.out (of_decide_eq_false HBB.out), HP3.out, HM3.out, HC3.out⟩
  · go_wp2_with fail
    refine (mtRead m _ HM2.out).mono ?_
    rintro e w3 ⟨rfl, HMr, HCr⟩
    have hw1 : m < w1.heap.size := by have h1 := HB1.out.size; omega
    have H3 := Lib.hid (H2.out.chg HCr.out hne.1 hne.2)
    have HC3' := Lib.hid (HC2.out.then HCr.out)
    have HK3 := Lib.hid (HCr.out.blk HK2.out (by omega))
    have HN3 := Lib.hid (HCr.out.blk HN2.out (by omega))
    have HI := Lib.hid (show 0 ≤ i ∧ i < (ls.length : Int) from of_decide_eq_true HBB.out)
    have f0 := blk_free HK3.out 0
    have f1 := blk_free HK3.out 1
    have f2 := blk_free HK3.out 2
    have f3 := blk_free HK3.out 3
    have s0 := blk_cell HK3.out 0 rfl
    have s1 := blk_cell HK3.out 1 rfl
    have s2 := blk_cell HK3.out 2 rfl
    have s3 := blk_cell HK3.out 3 rfl
    have n0 := blk_cell HN3.out 0 rfl
    have n1 := blk_cell HN3.out 1 rfl
    have n2 := blk_cell HN3.out 2 rfl
    have n3 := blk_cell HN3.out 3 rfl
    have HP4 := Lib.hid (H3.out.chg (S := (· = w.heap.size)) (putC (Chg.refl _ _) (.int .u64 xrep) (.slice xkA xkn xkc) (.int .i64 xprev) (.int .i64 xnext) (.inl rfl)) (by omega) (fun g hg => by have := hvl g hg; omega))
    have HM4 := Lib.hid (HMr.out.chg (S := (· = w.heap.size)) (putC (Chg.refl _ _) (.int .u64 xrep) (.slice xkA xkn xkc) (.int .i64 xprev) (.int .i64 xnext) (.inl rfl)) (by omega))
    have HC4 := Lib.hid (putC HC3'.out (.int .u64 xrep) (.slice xkA xkn xkc) (.int .i64 xprev) (.int .i64 xnext) (b := w.heap.size) (.inr (Nat.le_refl _)))
    clear HCr H2 HM2 HC2 HK2 HN2
    go_wp2
    have h3 := (blk_set (blk_set (blk_set (blk_set HK3.out 0 (.int .u64 xrep)) 1 (.slice xkA xkn xkc)) 2 (.int .i64 xprev)) 3 (.int .i64 xnext))
    have k0 := blk_cell h3 0 rfl
    have k1 := blk_cell h3 1 rfl
    have k2 := blk_cell h3 2 rfl
    have k3 := blk_cell h3 3 rfl
    refine bodyPost_ret (v := .tuple #[.agg #[.int .u64 xrep, .slice xkA xkn xkc, .int .i64 xprev, .int .i64 xnext], .bool true]) (by simp [results, Tryz.results375, go_sem, k0, k1, k2, k3]) rfl ⟨⟨xrep, xkA, xkn, xkc, xprev, xnext⟩, true, rfl, HBB.out.symm, fun _ => HX.out HI.out, fun h => (by cases h), HP4.out, HM4.out, HC4.out⟩
end Go.Proofs.YtcnaikoloagbdaaGreat
namespace Go.Proofs.YtcnaikoloagbdaaGreat
set_option linter.unusedVariables false
set_option linter.unusedSimpArgs false
open Go.RowKit

theorem PoC.put {w : World} {base p m g c : Nat} {ls : List Ce} {limit : Int} (h : PoC w base p m (.slice (some ⟨g, 0, none⟩) ls.length c) ls limit) (i : Nat) (hi : i < ls.length) (x : Ce) : PoC ((((w.setCell ⟨g, i * 5, none⟩ (.int .u64 x.rep)).setCell ⟨g, i * 5 + 1, none⟩ (.slice x.kA x.kn x.kc)).setCell ⟨g, i * 5 + 2, none⟩ (.int .i64 x.prev)).setCell ⟨g, i * 5 + 3, none⟩ (.int .i64 x.next)) base p m (.slice (some ⟨g, 0, none⟩) ls.length c) (ls.set i x) limit := by
  have hz : (ls.set i x).length = ls.length := List.length_set
  have hgp := h.ne_own g rfl
  refine ⟨?_, ?_⟩
  · rw [hz]
    exact (blk_other (blk_other (blk_other (blk_other h.head _ (Ne.symm hgp)) _ (Ne.symm hgp)) _ (Ne.symm hgp)) _ (Ne.symm hgp))
  · rw [hz]
    have hm : i * 5 + 5 ≤ ls.length * 5 := by have := Nat.mul_le_mul_right 5 (show i + 1 ≤ ls.length from hi); omega
    have hr := row_set (row_set (row_set (row_set (h.row) (i * 5) (.int .u64 x.rep) (by omega)) (i * 5 + 1) (.slice x.kA x.kn x.kc) (by omega)) (i * 5 + 2) (.int .i64 x.prev) (by omega)) (i * 5 + 3) (.int .i64 x.next) (by omega)
    have hrows : ∀ r ∈ ls.map cellsC, r.length = 5 := fun r hr => by obtain ⟨y, _, rfl⟩ := List.mem_map.1 hr; rfl
    have key : (ls.set i x).flatMap cellsC = sets (ls.flatMap cellsC) (i * 5) [.int .u64 x.rep, .slice x.kA x.kn x.kc, .int .i64 x.prev, .int .i64 x.next] := by
      rw [List.flatMap_def, List.flatMap_def, flat_sets 5 _ (by simp) _ i hrows (by simpa using hi), List.map_set, List.getElem_map]
      rfl
    rw [key]
    exact hr
set_option maxRecDepth 100000 in
set_option maxHeartbeats 1000000 in
theorem pcPut {base : Nat} (p m : Nat) (v : Value) (ls : List Ce) (limit : Int) (w : World) (h : PoC w base p m v ls limit) (i : Int) (xrep : Int) (xkA : Option Addr) (xkn : Nat) (xkc : Nat) (xprev : Int) (xnext : Int) (hb : base ≤ w.heap.size) : Calls Tryz.prog 367 #[.pointer (some ⟨p, 0, none⟩), .int .i64 i, .agg #[.int .u64 xrep, .slice xkA xkn xkc, .int .i64 xprev, .int .i64 xnext]] w fun e w' => (∃ r, e = .returned r) ∧ Hid (PoC w' base p m v (putAt ls i ⟨xrep, xkA, xkn, xkc, xprev, xnext⟩) limit) ∧ Hid (Chg (fun g => v.ownBlock = some g) w w') := by
  have hA := (Below.refl w.heap.size w).alloc (Nat.le_refl _) (.cells #[.int .u64 xrep, .slice xkA xkn xkc, .int .i64 xprev, .int .i64 xnext] 232)
  have H0 := Lib.hid (h.below hA)
  have HC0 := Lib.hid (Chg.of_below (S := fun g => v.ownBlock = some g) hA)
  have HK0 := Lib.hid (blk_new w #[.int .u64 xrep, .slice xkA xkn xkc, .int .i64 xprev, .int .i64 xnext] 232)
  have hvl := h.own_lt
  clear h hA
  go_enter Tryz.func367, Tryz.ntmps367
  go_wp2_with fail
  generalize w.alloc (.cells #[.int .u64 xrep, .slice xkA xkn xkc, .int .i64 xprev, .int .i64 xnext] 232) = w0 at *
  refine (pcLive p m v ls limit _ H0.out i).mono ?_
  rintro e w1 ⟨rfl, rfl⟩
  by_cases h0 : 0 ≤ i ∧ i < ls.length
  · rw [decide_eq_true h0]
    obtain ⟨n, rfl⟩ := Int.eq_ofNat_of_zero_le h0.1
    have hn : n < ls.length := by omega
    obtain ⟨A, c, rfl, hat⟩ := H0.out.at_
    obtain ⟨g, rfl, hbg, hg, e0, e1, e2, e3, e9, fr⟩ := hat n hn
    obtain ⟨_, c1, _⟩ := H0.out.cells
    have r0 := fr (n * 5)
    have r1 := fr (n * 5 + 1)
    have r2 := fr (n * 5 + 2)
    have r3 := fr (n * 5 + 3)
    have s0 := blk_cell HK0.out 0 rfl
    have s1 := blk_cell HK0.out 1 rfl
    have s2 := blk_cell HK0.out 2 rfl
    have s3 := blk_cell HK0.out 3 rfl
    have hgz := hvl g rfl
    clear hat fr h0
    go_wp2
    go_region
    have HP4 := Lib.hid (H0.out.put n hn ⟨xrep, xkA, xkn, xkc, xprev, xnext⟩)
    go_wp2
    go_ret
    have hp5 := HP4.out.chg (S := fun _ => False) (Chg.refl _ _).drew (fun h => h) (fun _ _ h => h)
    rw [putAt_nat] at hp5
    exact ⟨⟨_, rfl⟩, hp5, (((((HC0.out.set (b := g) (.int .u64 xrep) (.inl rfl)).set (b := g) (.slice xkA xkn xkc) (.inl rfl)).set (b := g) (.int .i64 xprev) (.inl rfl)).set (b := g) (.int .i64 xnext) (.inl rfl))).drew⟩
  · rw [decide_eq_false h0]
    have HE := Lib.hid (putAt_none ls i ⟨xrep, xkA, xkn, xkc, xprev, xnext⟩ h0)
    clear h0
    go_wp2
    go_ret
    exact ⟨⟨_, rfl⟩, (by show PoC _ _ _ _ _ _ _; rw [HE.out]; exact H0.out), HC0.out⟩
end Go.Proofs.YtcnaikoloagbdaaGreat
namespace Go.Proofs.YtcnaikoloagbdaaGreat
set_option linter.unusedVariables false
set_option linter.unusedSimpArgs false
open Go.RowKit

theorem infoC : (Tryz.prog.info? 401).map (fun i => (i.zero, i.size, i.bytes)) = some (some (.agg #[.int .u64 0, .slice none 0 0, .int .i64 0, .int .i64 0, .bool false]), 5, 56) := by kernel_rfl
theorem PoC.live {w : World} {base p m : Nat} {v : Value} {ls : List Ce} {limit : Int} (h : PoC w base p m v ls limit) (q : Int) : (w.setCell ⟨p, 3, none⟩ (.int .i64 q)).heap[p]? = some (.cells #[.pointer (some ⟨m, 0, none⟩), v, .slice none 0 0, .int .i64 q, .int .i64 limit] 279 (0, 0)) ∧ (w.setCell ⟨p, 3, none⟩ (.int .i64 q)).ownsRow base 401 5 v ls.length (ls.flatMap cellsC) :=
  ⟨blk_set h.head 3 _, rowG_chg h.row ((Chg.refl (fun k => k = p) w).set (b := p) (i := 3) (.int .i64 q) (.inl rfl)) (fun g hg e => h.ne_own g hg e)⟩
set_option maxRecDepth 100000 in
set_option maxHeartbeats 2000000 in
theorem pcAlloc {base : Nat} (p m : Nat) (v : Value) (ls : List Ce) (limit : Int) (w : World) (h : PoC w base p m v ls limit) (xrep : Int) (xkA : Option Addr) (xkn : Nat) (xkc : Nat) (xprev : Int) (xnext : Int) (hb : base ≤ w.heap.size) (hroom : (ls.length : Int) + 1 ≤ limit) (h1 : limit ≤ 1048576) (hl : ls.length ≤ 1000) : Calls Tryz.prog 385 #[.pointer (some ⟨p, 0, none⟩), .agg #[.int .u64 xrep, .slice xkA xkn xkc, .int .i64 xprev, .int .i64 xnext]] w fun e w' => ∃ v', e = .returned (.tuple #[.int .i64 (ls.length : Nat), .bool true]) ∧ Hid (PoC w' base p m v' (ls ++ [⟨xrep, xkA, xkn, xkc, xprev, xnext⟩]) limit) ∧ Hid (v'.ownBlock = v.ownBlock ∨ ∃ g, v'.ownBlock = some g ∧ w.heap.size ≤ g) ∧ Hid (Chg (fun k => k = p ∨ v.ownBlock = some k) w w') := by
  obtain ⟨i0, hi, hz0, hz1, hz2⟩ := info_parts infoC
  have hA := (Below.refl w.heap.size w).alloc (Nat.le_refl _) (.cells #[.int .u64 xrep, .slice xkA xkn xkc, .int .i64 xprev, .int .i64 xnext] 232)
  have H0 := Lib.hid (h.below hA)
  have HC0 := Lib.hid (Chg.of_below (S := fun k => k = p ∨ v.ownBlock = some k) hA)
  have HK0 := Lib.hid (blk_new w #[.int .u64 xrep, .slice xkA xkn xkc, .int .i64 xprev, .int .i64 xnext] 232)
  have hvl := h.own_lt
  have hpl := h.cells.2.2.2.2.2.2
  clear h hA
  go_enter Tryz.func385, Tryz.ntmps385
  go_wp2_with fail
  generalize w.alloc (.cells #[.int .u64 xrep, .slice xkA xkn xkc, .int .i64 xprev, .int .i64 xnext] 232) = w0 at *
  refine (pcRoom p m v ls limit _ H0.out 1 (by omega) (by omega) h1 hl).mono ?_
  rintro e w1 ⟨rfl, HB1⟩
  have H1 := Lib.hid (H0.out.below HB1.out)
  have HK1 := Lib.hid (blk_below HK0.out HB1.out rfl)
  have HC1 := Lib.hid (HC0.out.then (Chg.of_below HB1.out))
  obtain ⟨c0, c1, c2, c3, c4, fz, _⟩ := H1.out.cells
  have f3 := fz 3
  have s0 := blk_cell HK1.out 0 rfl
  have s1 := blk_cell HK1.out 1 rfl
  have s2 := blk_cell HK1.out 2 rfl
  have s3 := blk_cell HK1.out 3 rfl
  have hpb := H1.out.ne_own
  have hL := H1.out.live ((ls.length : Int) + 1)
  have hz1' : (w1.setCell ⟨p, 3, none⟩ (.int .i64 ((ls.length : Int) + 1))).heap.size = w1.heap.size := by simp
  have HH2 := Lib.hid (blk_old hL.1 (.cells #[.int .u64 xrep, .slice xkA xkn xkc, .int .i64 xprev, .int .i64 xnext, .bool true] 401))
  have HR2 := Lib.hid (rowG_chg (S := fun _ => False) hL.2 ((Chg.refl _ _).alloc (.cells #[.int .u64 xrep, .slice xkA xkn xkc, .int .i64 xprev, .int .i64 xnext, .bool true] 401)) (fun _ _ h => h))
  have hN2 := blk_new (w1.setCell ⟨p, 3, none⟩ (.int .i64 ((ls.length : Int) + 1))) #[.int .u64 xrep, .slice xkA xkn xkc, .int .i64 xprev, .int .i64 xnext, .bool true] 401
  rw [hz1'] at hN2
  have HN2 := Lib.hid hN2
  have HC2 := Lib.hid ((HC1.out.set (b := p) (i := 3) (.int .i64 ((ls.length : Int) + 1)) (.inl (.inl rfl))).alloc (.cells #[.int .u64 xrep, .slice xkA xkn xkc, .int .i64 xprev, .int .i64 xnext, .bool true] 401))
  have HRES := Lib.hid (show ∀ (v' : Value) (w3 w4 : World), Chg (fun k => k = p ∨ v.ownBlock = some k) w w3 → w3.heap[p]? = some (.cells #[.pointer (some ⟨m, 0, none⟩), v, .slice none 0 0, .int .i64 ((ls.length : Int) + 1), .int .i64 limit] 279 (0, 0)) → w4.ownsRow base 401 5 v' (ls.length + 1) (ls.flatMap cellsC ++ [.int .u64 xrep, .slice xkA xkn xkc, .int .i64 xprev, .int .i64 xnext, .bool true]) → w3.grownBy w4 v.ownBlock → (v'.ownBlock = v.ownBlock ∨ v'.ownBlock = some w3.heap.size) →
      PoC (w4.setCell ⟨p, 1, none⟩ v') base p m v' (ls ++ [⟨xrep, xkA, xkn, xkc, xprev, xnext⟩]) limit ∧ (v'.ownBlock = v.ownBlock ∨ ∃ g, v'.ownBlock = some g ∧ w.heap.size ≤ g) ∧ Chg (fun k => k = p ∨ v.ownBlock = some k) w (w4.setCell ⟨p, 1, none⟩ v') from fun v' w3 w4 hC h3 hr hg hv => by
    have hp4 := (hg.block p (blk_lt h3) (fun e => hpb p e.symm rfl)).trans h3
    have hne : ∀ g, v'.ownBlock = some g → ¬ (g = p) := fun g hg' => by
      rcases hv with h | h
      · exact hpb g (h.symm.trans hg')
      · rw [h] at hg'; cases hg'; have := blk_lt h3; omega
    refine ⟨⟨?_, ?_⟩, ?_, ?_⟩
    · rw [List.length_append]
      exact blk_set hp4 1 v'
    · rw [List.length_append, List.flatMap_append]
      exact rowG_chg hr ((Chg.refl (fun k => k = p) _).set _ (.inl rfl)) hne
    · rcases hv with h | h
      · exact .inl h
      · exact .inr ⟨_, h, hC.size⟩
    · exact ((hC.trans (Chg.of_grown hg (S := fun k => k = p ∨ v.ownBlock = some k) (fun b h => .inr h)) (fun _ _ h => h)).set _ (.inl (.inl rfl))))
  have HF := Lib.hid (show ∀ (w3 w4 : World), w3.grownBy w4 v.ownBlock → w3.heap[p]? = some (.cells #[.pointer (some ⟨m, 0, none⟩), v, .slice none 0 0, .int .i64 ((ls.length : Int) + 1), .int .i64 limit] 279 (0, 0)) → w4.heap[p]? = some (.cells #[.pointer (some ⟨m, 0, none⟩), v, .slice none 0 0, .int .i64 ((ls.length : Int) + 1), .int .i64 limit] 279 (0, 0)) from fun w3 w4 hg h3 => (hg.block p (blk_lt h3) (fun e => hpb p e.symm rfl)).trans h3)
  clear hN2 fz hpb hL hz1'
  go_wp2
  generalize (w1.setCell ⟨p, 3, none⟩ (.int .i64 ((ls.length : Int) + 1))).alloc (.cells #[.int .u64 xrep, .slice xkA xkn xkc, .int .i64 xprev, .int .i64 xnext, .bool true] 401) = w2 at *
  have d0 := blk_cell HH2.out 0 rfl
  have d1 := blk_cell HH2.out 1 rfl
  have d3 := blk_cell HH2.out 3 rfl
  have d1' := blk_cell (blk_old HH2.out (.cells #[.int .u64 xrep, .slice xkA xkn xkc, .int .i64 xprev, .int .i64 xnext, .bool true] 401)) 1 (v := v) rfl
  have n0 := blk_cell HN2.out 0 rfl
  have n1 := blk_cell HN2.out 1 rfl
  have n2 := blk_cell HN2.out 2 rfl
  have n3 := blk_cell HN2.out 3 rfl
  have nb := blk_cell HN2.out 4 rfl
  have HR3 := Lib.hid (fun o => rowG_chg (S := fun _ => False) HR2.out ((Chg.refl _ w2).alloc o) (fun _ _ h => h))
  have HONE := Lib.hid (show ∀ u ∈ ([.int .u64 xrep, .slice xkA xkn xkc, .int .i64 xprev, .int .i64 xnext, .bool true] : List Value), u.oneCell' = true by intro u hu; simp at hu; rcases hu with rfl | rfl | rfl | rfl | rfl <;> rfl)
  have HQ1 := Lib.hid (show (ls.length + 1) * 56 ≤ 140737488355328 by omega)
  have HQ2 := Lib.hid (show ls.length + 1 ≤ maxLen by unfold maxLen; omega)
  have HBS := Lib.hid (show base ≤ w2.heap.size + 1 by have := HC2.out.size; omega)
  go_region_law (first | ((with_reducible refine gate_sbuiltin (b := .append) rfl ?_); refine step_pushR base v ls.length (ls.flatMap cellsC) [.int .u64 xrep, .slice xkA xkn xkc, .int .i64 xprev, .int .i64 xnext, .bool true] _ _ _ rfl rfl Tryz.underlying277 hi hz0 hz1 hz2 rfl (by decide) rfl rfl (blk_new _ _ _) rfl HONE.out (HR3.out _) (by simpa using HBS.out) HQ1.out HQ2.out ?_; intro v4 w4 ho4 hg4 hv4; obtain ⟨g', cap', rfl⟩ := row_succ ho4; have h5 := HF.out _ _ hg4 (blk_old HH2.out _); have f4 := blk_free h5 1; have e4 := blk_cell h5 1 (v := v) rfl; clear h5; have h4 := HRES.out _ _ _ (HC2.out.alloc _).drew (blk_old HH2.out _) ho4 hg4 hv4; have HP5 := Lib.hid h4.1; have HV5 := Lib.hid h4.2.1; have HC5 := Lib.hid h4.2.2; clear h4 ho4 hg4 hv4))
  all_goals
    go_wp2
    go_ret2
    exact ⟨_, by first | rfl | (simp; omega), HP5.out, HV5.out, HC5.out⟩
end Go.Proofs.YtcnaikoloagbdaaGreat
