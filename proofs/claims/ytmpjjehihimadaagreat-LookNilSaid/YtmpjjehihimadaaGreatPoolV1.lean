/-
  pool.Pool of a veb's nodes: New, Room, Live, Len, walked.
-/
import Derived.Test.YtmpjjehihimadaaGreatMeter
import Derived.Test.YtmpjjehihimadaaGreatRow
namespace Go.Proofs.YtmpjjehihimadaaGreat
set_option linter.unusedVariables false
set_option linter.unusedSimpArgs false
open Go.RowKit

structure Ve where
  min : Int
  max : Int
  sum : Int
  bits : Int
def cellsV (x : Ve) : List Value := [.int .u64 x.min, .int .u64 x.max, .int .i64 x.sum, .int .u64 x.bits, .bool true]
theorem cellsV_len (x : Ve) : (cellsV x).length = 5 := rfl
/-- a pool, all of whose places live; v: its row -/
structure PoV (w : World) (base p m : Nat) (v : Value) (ls : List Ve) (limit : Int) : Prop where
  head : w.heap[p]? = some (.cells #[.pointer (some ⟨m, 0, none⟩), v, .slice none 0 0, .int .i64 (ls.length : Nat), .int .i64 limit] 154 (0, 0))
  row : w.ownsRow base 214 5 v ls.length (ls.flatMap cellsV)
theorem PoV.cells {w : World} {base p m : Nat} {v : Value} {ls : List Ve} {limit : Int} (h : PoV w base p m v ls limit) : w.cell? ⟨p, 0, none⟩ = some (.pointer (some ⟨m, 0, none⟩)) ∧ w.cell? ⟨p, 1, none⟩ = some v ∧ w.cell? ⟨p, 2, none⟩ = some (.slice none 0 0) ∧ w.cell? ⟨p, 3, none⟩ = some (.int .i64 (ls.length : Nat)) ∧ w.cell? ⟨p, 4, none⟩ = some (.int .i64 limit) ∧ (∀ k, w.frozen? ⟨p, k, none⟩ = false) ∧ p < w.heap.size :=
  ⟨blk_cell h.head 0 rfl, blk_cell h.head 1 rfl, blk_cell h.head 2 rfl, blk_cell h.head 3 rfl, blk_cell h.head 4 rfl, fun k => blk_free h.head k, blk_lt h.head⟩
theorem PoV.chg {S : Nat → Prop} {w w' : World} {base p m : Nat} {v : Value} {ls : List Ve} {limit : Int} (h : PoV w base p m v ls limit) (hc : Chg S w w') (h1 : ¬ S p) (h2 : ∀ g, v.ownBlock = some g → ¬ S g) : PoV w' base p m v ls limit :=
  ⟨hc.blk h.head h1, rowG_chg h.row hc h2⟩
theorem PoV.below {w w' : World} {base p m : Nat} {v : Value} {ls : List Ve} {limit : Int} (h : PoV w base p m v ls limit) (hb : Below w.heap.size w w') : PoV w' base p m v ls limit := h.chg (S := fun _ => False) (Chg.of_below hb) (fun h => h) (fun _ _ h => h)
theorem PoV.own_lt {w : World} {base p m : Nat} {v : Value} {ls : List Ve} {limit : Int} (h : PoV w base p m v ls limit) : ∀ g, v.ownBlock = some g → g < w.heap.size := fun g hg => (rowG_lt h.row g hg).2
theorem PoV.ne_mt {w : World} {base p m m2 : Nat} {v : Value} {ls : List Ve} {limit : Int} (h : PoV w base p m v ls limit) (hm : Mt w m2) : ¬ (p = m2) ∧ ∀ g, v.ownBlock = some g → ¬ (g = m2) := by
  obtain ⟨a, b, c, d, e, h0⟩ := hm
  constructor
  · rintro rfl; rw [h.head] at h0; cases h0
  · rintro g hg rfl
    obtain ⟨cur, hh⟩ := rowG_ty h.row g hg
    rw [hh] at h0
    cases h0
theorem PoV.ne_own {w : World} {base p m : Nat} {v : Value} {ls : List Ve} {limit : Int} (h : PoV w base p m v ls limit) : ∀ g, v.ownBlock = some g → ¬ (g = p) := fun g hg => by
  rintro rfl
  obtain ⟨cur, hh⟩ := rowG_ty h.row g hg
  have := h.head
  rw [hh] at this
  cases this
/-- where a pool's row is read -/
theorem PoV.at_ {w : World} {base p m : Nat} {v : Value} {ls : List Ve} {limit : Int} (h : PoV w base p m v ls limit) : ∃ A c, v = .slice A ls.length c ∧ ∀ (i : Nat) (hi : i < ls.length), ∃ g, A = some ⟨g, 0, none⟩ ∧ base ≤ g ∧ g < w.heap.size ∧ w.cell? ⟨g, i * 5, none⟩ = some (.int .u64 ls[i].min) ∧ w.cell? ⟨g, i * 5 + 1, none⟩ = some (.int .u64 ls[i].max) ∧ w.cell? ⟨g, i * 5 + 2, none⟩ = some (.int .i64 ls[i].sum) ∧ w.cell? ⟨g, i * 5 + 3, none⟩ = some (.int .u64 ls[i].bits) ∧ w.cell? ⟨g, i * 5 + 4, none⟩ = some (.bool true) ∧ ∀ k, w.frozen? ⟨g, k, none⟩ = false := by
  rcases h.row.2 with ⟨rfl, hn⟩ | ⟨g, cap, cur, rfl, hg, hh, hnc, hcap, hsz, htk⟩
  · exact ⟨none, 0, by rw [hn], fun i hi => by omega⟩
  · refine ⟨_, cap, rfl, fun i hi => ⟨g, rfl, hg, blk_lt hh, ?_⟩⟩
    have key : ∀ k, k < 5 → cur[i * 5 + k]? = (cellsV ls[i])[k]? := fun k hk => by
      have h1 : (cur.toList.take (ls.length * 5))[i * 5 + k]? = (ls.flatMap cellsV)[i * 5 + k]? := by rw [htk]
      rw [List.getElem?_take, if_pos (by omega)] at h1
      rw [← Array.getElem?_toList, h1]
      exact flatN cellsV 5 cellsV_len ls i k hi hk
    exact ⟨blk_cell hh _ (key 0 (by decide)), blk_cell hh _ (key 1 (by decide)), blk_cell hh _ (key 2 (by decide)), blk_cell hh _ (key 3 (by decide)), blk_cell hh _ (key 4 (by decide)), fun k => blk_free hh k⟩

set_option maxRecDepth 100000 in
theorem pvLen {base : Nat} (p m : Nat) (v : Value) (ls : List Ve) (limit : Int) (w : World) (h : PoV w base p m v ls limit) : Calls Tryz.prog 405 #[.pointer (some ⟨p, 0, none⟩)] w fun e w' => e = .returned (.int .i64 (ls.length : Nat)) ∧ w' = w := by
  obtain ⟨_, _, _, c3, _⟩ := h.cells
  clear h
  go_enter Tryz.func405, Tryz.ntmps405
  go_wp2
  go_ret
  exact ⟨rfl, rfl⟩
set_option maxRecDepth 100000 in
theorem pvNew (m : Nat) (limit : Int) (w : World) (h0 : 0 ≤ limit) (h1 : limit ≤ 1048576) : Calls Tryz.prog 58 #[.pointer (some ⟨m, 0, none⟩), .int .i64 limit] w fun e w' => ∃ p, e = .returned (.tuple #[.pointer (some ⟨p, 0, none⟩), .int .i64 0]) ∧ w.heap.size ≤ p ∧ Hid (PoV w' w.heap.size p m (.slice none 0 0) [] limit) ∧ Below w.heap.size w w' := by
  go_enter Tryz.func58, Tryz.ntmps58
  go_wp2
  go_ret2
  exact ⟨_, rfl, Nat.le_refl _, ⟨blk_new _ _ _, ⟨rfl, .inl ⟨rfl, rfl⟩⟩⟩, (Below.refl _ w).alloc (Nat.le_refl _) _⟩
set_option maxRecDepth 100000 in
theorem pvRoom {base : Nat} (p m : Nat) (v : Value) (ls : List Ve) (limit : Int) (w : World) (h : PoV w base p m v ls limit) (q : Int) (hq : q ≤ limit - ls.length) (h0 : 0 ≤ limit) (h1 : limit ≤ 1048576) (hl : ls.length ≤ 1000) : Calls Tryz.prog 121 #[.pointer (some ⟨p, 0, none⟩), .int .i64 q] w fun e w' => e = .returned (.bool true) ∧ Hid (Below w.heap.size w w') := by
  obtain ⟨_, _, _, c3, c4, _⟩ := h.cells
  clear h
  go_enter Tryz.func121, Tryz.ntmps121
  go_wp2
  go_quiet (fail)
  go_wp2
  go_ret
  exact ⟨rfl, below_drewN (Below.refl _ _) _⟩
set_option maxRecDepth 100000 in
set_option maxHeartbeats 1000000 in
theorem pvLive {base : Nat} (p m : Nat) (v : Value) (ls : List Ve) (limit : Int) (w : World) (h : PoV w base p m v ls limit) (i : Int) : Calls Tryz.prog 150 #[.pointer (some ⟨p, 0, none⟩), .int .i64 i] w fun e w' => e = .returned (.bool (decide (0 ≤ i ∧ i < ls.length))) ∧ w' = w := by
  obtain ⟨A, c, rfl, hat⟩ := h.at_
  obtain ⟨_, c1, _⟩ := h.cells
  by_cases h0 : 0 ≤ i
  · by_cases h1 : i < ls.length
    · have HD := Lib.hid (decide_eq_true (show 0 ≤ i ∧ i < ls.length from ⟨h0, h1⟩))
      obtain ⟨n, rfl⟩ := Int.eq_ofNat_of_zero_le h0
      obtain ⟨g, rfl, _, _, _, _, _, _, e9, _⟩ := hat n (by omega)
      rw [HD.out]
      clear h hat
      go_enter Tryz.func150, Tryz.ntmps150
      go_wp2
      go_ret
      exact ⟨rfl, rfl⟩
    · have HD := Lib.hid (decide_eq_false (show ¬ (0 ≤ i ∧ i < ls.length) from fun h => h1 h.2))
      rw [HD.out]
      clear h hat
      go_enter Tryz.func150, Tryz.ntmps150
      go_wp2
      go_ret
      exact ⟨rfl, rfl⟩
  · have HD := Lib.hid (decide_eq_false (show ¬ (0 ≤ i ∧ i < ls.length) from fun h => h0 h.1))
    rw [HD.out]
    clear h hat
    go_enter Tryz.func150, Tryz.ntmps150
    go_wp2
    go_ret
    exact ⟨rfl, rfl⟩
end Go.Proofs.YtmpjjehihimadaaGreat
