/-
  chain.Chain: what it is in memory (Ch), its order (Rk: a rank that falls from link to link); plain laws.
  chain.Chain: New, read, Key, Next, Prev, First, Len, walked.
  chain.Chain: change, Behind, walked.
-/
import Derived.Test.YtcnaikoloagbdaaGreatQPoolL
namespace Go.Proofs.YtcnaikoloagbdaaGreat
set_option linter.unusedVariables false
set_option linter.unusedSimpArgs false
open Go.RowKit

/-- a chain: its block c, its meter m, its pool p, the pool's row v -/
structure Ch (w : World) (c m p : Nat) (v : Value) (ls : List Lk) (limit fst : Int) : Prop where
  head : ∃ lst : Int, w.heap[c]? = some (.cells #[.pointer (some ⟨m, 0, none⟩), .pointer (some ⟨p, 0, none⟩), .int .i64 fst, .int .i64 lst] 276 (0, 0))
  pool : PoL w 0 p m v ls limit
  mt : Mt w m
theorem Ch.chg {S : Nat → Prop} {w w' : World} {c m p : Nat} {v : Value} {ls : List Lk} {limit fst : Int} (h : Ch w c m p v ls limit fst) (hc : Chg S w w') (h1 : ¬ S c) (h2 : ¬ S m) (h3 : ¬ S p) (h4 : ∀ g, v.ownBlock = some g → ¬ S g) : Ch w' c m p v ls limit fst := by
  obtain ⟨lst, hh⟩ := h.head
  exact ⟨⟨lst, hc.blk hh h1⟩, h.pool.chg hc h3 h4, h.mt.chg hc h2⟩
theorem Ch.below {w w' : World} {c m p : Nat} {v : Value} {ls : List Lk} {limit fst : Int} (h : Ch w c m p v ls limit fst) (hb : Below w.heap.size w w') : Ch w' c m p v ls limit fst := h.chg (S := fun _ => False) (Chg.of_below hb) (fun h => h) (fun h => h) (fun h => h) (fun _ _ h => h)
theorem Ch.ne {w : World} {c m p : Nat} {v : Value} {ls : List Lk} {limit fst : Int} (h : Ch w c m p v ls limit fst) : c ≠ m ∧ c ≠ p ∧ p ≠ m ∧ (∀ g, v.ownBlock = some g → g ≠ c ∧ g ≠ m ∧ g ≠ p) ∧ c < w.heap.size ∧ m < w.heap.size ∧ p < w.heap.size ∧ (∀ g, v.ownBlock = some g → g < w.heap.size) := by
  obtain ⟨lst, hh⟩ := h.head
  obtain ⟨a, b, c', d, e, hm⟩ := h.mt
  have hp := h.pool.ne_mt h.mt
  refine ⟨?_, ?_, hp.1, fun g hg => ⟨?_, hp.2 g hg, h.pool.ne_own g hg⟩, blk_lt hh, blk_lt hm, h.pool.cells.2.2.2.2.2.2, h.pool.own_lt⟩
  · rintro rfl; rw [hh] at hm; cases hm
  · rintro rfl; have := h.pool.head; rw [hh] at this; cases this
  · rintro rfl
    obtain ⟨cur, h2⟩ := rowG_ty h.pool.row g hg
    rw [hh] at h2; cases h2
theorem Ch.cells {w : World} {c m p : Nat} {v : Value} {ls : List Lk} {limit fst : Int} (h : Ch w c m p v ls limit fst) : w.cell? ⟨c, 0, none⟩ = some (.pointer (some ⟨m, 0, none⟩)) ∧ w.cell? ⟨c, 1, none⟩ = some (.pointer (some ⟨p, 0, none⟩)) ∧ w.cell? ⟨c, 2, none⟩ = some (.int .i64 fst) ∧ (∃ lst : Int, w.cell? ⟨c, 3, none⟩ = some (.int .i64 lst)) ∧ (∀ k, w.frozen? ⟨c, k, none⟩ = false) := by
  obtain ⟨lst, hh⟩ := h.head
  exact ⟨blk_cell hh 0 rfl, blk_cell hh 1 rfl, blk_cell hh 2 rfl, ⟨lst, blk_cell hh 3 rfl⟩, fun k => blk_free hh k⟩
theorem Ch.setF {w : World} {c m p : Nat} {v : Value} {ls : List Lk} {limit fst : Int} (h : Ch w c m p v ls limit fst) (x : Int) : Ch (w.setCell ⟨c, 2, none⟩ (.int .i64 x)) c m p v ls limit x := by
  obtain ⟨lst, hh⟩ := h.head
  obtain ⟨h1, h2, h3, h4, _⟩ := h.ne
  have hc := (Chg.refl (fun k => k = c) w).set (b := c) (i := 2) (.int .i64 x) (.inl rfl)
  exact ⟨⟨lst, blk_set hh 2 _⟩, h.pool.chg hc (fun e => h2 e.symm) (fun g hg e => (h4 g hg).1 e), h.mt.chg hc (fun e => h1 e.symm)⟩
theorem Ch.setL {w : World} {c m p : Nat} {v : Value} {ls : List Lk} {limit fst : Int} (h : Ch w c m p v ls limit fst) (x : Int) : Ch (w.setCell ⟨c, 3, none⟩ (.int .i64 x)) c m p v ls limit fst := by
  obtain ⟨lst, hh⟩ := h.head
  obtain ⟨h1, h2, h3, h4, _⟩ := h.ne
  have hc := (Chg.refl (fun k => k = c) w).set (b := c) (i := 3) (.int .i64 x) (.inl rfl)
  exact ⟨⟨x, blk_set hh 3 _⟩, h.pool.chg hc (fun e => h2 e.symm) (fun g hg e => (h4 g hg).1 e), h.mt.chg hc (fun e => h1 e.symm)⟩
/-- what a chain's operations may change -/
def chO (c m p : Nat) (v : Value) : Nat → Prop := fun k => k = c ∨ k = m ∨ k = p ∨ v.ownBlock = some k
/-- ranks that fall from link to link, all below R -/
def Rk (ls : List Lk) (fst : Int) (R : Nat) : Prop := (fst < (ls.length : Int) ∧ ∀ x ∈ ls, 0 ≤ x.key ∧ x.key ≤ 18446744073709551615) ∧ ∃ rk : Nat → Nat, ∀ (i : Nat) (hi : i < ls.length), rk i < R ∧ ls[i].next < (ls.length : Int) ∧ (0 ≤ ls[i].next → rk ls[i].next.toNat < rk i)
theorem Rk.nil : Rk [] (-1) 0 := ⟨⟨by decide, fun x hx => absurd hx (by simp)⟩, fun _ => 0, fun i hi => absurd hi (by simp)⟩
/-- a link's 'next' is set -/
def setN (ls : List Lk) (i : Int) (x : Int) : List Lk := if h : 0 ≤ i ∧ i < ls.length then ls.set i.toNat { ls[i.toNat]'(by omega) with next := x } else ls
def setP (ls : List Lk) (i : Int) (x : Int) : List Lk := if h : 0 ≤ i ∧ i < ls.length then ls.set i.toNat { ls[i.toNat]'(by omega) with prev := x } else ls
theorem setN_len (ls : List Lk) (i x : Int) : (setN ls i x).length = ls.length := by unfold setN; split <;> simp
theorem setP_len (ls : List Lk) (i x : Int) : (setP ls i x).length = ls.length := by unfold setP; split <;> simp
theorem setN_get (ls : List Lk) (i x : Int) (j : Nat) (hj : j < ls.length) : ((setN ls i x)[j]'(by rw [setN_len]; exact hj)).next = if i = (j : Int) then x else ls[j].next := by
  unfold setN
  split
  · rename_i h
    simp only [List.getElem_set]
    by_cases e : i.toNat = j
    · rw [if_pos e, if_pos (by omega)]
    · rw [if_neg e, if_neg (by omega)]
  · rename_i h
    rw [if_neg (by omega)]
theorem setP_get (ls : List Lk) (i x : Int) (j : Nat) (hj : j < ls.length) : ((setP ls i x)[j]'(by rw [setP_len]; exact hj)).next = ls[j].next := by
  unfold setP
  split
  · rename_i h
    simp only [List.getElem_set]
    split
    · rename_i e; subst e; rfl
    · rfl
  · rfl
theorem setN_key (ls : List Lk) (i v : Int) : ∀ x ∈ setN ls i v, ∃ y ∈ ls, y.key = x.key := fun x hx => by
  unfold setN at hx
  split at hx
  · rcases List.mem_or_eq_of_mem_set hx with h | h
    · exact ⟨x, h, rfl⟩
    · subst h; exact ⟨_, List.getElem_mem _, rfl⟩
  · exact ⟨x, hx, rfl⟩
theorem setP_key (ls : List Lk) (i v : Int) : ∀ x ∈ setP ls i v, ∃ y ∈ ls, y.key = x.key := fun x hx => by
  unfold setP at hx
  split at hx
  · rcases List.mem_or_eq_of_mem_set hx with h | h
    · exact ⟨x, h, rfl⟩
    · subst h; exact ⟨_, List.getElem_mem _, rfl⟩
  · exact ⟨x, hx, rfl⟩
theorem Rk.prevd {ls : List Lk} {fst : Int} {R : Nat} (h : Rk ls fst R) (i x : Int) : Rk (setP ls i x) fst R := by
  obtain ⟨⟨h1, hu⟩, rk, h2⟩ := h
  refine ⟨⟨by rw [setP_len]; exact h1, fun y hy => by obtain ⟨z, hz, e⟩ := setP_key ls i x y hy; rw [← e]; exact hu z hz⟩, rk, fun j hj => ?_⟩
  rw [setP_len] at hj
  rw [setP_get ls i x j hj, setP_len]
  exact h2 j hj
/-- a link more, behind i (or, where i is none, ahead of all) -/
theorem Rk.more {ls : List Lk} {fst : Int} {R : Nat} (h : Rk ls fst R) (i k : Int) (hk : 0 ≤ k ∧ k ≤ 18446744073709551615) (hi : i < ls.length) (nx : Int) (hnx : (0 ≤ i → ∃ h : i.toNat < ls.length, nx = ls[i.toNat].next) ∧ (i < 0 → nx = fst)) (pr : Int) :
    Rk (setN (ls ++ [⟨k, pr, nx⟩]) i ls.length) (if i < 0 then ls.length else fst) (2 * R + 1) := by
  obtain ⟨⟨h1, hu⟩, rk, h2⟩ := h
  have hl : (ls ++ [(⟨k, pr, nx⟩ : Lk)]).length = ls.length + 1 := by simp
  have hu2 : ∀ x ∈ setN (ls ++ [⟨k, pr, nx⟩]) i ls.length, 0 ≤ x.key ∧ x.key ≤ 18446744073709551615 := fun y hy => by
    obtain ⟨z, hz, e⟩ := setN_key _ _ _ y hy
    rw [← e]
    rcases List.mem_append.1 hz with h | h
    · exact hu z h
    · rw [List.mem_singleton] at h; subst h; exact hk
  refine ⟨⟨by rw [setN_len, hl]; split <;> omega, hu2⟩, fun j => if j = ls.length then (if i < 0 then 2 * R else 2 * rk i.toNat) else 2 * rk j + 1, fun j hj => ?_⟩
  have hj' : j < ls.length + 1 := by rw [setN_len, hl] at hj; exact hj
  have e0 := setN_get (ls ++ [(⟨k, pr, nx⟩ : Lk)]) i (ls.length : Int) j (by rw [hl]; exact hj')
  have hnl : nx < (ls.length : Int) := by
    by_cases h0 : 0 ≤ i
    · obtain ⟨h3, rfl⟩ := hnx.1 h0
      exact (h2 _ h3).2.1
    · rw [hnx.2 (by omega)]; exact h1
  by_cases hj2 : j = ls.length
  · subst hj2
    have e2 : ((ls ++ [(⟨k, pr, nx⟩ : Lk)])[ls.length]'(by rw [hl]; omega)).next = nx := by simp
    rw [e2, if_neg (by omega)] at e0
    rw [e0, setN_len, hl]
    refine ⟨?_, by omega, fun h3 => ?_⟩
    · show (if ls.length = ls.length then _ else _) < _
      rw [if_pos rfl]
      split
      · omega
      · have := (h2 i.toNat (by omega)).1; omega
    · show (if nx.toNat = ls.length then _ else _) < (if ls.length = ls.length then _ else _)
      rw [if_pos rfl, if_neg (by omega)]
      by_cases h0 : i < 0
      · rw [if_pos h0]
        have e := hnx.2 h0
        have := (h2 nx.toNat (by omega)).1
        omega
      · rw [if_neg h0]
        obtain ⟨h4, e⟩ := hnx.1 (by omega)
        have := (h2 _ h4).2.2 (by omega)
        rw [← e] at this
        omega
  · have hj3 : j < ls.length := by omega
    obtain ⟨a1, a2, a3⟩ := h2 j hj3
    have e2 : ((ls ++ [(⟨k, pr, nx⟩ : Lk)])[j]'(by rw [hl]; omega)).next = ls[j].next := by rw [List.getElem_append_left hj3]
    rw [e2] at e0
    rw [e0, setN_len, hl]
    refine ⟨?_, by split <;> omega, fun h3 => ?_⟩
    · show (if j = ls.length then _ else _) < _
      rw [if_neg hj2]; omega
    · by_cases e : i = (j : Int)
      · rw [if_pos e] at h3 ⊢
        show (if ((ls.length : Nat) : Int).toNat = ls.length then _ else _) < (if j = ls.length then _ else _)
        rw [if_pos (by omega), if_neg hj2, if_neg (by omega)]
        subst e
        simp
      · rw [if_neg e] at h3 ⊢
        show (if ls[j].next.toNat = ls.length then _ else _) < (if j = ls.length then _ else _)
        rw [if_neg (by omega), if_neg hj2]
        have := a3 h3
        omega
end Go.Proofs.YtcnaikoloagbdaaGreat
namespace Go.Proofs.YtcnaikoloagbdaaGreat
set_option linter.unusedVariables false
set_option linter.unusedSimpArgs false
open Go.RowKit

theorem Ch.atM {w w' : World} {c m p : Nat} {v : Value} {ls : List Lk} {limit fst : Int} (h : Ch w c m p v ls limit fst) (hp : PoL w' 0 p m v ls limit) (hm : Mt w' m) (hc : Chg (fun k => k = m) w w') : Ch w' c m p v ls limit fst := by
  obtain ⟨lst, hh⟩ := h.head
  exact ⟨⟨lst, hc.blk hh h.ne.1⟩, hp, hm⟩
set_option maxRecDepth 100000 in
set_option maxHeartbeats 1000000 in
theorem chRead (c m p : Nat) (v : Value) (ls : List Lk) (limit fst i : Int) (w : World) (h : Ch w c m p v ls limit fst) : Calls Tryz.prog 334 #[.pointer (some ⟨c, 0, none⟩), .int .i64 i] w fun e w' => ∃ (x : Lk) (b : Bool), e = .returned (.tuple #[.agg #[.int .u64 x.key, .int .i64 x.prev, .int .i64 x.next], .bool b]) ∧ Hid (Ch w' c m p v ls limit fst) ∧ Hid (Chg (fun k => k = m) w w') := by
  have hA := (Below.refl w.heap.size w).alloc (Nat.le_refl _) (.cells #[.int .u64 0, .int .i64 0, .int .i64 0] 271)
  have H0 := Lib.hid (h.below hA)
  have HC0 := Lib.hid (Chg.of_below (S := fun k => k = m) hA)
  have HK0 := Lib.hid (blk_new w #[.int .u64 0, .int .i64 0, .int .i64 0] 271)
  obtain ⟨_, _, _, _, hcl, hml, hpl, hvl⟩ := h.ne
  obtain ⟨c0, c1, _⟩ := H0.out.cells
  clear h hA
  go_enter Tryz.func334, Tryz.ntmps334
  go_wp2_with fail
  generalize w.alloc (.cells #[.int .u64 0, .int .i64 0, .int .i64 0] 271) = w0 at *
  refine (plAt p m v ls limit _ H0.out.pool i H0.out.mt (Nat.zero_le _)).mono ?_
  rintro e w1 ⟨x, b, rfl, _, _, _, HP, HM, HC⟩
  obtain ⟨xk, xp, xn⟩ := x
  have H1 := Lib.hid (H0.out.atM HP.out HM.out HC.out)
  have HC1 := Lib.hid (HC0.out.then HC.out)
  have HK1 := Lib.hid (HC.out.blk HK0.out (by omega))
  have f0 := blk_free HK1.out 0
  have f1 := blk_free HK1.out 1
  have f2 := blk_free HK1.out 2
  have H2 := Lib.hid (H1.out.chg (S := (· = w.heap.size)) (putL (Chg.refl _ _) (.int .u64 xk) (.int .i64 xp) (.int .i64 xn) (.inl rfl)) (by omega) (by omega) (by omega) (fun g hg => by have := hvl g hg; omega))
  have HC2 := Lib.hid (putL HC1.out (.int .u64 xk) (.int .i64 xp) (.int .i64 xn) (b := w.heap.size) (.inr (Nat.le_refl _)))
  have s0 := blk_cell HK1.out 0 rfl
  have s1 := blk_cell HK1.out 1 rfl
  have s2 := blk_cell HK1.out 2 rfl
  clear H0 HC0 HK0 HP HM HC c0 c1
  go_wp2
  have h3 := blk_set (blk_set (blk_set HK1.out 0 (.int .u64 xk)) 1 (.int .i64 xp)) 2 (.int .i64 xn)
  have k0 := blk_cell h3 0 rfl
  have k1 := blk_cell h3 1 rfl
  have k2 := blk_cell h3 2 rfl
  refine bodyPost_ret (v := .tuple #[.agg #[.int .u64 xk, .int .i64 xp, .int .i64 xn], .bool b]) (by simp [results, Tryz.results334, go_sem, k0, k1, k2]) rfl ⟨⟨xk, xp, xn⟩, b, rfl, H2.out, HC2.out⟩
set_option maxRecDepth 100000 in
set_option maxHeartbeats 1000000 in
theorem chNext (c m p : Nat) (v : Value) (ls : List Lk) (limit fst i : Int) (w : World) (h : Ch w c m p v ls limit fst) : Calls Tryz.prog 319 #[.pointer (some ⟨c, 0, none⟩), .int .i64 i] w fun e w' => ∃ x : Int, e = .returned (.int .i64 x) ∧ Hid (Ch w' c m p v ls limit fst) ∧ Hid (Chg (fun k => k = m) w w') := by
  have H := Lib.hid h
  clear h
  go_enter Tryz.func319, Tryz.ntmps319
  go_wp2_with fail
  refine (chRead c m p v ls limit fst i _ H.out).mono ?_
  rintro e w1 ⟨x, b, rfl, H1, HC1⟩
  obtain ⟨xk, xp, xn⟩ := x
  have hA := (Below.refl w1.heap.size w1).alloc (Nat.le_refl _) (.cells #[.int .u64 xk, .int .i64 xp, .int .i64 xn] 271)
  have H2 := Lib.hid (H1.out.below hA)
  have HC2 := Lib.hid (HC1.out.then (Chg.of_below hA))
  clear hA
  cases b
  · go_wp2
    go_ret
    exact ⟨_, rfl, H2.out, HC2.out⟩
  · go_wp2
    go_ret
    exact ⟨_, rfl, H2.out, HC2.out⟩
set_option maxRecDepth 100000 in
set_option maxHeartbeats 1000000 in
theorem chPrev (c m p : Nat) (v : Value) (ls : List Lk) (limit fst i : Int) (w : World) (h : Ch w c m p v ls limit fst) : Calls Tryz.prog 318 #[.pointer (some ⟨c, 0, none⟩), .int .i64 i] w fun e w' => ∃ x : Int, e = .returned (.int .i64 x) ∧ Hid (Ch w' c m p v ls limit fst) ∧ Hid (Chg (fun k => k = m) w w') := by
  have H := Lib.hid h
  clear h
  go_enter Tryz.func318, Tryz.ntmps318
  go_wp2_with fail
  refine (chRead c m p v ls limit fst i _ H.out).mono ?_
  rintro e w1 ⟨x, b, rfl, H1, HC1⟩
  obtain ⟨xk, xp, xn⟩ := x
  have hA := (Below.refl w1.heap.size w1).alloc (Nat.le_refl _) (.cells #[.int .u64 xk, .int .i64 xp, .int .i64 xn] 271)
  have H2 := Lib.hid (H1.out.below hA)
  have HC2 := Lib.hid (HC1.out.then (Chg.of_below hA))
  clear hA
  cases b
  · go_wp2
    go_ret
    exact ⟨_, rfl, H2.out, HC2.out⟩
  · go_wp2
    go_ret
    exact ⟨_, rfl, H2.out, HC2.out⟩
set_option maxRecDepth 100000 in
set_option maxHeartbeats 1000000 in
theorem chKey (c m p : Nat) (v : Value) (ls : List Lk) (limit fst i : Int) (w : World) (h : Ch w c m p v ls limit fst) : Calls Tryz.prog 345 #[.pointer (some ⟨c, 0, none⟩), .int .i64 i] w fun e w' => ∃ (x : Int) (b : Bool), e = .returned (.tuple #[.int .u64 x, .bool b]) ∧ Hid (Ch w' c m p v ls limit fst) ∧ Hid (Chg (fun k => k = m) w w') := by
  have H := Lib.hid h
  clear h
  go_enter Tryz.func345, Tryz.ntmps345
  go_wp2_with fail
  refine (chRead c m p v ls limit fst i _ H.out).mono ?_
  rintro e w1 ⟨x, b, rfl, H1, HC1⟩
  obtain ⟨xk, xp, xn⟩ := x
  have hA := (Below.refl w1.heap.size w1).alloc (Nat.le_refl _) (.cells #[.int .u64 xk, .int .i64 xp, .int .i64 xn] 271)
  have H2 := Lib.hid (H1.out.below hA)
  have HC2 := Lib.hid (HC1.out.then (Chg.of_below hA))
  clear hA
  go_wp2
  go_ret2
  exact ⟨xk, b, rfl, H2.out, HC2.out⟩
set_option maxRecDepth 100000 in
theorem chFirst (c m p : Nat) (v : Value) (ls : List Lk) (limit fst : Int) (w : World) (h : Ch w c m p v ls limit fst) : Calls Tryz.prog 331 #[.pointer (some ⟨c, 0, none⟩)] w fun e w' => e = .returned (.int .i64 fst) ∧ w' = w := by
  obtain ⟨_, _, c2, _⟩ := h.cells
  clear h
  go_enter Tryz.func331, Tryz.ntmps331
  go_wp2
  go_ret
  exact ⟨rfl, rfl⟩
set_option maxRecDepth 100000 in
theorem chLen (c m p : Nat) (v : Value) (ls : List Lk) (limit fst : Int) (w : World) (h : Ch w c m p v ls limit fst) : Calls Tryz.prog 327 #[.pointer (some ⟨c, 0, none⟩)] w fun e w' => e = .returned (.int .i64 (ls.length : Nat)) ∧ w' = w := by
  obtain ⟨_, c1, _⟩ := h.cells
  have HP := Lib.hid h.pool
  clear h
  go_enter Tryz.func327, Tryz.ntmps327
  go_wp2_with fail
  refine (plLen p m v ls limit _ HP.out).mono ?_
  rintro e w1 ⟨rfl, rfl⟩
  go_wp2
  go_ret
  exact ⟨rfl, rfl⟩
set_option maxRecDepth 100000 in
theorem chNew (m : Nat) (limit : Int) (w : World) (hm : Mt w m) (h0 : 0 ≤ limit) (h1 : limit ≤ 1048576) : Calls Tryz.prog 144 #[.pointer (some ⟨m, 0, none⟩), .int .i64 limit] w fun e w' => ∃ c p, e = .returned (.tuple #[.pointer (some ⟨c, 0, none⟩), .int .i64 0]) ∧ w.heap.size ≤ c ∧ w.heap.size ≤ p ∧ Hid (Ch w' c m p (.slice none 0 0) [] limit (-1)) ∧ Hid (Below w.heap.size w w') := by
  have HM := Lib.hid hm
  clear hm
  go_enter Tryz.func144, Tryz.ntmps144
  go_wp2_with fail
  refine (plNew m limit _ h0 h1).mono ?_
  rintro e w1 ⟨p, rfl, hp, HP, hb⟩
  obtain ⟨c0, _⟩ := HP.out.cells
  have HB := Lib.hid hb
  have hbs := hb.size
  clear hb
  go_wp2
  go_ret2
  have hA := (Below.refl w1.heap.size w1).alloc (Nat.le_refl _) (.cells #[.pointer (some ⟨m, 0, none⟩), .pointer (some ⟨p, 0, none⟩), .int .i64 (-1), .int .i64 (-1)] 276)
  exact ⟨w1.heap.size, p, rfl, hbs, hp, ⟨⟨-1, blk_new _ _ _⟩, ⟨(hA.block p (blk_lt HP.out.head)).trans HP.out.head, HP.out.row.1, .inl ⟨rfl, rfl⟩⟩, (HM.out.below HB.out).below hA⟩, HB.out.alloc hbs _⟩
end Go.Proofs.YtcnaikoloagbdaaGreat
namespace Go.Proofs.YtcnaikoloagbdaaGreat
set_option linter.unusedVariables false
set_option linter.unusedSimpArgs false
open Go.RowKit
attribute [local go_sem] gmax2_int gmin2_int gmax_two gmin_two

theorem setN_put (ls : List Lk) (i : Nat) (hi : i < ls.length) (x : Int) : putAt ls (i : Int) ⟨ls[i].key, ls[i].prev, x⟩ = setN ls (i : Int) x := by
  unfold setN
  rw [dif_pos (by omega), ← putAt_nat]
  rfl
theorem setP_put (ls : List Lk) (i : Nat) (hi : i < ls.length) (x : Int) : putAt ls (i : Int) ⟨ls[i].key, x, ls[i].next⟩ = setP ls (i : Int) x := by
  unfold setP
  rw [dif_pos (by omega), ← putAt_nat]
  rfl
theorem setN_none (ls : List Lk) (i x : Int) (h : ¬ (0 ≤ i ∧ i < ls.length)) : setN ls i x = ls := by unfold setN; rw [dif_neg h]
theorem setP_none (ls : List Lk) (i x : Int) (h : ¬ (0 ≤ i ∧ i < ls.length)) : setP ls i x = ls := by unfold setP; rw [dif_neg h]
theorem Ch.put {w w' : World} {c m p : Nat} {v : Value} {ls ls' : List Lk} {limit fst : Int} (h : Ch w c m p v ls limit fst) (hp : PoL w' 0 p m v ls' limit) (hc : Chg (fun k => v.ownBlock = some k) w w') : Ch w' c m p v ls' limit fst := by
  obtain ⟨lst, hh⟩ := h.head
  exact ⟨⟨lst, hc.blk hh (fun e => (h.ne.2.2.2.1 _ e).1 rfl)⟩, hp, h.mt.chg hc (fun e => (h.ne.2.2.2.1 _ e).2.1 rfl)⟩
theorem Ch.drewn {w : World} {c m p : Nat} {v : Value} {ls : List Lk} {limit fst : Int} (h : Ch w c m p v ls limit fst) : Ch w.drew c m p v ls limit fst := h.chg (S := fun _ => False) (Chg.refl _ _).drew (fun h => h) (fun h => h) (fun h => h) (fun _ _ h => h)
set_option maxRecDepth 100000 in
theorem chBeh1 (X B : Nat) (xk xp xn a : Int) (w : World) (hX : w.heap[X]? = some (.cells #[.int .u64 xk, .int .i64 xp, .int .i64 xn] 271 (0, 0))) (hB : w.heap[B]? = some (.cells #[.int .i64 a] 3 (0, 0))) : Calls Tryz.prog 342 #[.pointer (some ⟨X, 0, none⟩), .pointer (some ⟨B, 0, none⟩)] w fun e w' => e = .returned (.tuple #[]) ∧ w' = w.setCell ⟨X, 2, none⟩ (.int .i64 a) := by
  have q0 := blk_cell hB 0 rfl
  have s0 := blk_cell hX 0 rfl
  have s1 := blk_cell hX 1 rfl
  have s2 := blk_cell hX 2 rfl
  have f2 := blk_free hX 2
  clear hX hB
  go_enter Tryz.func342, Tryz.ntmps342
  go_wp2
  go_end0
  exact ⟨rfl, rfl⟩
set_option maxRecDepth 100000 in
theorem chBeh2 (X B : Nat) (xk xp xn a : Int) (w : World) (hX : w.heap[X]? = some (.cells #[.int .u64 xk, .int .i64 xp, .int .i64 xn] 271 (0, 0))) (hB : w.heap[B]? = some (.cells #[.int .i64 a] 3 (0, 0))) : Calls Tryz.prog 343 #[.pointer (some ⟨X, 0, none⟩), .pointer (some ⟨B, 0, none⟩)] w fun e w' => e = .returned (.tuple #[]) ∧ w' = w.setCell ⟨X, 1, none⟩ (.int .i64 a) := by
  have q0 := blk_cell hB 0 rfl
  have s0 := blk_cell hX 0 rfl
  have s1 := blk_cell hX 1 rfl
  have s2 := blk_cell hX 2 rfl
  have f2 := blk_free hX 1
  clear hX hB
  go_enter Tryz.func343, Tryz.ntmps343
  go_wp2
  go_end0
  exact ⟨rfl, rfl⟩
set_option maxRecDepth 100000 in
set_option maxHeartbeats 1000000 in
theorem chChangeN (c m p B : Nat) (v : Value) (ls : List Lk) (limit fst i a : Int) (w : World) (h : Ch w c m p v ls limit fst) (hB : w.heap[B]? = some (.cells #[.int .i64 a] 3 (0, 0))) : Calls Tryz.prog 335 #[.pointer (some ⟨c, 0, none⟩), .int .i64 i, .func (.func 342) #[] #[.pointer (some ⟨B, 0, none⟩)]] w fun e w' => e = .returned (.tuple #[]) ∧ Hid (Ch w' c m p v (setN ls i a) limit fst) ∧ Hid (Chg (fun k => v.ownBlock = some k) w w') := by
  have H := Lib.hid h
  have HBB := Lib.hid hB
  have hBl := blk_lt hB
  obtain ⟨c0, c1, _⟩ := h.cells
  obtain ⟨_, _, _, _, hcl, hml, hpl, hvl⟩ := h.ne
  clear h hB
  go_enter Tryz.func335, Tryz.ntmps335
  go_wp2_with fail
  refine (plPeek p m v ls limit _ H.out.pool i (Nat.zero_le _)).mono ?_
  rintro e w1 ⟨x, rfl, HX, _, HB1⟩
  obtain ⟨xk, xp, xn⟩ := x
  have H1 := Lib.hid (H.out.below HB1.out)
  have HBB1 := Lib.hid (blk_below HBB.out HB1.out rfl)
  have hz1 := HB1.out.size
  have hA := (Below.refl w1.heap.size w1).alloc (Nat.le_refl _) (.cells #[.int .u64 xk, .int .i64 xp, .int .i64 xn] 271)
  have H2 := Lib.hid (H1.out.below hA)
  have HBB2 := Lib.hid (blk_below HBB1.out hA rfl)
  have HK2 := Lib.hid (blk_new w1 #[.int .u64 xk, .int .i64 xp, .int .i64 xn] 271)
  have HC2 := Lib.hid ((Chg.of_below (S := fun k => v.ownBlock = some k) HB1.out).then (Chg.of_below hA))
  clear hA
  by_cases h0 : 0 ≤ i ∧ i < ls.length
  · rw [decide_eq_true h0]
    obtain ⟨hn, hx⟩ := HX.out h0
    obtain ⟨n, rfl⟩ := Int.eq_ofNat_of_zero_le h0.1
    have hn' : n < ls.length := by omega
    have HS := Lib.hid (show putAt ls (n : Int) ⟨xk, xp, a⟩ = setN ls (n : Int) a by
      have e : ls[n] = ⟨xk, xp, xn⟩ := hx.symm
      have := setN_put ls n hn' a
      rw [e] at this
      exact this)
    clear hx h0 hn
    go_wp2_with fail
    refine (chBeh1 w1.heap.size B xk xp xn a _ HK2.out HBB2.out).mono ?_
    rintro e w3 ⟨rfl, rfl⟩
    have hC3 := ((Chg.refl (fun k => k = w1.heap.size) (w1.alloc (.cells #[.int .u64 xk, .int .i64 xp, .int .i64 xn] 271))).set (b := w1.heap.size) (i := 2) (.int .i64 a) (.inl rfl))
    have H3 := Lib.hid (H2.out.chg hC3 (by omega) (by omega) (by omega) (fun g hg => by have := hvl g hg; omega))
    have HK3 := Lib.hid (blk_set HK2.out 2 (.int .i64 a))
    have HC3 := Lib.hid (HC2.out.set (b := w1.heap.size) (i := 2) (.int .i64 a) (.inr hz1))
    generalize (w1.alloc (.cells #[.int .u64 xk, .int .i64 xp, .int .i64 xn] 271)).setCell ⟨w1.heap.size, 2, none⟩ (.int .i64 a) = w3 at *
    clear hC3 H2 HBB2 HK2 HC2 c0 c1
    obtain ⟨c0, c1, _⟩ := H3.out.cells
    have s0 := blk_cell HK3.out 0 (v := .int .u64 xk) rfl
    have s1 := blk_cell HK3.out 1 (v := .int .i64 xp) rfl
    have s2 := blk_cell HK3.out 2 (v := .int .i64 a) rfl
    have HPD := Lib.hid (H3.out.pool.chg (S := fun _ => False) ((Chg.refl _ w3).drew) (fun h => h) (fun _ _ h => h))
    go_wp2
    go_region_law (first | ((with_reducible refine gate_scall (f := 347) rfl ?_); refine step_goes rfl Tryz.func347 (by kernel_rfl) rfl #[.pointer (some ⟨p, 0, none⟩), .int .i64 n, .agg #[.int .u64 xk, .int .i64 xp, .int .i64 a]] rfl (by simp only [List.map_toArray, List.map_cons, List.map_nil]; rfl) (plPut p m v ls limit _ HPD.out n _ _ _ (Nat.zero_le _)) ?_; rintro e w4 ⟨⟨r, rfl⟩, HP4, HC4⟩; refine ⟨_, rfl, ?_⟩))
    all_goals
      go_wp2
      go_end0
      exact ⟨rfl, H3.out.drewn.put (by have := HP4.out; rw [HS.out] at this; exact this) HC4.out, HC3.out.drew.then HC4.out⟩
  · rw [decide_eq_false h0]
    have HS := Lib.hid (setN_none ls i a h0)
    clear h0
    go_wp2
    go_end0
    exact ⟨rfl, by rw [HS.out]; exact H2.out, HC2.out⟩
set_option maxRecDepth 100000 in
set_option maxHeartbeats 1000000 in
theorem chChangeP (c m p B : Nat) (v : Value) (ls : List Lk) (limit fst i a : Int) (w : World) (h : Ch w c m p v ls limit fst) (hB : w.heap[B]? = some (.cells #[.int .i64 a] 3 (0, 0))) : Calls Tryz.prog 335 #[.pointer (some ⟨c, 0, none⟩), .int .i64 i, .func (.func 343) #[] #[.pointer (some ⟨B, 0, none⟩)]] w fun e w' => e = .returned (.tuple #[]) ∧ Hid (Ch w' c m p v (setP ls i a) limit fst) ∧ Hid (Chg (fun k => v.ownBlock = some k) w w') := by
  have H := Lib.hid h
  have HBB := Lib.hid hB
  have hBl := blk_lt hB
  obtain ⟨c0, c1, _⟩ := h.cells
  obtain ⟨_, _, _, _, hcl, hml, hpl, hvl⟩ := h.ne
  clear h hB
  go_enter Tryz.func335, Tryz.ntmps335
  go_wp2_with fail
  refine (plPeek p m v ls limit _ H.out.pool i (Nat.zero_le _)).mono ?_
  rintro e w1 ⟨x, rfl, HX, _, HB1⟩
  obtain ⟨xk, xp, xn⟩ := x
  have H1 := Lib.hid (H.out.below HB1.out)
  have HBB1 := Lib.hid (blk_below HBB.out HB1.out rfl)
  have hz1 := HB1.out.size
  have hA := (Below.refl w1.heap.size w1).alloc (Nat.le_refl _) (.cells #[.int .u64 xk, .int .i64 xp, .int .i64 xn] 271)
  have H2 := Lib.hid (H1.out.below hA)
  have HBB2 := Lib.hid (blk_below HBB1.out hA rfl)
  have HK2 := Lib.hid (blk_new w1 #[.int .u64 xk, .int .i64 xp, .int .i64 xn] 271)
  have HC2 := Lib.hid ((Chg.of_below (S := fun k => v.ownBlock = some k) HB1.out).then (Chg.of_below hA))
  clear hA
  by_cases h0 : 0 ≤ i ∧ i < ls.length
  · rw [decide_eq_true h0]
    obtain ⟨hn, hx⟩ := HX.out h0
    obtain ⟨n, rfl⟩ := Int.eq_ofNat_of_zero_le h0.1
    have hn' : n < ls.length := by omega
    have HS := Lib.hid (show putAt ls (n : Int) ⟨xk, a, xn⟩ = setP ls (n : Int) a by
      have e : ls[n] = ⟨xk, xp, xn⟩ := hx.symm
      have := setP_put ls n hn' a
      rw [e] at this
      exact this)
    clear hx h0 hn
    go_wp2_with fail
    refine (chBeh2 w1.heap.size B xk xp xn a _ HK2.out HBB2.out).mono ?_
    rintro e w3 ⟨rfl, rfl⟩
    have hC3 := ((Chg.refl (fun k => k = w1.heap.size) (w1.alloc (.cells #[.int .u64 xk, .int .i64 xp, .int .i64 xn] 271))).set (b := w1.heap.size) (i := 1) (.int .i64 a) (.inl rfl))
    have H3 := Lib.hid (H2.out.chg hC3 (by omega) (by omega) (by omega) (fun g hg => by have := hvl g hg; omega))
    have HK3 := Lib.hid (blk_set HK2.out 1 (.int .i64 a))
    have HC3 := Lib.hid (HC2.out.set (b := w1.heap.size) (i := 1) (.int .i64 a) (.inr hz1))
    generalize (w1.alloc (.cells #[.int .u64 xk, .int .i64 xp, .int .i64 xn] 271)).setCell ⟨w1.heap.size, 1, none⟩ (.int .i64 a) = w3 at *
    clear hC3 H2 HBB2 HK2 HC2 c0 c1
    obtain ⟨c0, c1, _⟩ := H3.out.cells
    have s0 := blk_cell HK3.out 0 (v := .int .u64 xk) rfl
    have s1 := blk_cell HK3.out 1 (v := .int .i64 a) rfl
    have s2 := blk_cell HK3.out 2 (v := .int .i64 xn) rfl
    have HPD := Lib.hid (H3.out.pool.chg (S := fun _ => False) ((Chg.refl _ w3).drew) (fun h => h) (fun _ _ h => h))
    go_wp2
    go_region_law (first | ((with_reducible refine gate_scall (f := 347) rfl ?_); refine step_goes rfl Tryz.func347 (by kernel_rfl) rfl #[.pointer (some ⟨p, 0, none⟩), .int .i64 n, .agg #[.int .u64 xk, .int .i64 a, .int .i64 xn]] rfl (by simp only [List.map_toArray, List.map_cons, List.map_nil]; rfl) (plPut p m v ls limit _ HPD.out n _ _ _ (Nat.zero_le _)) ?_; rintro e w4 ⟨⟨r, rfl⟩, HP4, HC4⟩; refine ⟨_, rfl, ?_⟩))
    all_goals
      go_wp2
      go_end0
      exact ⟨rfl, H3.out.drewn.put (by have := HP4.out; rw [HS.out] at this; exact this) HC4.out, HC3.out.drew.then HC4.out⟩
  · rw [decide_eq_false h0]
    have HS := Lib.hid (setP_none ls i a h0)
    clear h0
    go_wp2
    go_end0
    exact ⟨rfl, by rw [HS.out]; exact H2.out, HC2.out⟩
end Go.Proofs.YtcnaikoloagbdaaGreat
