/-
  chain.Chain: Behind, walked.
-/
import Derived.Test.YtcnaikoloagbdaaGreatQChn
namespace Go.Proofs.YtcnaikoloagbdaaGreat
set_option linter.unusedVariables false
set_option linter.unusedSimpArgs false
open Go.RowKit
attribute [local go_sem] gmax2_int gmin2_int gmax_two gmin_two

theorem Ch.more {w w' : World} {c m p : Nat} {v v' : Value} {ls ls' : List Lk} {limit fst : Int} (h : Ch w c m p v ls limit fst) (hp : PoL w' 0 p m v' ls' limit) (hc : Chg (fun k => k = p ∨ v.ownBlock = some k) w w') : Ch w' c m p v' ls' limit fst := by
  obtain ⟨lst, hh⟩ := h.head
  obtain ⟨h1, h2, h3, h4, _⟩ := h.ne
  refine ⟨⟨lst, hc.blk hh ?_⟩, hp, h.mt.chg hc ?_⟩
  · rintro (e | e)
    · exact h2 e
    · exact (h4 _ e).1 rfl
  · rintro (e | e)
    · exact h3 e.symm
    · exact (h4 _ e).2.1 rfl
theorem setN_neg (ls : List Lk) (i x : Int) (h : i < 0) : setN ls i x = ls := setN_none ls i x (fun h' => by omega)
/-- behind the pool's Alloc: X the new link's copy, A the box of its number -/
structure BehS (w w8 : World) (c m p X A : Nat) (v v' : Value) (ls1 : List Lk) (limit fst : Int) (xs : Array Value) (n : Int) : Prop where
  ch : Ch w8 c m p v' ls1 limit fst
  kx : w8.heap[X]? = some (.cells xs 271 (0, 0))
  ka : w8.heap[A]? = some (.cells #[.int .i64 n] 3 (0, 0))
  chg : Chg (chO c m p v) w w8
  nx : ¬ v'.ownBlock = some X
  na : ¬ v'.ownBlock = some A
  own : v'.ownBlock = v.ownBlock ∨ ∃ g, v'.ownBlock = some g ∧ w.heap.size ≤ g
theorem BehS.vo {w w8 : World} {c m p X A : Nat} {v v' : Value} {ls1 : List Lk} {limit fst n : Int} {xs : Array Value} (h : BehS w w8 c m p X A v v' ls1 limit fst xs n) : ∀ b, b < w.heap.size → v'.ownBlock = some b → chO c m p v b := fun b hb e => by
  rcases h.own with h | ⟨g, h, hg⟩
  · exact .inr (.inr (.inr (h.symm.trans e)))
  · rw [h] at e; cases e; omega
theorem BehS.step {w w8 w9 : World} {c m p X A : Nat} {v v' : Value} {ls1 ls2 : List Lk} {limit fst n : Int} {xs : Array Value} (h : BehS w w8 c m p X A v v' ls1 limit fst xs n) (hc : Ch w9 c m p v' ls2 limit fst) (hg : Chg (fun k => v'.ownBlock = some k) w8 w9) : BehS w w9 c m p X A v v' ls2 limit fst xs n :=
  ⟨hc, hg.blk h.kx h.nx, hg.blk h.ka h.na, h.chg.trans hg h.vo, h.nx, h.na, h.own⟩
theorem beh2 {w w6 w7 : World} {c m p X A : Nat} {v v' : Value} {ls ls1 : List Lk} {limit fst z n : Int} {xs : Array Value} (hvl : ∀ g, v.ownBlock = some g → g < w.heap.size) (h6 : Ch w6 c m p v ls limit fst) (hX : w6.heap[X]? = some (.cells xs 271 (0, 0))) (hA : w6.heap[A]? = some (.cells #[.int .i64 z] 3 (0, 0))) (hC : Chg (chO c m p v) w w6) (hwX : w.heap.size ≤ X) (hwA : w.heap.size ≤ A)
    (hp : PoL w7 0 p m v' ls1 limit) (hv : v'.ownBlock = v.ownBlock ∨ ∃ g, v'.ownBlock = some g ∧ w6.heap.size ≤ g) (hc : Chg (fun k => k = p ∨ v.ownBlock = some k) w6 w7) : BehS w (w7.setCell ⟨A, 0, none⟩ (.int .i64 n)) c m p X A v v' ls1 limit fst xs n := by
  obtain ⟨n1, n2, n3, n4, n5, n6, n7, n8⟩ := h6.ne
  have hpA : p ≠ A := by rintro rfl; have := h6.pool.head; rw [hA] at this; cases this
  have hpX : p ≠ X := by rintro rfl; have := h6.pool.head; rw [hX] at this; cases this
  have hcA : c ≠ A := by rintro rfl; obtain ⟨_, this⟩ := h6.head; rw [hA] at this; cases this
  have hmA : m ≠ A := by rintro rfl; obtain ⟨_, _, _, _, _, this⟩ := h6.mt; rw [hA] at this; cases this
  have hXA : X ≠ A := by rintro rfl; rw [hA] at hX; cases hX
  have hXl := blk_lt hX
  have hAl := blk_lt hA
  have nX : ¬ v'.ownBlock = some X := fun e => by
    rcases hv with h | ⟨g, h, hg⟩
    · have := hvl _ (h.symm.trans e); omega
    · rw [h] at e; cases e; omega
  have nA : ¬ v'.ownBlock = some A := fun e => by
    rcases hv with h | ⟨g, h, hg⟩
    · have := hvl _ (h.symm.trans e); omega
    · rw [h] at e; cases e; omega
  have h7 := h6.more hp hc
  have hs := (Chg.refl (fun k => k = A) w7).set (b := A) (i := 0) (.int .i64 n) (.inl rfl)
  have kX : w7.heap[X]? = _ := hc.blk hX (by rintro (e | e); exact hpX e.symm; have := hvl _ e; omega)
  have kA : w7.heap[A]? = _ := hc.blk hA (by rintro (e | e); exact hpA e.symm; have := hvl _ e; omega)
  refine ⟨h7.chg hs hcA hmA hpA (fun g hg e => nA (by rw [← e]; exact hg)), hs.blk kX hXA, blk_set kA 0 _, ?_, nX, nA, ?_⟩
  · refine (hC.trans hc (fun b _ h => ?_)).set _ (.inr hwA)
    rcases h with h | h
    · exact .inr (.inr (.inl h))
    · exact .inr (.inr (.inr h))
  · rcases hv with h | ⟨g, h, hg⟩
    · exact .inl h
    · exact .inr ⟨g, h, Nat.le_trans hC.size hg⟩
theorem beh1 {w w6 w7 : World} {c m p X : Nat} {v v' : Value} {ls ls1 : List Lk} {limit fst n : Int} {xs : Array Value} (hvl : ∀ g, v.ownBlock = some g → g < w.heap.size) (h6 : Ch w6 c m p v ls limit fst) (hX : w6.heap[X]? = some (.cells xs 271 (0, 0))) (hC : Chg (chO c m p v) w w6) (hwX : w.heap.size ≤ X)
    (hp : PoL w7 0 p m v' ls1 limit) (hv : v'.ownBlock = v.ownBlock ∨ ∃ g, v'.ownBlock = some g ∧ w6.heap.size ≤ g) (hc : Chg (fun k => k = p ∨ v.ownBlock = some k) w6 w7) : BehS w (w7.alloc (.cells #[.int .i64 n] 3)) c m p X w7.heap.size v v' ls1 limit fst xs n := by
  have h7 := h6.more hp hc
  obtain ⟨n1, n2, n3, n4, n5, n6, n7, n8⟩ := h7.ne
  have hpX : p ≠ X := by rintro rfl; have := h6.pool.head; rw [hX] at this; cases this
  have hXl := blk_lt hX
  have hz := hc.size
  have nX : ¬ v'.ownBlock = some X := fun e => by
    rcases hv with h | ⟨g, h, hg⟩
    · have := hvl _ (h.symm.trans e); omega
    · rw [h] at e; cases e; omega
  have nA : ¬ v'.ownBlock = some w7.heap.size := fun e => by have := n8 _ e; omega
  have hs := ((Chg.refl (fun k => k = w7.heap.size) w7).alloc (.cells #[.int .i64 n] 3))
  have kX : w7.heap[X]? = _ := hc.blk hX (by rintro (e | e); exact hpX e.symm; have := hvl _ e; omega)
  refine ⟨h7.chg hs (by omega) (by omega) (by omega) (fun g hg e => nA (by rw [← e]; exact hg)), hs.blk kX (by omega), blk_new w7 _ _, ?_, nX, nA, ?_⟩
  · refine (hC.trans hc (fun b _ h => ?_)).alloc _
    rcases h with h | h
    · exact .inr (.inr (.inl h))
    · exact .inr (.inr (.inr h))
  · rcases hv with h | ⟨g, h, hg⟩
    · exact .inl h
    · exact .inr ⟨g, h, Nat.le_trans hC.size hg⟩
set_option maxRecDepth 100000 in
set_option maxHeartbeats 4000000 in
theorem chBehind (c m p : Nat) (v : Value) (ls : List Lk) (limit fst i k : Int) (R : Nat) (w : World) (h : Ch w c m p v ls limit fst) (hr : Rk ls fst R) (hroom : (ls.length : Int) + 1 ≤ limit) (h1 : limit ≤ 1048576) (hl : ls.length ≤ 1000) (hk : 0 ≤ k ∧ k ≤ 18446744073709551615) :
    Calls Tryz.prog 326 #[.pointer (some ⟨c, 0, none⟩), .int .i64 i, .int .u64 k] w fun e w' => ∃ (at_ : Int) (b : Bool) (v' : Value) (ls' : List Lk) (fst' : Int), e = .returned (.tuple #[.int .i64 at_, .bool b]) ∧ Hid (Ch w' c m p v' ls' limit fst') ∧ Hid ((b = false ∧ ls' = ls ∧ fst' = fst) ∨ (b = true ∧ ls'.length = ls.length + 1 ∧ Rk ls' fst' (2 * R + 1))) ∧ Hid (v'.ownBlock = v.ownBlock ∨ ∃ g, v'.ownBlock = some g ∧ w.heap.size ≤ g) ∧ Hid (Chg (chO c m p v) w w') := by
  have H := Lib.hid h
  have HR := Lib.hid hr
  have HKR := Lib.hid hk
  obtain ⟨c0, c1, c2, _⟩ := h.cells
  obtain ⟨ne1, ne2, ne3, ne4, hcl, hml, hpl, hvl⟩ := h.ne
  clear h hr hk
  by_cases h0 : 0 ≤ i
  · by_cases h2 : i < ls.length
    · obtain ⟨n, rfl⟩ := Int.eq_ofNat_of_zero_le h0
      have hn : n < ls.length := by omega
      have hd : decide (0 ≤ (n : Int) ∧ (n : Int) < ls.length) = true := decide_eq_true ⟨by omega, h2⟩
      have hmx : ((n : Int) < -1) = False := eq_false (by omega)
      have HD := Lib.hid hd
      clear hd
      go_enter Tryz.func326, Tryz.ntmps326
      go_wp2_with fail
      refine (plLive p m v ls limit _ H.out.pool n).mono ?_
      rintro e w1 ⟨rfl, rfl⟩
      rw [HD.out]
      skip
      have hA := (Below.refl w1.heap.size w1).alloc (Nat.le_refl _) (.cells #[.int .u64 k, .int .i64 (n : Int), .int .i64 fst] 271)
      have H3 := Lib.hid (H.out.below hA)
      have HKX := Lib.hid (blk_new w1 #[.int .u64 k, .int .i64 (n : Int), .int .i64 fst] 271)
      have HC3 := Lib.hid (Chg.of_below (S := chO c m p v) hA)
      have hpk : (w1.alloc (.cells #[.int .u64 k, .int .i64 (n : Int), .int .i64 fst] 271)).cell? ⟨c, 1, none⟩ = some (.pointer (some ⟨p, 0, none⟩)) := H3.out.cells.2.1
      clear hA
      go_wp2_with fail
      clear hpk
      generalize w1.alloc (.cells #[.int .u64 k, .int .i64 (n : Int), .int .i64 fst] 271) = w3 at *
      refine (plPeek p m v ls limit _ H3.out.pool n (Nat.zero_le _)).mono ?_
      rintro e w4 ⟨x, rfl, HX, _, HB4⟩
      obtain ⟨ok, op, on⟩ := x
      have H4 := Lib.hid (H3.out.below HB4.out)
      replace HKX := Lib.hid (blk_below HKX.out HB4.out rfl)
      have HC4 := Lib.hid (HC3.out.then (Chg.of_below HB4.out))
      have hA := (Below.refl w4.heap.size w4).alloc (Nat.le_refl _) (.cells #[.int .u64 ok, .int .i64 op, .int .i64 on] 271)
      have H5 := Lib.hid (H4.out.below hA)
      replace HKX := Lib.hid (blk_below HKX.out hA rfl)
      have HC5 := Lib.hid (HC4.out.then (Chg.of_below hA))
      clear hA H3 HC3 H4 HC4
      have f2 := blk_free HKX.out 2
      have s0 := blk_cell HKX.out 0 rfl
      have s1 := blk_cell HKX.out 1 rfl
      have s2 := blk_cell HKX.out 2 rfl
      rw [HD.out]
      obtain ⟨hn', hx⟩ := HX.out (of_decide_eq_true HD.out)
      have HNX := Lib.hid (show ∀ h : n < ls.length, on = ls[n].next from fun _ => congrArg Lk.next hx)
      clear hx hn'
      have HKX := Lib.hid (blk_set HKX.out 2 (.int .i64 on))
      have hC6 := ((Chg.refl (fun q => q = w1.heap.size) (w4.alloc (.cells #[.int .u64 ok, .int .i64 op, .int .i64 on] 271))).set (b := w1.heap.size) (i := 2) (.int .i64 on) (.inl rfl))
      have H6 := Lib.hid (H5.out.chg hC6 (by omega) (by omega) (by omega) (fun g hg => by have := hvl g hg; omega))
      have HC6 := Lib.hid (HC5.out.set (b := w1.heap.size) (i := 2) (.int .i64 on) (.inr (Nat.le_refl _)))
      clear hC6 H5 HC5
      go_wp2
      generalize (w4.alloc (.cells #[.int .u64 ok, .int .i64 op, .int .i64 on] 271)).setCell ⟨w1.heap.size, 2, none⟩ (.int .i64 on) = w6 at *
      have hne1 : ((n : Int) == -1) = false := by rw [beq_eq_false_iff_ne]; omega
      have HRK := Lib.hid ((HR.out.more (n : Int) k HKR.out h2 on ⟨fun _ => ⟨hn, HNX.out hn⟩, fun h => by omega⟩ (n : Int)).prevd on (ls.length : Nat))
      rw [if_neg (show ¬ ((n : Int) < 0) by omega)] at HRK
      skip
      clear c0 c1 c2 f2 s0 s1 s2
      obtain ⟨c0, c1, c2, _⟩ := H6.out.cells
      have s0 := blk_cell HKX.out 0 (v := .int .u64 k) rfl
      have s1 := blk_cell HKX.out 1 (v := .int .i64 (n : Int)) rfl
      have s2 := blk_cell HKX.out 2 (v := .int .i64 on) rfl
      have HPD := Lib.hid H6.out.drewn.pool
      have hA := (Below.refl w6.heap.size w6).alloc (Nat.le_refl _) (.cells #[.int .i64 0] 3)
      have H6A := Lib.hid (H6.out.below hA)
      have HPD2 := Lib.hid H6A.out.drewn.pool
      have HKXA := Lib.hid (blk_below HKX.out hA rfl)
      have HBA := Lib.hid (blk_new w6 #[.int .i64 0] 3)
      have HC6A := Lib.hid (HC6.out.then (Chg.of_below hA))
      have hz6 := HC6.out.size
      have d1 := H6A.out.cells.2.1
      have e0 := blk_cell HKXA.out 0 (v := .int .u64 k) rfl
      have e1 := blk_cell HKXA.out 1 (v := .int .i64 (n : Int)) rfl
      have e2 := blk_cell HKXA.out 2 (v := .int .i64 on) rfl
      have HB1 := Lib.hid (fun v' w7 h1 h2 h3 => beh1 (w := w1) (w7 := w7) (v' := v') (ls1 := ls ++ [⟨k, (n : Int), on⟩]) (n := (ls.length : Nat)) hvl H6.out HKX.out HC6.out (Nat.le_refl _) h1 h2 ((Chg.refl _ _).drew.then h3))
      have HB2 := Lib.hid (fun v' w7 h1 h2 h3 => beh2 (w := w1) (w7 := w7) (v' := v') (ls1 := ls ++ [⟨k, (n : Int), on⟩]) (n := (ls.length : Nat)) hvl H6A.out HKXA.out HBA.out HC6A.out (Nat.le_refl _) hz6 h1 h2 ((Chg.refl _ _).drew.then h3))
      clear hA
      go_region_law (first | ((with_reducible refine gate_scall (f := 341) rfl ?_); refine step_goes rfl Tryz.func341 (by kernel_rfl) rfl #[.pointer (some ⟨p, 0, none⟩), .agg #[.int .u64 k, .int .i64 (n : Int), .int .i64 on]] rfl (by simp only [List.map_toArray, List.map_cons, List.map_nil]; rfl) (plAlloc p m v ls limit _ HPD.out _ _ _ (Nat.zero_le _) hroom h1 hl) ?_; rintro e w7 ⟨v', rfl, HP7, HV7, HC7⟩; have HS := Lib.hid (HB1.out _ _ HP7.out HV7.out HC7.out); have g0 := blk_cell (blk_new w7 #[.int .i64 0] 3) 0 (v := .int .i64 0) rfl; have g1 := blk_free (blk_new w7 #[.int .i64 0] 3) 0; refine ⟨_, rfl, ?_⟩) | ((with_reducible refine gate_scall (f := 341) rfl ?_); refine step_goes rfl Tryz.func341 (by kernel_rfl) rfl #[.pointer (some ⟨p, 0, none⟩), .agg #[.int .u64 k, .int .i64 (n : Int), .int .i64 on]] rfl (by simp only [List.map_toArray, List.map_cons, List.map_nil]; rfl) (plAlloc p m v ls limit _ HPD2.out _ _ _ (Nat.zero_le _) hroom h1 hl) ?_; rintro e w7 ⟨v', rfl, HP7, HV7, HC7⟩; have HS := Lib.hid (HB2.out _ _ HP7.out HV7.out HC7.out); have hb7 := HC7.out.blk (show (w6.alloc (.cells #[.int .i64 0] 3)).drew.heap[w6.heap.size]? = _ from HBA.out) (by rintro (e | e); omega; have := hvl _ e; omega); have g0 := blk_cell hb7 0 (v := .int .i64 0) rfl; have g1 := blk_free hb7 0; clear hb7; refine ⟨_, rfl, ?_⟩))
      all_goals
        skip
        clear c0 c1 c2 s0 s1 s2 d1 e0 e1 e2 HPD HPD2 H6A HKXA HBA HC6A HB1 HB2 HP7 HV7 HC7 g0 g1
        have s0 := blk_cell HS.out.kx 0 (v := .int .u64 k) rfl
        have s1 := blk_cell HS.out.kx 1 (v := .int .i64 (n : Int)) rfl
        have s2 := blk_cell HS.out.kx 2 (v := .int .i64 on) rfl
        go_wp2_with fail
        refine (chChangeN c m p _ v' _ limit fst (n : Int) (ls.length : Nat) _ HS.out.ch HS.out.ka).mono ?_
        rintro e w9 ⟨rfl, H9, HC9⟩
        have HS9 := Lib.hid (HS.out.step H9.out HC9.out)
        clear s0 s1 s2 HS H9 HC9
        have s0 := blk_cell HS9.out.kx 0 (v := .int .u64 k) rfl
        have s1 := blk_cell HS9.out.kx 1 (v := .int .i64 (n : Int)) rfl
        have s2 := blk_cell HS9.out.kx 2 (v := .int .i64 on) rfl
        go_wp2_with fail
        refine (chChangeP c m p _ v' _ limit fst on (ls.length : Nat) _ HS9.out.ch HS9.out.ka).mono ?_
        rintro e w10 ⟨rfl, H10', HC10'⟩
        have HS10 := Lib.hid (HS9.out.step H10'.out HC10'.out)
        clear s0 s1 s2 HS9 H10' HC10'
        have s1 := blk_cell HS10.out.kx 1 (v := .int .i64 (n : Int)) rfl
        have s2 := blk_cell HS10.out.kx 2 (v := .int .i64 on) rfl
        have a0 := blk_cell HS10.out.ka 0 (v := .int .i64 (ls.length : Nat)) rfl
        have H10 := Lib.hid HS10.out.ch
        have HC10 := Lib.hid HS10.out.chg
        have HV7 := Lib.hid HS10.out.own
        obtain ⟨d0, d1, d2, ⟨lst, d3⟩, fz⟩ := H10.out.cells
        have fc2 := fz 2
        have fc3 := fz 3
        clear fz
        skip
        by_cases hon : on = -1
        · subst hon
          go_wp2
          go_ret2
          exact ⟨_, true, v', _, fst, rfl, H10.out.setL _, .inr ⟨rfl, by rw [setP_len, setN_len]; simp, HRK.out⟩, HV7.out, HC10.out.set _ (.inl (.inl rfl))⟩
        · have hon1 : (on == -1) = false := by simpa using hon
          clear hon
          go_wp2
          go_ret2
          exact ⟨_, true, v', _, fst, rfl, H10.out, .inr ⟨rfl, by rw [setP_len, setN_len]; simp, HRK.out⟩, HV7.out, HC10.out⟩
    · have hd : decide (0 ≤ i ∧ i < (ls.length : Int)) = false := decide_eq_false (fun h => h2 h.2)
      have HD := Lib.hid hd
      clear hd
      go_enter Tryz.func326, Tryz.ntmps326
      go_wp2_with fail
      refine (plLive p m v ls limit _ H.out.pool i).mono ?_
      rintro e w1 ⟨rfl, rfl⟩
      rw [HD.out]
      go_wp2
      go_ret2
      exact ⟨_, false, v, ls, fst, rfl, H.out, .inl ⟨rfl, rfl, rfl⟩, .inl rfl, Chg.refl _ _⟩
  · have hd : decide (0 ≤ i ∧ i < (ls.length : Int)) = false := decide_eq_false (fun h => h0 h.1)
    have HD := Lib.hid hd
    clear hd
    by_cases hmi : i < -1
    · go_enter Tryz.func326, Tryz.ntmps326
      skip
      have hA := (Below.refl w.heap.size w).alloc (Nat.le_refl _) (.cells #[.int .u64 k, .int .i64 (-1), .int .i64 fst] 271)
      have H3 := Lib.hid (H.out.below hA)
      have HKX := Lib.hid (blk_new w #[.int .u64 k, .int .i64 (-1), .int .i64 fst] 271)
      have HC3 := Lib.hid (Chg.of_below (S := chO c m p v) hA)
      have hpk : (w.alloc (.cells #[.int .u64 k, .int .i64 (-1), .int .i64 fst] 271)).cell? ⟨c, 1, none⟩ = some (.pointer (some ⟨p, 0, none⟩)) := H3.out.cells.2.1
      clear hA
      go_wp2_with fail
      clear hpk
      generalize w.alloc (.cells #[.int .u64 k, .int .i64 (-1), .int .i64 fst] 271) = w3 at *
      refine (plPeek p m v ls limit _ H3.out.pool i (Nat.zero_le _)).mono ?_
      rintro e w4 ⟨x, rfl, HX, _, HB4⟩
      obtain ⟨ok, op, on⟩ := x
      have H4 := Lib.hid (H3.out.below HB4.out)
      replace HKX := Lib.hid (blk_below HKX.out HB4.out rfl)
      have HC4 := Lib.hid (HC3.out.then (Chg.of_below HB4.out))
      have hA := (Below.refl w4.heap.size w4).alloc (Nat.le_refl _) (.cells #[.int .u64 ok, .int .i64 op, .int .i64 on] 271)
      have H5 := Lib.hid (H4.out.below hA)
      replace HKX := Lib.hid (blk_below HKX.out hA rfl)
      have HC5 := Lib.hid (HC4.out.then (Chg.of_below hA))
      clear hA H3 HC3 H4 HC4
      have f2 := blk_free HKX.out 2
      have s0 := blk_cell HKX.out 0 rfl
      have s1 := blk_cell HKX.out 1 rfl
      have s2 := blk_cell HKX.out 2 rfl
      rw [HD.out]
      clear HX
      have H6 := H5
      have HC6 := HC5
      clear H5 HC5
      go_wp2
      generalize w4.alloc (.cells #[.int .u64 ok, .int .i64 op, .int .i64 on] 271) = w6 at *
      have HRK := Lib.hid ((HR.out.more i k HKR.out (by omega) fst ⟨fun h => absurd h (by omega), fun _ => rfl⟩ (-1)).prevd fst (ls.length : Nat))
      rw [if_pos (show i < 0 by omega), setN_neg _ i _ (by omega)] at HRK
      skip
      clear c0 c1 c2 f2 s0 s1 s2
      obtain ⟨c0, c1, c2, _⟩ := H6.out.cells
      have s0 := blk_cell HKX.out 0 (v := .int .u64 k) rfl
      have s1 := blk_cell HKX.out 1 (v := .int .i64 (-1)) rfl
      have s2 := blk_cell HKX.out 2 (v := .int .i64 fst) rfl
      have HPD := Lib.hid H6.out.drewn.pool
      have hA := (Below.refl w6.heap.size w6).alloc (Nat.le_refl _) (.cells #[.int .i64 0] 3)
      have H6A := Lib.hid (H6.out.below hA)
      have HPD2 := Lib.hid H6A.out.drewn.pool
      have HKXA := Lib.hid (blk_below HKX.out hA rfl)
      have HBA := Lib.hid (blk_new w6 #[.int .i64 0] 3)
      have HC6A := Lib.hid (HC6.out.then (Chg.of_below hA))
      have hz6 := HC6.out.size
      have d1 := H6A.out.cells.2.1
      have e0 := blk_cell HKXA.out 0 (v := .int .u64 k) rfl
      have e1 := blk_cell HKXA.out 1 (v := .int .i64 (-1)) rfl
      have e2 := blk_cell HKXA.out 2 (v := .int .i64 fst) rfl
      have HB1 := Lib.hid (fun v' w7 h1 h2 h3 => beh1 (w := w) (w7 := w7) (v' := v') (ls1 := ls ++ [⟨k, (-1), fst⟩]) (n := (ls.length : Nat)) hvl H6.out HKX.out HC6.out (Nat.le_refl _) h1 h2 ((Chg.refl _ _).drew.then h3))
      have HB2 := Lib.hid (fun v' w7 h1 h2 h3 => beh2 (w := w) (w7 := w7) (v' := v') (ls1 := ls ++ [⟨k, (-1), fst⟩]) (n := (ls.length : Nat)) hvl H6A.out HKXA.out HBA.out HC6A.out (Nat.le_refl _) hz6 h1 h2 ((Chg.refl _ _).drew.then h3))
      clear hA
      go_region_law (first | ((with_reducible refine gate_scall (f := 341) rfl ?_); refine step_goes rfl Tryz.func341 (by kernel_rfl) rfl #[.pointer (some ⟨p, 0, none⟩), .agg #[.int .u64 k, .int .i64 (-1), .int .i64 fst]] rfl (by simp only [List.map_toArray, List.map_cons, List.map_nil]; rfl) (plAlloc p m v ls limit _ HPD.out _ _ _ (Nat.zero_le _) hroom h1 hl) ?_; rintro e w7 ⟨v', rfl, HP7, HV7, HC7⟩; have HS := Lib.hid (HB1.out _ _ HP7.out HV7.out HC7.out); have g0 := blk_cell (blk_new w7 #[.int .i64 0] 3) 0 (v := .int .i64 0) rfl; have g1 := blk_free (blk_new w7 #[.int .i64 0] 3) 0; refine ⟨_, rfl, ?_⟩) | ((with_reducible refine gate_scall (f := 341) rfl ?_); refine step_goes rfl Tryz.func341 (by kernel_rfl) rfl #[.pointer (some ⟨p, 0, none⟩), .agg #[.int .u64 k, .int .i64 (-1), .int .i64 fst]] rfl (by simp only [List.map_toArray, List.map_cons, List.map_nil]; rfl) (plAlloc p m v ls limit _ HPD2.out _ _ _ (Nat.zero_le _) hroom h1 hl) ?_; rintro e w7 ⟨v', rfl, HP7, HV7, HC7⟩; have HS := Lib.hid (HB2.out _ _ HP7.out HV7.out HC7.out); have hb7 := HC7.out.blk (show (w6.alloc (.cells #[.int .i64 0] 3)).drew.heap[w6.heap.size]? = _ from HBA.out) (by rintro (e | e); omega; have := hvl _ e; omega); have g0 := blk_cell hb7 0 (v := .int .i64 0) rfl; have g1 := blk_free hb7 0; clear hb7; refine ⟨_, rfl, ?_⟩))
      all_goals
        skip
        clear c0 c1 c2 s0 s1 s2 d1 e0 e1 e2 HPD HPD2 H6A HKXA HBA HC6A HB1 HB2 HP7 HV7 HC7 g0 g1
        have s0 := blk_cell HS.out.kx 0 (v := .int .u64 k) rfl
        have s1 := blk_cell HS.out.kx 1 (v := .int .i64 (-1)) rfl
        have s2 := blk_cell HS.out.kx 2 (v := .int .i64 fst) rfl
        go_wp2_with fail
        refine (chChangeN c m p _ v' _ limit fst (-1) (ls.length : Nat) _ HS.out.ch HS.out.ka).mono ?_
        rintro e w9 ⟨rfl, H9, HC9⟩
        have HS9 := Lib.hid (HS.out.step H9.out HC9.out)
        clear s0 s1 s2 HS H9 HC9
        have s0 := blk_cell HS9.out.kx 0 (v := .int .u64 k) rfl
        have s1 := blk_cell HS9.out.kx 1 (v := .int .i64 (-1)) rfl
        have s2 := blk_cell HS9.out.kx 2 (v := .int .i64 fst) rfl
        go_wp2_with fail
        refine (chChangeP c m p _ v' _ limit fst fst (ls.length : Nat) _ HS9.out.ch HS9.out.ka).mono ?_
        rintro e w10 ⟨rfl, H10', HC10'⟩
        have HS10 := Lib.hid (HS9.out.step H10'.out HC10'.out)
        clear s0 s1 s2 HS9 H10' HC10'
        have s1 := blk_cell HS10.out.kx 1 (v := .int .i64 (-1)) rfl
        have s2 := blk_cell HS10.out.kx 2 (v := .int .i64 fst) rfl
        have a0 := blk_cell HS10.out.ka 0 (v := .int .i64 (ls.length : Nat)) rfl
        have H10 := Lib.hid HS10.out.ch
        have HC10 := Lib.hid HS10.out.chg
        have HV7 := Lib.hid HS10.out.own
        obtain ⟨d0, d1, d2, ⟨lst, d3⟩, fz⟩ := H10.out.cells
        have fc2 := fz 2
        have fc3 := fz 3
        clear fz
        skip
        rw [setN_neg _ (-1) _ (by omega)] at H10
        by_cases hon : fst = -1
        · subst hon
          go_wp2
          go_ret2
          exact ⟨_, true, v', _, _, rfl, (H10.out.setF _).setL _, .inr ⟨rfl, by rw [setP_len]; simp, HRK.out⟩, HV7.out, (HC10.out.set _ (.inl (.inl rfl))).set _ (.inl (.inl rfl))⟩
        · have hon1 : (fst == -1) = false := by simpa using hon
          clear hon
          go_wp2
          go_ret2
          exact ⟨_, true, v', _, _, rfl, H10.out.setF _, .inr ⟨rfl, by rw [setP_len]; simp, HRK.out⟩, HV7.out, HC10.out.set _ (.inl (.inl rfl))⟩
    · obtain rfl : i = -1 := by omega
      clear hmi
      go_enter Tryz.func326, Tryz.ntmps326
      skip
      have hA := (Below.refl w.heap.size w).alloc (Nat.le_refl _) (.cells #[.int .u64 k, .int .i64 (-1), .int .i64 fst] 271)
      have H3 := Lib.hid (H.out.below hA)
      have HKX := Lib.hid (blk_new w #[.int .u64 k, .int .i64 (-1), .int .i64 fst] 271)
      have HC3 := Lib.hid (Chg.of_below (S := chO c m p v) hA)
      have hpk : (w.alloc (.cells #[.int .u64 k, .int .i64 (-1), .int .i64 fst] 271)).cell? ⟨c, 1, none⟩ = some (.pointer (some ⟨p, 0, none⟩)) := H3.out.cells.2.1
      clear hA
      go_wp2_with fail
      clear hpk
      generalize w.alloc (.cells #[.int .u64 k, .int .i64 (-1), .int .i64 fst] 271) = w3 at *
      refine (plPeek p m v ls limit _ H3.out.pool (-1) (Nat.zero_le _)).mono ?_
      rintro e w4 ⟨x, rfl, HX, _, HB4⟩
      obtain ⟨ok, op, on⟩ := x
      have H4 := Lib.hid (H3.out.below HB4.out)
      replace HKX := Lib.hid (blk_below HKX.out HB4.out rfl)
      have HC4 := Lib.hid (HC3.out.then (Chg.of_below HB4.out))
      have hA := (Below.refl w4.heap.size w4).alloc (Nat.le_refl _) (.cells #[.int .u64 ok, .int .i64 op, .int .i64 on] 271)
      have H5 := Lib.hid (H4.out.below hA)
      replace HKX := Lib.hid (blk_below HKX.out hA rfl)
      have HC5 := Lib.hid (HC4.out.then (Chg.of_below hA))
      clear hA H3 HC3 H4 HC4
      have f2 := blk_free HKX.out 2
      have s0 := blk_cell HKX.out 0 rfl
      have s1 := blk_cell HKX.out 1 rfl
      have s2 := blk_cell HKX.out 2 rfl
      rw [HD.out]
      clear HX
      have H6 := H5
      have HC6 := HC5
      clear H5 HC5
      go_wp2
      generalize w4.alloc (.cells #[.int .u64 ok, .int .i64 op, .int .i64 on] 271) = w6 at *
      have HRK := Lib.hid ((HR.out.more (-1) k HKR.out (by omega) fst ⟨fun h => absurd h (by omega), fun _ => rfl⟩ (-1)).prevd fst (ls.length : Nat))
      rw [if_pos (show (-1) < 0 by omega), setN_neg _ (-1) _ (by omega)] at HRK
      skip
      clear c0 c1 c2 f2 s0 s1 s2
      obtain ⟨c0, c1, c2, _⟩ := H6.out.cells
      have s0 := blk_cell HKX.out 0 (v := .int .u64 k) rfl
      have s1 := blk_cell HKX.out 1 (v := .int .i64 (-1)) rfl
      have s2 := blk_cell HKX.out 2 (v := .int .i64 fst) rfl
      have HPD := Lib.hid H6.out.drewn.pool
      have hA := (Below.refl w6.heap.size w6).alloc (Nat.le_refl _) (.cells #[.int .i64 0] 3)
      have H6A := Lib.hid (H6.out.below hA)
      have HPD2 := Lib.hid H6A.out.drewn.pool
      have HKXA := Lib.hid (blk_below HKX.out hA rfl)
      have HBA := Lib.hid (blk_new w6 #[.int .i64 0] 3)
      have HC6A := Lib.hid (HC6.out.then (Chg.of_below hA))
      have hz6 := HC6.out.size
      have d1 := H6A.out.cells.2.1
      have e0 := blk_cell HKXA.out 0 (v := .int .u64 k) rfl
      have e1 := blk_cell HKXA.out 1 (v := .int .i64 (-1)) rfl
      have e2 := blk_cell HKXA.out 2 (v := .int .i64 fst) rfl
      have HB1 := Lib.hid (fun v' w7 h1 h2 h3 => beh1 (w := w) (w7 := w7) (v' := v') (ls1 := ls ++ [⟨k, (-1), fst⟩]) (n := (ls.length : Nat)) hvl H6.out HKX.out HC6.out (Nat.le_refl _) h1 h2 ((Chg.refl _ _).drew.then h3))
      have HB2 := Lib.hid (fun v' w7 h1 h2 h3 => beh2 (w := w) (w7 := w7) (v' := v') (ls1 := ls ++ [⟨k, (-1), fst⟩]) (n := (ls.length : Nat)) hvl H6A.out HKXA.out HBA.out HC6A.out (Nat.le_refl _) hz6 h1 h2 ((Chg.refl _ _).drew.then h3))
      clear hA
      go_region_law (first | ((with_reducible refine gate_scall (f := 341) rfl ?_); refine step_goes rfl Tryz.func341 (by kernel_rfl) rfl #[.pointer (some ⟨p, 0, none⟩), .agg #[.int .u64 k, .int .i64 (-1), .int .i64 fst]] rfl (by simp only [List.map_toArray, List.map_cons, List.map_nil]; rfl) (plAlloc p m v ls limit _ HPD.out _ _ _ (Nat.zero_le _) hroom h1 hl) ?_; rintro e w7 ⟨v', rfl, HP7, HV7, HC7⟩; have HS := Lib.hid (HB1.out _ _ HP7.out HV7.out HC7.out); have g0 := blk_cell (blk_new w7 #[.int .i64 0] 3) 0 (v := .int .i64 0) rfl; have g1 := blk_free (blk_new w7 #[.int .i64 0] 3) 0; refine ⟨_, rfl, ?_⟩) | ((with_reducible refine gate_scall (f := 341) rfl ?_); refine step_goes rfl Tryz.func341 (by kernel_rfl) rfl #[.pointer (some ⟨p, 0, none⟩), .agg #[.int .u64 k, .int .i64 (-1), .int .i64 fst]] rfl (by simp only [List.map_toArray, List.map_cons, List.map_nil]; rfl) (plAlloc p m v ls limit _ HPD2.out _ _ _ (Nat.zero_le _) hroom h1 hl) ?_; rintro e w7 ⟨v', rfl, HP7, HV7, HC7⟩; have HS := Lib.hid (HB2.out _ _ HP7.out HV7.out HC7.out); have hb7 := HC7.out.blk (show (w6.alloc (.cells #[.int .i64 0] 3)).drew.heap[w6.heap.size]? = _ from HBA.out) (by rintro (e | e); omega; have := hvl _ e; omega); have g0 := blk_cell hb7 0 (v := .int .i64 0) rfl; have g1 := blk_free hb7 0; clear hb7; refine ⟨_, rfl, ?_⟩))
      all_goals
        skip
        clear c0 c1 c2 s0 s1 s2 d1 e0 e1 e2 HPD HPD2 H6A HKXA HBA HC6A HB1 HB2 HP7 HV7 HC7 g0 g1
        have s0 := blk_cell HS.out.kx 0 (v := .int .u64 k) rfl
        have s1 := blk_cell HS.out.kx 1 (v := .int .i64 (-1)) rfl
        have s2 := blk_cell HS.out.kx 2 (v := .int .i64 fst) rfl
        go_wp2_with fail
        refine (chChangeN c m p _ v' _ limit fst (-1) (ls.length : Nat) _ HS.out.ch HS.out.ka).mono ?_
        rintro e w9 ⟨rfl, H9, HC9⟩
        have HS9 := Lib.hid (HS.out.step H9.out HC9.out)
        clear s0 s1 s2 HS H9 HC9
        have s0 := blk_cell HS9.out.kx 0 (v := .int .u64 k) rfl
        have s1 := blk_cell HS9.out.kx 1 (v := .int .i64 (-1)) rfl
        have s2 := blk_cell HS9.out.kx 2 (v := .int .i64 fst) rfl
        go_wp2_with fail
        refine (chChangeP c m p _ v' _ limit fst fst (ls.length : Nat) _ HS9.out.ch HS9.out.ka).mono ?_
        rintro e w10 ⟨rfl, H10', HC10'⟩
        have HS10 := Lib.hid (HS9.out.step H10'.out HC10'.out)
        clear s0 s1 s2 HS9 H10' HC10'
        have s1 := blk_cell HS10.out.kx 1 (v := .int .i64 (-1)) rfl
        have s2 := blk_cell HS10.out.kx 2 (v := .int .i64 fst) rfl
        have a0 := blk_cell HS10.out.ka 0 (v := .int .i64 (ls.length : Nat)) rfl
        have H10 := Lib.hid HS10.out.ch
        have HC10 := Lib.hid HS10.out.chg
        have HV7 := Lib.hid HS10.out.own
        obtain ⟨d0, d1, d2, ⟨lst, d3⟩, fz⟩ := H10.out.cells
        have fc2 := fz 2
        have fc3 := fz 3
        clear fz
        skip
        rw [setN_neg _ (-1) _ (by omega)] at H10
        by_cases hon : fst = -1
        · subst hon
          go_wp2
          go_ret2
          exact ⟨_, true, v', _, _, rfl, (H10.out.setF _).setL _, .inr ⟨rfl, by rw [setP_len]; simp, HRK.out⟩, HV7.out, (HC10.out.set _ (.inl (.inl rfl))).set _ (.inl (.inl rfl))⟩
        · have hon1 : (fst == -1) = false := by simpa using hon
          clear hon
          go_wp2
          go_ret2
          exact ⟨_, true, v', _, _, rfl, H10.out.setF _, .inr ⟨rfl, by rw [setP_len]; simp, HRK.out⟩, HV7.out, HC10.out.set _ (.inl (.inl rfl))⟩
end Go.Proofs.YtcnaikoloagbdaaGreat
