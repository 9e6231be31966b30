/-
  stepstoneref06: the document's sets, walked: New, Rank, Len, List, Fill, Same.
  stepstoneref06.Join, walked.
  Arguments opened: a slice of integers as a list, a slice of pairs as a list, each with the bound that the row's reach gives.
  An argument opened: a slice of calls (a byte and three numbers of 16 bits each) as a list.
  The laws' lay, walked: a box and the document's set, of calls.
  The laws' plain and awake, walked; joins of two.
-/
import Derived.Test.YtbjekoljipjldaaGreatDoorQJoins
import Derived.Test.YtbjekoljipjldaaGreatDoorQBase
import Derived.ProofKit
import Derived.OpenShut
import Derived.SizedLaws
import Derived.ChangeSlices
import Derived.Deep.Slices
import Derived.Test.YtbjekoljipjldaaGreatDoorQBoxF
namespace Go.Proofs.YtbjekoljipjldaaGreatDoor
set_option linter.unusedVariables false
set_option linter.unusedSimpArgs false
open Go.RowKit

/-- a row of 65536 bools -/
def SetB (w : World) (g : Nat) (p : Nat → Bool) : Prop := ∃ cs, w.heap[g]? = some (.cells cs 4 (0, 0)) ∧ cs.size = 65536 ∧ ∀ i, i < 65536 → cs[i]? = some (.bool (p i))
theorem SetB.lt {w : World} {g : Nat} {p : Nat → Bool} (h : SetB w g p) : g < w.heap.size := by
  obtain ⟨cs, h1, _⟩ := h
  exact blk_lt h1
theorem SetB.at_ {w : World} {g : Nat} {p : Nat → Bool} (h : SetB w g p) {i : Nat} (hi : i < 65536) : w.cell? ⟨g, i, none⟩ = some (.bool (p i)) ∧ w.frozen? ⟨g, i, none⟩ = false := by
  obtain ⟨cs, h1, h2, h3⟩ := h
  exact ⟨blk_cell h1 i (h3 i hi), blk_free h1 i⟩
theorem SetB.below {w w' : World} {g : Nat} {p : Nat → Bool} (h : SetB w g p) (hb : Below w.heap.size w w') : SetB w' g p := by
  have hl := h.lt
  obtain ⟨cs, h1, h2⟩ := h
  exact ⟨cs, by rw [hb.block g hl]; exact h1, h2⟩
theorem SetB.chg {S : Nat → Prop} {w w' : World} {g : Nat} {p : Nat → Bool} (h : SetB w g p) (hc : Chg S w w') (hn : ¬ S g) : SetB w' g p := by
  obtain ⟨cs, h1, h2⟩ := h
  exact ⟨cs, hc.blk h1 hn, h2⟩
theorem SetB.congr {w : World} {g : Nat} {p q : Nat → Bool} (h : SetB w g p) (hpq : ∀ i, i < 65536 → p i = q i) : SetB w g q := by
  obtain ⟨cs, h1, h2, h3⟩ := h
  exact ⟨cs, h1, h2, fun i hi => by rw [← hpq i hi]; exact h3 i hi⟩
theorem SetB.set {w : World} {g : Nat} {p q : Nat → Bool} (h : SetB w g p) {i : Nat} (b : Bool) (hi : i < 65536) (hq : ∀ j, j < 65536 → q j = if j = i then b else p j) : SetB (w.setCell ⟨g, i, none⟩ (.bool b)) g q := by
  obtain ⟨cs, h1, h2, h3⟩ := h
  refine ⟨_, blk_set h1 i _, by rw [Array.size_setIfInBounds]; exact h2, fun j hj => ?_⟩
  rw [Array.getElem?_setIfInBounds, hq j hj]
  by_cases e : i = j
  · subst e
    rw [if_pos rfl, if_pos (by omega), if_pos rfl]
  · rw [if_neg e, if_neg (fun h => e h.symm)]
    exact h3 j hj
theorem SetB.old {w : World} {g : Nat} {p : Nat → Bool} (h : SetB w g p) {c i : Nat} (u : Value) (hne : g ≠ c) : SetB (w.setCell ⟨c, i, none⟩ u) g p := by
  obtain ⟨cs, h1, h2⟩ := h
  exact ⟨cs, blk_other h1 u hne, h2⟩
section
variable {P : Program} {ops : Array Oper} {rest : List Oper} {o : Oper} {a : Act} {Q : Exit → Act → World → Prop} {w : World}
theorem madeCells_1 {z : Value} (m : Nat) : madeCells #[z] m = (List.replicate m z).toArray := by
  apply Array.ext'
  apply List.ext_getElem?
  intro j
  simp only [madeCells, Array.toList_map, Array.toList_range, List.getElem?_map, List.getElem?_replicate]
  by_cases hj : j < m
  · rw [List.getElem?_range (by simpa using hj), if_pos hj]
    simp [Nat.mod_one]
  · rw [if_neg hj, List.getElem?_eq_none (by simpa using hj)]
    rfl
theorem wpList_makeFull {z : Value} {e t : TypeId} {i : TypeInfo} (n : Nat) (x y : Operand)
    (hgd : o.guard = none) (ho : o.op = .makeSlice t x y)
    (ht : P.underlying t = some (.slice e)) (hi : P.info? e = some i) (hz : i.zero = some z) (hzc : z.cells = #[z]) (hs1 : i.size = 1)
    (hx : a.eval x = .int .i64 n) (hy : a.eval y = .int .i64 n) (hbytes : i.bytes * n ≤ 281474976710656) (hlen : n ≤ maxLen)
    (h : wpList P ops Q rest (a.put o.dst (.slice (some ⟨w.heap.size, 0, none⟩) n n)) (w.alloc (.cells (Array.replicate n z) e))) : wpList P ops Q (o :: rest) a w := by
  refine wpList_plain hgd fun K hK => ?_
  have h63' : (n : Int) ≤ 9223372036854775807 := by
    have h := hlen
    simp [maxLen] at h
    omega
  have hb' : (i.bytes : Int) * (n : Int) ≤ 281474976710656 := by
    have h : ((i.bytes * n : Nat) : Int) ≤ 281474976710656 := by omega
    rwa [Int.natCast_mul] at h
  have hr := run_make (P := P) w t e i _ ht hi hz .i64 .i64 n n (by omega) (by omega) hb' h63'
  simp only [Int.toNat_natCast, hs1, Nat.mul_one] at hr
  rw [hzc, madeCells_1, List.toArray_replicate] at hr
  unfold Oper.wp execOp
  simp only [ho, Sem.run_bind, Sem.run_pure, Result.andThen_ok, hx, hy, hr]
  exact hK _ _ h
end
theorem bool_info : (Tryz.prog.info? 4).map (fun i => (i.zero, i.size, i.bytes)) = some (some (.bool false), 1, 1) := by kernel_rfl
theorem setB_made (w : World) : SetB (w.alloc (.cells (Array.replicate 65536 (.bool false)) 4)) w.heap.size noneP :=
  ⟨_, blk_new _ _ _, Array.size_replicate, fun i hi => by rw [Array.getElem?_replicate, if_pos hi]; rfl⟩
set_option maxRecDepth 100000 in
theorem rNew (w : World) : Calls Tryz.prog 8 #[] w fun e w' => ∃ g, e = .returned (.slice (some ⟨g, 0, none⟩) 65536 65536) ∧ w.heap.size ≤ g ∧ Hid (SetB w' g noneP) ∧ Below w.heap.size w w' := by
  obtain ⟨i0, hi, hz0, hz1, hz2⟩ := info_parts bool_info
  go_enter Tryz.func8, Tryz.ntmps8
  go_wp2_with (refine wpList_makeFull 65536 _ _ rfl rfl Tryz.underlying26 hi hz0 rfl hz1 rfl rfl (by rw [hz2]; decide) (by unfold maxLen; decide) ?_)
  have HS := Lib.hid (setB_made w)
  have HB := Lib.hid ((Below.refl w.heap.size w).alloc (Nat.le_refl _) (.cells (Array.replicate 65536 (.bool false)) 4))
  generalize w.alloc (.cells (Array.replicate 65536 (.bool false)) 4) = w0 at *
  go_wp2
  go_ret
  exact ⟨_, rfl, Nat.le_refl _, HS.out, HB.out⟩
set_option maxRecDepth 100000 in
theorem rRank (g : Nat) (p : Nat → Bool) (w : World) (hS : SetB w g p) : Calls Tryz.prog 43 #[.slice (some ⟨g, 0, none⟩) 65536 65536, .int .i64 65536] w fun e w' => e = .returned (.int .i64 (cnt p 0 65536 : Nat)) ∧ Below w.heap.size w w' := by
  have HS := Lib.hid hS
  clear hS
  go_enter Tryz.func43, Tryz.ntmps43
  go_wp2
  go_loopw [5, 6] (fun v5 v6 wr => ∃ k n : Nat, k ≤ 65536 ∧ v6 = .int .i64 k ∧ v5 = .int .i64 n ∧ Hid (n = cnt p 0 k) ∧ Hid (Below w.heap.size w wr)) (fun _ v6 _ => 65536 - (intOf v6).toNat)
  case atStart => exact ⟨0, 0, Nat.zero_le _, rfl, rfl, rfl, Below.refl _ _⟩
  case round =>
    obtain ⟨k, n, hk, rfl, rfl, HN, HB⟩ := hrel
    have hle : n ≤ 65536 := by have := cnt_le p 0 k; rw [← HN.out] at this; omega
    by_cases hlt : k < 65536
    · have hki : (k : Int) < 65536 := by omega
      obtain ⟨hc, _⟩ := (HS.out.below HB.out).at_ hlt
      have HC := Lib.hid (show cnt p 0 (k + 1) = cnt p 0 k + if 0 ≤ k ∧ p k = true then 1 else 0 from rfl)
      generalize p k = b at *
      cases b
      · have HN2 := Lib.hid (show n = cnt p 0 (k + 1) by rw [HC.out, HN.out]; simp)
        go_wp2
        go_roundw
        case rel => exact ⟨k + 1, n, by omega, by go_num, rfl, HN2.out, HB.out⟩
        case measure => simp [intOf]; omega
      · have HN2 := Lib.hid (show n + 1 = cnt p 0 (k + 1) by rw [HC.out, HN.out]; simp)
        go_wp2
        go_roundw
        case rel => exact ⟨k + 1, n + 1, by omega, by go_num, by go_num, HN2.out, HB.out⟩
        case measure => simp [intOf]; omega
    · obtain rfl : k = 65536 := by omega
      go_wp2
      go_ret
      exact ⟨by rw [HN.out]; rfl, HB.out⟩
theorem rLen (g : Nat) (p : Nat → Bool) (w : World) (hS : SetB w g p) : Calls Tryz.prog 14 #[.slice (some ⟨g, 0, none⟩) 65536 65536] w fun e w' => e = .returned (.int .i64 ((L p).length : Nat)) ∧ Below w.heap.size w w' := by
  have HS := Lib.hid hS
  have HL := Lib.hid (L_len p)
  clear hS
  go_enter Tryz.func14, Tryz.ntmps14
  go_wp2_with fail
  refine (rRank g p _ HS.out).mono ?_
  rintro e w1 ⟨rfl, hb⟩
  rw [← HL.out]
  go_wp2
  go_ret
  exact ⟨rfl, hb⟩
theorem u16_info' : (Tryz.prog.info? 43).map (fun i => (i.zero, i.size, i.bytes)) = some (some (.int .u16 0), 1, 2) := by kernel_rfl
set_option maxRecDepth 100000 in
set_option maxHeartbeats 1000000 in
theorem rList (g : Nat) (p : Nat → Bool) (w : World) (hS : SetB w g p) : Calls Tryz.prog 26 #[.slice (some ⟨g, 0, none⟩) 65536 65536] w fun e w' => ∃ A c, e = .returned (.slice A (L p).length c) ∧ Hid (Rd .u16 w' A (L p)) ∧ Below w.heap.size w w' := by
  obtain ⟨i0, hi, hz0, hz1, hz2⟩ := info_parts u16_info'
  have HS := Lib.hid hS
  clear hS
  go_enter Tryz.func26, Tryz.ntmps26
  go_wp2
  go_loopw [3, 4, 5, 8] (fun v3 _ _ v8 wr => ∃ (k : Nat) (l : List Int), k ≤ 65536 ∧ v8 = .int .i64 k ∧ Hid (l = nums (bl p k)) ∧ Hid (l.length ≤ k) ∧ Hid (Own .u16 43 wr w.heap.size v3 l) ∧ Hid (Below w.heap.size w wr)) (fun _ _ _ v8 _ => 65536 - (intOf v8).toNat)
  case atStart => exact ⟨0, [], Nat.zero_le _, rfl, rfl, Nat.le_refl _, Own.nil _ _ _ _, Below.refl _ _⟩
  case round =>
    obtain ⟨k, l, hk, rfl, HN, HL, HO, HB⟩ := hrel
    by_cases hlt : k < 65536
    · have hki : (k : Int) < 65536 := by omega
      obtain ⟨hc, _⟩ := (HS.out.below HB.out).at_ hlt
      have HC := Lib.hid (show bl p (k + 1) = bl p k ++ (if p k then [k] else []) from rfl)
      have hsz := HB.out.size
      generalize p k = b at *
      cases b
      · have HN2 := Lib.hid (show l = nums (bl p (k + 1)) by rw [HC.out, HN.out]; simp)
        go_wp2
        go_roundw
        case rel => exact ⟨k + 1, l, by omega, by go_num, HN2.out, by have := HL.out; show _ ≤ _; omega, HO.out, HB.out⟩
        case measure => simp [intOf]; omega
      · have HN2 := Lib.hid (show l ++ [(k : Int)] = nums (bl p (k + 1)) by rw [HC.out, if_pos rfl, nums_snoc, HN.out, Nat.mod_eq_of_lt hlt])
        have hg1 : (l.length + 1) * 2 ≤ 140737488355328 := by have := HL.out; omega
        have hg2 : l.length + 1 ≤ maxLen := by have := HL.out; unfold maxLen; omega
        go_wp2_with (at_builtin; refine wpList_push w.heap.size _ l (k : Int) _ _ _ rfl rfl Tryz.underlying45 hi hz0 hz1 hz2 rfl rfl rfl (heap_alloc_new _ _) (HO.out.below ((Below.refl _ _).alloc (Nat.le_refl _) _)) (by simp; omega) hg1 hg2 ?_; intro v1 w1 ho1 hg1 _)
        have HO1 := Lib.hid ho1
        have HG1 := Lib.hid hg1
        clear ho1 hg1
        have HB1 := Lib.hid ((HB.out.alloc hsz (.cells #[.int .u16 (k : Int)] 43)).grown HG1.out (by simp; omega) (fun g hg => (HO.out.block g hg).1))
        go_wp2
        go_roundw
        case rel => exact ⟨k + 1, _, by omega, by go_num, HN2.out, by have := HL.out; show _ ≤ _; simp; omega, HO1.out, HB1.out⟩
        case measure => simp [intOf]; omega
    · obtain rfl : k = 65536 := by omega
      have ho := HO.out
      rw [HN.out, ← LN_eq, ← L_def] at ho
      obtain ⟨A, c, rfl, _, hr, _⟩ := ho.formS
      have HR := Lib.hid hr
      clear ho hr
      go_wp2
      go_ret
      exact ⟨A, c, rfl, HR.out, HB.out⟩
set_option maxRecDepth 100000 in
set_option maxHeartbeats 1000000 in
theorem rSame (A B : Option Addr) (ca cb : Nat) (l : List Int) (w : World) (ha : Rd .u16 w A l) (hb : Rd .u16 w B l) (hl : l.length ≤ 65536) :
    Calls Tryz.prog 24 #[.slice A l.length ca, .slice B l.length cb] w fun e w' => e = .returned (.bool true) ∧ Below w.heap.size w w' := by
  have HA := Lib.hid ha
  have HB := Lib.hid hb
  clear ha hb
  go_enter Tryz.func24, Tryz.ntmps24
  go_wp2
  go_loopw [5, 13] (fun _ v13 wr => ∃ i : Nat, i ≤ l.length ∧ v13 = .int .i64 i ∧ Hid (Below w.heap.size w wr)) (fun _ v13 _ => l.length - (intOf v13).toNat)
  case atStart => exact ⟨0, Nat.zero_le _, rfl, Below.refl _ _⟩
  case round =>
    obtain ⟨i, hi, rfl, HW⟩ := hrel
    by_cases hlt : i < l.length
    · obtain ⟨ad, rfl, _, hk⟩ := (HA.out.below HW.out) i hlt
      obtain ⟨bd, rfl, _, hk2⟩ := (HB.out.below HW.out) i hlt
      generalize l.getD i 0 = x at *
      go_wp2
      go_quiet (fail)
      go_wp2
      go_roundw
      case rel => exact ⟨i + 1, by omega, by go_num, below_drewN HW.out _⟩
      case measure => simp [intOf]; omega
    · obtain rfl : i = l.length := by omega
      go_wp2
      go_ret
      exact ⟨rfl, HW.out⟩
def filP (p : Nat → Bool) (f i : Nat) (inn : Bool) : Nat → Bool := fun j => if f ≤ j ∧ j < i then inn else p j
theorem filP_range (p : Nat → Bool) (f t i : Nat) (inn : Bool) (h1 : f ≤ i) (h2 : i ≤ t + 1 ∨ i = f) (h3 : t < i) (j : Nat) : filP p f i inn j = rangeP p f t inn j := by
  unfold filP rangeP inR
  rcases h2 with h2 | h2
  · obtain rfl : i = t + 1 := by omega
    by_cases h : f ≤ j ∧ j < t + 1
    · rw [if_pos h, decide_eq_true h.1, decide_eq_true h.2]
      cases inn <;> simp
    · rw [if_neg h]
      have : (decide (f ≤ j) && decide (j < t + 1)) = false := by
        rcases Nat.lt_or_ge j f with h4 | h4
        · rw [decide_eq_false (by omega)]; rfl
        · rw [decide_eq_false (show ¬ j < t + 1 from fun h5 => h ⟨h4, h5⟩)]; simp
      rw [this]
      cases inn <;> simp
  · subst h2
    rw [if_neg (by omega)]
    have : (decide (i ≤ j) && decide (j < t + 1)) = false := by
      rcases Nat.lt_or_ge j i with h4 | h4
      · rw [decide_eq_false (by omega)]; rfl
      · rw [decide_eq_false (show ¬ j < t + 1 by omega)]; simp
    rw [this]
    cases inn <;> simp
set_option maxRecDepth 100000 in
set_option maxHeartbeats 1000000 in
theorem rFilltrue (g : Nat) (p : Nat → Bool) (f t : Nat) (w : World) (hS : SetB w g p) (hf : f < 65536) (ht : t < 65536) : Calls Tryz.prog 32 #[.slice (some ⟨g, 0, none⟩) 65536 65536, .int .u16 (f : Nat), .int .u16 (t : Nat), .bool true] w fun e w' => ∃ n : Int, e = .returned (.int .i64 n) ∧ Hid (SetB w' g (rangeP p f t true)) ∧ Hid (Chg (· = g) w w') := by
  have HS := Lib.hid hS
  clear hS
  go_enter Tryz.func32, Tryz.ntmps32
  go_wp2
  go_loopw [9, 10] (fun v9 v10 wr => ∃ i n : Nat, v10 = .int .i64 i ∧ v9 = .int .i64 n ∧ f ≤ i ∧ i ≤ 65536 ∧ n ≤ i ∧ Hid (i ≤ t + 1 ∨ i = f) ∧ Hid (SetB wr g (filP p f i true)) ∧ Hid (Chg (· = g) w wr)) (fun _ v10 _ => 65536 - (intOf v10).toNat)
  case atStart => exact ⟨f, 0, rfl, rfl, Nat.le_refl _, by omega, Nat.zero_le _, .inr rfl, HS.out.congr (fun j _ => by unfold filP; rw [if_neg (by omega)]), Chg.refl _ _⟩
  case round =>
    obtain ⟨i, n, rfl, rfl, hfi, hi6, hn, HI, HP, HC⟩ := hrel
    by_cases hlt : i ≤ t
    · have hki : (i : Int) ≤ t := by omega
      have hi7 : i < 65536 := by omega
      obtain ⟨hc, hfz⟩ := HP.out.at_ hi7
      have HQ := Lib.hid (show ∀ j, j < 65536 → filP p f (i + 1) true j = if j = i then true else filP p f i true j from fun j _ => by
        unfold filP
        by_cases e : j = i
        · subst e; rw [if_pos ⟨hfi, by omega⟩, if_pos rfl]
        · rw [if_neg e]
          by_cases h : f ≤ j ∧ j < i
          · rw [if_pos h, if_pos ⟨h.1, by omega⟩]
          · rw [if_neg h, if_neg (by omega)])
      generalize filP p f i true i = b at *
      cases b
      · go_wp2
        go_roundw
        case rel => exact ⟨i + 1, n + 1, by go_num, by go_num, by omega, by omega, by omega, .inl (by omega), HP.out.set true hi7 HQ.out, HC.out.set _ (.inl rfl)⟩
        case measure => simp [intOf]; omega
      · go_wp2
        go_roundw
        case rel => exact ⟨i + 1, n, by go_num, by go_num, by omega, by omega, by omega, .inl (by omega), HP.out.set true hi7 HQ.out, HC.out.set _ (.inl rfl)⟩
        case measure => simp [intOf]; omega
    · have hki : ¬ (i : Int) ≤ t := by omega
      go_wp2
      go_ret
      exact ⟨⟨_, rfl⟩, HP.out.congr (fun j _ => filP_range p f t i true hfi HI.out (by omega) j), HC.out⟩
set_option maxRecDepth 100000 in
set_option maxHeartbeats 1000000 in
theorem rFillfalse (g : Nat) (p : Nat → Bool) (f t : Nat) (w : World) (hS : SetB w g p) (hf : f < 65536) (ht : t < 65536) : Calls Tryz.prog 32 #[.slice (some ⟨g, 0, none⟩) 65536 65536, .int .u16 (f : Nat), .int .u16 (t : Nat), .bool false] w fun e w' => ∃ n : Int, e = .returned (.int .i64 n) ∧ Hid (SetB w' g (rangeP p f t false)) ∧ Hid (Chg (· = g) w w') := by
  have HS := Lib.hid hS
  clear hS
  go_enter Tryz.func32, Tryz.ntmps32
  go_wp2
  go_loopw [9, 10] (fun v9 v10 wr => ∃ i n : Nat, v10 = .int .i64 i ∧ v9 = .int .i64 n ∧ f ≤ i ∧ i ≤ 65536 ∧ n ≤ i ∧ Hid (i ≤ t + 1 ∨ i = f) ∧ Hid (SetB wr g (filP p f i false)) ∧ Hid (Chg (· = g) w wr)) (fun _ v10 _ => 65536 - (intOf v10).toNat)
  case atStart => exact ⟨f, 0, rfl, rfl, Nat.le_refl _, by omega, Nat.zero_le _, .inr rfl, HS.out.congr (fun j _ => by unfold filP; rw [if_neg (by omega)]), Chg.refl _ _⟩
  case round =>
    obtain ⟨i, n, rfl, rfl, hfi, hi6, hn, HI, HP, HC⟩ := hrel
    by_cases hlt : i ≤ t
    · have hki : (i : Int) ≤ t := by omega
      have hi7 : i < 65536 := by omega
      obtain ⟨hc, hfz⟩ := HP.out.at_ hi7
      have HQ := Lib.hid (show ∀ j, j < 65536 → filP p f (i + 1) false j = if j = i then false else filP p f i false j from fun j _ => by
        unfold filP
        by_cases e : j = i
        · subst e; rw [if_pos ⟨hfi, by omega⟩, if_pos rfl]
        · rw [if_neg e]
          by_cases h : f ≤ j ∧ j < i
          · rw [if_pos h, if_pos ⟨h.1, by omega⟩]
          · rw [if_neg h, if_neg (by omega)])
      generalize filP p f i false i = b at *
      cases b
      · go_wp2
        go_roundw
        case rel => exact ⟨i + 1, n, by go_num, by go_num, by omega, by omega, by omega, .inl (by omega), HP.out.set false hi7 HQ.out, HC.out.set _ (.inl rfl)⟩
        case measure => simp [intOf]; omega
      · go_wp2
        go_roundw
        case rel => exact ⟨i + 1, n + 1, by go_num, by go_num, by omega, by omega, by omega, .inl (by omega), HP.out.set false hi7 HQ.out, HC.out.set _ (.inl rfl)⟩
        case measure => simp [intOf]; omega
    · have hki : ¬ (i : Int) ≤ t := by omega
      go_wp2
      go_ret
      exact ⟨⟨_, rfl⟩, HP.out.congr (fun j _ => filP_range p f t i false hfi HI.out (by omega) j), HC.out⟩
theorem rFill (g : Nat) (p : Nat → Bool) (f t : Nat) (inn : Bool) (w : World) (hS : SetB w g p) (hf : f < 65536) (ht : t < 65536) : Calls Tryz.prog 32 #[.slice (some ⟨g, 0, none⟩) 65536 65536, .int .u16 (f : Nat), .int .u16 (t : Nat), .bool inn] w fun e w' => ∃ n : Int, e = .returned (.int .i64 n) ∧ Hid (SetB w' g (rangeP p f t inn)) ∧ Hid (Chg (· = g) w w') := by
  cases inn
  · exact rFillfalse g p f t w hS hf ht
  · exact rFilltrue g p f t w hS hf ht
end Go.Proofs.YtbjekoljipjldaaGreatDoor
namespace Go.Proofs.YtbjekoljipjldaaGreatDoor
set_option linter.unusedVariables false
set_option linter.unusedSimpArgs false
open Go.RowKit

def preP (r : Nat → Bool) (k : Nat) : Nat → Bool := fun j => if j < k then r j else false
theorem preP_zero (r : Nat → Bool) (i : Nat) : noneP i = preP r 0 i := by unfold preP noneP; rw [if_neg (by omega)]
theorem preP_succ (r : Nat → Bool) (k j : Nat) : preP r (k + 1) j = if j = k then r k else preP r k j := by
  unfold preP
  by_cases e : j = k
  · subst e; rw [if_pos (by omega), if_pos rfl]
  · rw [if_neg e]
    by_cases h : j < k
    · rw [if_pos h, if_pos (by omega)]
    · rw [if_neg h, if_neg (by omega)]
theorem preP_all (r : Nat → Bool) (i : Nat) (hi : i < 65536) : preP r 65536 i = r i := by unfold preP; rw [if_pos hi]
set_option maxRecDepth 100000 in
set_option maxHeartbeats 2000000 in
theorem rJoin0 (a b : Nat) (p q : Nat → Bool) (w : World) (ha : SetB w a p) (hb : SetB w b q) :
    Calls Tryz.prog 10 #[.slice (some ⟨a, 0, none⟩) 65536 65536, .slice (some ⟨b, 0, none⟩) 65536 65536, .int .i64 0] w fun e w' => ∃ g, e = .returned (.slice (some ⟨g, 0, none⟩) 65536 65536) ∧ w.heap.size ≤ g ∧ Hid (SetB w' g (fun i => p i || q i)) ∧ Below w.heap.size w w' := by
  have HA := Lib.hid ha
  have HB := Lib.hid hb
  clear ha hb
  go_enter Tryz.func10, Tryz.ntmps10
  go_wp2_with fail
  refine (rNew _).mono ?_
  rintro e w1 ⟨g, rfl, hg, HS, hb1⟩
  have HB1 := Lib.hid hb1
  clear hb1
  obtain ⟨r, hr⟩ : ∃ r : Nat → Bool, r = (fun i => p i || q i) := ⟨_, rfl⟩
  have HR := Lib.hid hr
  clear hr
  go_wp2
  go_loopw [8, 12] (fun _ v12 wr => ∃ k : Nat, k ≤ 65536 ∧ v12 = .int .i64 k ∧ Hid (SetB wr g (preP r k)) ∧ Hid (Below w.heap.size w wr)) (fun _ v12 _ => 65536 - (intOf v12).toNat)
  case atStart => exact ⟨0, Nat.zero_le _, rfl, HS.out.congr (fun i _ => preP_zero r i), HB1.out⟩
  case round =>
    obtain ⟨k, hk, rfl, HP, HW⟩ := hrel
    by_cases hlt : k < 65536
    · have hki : (k : Int) < 65536 := by omega
      obtain ⟨ca, _⟩ := (HA.out.below HW.out).at_ hlt
      obtain ⟨cb, _⟩ := (HB.out.below HW.out).at_ hlt
      obtain ⟨cs, fs⟩ := HP.out.at_ hlt
      have hrk0 : r k = (p k || q k) := by rw [HR.out]
      have HRK := Lib.hid hrk0
      clear hrk0
      have HNX := Lib.hid (fun (v : Bool) (hv : r k = v) => HP.out.set (q := preP r (k + 1)) v hlt (fun j _ => by rw [preP_succ, hv]))
      have HNB := Lib.hid (fun (v : Value) => show Below w.heap.size w (wr.setCell ⟨g, k, none⟩ v) from HW.out.setCell hg v)
      generalize p k = x at *
      generalize q k = y at *
      cases x <;> cases y
      all_goals
        have hrk := HRK.out
        have HNY := Lib.hid (HNX.out _ hrk)
        clear hrk
        go_wp2
        go_roundw
        case rel => exact ⟨k + 1, by omega, by go_num, HNY.out, HNB.out _⟩
        case measure => simp [intOf]; omega
    · obtain rfl : k = 65536 := by omega
      go_wp2
      go_ret
      exact ⟨g, rfl, hg, HP.out.congr (fun i hi => by rw [preP_all r i hi, HR.out]), HW.out⟩
set_option maxRecDepth 100000 in
set_option maxHeartbeats 2000000 in
theorem rJoin1 (a b : Nat) (p q : Nat → Bool) (w : World) (ha : SetB w a p) (hb : SetB w b q) :
    Calls Tryz.prog 10 #[.slice (some ⟨a, 0, none⟩) 65536 65536, .slice (some ⟨b, 0, none⟩) 65536 65536, .int .i64 1] w fun e w' => ∃ g, e = .returned (.slice (some ⟨g, 0, none⟩) 65536 65536) ∧ w.heap.size ≤ g ∧ Hid (SetB w' g (fun i => p i && q i)) ∧ Below w.heap.size w w' := by
  have HA := Lib.hid ha
  have HB := Lib.hid hb
  clear ha hb
  go_enter Tryz.func10, Tryz.ntmps10
  go_wp2_with fail
  refine (rNew _).mono ?_
  rintro e w1 ⟨g, rfl, hg, HS, hb1⟩
  have HB1 := Lib.hid hb1
  clear hb1
  obtain ⟨r, hr⟩ : ∃ r : Nat → Bool, r = (fun i => p i && q i) := ⟨_, rfl⟩
  have HR := Lib.hid hr
  clear hr
  go_wp2
  go_loopw [8, 12] (fun _ v12 wr => ∃ k : Nat, k ≤ 65536 ∧ v12 = .int .i64 k ∧ Hid (SetB wr g (preP r k)) ∧ Hid (Below w.heap.size w wr)) (fun _ v12 _ => 65536 - (intOf v12).toNat)
  case atStart => exact ⟨0, Nat.zero_le _, rfl, HS.out.congr (fun i _ => preP_zero r i), HB1.out⟩
  case round =>
    obtain ⟨k, hk, rfl, HP, HW⟩ := hrel
    by_cases hlt : k < 65536
    · have hki : (k : Int) < 65536 := by omega
      obtain ⟨ca, _⟩ := (HA.out.below HW.out).at_ hlt
      obtain ⟨cb, _⟩ := (HB.out.below HW.out).at_ hlt
      obtain ⟨cs, fs⟩ := HP.out.at_ hlt
      have hrk0 : r k = (p k && q k) := by rw [HR.out]
      have HRK := Lib.hid hrk0
      clear hrk0
      have HNX := Lib.hid (fun (v : Bool) (hv : r k = v) => HP.out.set (q := preP r (k + 1)) v hlt (fun j _ => by rw [preP_succ, hv]))
      have HNB := Lib.hid (fun (v : Value) => show Below w.heap.size w (wr.setCell ⟨g, k, none⟩ v) from HW.out.setCell hg v)
      generalize p k = x at *
      generalize q k = y at *
      cases x <;> cases y
      all_goals
        have hrk := HRK.out
        have HNY := Lib.hid (HNX.out _ hrk)
        clear hrk
        go_wp2
        go_roundw
        case rel => exact ⟨k + 1, by omega, by go_num, HNY.out, HNB.out _⟩
        case measure => simp [intOf]; omega
    · obtain rfl : k = 65536 := by omega
      go_wp2
      go_ret
      exact ⟨g, rfl, hg, HP.out.congr (fun i hi => by rw [preP_all r i hi, HR.out]), HW.out⟩
set_option maxRecDepth 100000 in
set_option maxHeartbeats 2000000 in
theorem rJoin2 (a b : Nat) (p q : Nat → Bool) (w : World) (ha : SetB w a p) (hb : SetB w b q) :
    Calls Tryz.prog 10 #[.slice (some ⟨a, 0, none⟩) 65536 65536, .slice (some ⟨b, 0, none⟩) 65536 65536, .int .i64 2] w fun e w' => ∃ g, e = .returned (.slice (some ⟨g, 0, none⟩) 65536 65536) ∧ w.heap.size ≤ g ∧ Hid (SetB w' g (fun i => p i && !q i)) ∧ Below w.heap.size w w' := by
  have HA := Lib.hid ha
  have HB := Lib.hid hb
  clear ha hb
  go_enter Tryz.func10, Tryz.ntmps10
  go_wp2_with fail
  refine (rNew _).mono ?_
  rintro e w1 ⟨g, rfl, hg, HS, hb1⟩
  have HB1 := Lib.hid hb1
  clear hb1
  obtain ⟨r, hr⟩ : ∃ r : Nat → Bool, r = (fun i => p i && !q i) := ⟨_, rfl⟩
  have HR := Lib.hid hr
  clear hr
  go_wp2
  go_loopw [8, 12] (fun _ v12 wr => ∃ k : Nat, k ≤ 65536 ∧ v12 = .int .i64 k ∧ Hid (SetB wr g (preP r k)) ∧ Hid (Below w.heap.size w wr)) (fun _ v12 _ => 65536 - (intOf v12).toNat)
  case atStart => exact ⟨0, Nat.zero_le _, rfl, HS.out.congr (fun i _ => preP_zero r i), HB1.out⟩
  case round =>
    obtain ⟨k, hk, rfl, HP, HW⟩ := hrel
    by_cases hlt : k < 65536
    · have hki : (k : Int) < 65536 := by omega
      obtain ⟨ca, _⟩ := (HA.out.below HW.out).at_ hlt
      obtain ⟨cb, _⟩ := (HB.out.below HW.out).at_ hlt
      obtain ⟨cs, fs⟩ := HP.out.at_ hlt
      have hrk0 : r k = (p k && !q k) := by rw [HR.out]
      have HRK := Lib.hid hrk0
      clear hrk0
      have HNX := Lib.hid (fun (v : Bool) (hv : r k = v) => HP.out.set (q := preP r (k + 1)) v hlt (fun j _ => by rw [preP_succ, hv]))
      have HNB := Lib.hid (fun (v : Value) => show Below w.heap.size w (wr.setCell ⟨g, k, none⟩ v) from HW.out.setCell hg v)
      generalize p k = x at *
      generalize q k = y at *
      cases x <;> cases y
      all_goals
        have hrk := HRK.out
        have HNY := Lib.hid (HNX.out _ hrk)
        clear hrk
        go_wp2
        go_roundw
        case rel => exact ⟨k + 1, by omega, by go_num, HNY.out, HNB.out _⟩
        case measure => simp [intOf]; omega
    · obtain rfl : k = 65536 := by omega
      go_wp2
      go_ret
      exact ⟨g, rfl, hg, HP.out.congr (fun i hi => by rw [preP_all r i hi, HR.out]), HW.out⟩
set_option maxRecDepth 100000 in
set_option maxHeartbeats 2000000 in
theorem rJoin3 (a b : Nat) (p q : Nat → Bool) (w : World) (ha : SetB w a p) (hb : SetB w b q) :
    Calls Tryz.prog 10 #[.slice (some ⟨a, 0, none⟩) 65536 65536, .slice (some ⟨b, 0, none⟩) 65536 65536, .int .i64 3] w fun e w' => ∃ g, e = .returned (.slice (some ⟨g, 0, none⟩) 65536 65536) ∧ w.heap.size ≤ g ∧ Hid (SetB w' g (fun i => p i != q i)) ∧ Below w.heap.size w w' := by
  have HA := Lib.hid ha
  have HB := Lib.hid hb
  clear ha hb
  go_enter Tryz.func10, Tryz.ntmps10
  go_wp2_with fail
  refine (rNew _).mono ?_
  rintro e w1 ⟨g, rfl, hg, HS, hb1⟩
  have HB1 := Lib.hid hb1
  clear hb1
  obtain ⟨r, hr⟩ : ∃ r : Nat → Bool, r = (fun i => p i != q i) := ⟨_, rfl⟩
  have HR := Lib.hid hr
  clear hr
  go_wp2
  go_loopw [8, 12] (fun _ v12 wr => ∃ k : Nat, k ≤ 65536 ∧ v12 = .int .i64 k ∧ Hid (SetB wr g (preP r k)) ∧ Hid (Below w.heap.size w wr)) (fun _ v12 _ => 65536 - (intOf v12).toNat)
  case atStart => exact ⟨0, Nat.zero_le _, rfl, HS.out.congr (fun i _ => preP_zero r i), HB1.out⟩
  case round =>
    obtain ⟨k, hk, rfl, HP, HW⟩ := hrel
    by_cases hlt : k < 65536
    · have hki : (k : Int) < 65536 := by omega
      obtain ⟨ca, _⟩ := (HA.out.below HW.out).at_ hlt
      obtain ⟨cb, _⟩ := (HB.out.below HW.out).at_ hlt
      obtain ⟨cs, fs⟩ := HP.out.at_ hlt
      have hrk0 : r k = (p k != q k) := by rw [HR.out]
      have HRK := Lib.hid hrk0
      clear hrk0
      have HNX := Lib.hid (fun (v : Bool) (hv : r k = v) => HP.out.set (q := preP r (k + 1)) v hlt (fun j _ => by rw [preP_succ, hv]))
      have HNB := Lib.hid (fun (v : Value) => show Below w.heap.size w (wr.setCell ⟨g, k, none⟩ v) from HW.out.setCell hg v)
      generalize p k = x at *
      generalize q k = y at *
      cases x <;> cases y
      all_goals
        have hrk := HRK.out
        have HNY := Lib.hid (HNX.out _ hrk)
        clear hrk
        go_wp2
        go_region
        all_goals
          go_wp2
          go_roundw
          case rel => exact ⟨k + 1, by omega, by go_num, HNY.out, (HNB.out _).drew⟩
          case measure => simp [intOf]; omega
    · obtain rfl : k = 65536 := by omega
      go_wp2
      go_ret
      exact ⟨g, rfl, hg, HP.out.congr (fun i hi => by rw [preP_all r i hi, HR.out]), HW.out⟩
end Go.Proofs.YtbjekoljipjldaaGreatDoor
namespace Go.Proofs.YtbjekoljipjldaaGreatDoor
set_option linter.unusedVariables false
set_option linter.unusedSimpArgs false
open Go.ChangeShapes Go.WideShapes Go.ChangeAt Go.RowKit

section
variable {H : Type} {enc : TypeId × Value → H} {P : Program} {W : World} {t e : TypeId} {v : Value} {d : DataW H} {ps : List MemPlace} {ts : List TypeId} {ds : List (DataW H)} {j : Nat} {base : Nat}
theorem open_list {k : IntKind} {B : Nat} (hsz : (DataW.weightsEach P ts ds).all (· ≤ reachBytes) = true) (ht : ts[j]? = some t) (hd : ds[j]? = some d) (hu : P.underlying t = some (.slice e)) (he : P.underlying e = some (.int k)) (hc : P.cellsOf e = 1) (hB : P.bytesOf e = B)
    (hv : Value.okWide P W .any base t v) (h : DataW.Trod enc P W 0 (fun _ => true) true t v d ps) :
    ∃ A c l, v = .slice A l.length c ∧ l.length * B ≤ 140737488351232 ∧ l.length ≤ c ∧ Rd k W A l ∧ (∀ x ∈ l, (Lit.int k x).wf = true) := by
  obtain ⟨a, len, cap, rfl⟩ := okWide_slice hu hv
  obtain ⟨fuel, hf⟩ := h
  rcases open_ints hu he hc hf with ⟨hcs, _⟩ | ⟨x, l, c, zs, hcs, _, hl, hm, hz, hx, hcell, hwz⟩
  · simp [Value.cells] at hcs
    obtain ⟨rfl, rfl, rfl⟩ := hcs
    exact ⟨none, 0, [], rfl, by simp, by simp, Rd.nil _ _ _, by simp⟩
  · simp [Value.cells] at hcs
    obtain ⟨rfl, rfl, rfl⟩ := hcs
    obtain ⟨hx, _⟩ := Prod.mk.inj hx
    subst hx
    have z := sized_slice hsz ht hd hu
    rw [hB] at z
    have hz' : zs.length = cap := by simpa using hz
    have hl2 : len ≤ zs.length := by omega
    have h1 : (lits (H := H) k (zs.take len)).length + (lits (H := H) k (zs.drop len)).length = zs.length := by
      simp [lits]; omega
    rw [h1] at z
    have hlen : (zs.take len).length = len := by simp; omega
    refine ⟨some x, cap, zs.take len, by rw [hlen], by rw [hlen]; exact Nat.le_trans (Nat.mul_le_mul_right _ hl2) z, by omega, fun i hi => ?_, fun y hy => hwz y (List.mem_of_mem_take hy)⟩
    rw [hlen] at hi
    have hci := hcell i (by omega)
    refine ⟨x, rfl, ?_, ?_⟩
    · have := World.block_lt_of_cell? W _ hci
      rwa [block_of_add] at this
    · rw [hci]
      simp [List.getD_eq_getElem?_getD, List.getElem?_take, hi]
end
theorem wf_u8 {x : Int} (h : (Lit.int .u8 x).wf = true) : 0 ≤ x ∧ x ≤ 255 := by simpa [Lit.wf, IntKind.min, IntKind.max, IntKind.signed, IntKind.bits] using h
theorem wf_u16 {x : Int} (h : (Lit.int .u16 x).wf = true) : 0 ≤ x ∧ x ≤ 65535 := by simpa [Lit.wf, IntKind.min, IntKind.max, IntKind.signed, IntKind.bits] using h
theorem wf_u64 {x : Int} (h : (Lit.int .u64 x).wf = true) : 0 ≤ x ∧ x ≤ 18446744073709551615 := by simpa [Lit.wf, IntKind.min, IntKind.max, IntKind.signed, IntKind.bits] using h
theorem wf_i64 {x : Int} (h : (Lit.int .i64 x).wf = true) : -9223372036854775808 ≤ x ∧ x ≤ 9223372036854775807 := by simpa [Lit.wf, IntKind.min, IntKind.max, IntKind.signed, IntKind.bits] using h
end Go.Proofs.YtbjekoljipjldaaGreatDoor
namespace Go.Proofs.YtbjekoljipjldaaGreatDoor
set_option linter.unusedVariables false
set_option linter.unusedSimpArgs false
open Go.ChangeShapes Go.WideShapes Go.ChangeAt Go.RowKit

theorem add_at (a : Addr) (n m : Nat) (hm : 0 < m) : a.add (n + m) = ⟨(a.add n).block, (a.add n).off + m, none⟩ := by
  unfold Addr.add
  rw [if_neg (by omega)]
  split
  · rename_i h; subst h; simp
  · simp only [Addr.mk.injEq, and_true, true_and]; omega
/-- a slice that reads as a list of calls -/
def RdA (w : World) (A : Option Addr) (l : List (Nat × Nat × Nat × Nat)) : Prop := ∀ (i : Nat) (hi : i < l.length), ∃ ad a4, A = some ad ∧ ad.block < w.heap.size ∧ ad.add (i * 4) = a4 ∧ w.cell? a4 = some (.int .u8 (l[i].1 : Nat)) ∧ w.cell? ⟨a4.block, a4.off + 1, none⟩ = some (.int .u16 (l[i].2.1 : Nat)) ∧ w.cell? ⟨a4.block, a4.off + 2, none⟩ = some (.int .u16 (l[i].2.2.1 : Nat)) ∧ w.cell? ⟨a4.block, a4.off + 3, none⟩ = some (.int .u16 (l[i].2.2.2 : Nat)) ∧ l[i].1 < 256 ∧ l[i].2.1 < 65536 ∧ l[i].2.2.1 < 65536
theorem RdA.below {w w' : World} {A : Option Addr} {l : List (Nat × Nat × Nat × Nat)} (h : RdA w A l) (hb : Below w.heap.size w w') : RdA w' A l := fun i hi => by
  obtain ⟨ad, a4, e, h1, e4, h2, h3, h4, h5, h6⟩ := h i hi
  have hl : a4.block < w.heap.size := by rw [← e4, block_of_add]; exact h1
  exact ⟨ad, a4, e, Nat.lt_of_lt_of_le h1 hb.size, e4, (hb.cell (p := a4) hl).trans h2, (hb.cell (p := ⟨a4.block, _, none⟩) hl).trans h3, (hb.cell (p := ⟨a4.block, _, none⟩) hl).trans h4, (hb.cell (p := ⟨a4.block, _, none⟩) hl).trans h5, h6⟩
def natV : Value → Nat
  | .int _ n => n.toNat
  | _ => 0
def natC (W : World) (a : Addr) : Nat := match W.cell? a with | some v => natV v | none => 0
section
variable {H : Type} {enc : TypeId × Value → H} {P : Program} {W : World} {t e : TypeId} {v : Value} {d : DataW H} {ps : List MemPlace} {ts : List TypeId} {ds : List (DataW H)} {j : Nat} {base : Nat}
theorem open_acts {f0 f1 f2 f3 : Field} {B : Nat} (hsz : (DataW.weightsEach P ts ds).all (· ≤ reachBytes) = true) (ht : ts[j]? = some t) (hd : ds[j]? = some d) (hu : P.underlying t = some (.slice e)) (he : P.underlying e = some (.struct #[f0, f1, f2, f3]))
    (h0 : P.underlying f0.type = some (.int .u8)) (h1 : P.underlying f1.type = some (.int .u16)) (h2 : f2.type = f1.type) (h3 : f3.type = f1.type) (o0 : f0.offset = 0) (o1 : f1.offset = 1) (o2 : f2.offset = 2) (o3 : f3.offset = 3) (ce : P.cellsOf e = 4) (c0 : P.cellsOf f0.type = 1) (c1 : P.cellsOf f1.type = 1) (hB : P.bytesOf e = B)
    (hv : Value.okWide P W .any base t v) (h : DataW.Trod enc P W 0 (fun _ => true) true t v d ps) :
    ∃ A c l, v = .slice A l.length c ∧ l.length * B ≤ 140737488351232 ∧ l.length ≤ c ∧ RdA W A l := by
  obtain ⟨a, len, cap, rfl⟩ := okWide_slice hu hv
  obtain ⟨fuel, hf⟩ := h
  rcases Deep.open_slice hu hf with ⟨hcs, _⟩ | ⟨x, l', c, m, n, D, Pl, hcs, _, hl, hm, hmm, hx, hel⟩
  · simp [Value.cells] at hcs
    obtain ⟨rfl, rfl, rfl⟩ := hcs
    exact ⟨none, 0, [], rfl, by simp, by simp, fun i hi => absurd hi (by simp)⟩
  · simp [Value.cells] at hcs
    obtain ⟨rfl, rfl, rfl⟩ := hcs
    obtain ⟨hx, _⟩ := Prod.mk.inj hx
    subst hx
    have z := sized_slice hsz ht hd hu
    rw [hB] at z
    have hmc : m = cap := by simpa using hmm
    have each : ∀ i, i < len → W.cell? (x.add (i * 4)) = some (.int .u8 (natC W (x.add (i * 4)) : Nat)) ∧ W.cell? (x.add (i * 4 + 1)) = some (.int .u16 (natC W (x.add (i * 4 + 1)) : Nat)) ∧ W.cell? (x.add (i * 4 + 2)) = some (.int .u16 (natC W (x.add (i * 4 + 2)) : Nat)) ∧ W.cell? (x.add (i * 4 + 3)) = some (.int .u16 (natC W (x.add (i * 4 + 3)) : Nat)) ∧ natC W (x.add (i * 4)) < 256 ∧ natC W (x.add (i * 4 + 1)) < 65536 ∧ natC W (x.add (i * 4 + 2)) < 65536 := by
      intro i hi
      obtain ⟨cs', g1, g2⟩ := hel i (by omega)
      rw [ce] at g1
      obtain ⟨_, hlen, hcell⟩ := World.cells?_some g1
      obtain ⟨xs, k, hk, hxy, _, hxl, hf⟩ := DataW.trod_struct he g2
      match xs, hxl, cs', hlen with
      | [y0, y1, y2, y3], _, [v0, v1, v2, v3], _ =>
        have g0 := hf 0 f0 rfl
        have g1 := hf 1 f1 rfl
        have g2 := hf 2 f2 rfl
        have g3 := hf 3 f3 rfl
        simp [o0, o1, o2, o3, c0, c1, h2, h3] at g0 g1 g2 g3
        have e0 := hcell 0 (by omega)
        have e1 := hcell 1 (by omega)
        have e2 := hcell 2 (by omega)
        have e3 := hcell 3 (by omega)
        rw [add_of_add] at e0 e1 e2 e3
        simp at e0 e1 e2 e3
        obtain ⟨m0, q0, _, w0⟩ := DataW.trod_int h0 g0
        obtain ⟨m1, q1, _, w1⟩ := DataW.trod_int h1 g1
        obtain ⟨m2, q2, _, w2⟩ := DataW.trod_int h1 g2
        obtain ⟨m3, q3, _, w3⟩ := DataW.trod_int h1 g3
        simp only [List.cons.injEq, and_true] at q0 q1 q2 q3
        subst q0
        subst q1
        subst q2
        subst q3
        have b0 := wf_u8 w0
        have b1 := wf_u16 w1
        have b2 := wf_u16 w2
        have b3 := wf_u16 w3
        have r0 : natC W (x.add (i * 4)) = m0.toNat := by unfold natC; rw [e0]; rfl
        have r1 : natC W (x.add (i * 4 + 1)) = m1.toNat := by unfold natC; rw [e1]; rfl
        have r2 : natC W (x.add (i * 4 + 2)) = m2.toNat := by unfold natC; rw [e2]; rfl
        have r3 : natC W (x.add (i * 4 + 3)) = m3.toNat := by unfold natC; rw [e3]; rfl
        rw [r0, r1, r2, r3, e0, e1, e2, e3]
        refine ⟨by congr 2; omega, by congr 2; omega, by congr 2; omega, by congr 2; omega, by omega, by omega, by omega⟩
    have hlen : ((List.range len).map fun i => (natC W (x.add (i * 4)), natC W (x.add (i * 4 + 1)), natC W (x.add (i * 4 + 2)), natC W (x.add (i * 4 + 3)))).length = len := by simp
    refine ⟨some x, cap, _, by rw [hlen], ?_, by rw [hlen]; exact hl, fun i hi => ?_⟩
    · rw [hlen]
      refine Nat.le_trans (Nat.mul_le_mul_right _ ?_) z
      simp
    · rw [hlen] at hi
      obtain ⟨g0, g1, g2, g3, b0, b1, b2⟩ := each i hi
      have hg : ((List.range len).map fun i => (natC W (x.add (i * 4)), natC W (x.add (i * 4 + 1)), natC W (x.add (i * 4 + 2)), natC W (x.add (i * 4 + 3))))[i]'(by simpa using hi) = (natC W (x.add (i * 4)), natC W (x.add (i * 4 + 1)), natC W (x.add (i * 4 + 2)), natC W (x.add (i * 4 + 3))) := by simp
      rw [hg]
      refine ⟨x, _, rfl, ?_, rfl, g0, by rw [← add_at _ _ _ (by omega)]; exact g1, by rw [← add_at _ _ _ (by omega)]; exact g2, by rw [← add_at _ _ _ (by omega)]; exact g3, b0, b1, b2⟩
      have := World.block_lt_of_cell? W _ g0
      rwa [block_of_add] at this
end
end Go.Proofs.YtbjekoljipjldaaGreatDoor
namespace Go.Proofs.YtbjekoljipjldaaGreatDoor
set_option linter.unusedVariables false
set_option linter.unusedSimpArgs false
open Go.RowKit

theorem Chg.grown_ {w w' : World} {g : Nat} (h : Chg (· = g) w w') : w.grownBy w' (some g) := ⟨h.os, h.tape, h.output, h.size, fun k hk hne => h.block k hk (fun e => hne (by rw [e]))⟩
theorem Keeps.low {w w' : World} {base g : Nat} {x : Value} {k : Int} {p : Nat → Bool} (h : Keeps w base x k p) (hc : Chg (· = g) w w') (hg : g < base) : Keeps w' base x k p := by
  rcases h with ⟨h, A, c, h1, h2, h3⟩ | ⟨h, m, s, d, ws, h1, h2, h3, h4, h5, h6⟩ | ⟨h, A, c, R, h1, h2, h3, h4⟩
  · refine .inl ⟨h, A, c, h1, h2, h3.kept hc.grown_ (.inr fun e => ?_)⟩
    have := (h3.block g e.symm).1
    omega
  · exact .inr (.inl ⟨h, m, s, d, ws, h1, h2, h3, h4, h5.chg hc (by omega) (by omega) (by omega), h6⟩)
  · refine .inr (.inr ⟨h, A, c, R, h1, ?_, h3, h4⟩)
    obtain ⟨h1, h2⟩ := h2
    refine ⟨h1, ?_⟩
    rcases h2 with h2 | ⟨g', cap, cur, e, hgb, hh, hr⟩
    · exact .inl h2
    · exact .inr ⟨g', cap, cur, e, hgb, hc.blk hh (by omega), hr⟩
theorem Box.low {w w' : World} {base g b : Nat} {k : Int} {p : Nat → Bool} (h : Box w base b k p) (hc : Chg (· = g) w w') (hg : g < base) : Box w' base b k p := by
  obtain ⟨x, h1, h2, h3⟩ := h
  exact ⟨x, hc.blk h1 (by omega), h2, h3.low hc hg⟩
theorem range_with (p : Nat → Bool) (v i : Nat) : withV p v i = rangeP p v v true i := by
  rw [rangeP_one]
  unfold withV
  by_cases h : i = v <;> simp [h]
theorem Box.blk {w : World} {base b : Nat} {k : Int} {p : Nat → Bool} (h : Box w base b k p) : ∃ cs, w.heap[b]? = some (.cells cs 70 (0, 0)) := by
  obtain ⟨x, h1, _⟩ := h
  exact ⟨_, h1⟩
theorem SetB.keep {w w' : World} {g B : Nat} {p : Nat → Bool} (h : SetB w g p) (hb : Below B w w') (hg : g < B) : SetB w' g p := by
  obtain ⟨cs, h1, h2⟩ := h
  exact ⟨cs, (hb.block g hg).trans h1, h2⟩
theorem layAdd {base : Nat} (b : Nat) (k : Int) (p : Nat → Bool) (f : Nat) (w : World) (h : Box w base b k p) (hT : Tab64 w) (hbs : base ≤ w.heap.size) (hf : f < 65536) :
    Calls Tryz.prog 31 #[.pointer (some ⟨b, 0, none⟩), .int .u16 (f : Nat)] w fun e w' => ∃ v, e = .returned v ∧ Hid (∃ k', Box w' base b k' (rangeP p f f true)) ∧ Hid (Below base w w') ∧ Hid (KeepX w w') :=
  (boxAdd b k p f w h hT hbs hf).mono fun e w' ⟨r, h1, h2, h3, h4⟩ => ⟨_, h1, by
    obtain ⟨k', h5⟩ := h2.out
    exact ⟨k', h5.congr (fun i _ => range_with p f i)⟩, h3, h4⟩
theorem layDrop {base : Nat} (b : Nat) (k : Int) (p : Nat → Bool) (f t : Nat) (w : World) (h : Box w base b k p) (hT : Tab64 w) (hbs : base ≤ w.heap.size) (hb0 : 0 ≠ b) (hf : f < 65536) (ht : t < 65536) :
    Calls Tryz.prog 33 #[.pointer (some ⟨b, 0, none⟩), .int .u16 (f : Nat)] w fun e w' => ∃ v, e = .returned v ∧ Hid (∃ k', Box w' base b k' (rangeP p f f false)) ∧ Hid (Below base w w') ∧ Hid (KeepX w w') :=
  (boxDrop b k p f w h hT hbs hb0 hf).mono fun e w' ⟨r, h1, h2, h3⟩ => ⟨_, h1, h2, below_row h3.out hbs h.base.1, KeepX.row h3.out h.blk.choose_spec⟩
theorem layFill {base : Nat} (b : Nat) (k : Int) (p : Nat → Bool) (f t : Nat) (w : World) (h : Box w base b k p) (hT : Tab64 w) (hbs : base ≤ w.heap.size) (hb0 : 0 ≠ b) (hf : f < 65536) (ht : t < 65536) :
    Calls Tryz.prog 22 #[.pointer (some ⟨b, 0, none⟩), .int .u16 (f : Nat), .int .u16 (t : Nat)] w fun e w' => ∃ v, e = .returned v ∧ Hid (∃ k', Box w' base b k' (rangeP p f t true)) ∧ Hid (Below base w w') ∧ Hid (KeepX w w') :=
  (boxFill b k p f t w h hT hbs hb0 hf ht).mono fun e w' ⟨r, h1, h2, h3⟩ => ⟨_, h1, h2, below_row h3.out hbs h.base.1, KeepX.row h3.out h.blk.choose_spec⟩
theorem layWipe {base : Nat} (b : Nat) (k : Int) (p : Nat → Bool) (f t : Nat) (w : World) (h : Box w base b k p) (hT : Tab64 w) (hbs : base ≤ w.heap.size) (hb0 : 0 ≠ b) (hf : f < 65536) (ht : t < 65536) :
    Calls Tryz.prog 23 #[.pointer (some ⟨b, 0, none⟩), .int .u16 (f : Nat), .int .u16 (t : Nat)] w fun e w' => ∃ v, e = .returned v ∧ Hid (∃ k', Box w' base b k' (rangeP p f t false)) ∧ Hid (Below base w w') ∧ Hid (KeepX w w') :=
  (boxWipe b k p f t w h hT hbs hb0 hf ht).mono fun e w' ⟨r, h1, h2, h3⟩ => ⟨_, h1, h2, below_row h3.out hbs h.base.1, KeepX.row h3.out h.blk.choose_spec⟩
set_option maxRecDepth 100000 in
set_option maxHeartbeats 2000000 in
theorem layAny (A : Option Addr) (c : Nat) (l : List (Nat × Nat × Nat × Nat)) (long : Bool) (w : World) (hr : RdA w A l) (hT : Tab64 w) (hl : l.length ≤ 140737488351232) :
    Calls Tryz.prog 9 #[.slice A l.length c, .bool long] w fun e w' => ∃ b g k p, e = .returned (.tuple #[.pointer (some ⟨b, 0, none⟩), .slice (some ⟨g, 0, none⟩) 65536 65536]) ∧ Hid (Box w' w.heap.size b k p) ∧ Hid (SetB w' g p) ∧ Below w.heap.size w w' := by
  have HR := Lib.hid hr
  have HT := Lib.hid hT
  clear hr hT
  go_enter Tryz.func9, Tryz.ntmps9
  go_wp2_with fail
  refine (rNew _).mono ?_
  rintro e w1 ⟨g, rfl, hg, HS, hb1⟩
  have HB1 := Lib.hid hb1
  clear hb1
  go_wp2_with fail
  refine (boxNew _).mono ?_
  rintro e w2 ⟨b, rfl, hx2, hb2⟩
  have HX2 := Lib.hid hx2
  have HS2 := Lib.hid (HS.out.below hb2)
  have HB2 := Lib.hid (below_then HB1.out hb2)
  have hgB := HS.out.lt
  have hw1 := HB1.out.size
  have hw2 := hb2.size
  clear hx2 hb2
  generalize w1.heap.size = B at *
  go_wp2
  go_loopw [8, 9, 14] (fun _ _ v14 wr => ∃ (k : Nat) (p : Nat → Bool), k ≤ l.length ∧ v14 = .int .i64 k ∧ k ≤ 8 ∧ B ≤ wr.heap.size ∧ Hid (∃ kd, Box wr B b kd p) ∧ Hid (SetB wr g p) ∧ Hid (Below w.heap.size w wr)) (fun _ _ v14 _ => l.length - (intOf v14).toNat)
  case atStart => exact ⟨0, noneP, Nat.zero_le _, rfl, by omega, hw2, ⟨1, HX2.out⟩, HS2.out, HB2.out⟩
  case round =>
    obtain ⟨k, p, hk, rfl, hk8, hBw, HX, HP, HW⟩ := hrel
    obtain ⟨kd, hx⟩ := HX.out
    have hgb : g < b := by have := hx.base.1; omega
    have hb0 : 0 ≠ b := by omega
    by_cases hlt : k < l.length
    · obtain ⟨ad, a4, rfl, had, e4, c0, c1, c2, c3, b0, b1, b2⟩ := (HR.out.below HW.out) k hlt
      generalize l[k] = x at *
      obtain ⟨d, f, t, st⟩ := x
      simp only [] at c0 c1 c2 c3 b0 b1 b2
      have hbu := (Below.refl wr.heap.size wr).alloc (Nat.le_refl _) (.cells #[.int .u8 (d : Nat), .int .u16 (f : Nat), .int .u16 (t : Nat), .int .u16 (st : Nat)] 53)
      have HX1 := Lib.hid (hx.below hbu)
      have HP1 := Lib.hid (HP.out.below hbu)
      have HW1 := Lib.hid (below_also HW.out hbu (by omega))
      have HT1 := Lib.hid (HT.out.stays HW1.out)
      have HS1 := Lib.hid (blk_new wr #[.int .u8 (d : Nat), .int .u16 (f : Nat), .int .u16 (t : Nat), .int .u16 (st : Nat)] 53)
      have hz1 : B ≤ (wr.alloc (.cells #[.int .u8 (d : Nat), .int .u16 (f : Nat), .int .u16 (t : Nat), .int .u16 (st : Nat)] 53)).heap.size := by simp; omega
      clear hx hbu
      by_cases h8 : (8 : Int) ≤ k
      · cases long
        · go_wp2
          go_ret2
          exact ⟨b, g, kd, p, rfl, HX1.out.mono hw1, HP1.out, HW1.out⟩
        · go_wp2_with fail
          refine (boxOptimise b kd p _ HX1.out HT1.out hz1).mono ?_
          rintro e w3 ⟨r, rfl, HX3, HB3⟩
          have HP3 := Lib.hid (HP1.out.keep HB3.out hgB)
          have HW3 := Lib.hid (HW1.out.trans (HB3.out.mono hw1))
          obtain ⟨kd3, hx3⟩ := HX3.out
          have HX4 := Lib.hid (hx3.mono hw1)
          clear hx3
          go_wp2
          go_ret2
          exact ⟨b, g, kd3, p, rfl, HX4.out, HP3.out, HW3.out⟩
      · have h8' : k + 1 ≤ 8 := by omega
        rcases (show d % 4 = 0 ∨ d % 4 = 1 ∨ d % 4 = 2 ∨ d % 4 = 3 by omega) with hd | hd | hd | hd
        · have e0 : ((d : Int) % 4 == 0) = true := by rw [beq_iff_eq]; omega
          clear hd
          go_wp2_with fail
          refine (layAdd b kd p f _ HX1.out HT1.out hz1 b1).mono ?_
          rintro e w3 ⟨r, rfl, HX3, HB3, HK3⟩
          have qs := HK3.out _ _ _ (by decide) (by decide) (by decide) HS1.out
          have qs1 := blk_cell qs 1 rfl
          have qs2 := blk_cell qs 2 rfl
          have HP3 := Lib.hid (HP1.out.keep HB3.out hgB)
          have HW3 := Lib.hid (HW1.out.trans (HB3.out.mono hw1))
          have hz3 := HB3.out.size
          clear qs
          go_wp2_with fail
          refine (rFill g p f f true _ HP3.out b1 (by assumption)).mono ?_
          rintro e w4 ⟨n, rfl, HP4, HC4⟩
          have HW4 := Lib.hid (HW3.out.trans (HC4.out.below (B := w.heap.size) HW3.out.size (fun q hq h => by omega)))
          have HX4 := Lib.hid (show ∃ k', Box w4 B b k' (rangeP p f f true) from HX3.out.elim fun k' h => ⟨k', h.low HC4.out hgB⟩)
          have hz4 := HC4.out.size
          clear qs1 qs2
          go_wp2
          go_roundw
          case rel => exact ⟨k + 1, rangeP p f f true, by omega, by go_num, by omega, by omega, HX4.out, HP4.out, HW4.out⟩
          case measure => simp [intOf]; omega
        · have e0 : ((d : Int) % 4 == 0) = false := by rw [beq_eq_false_iff_ne]; omega
          have e1 : ((d : Int) % 4 == 1) = true := by rw [beq_iff_eq]; omega
          clear hd
          go_wp2_with fail
          refine (layDrop b kd p f f _ HX1.out HT1.out hz1 hb0 b1 b1).mono ?_
          rintro e w3 ⟨r, rfl, HX3, HB3, HK3⟩
          have qs := HK3.out _ _ _ (by decide) (by decide) (by decide) HS1.out
          have qs1 := blk_cell qs 1 rfl
          have qs2 := blk_cell qs 2 rfl
          have HP3 := Lib.hid (HP1.out.keep HB3.out hgB)
          have HW3 := Lib.hid (HW1.out.trans (HB3.out.mono hw1))
          have hz3 := HB3.out.size
          clear qs
          go_wp2_with fail
          refine (rFill g p f f false _ HP3.out b1 (by assumption)).mono ?_
          rintro e w4 ⟨n, rfl, HP4, HC4⟩
          have HW4 := Lib.hid (HW3.out.trans (HC4.out.below (B := w.heap.size) HW3.out.size (fun q hq h => by omega)))
          have HX4 := Lib.hid (show ∃ k', Box w4 B b k' (rangeP p f f false) from HX3.out.elim fun k' h => ⟨k', h.low HC4.out hgB⟩)
          have hz4 := HC4.out.size
          clear qs1 qs2
          go_wp2
          go_roundw
          case rel => exact ⟨k + 1, rangeP p f f false, by omega, by go_num, by omega, by omega, HX4.out, HP4.out, HW4.out⟩
          case measure => simp [intOf]; omega
        · have e0 : ((d : Int) % 4 == 0) = false := by rw [beq_eq_false_iff_ne]; omega
          have e1 : ((d : Int) % 4 == 1) = false := by rw [beq_eq_false_iff_ne]; omega
          have e2 : ((d : Int) % 4 == 2) = true := by rw [beq_iff_eq]; omega
          clear hd
          go_wp2_with fail
          refine (layFill b kd p f t _ HX1.out HT1.out hz1 hb0 b1 b2).mono ?_
          rintro e w3 ⟨r, rfl, HX3, HB3, HK3⟩
          have qs := HK3.out _ _ _ (by decide) (by decide) (by decide) HS1.out
          have qs1 := blk_cell qs 1 rfl
          have qs2 := blk_cell qs 2 rfl
          have HP3 := Lib.hid (HP1.out.keep HB3.out hgB)
          have HW3 := Lib.hid (HW1.out.trans (HB3.out.mono hw1))
          have hz3 := HB3.out.size
          clear qs
          go_wp2_with fail
          refine (rFill g p f t true _ HP3.out b1 (by assumption)).mono ?_
          rintro e w4 ⟨n, rfl, HP4, HC4⟩
          have HW4 := Lib.hid (HW3.out.trans (HC4.out.below (B := w.heap.size) HW3.out.size (fun q hq h => by omega)))
          have HX4 := Lib.hid (show ∃ k', Box w4 B b k' (rangeP p f t true) from HX3.out.elim fun k' h => ⟨k', h.low HC4.out hgB⟩)
          have hz4 := HC4.out.size
          clear qs1 qs2
          go_wp2
          go_roundw
          case rel => exact ⟨k + 1, rangeP p f t true, by omega, by go_num, by omega, by omega, HX4.out, HP4.out, HW4.out⟩
          case measure => simp [intOf]; omega
        · have e0 : ((d : Int) % 4 == 0) = false := by rw [beq_eq_false_iff_ne]; omega
          have e1 : ((d : Int) % 4 == 1) = false := by rw [beq_eq_false_iff_ne]; omega
          have e2 : ((d : Int) % 4 == 2) = false := by rw [beq_eq_false_iff_ne]; omega
          clear hd
          go_wp2_with fail
          refine (layWipe b kd p f t _ HX1.out HT1.out hz1 hb0 b1 b2).mono ?_
          rintro e w3 ⟨r, rfl, HX3, HB3, HK3⟩
          have qs := HK3.out _ _ _ (by decide) (by decide) (by decide) HS1.out
          have qs1 := blk_cell qs 1 rfl
          have qs2 := blk_cell qs 2 rfl
          have HP3 := Lib.hid (HP1.out.keep HB3.out hgB)
          have HW3 := Lib.hid (HW1.out.trans (HB3.out.mono hw1))
          have hz3 := HB3.out.size
          clear qs
          go_wp2_with fail
          refine (rFill g p f t false _ HP3.out b1 (by assumption)).mono ?_
          rintro e w4 ⟨n, rfl, HP4, HC4⟩
          have HW4 := Lib.hid (HW3.out.trans (HC4.out.below (B := w.heap.size) HW3.out.size (fun q hq h => by omega)))
          have HX4 := Lib.hid (show ∃ k', Box w4 B b k' (rangeP p f t false) from HX3.out.elim fun k' h => ⟨k', h.low HC4.out hgB⟩)
          have hz4 := HC4.out.size
          clear qs1 qs2
          go_wp2
          go_roundw
          case rel => exact ⟨k + 1, rangeP p f t false, by omega, by go_num, by omega, by omega, HX4.out, HP4.out, HW4.out⟩
          case measure => simp [intOf]; omega
    · obtain rfl : k = l.length := by omega
      have HX1 := Lib.hid hx
      have HT1 := Lib.hid (HT.out.stays HW.out)
      clear hx
      cases long
      · go_wp2
        go_ret2
        exact ⟨b, g, kd, p, rfl, HX1.out.mono hw1, HP.out, HW.out⟩
      · go_wp2_with fail
        refine (boxOptimise b kd p _ HX1.out HT1.out hBw).mono ?_
        rintro e w3 ⟨r, rfl, HX3, HB3⟩
        have HP3 := Lib.hid (HP.out.keep HB3.out hgB)
        have HW3 := Lib.hid (HW.out.trans (HB3.out.mono hw1))
        obtain ⟨kd3, hx3⟩ := HX3.out
        have HX4 := Lib.hid (hx3.mono hw1)
        clear hx3
        go_wp2
        go_ret2
        exact ⟨b, g, kd3, p, rfl, HX4.out, HP3.out, HW3.out⟩
end Go.Proofs.YtbjekoljipjldaaGreatDoor
namespace Go.Proofs.YtbjekoljipjldaaGreatDoor
set_option linter.unusedVariables false
set_option linter.unusedSimpArgs false
open Go.RowKit

theorem plainK_congr {p q : Nat → Bool} (h : ∀ i, i < 65536 → p i = q i) : plainK p = plainK q := by unfold plainK; rw [L_congr h]
theorem Box.to {w : World} {base b : Nat} {p q : Nat → Bool} (h : Box w base b (plainK p) p) (hpq : ∀ i, i < 65536 → p i = q i) : Box w base b (plainK q) q := by
  rw [← plainK_congr hpq]
  exact h.congr hpq
theorem Box.v {w : World} {base b : Nat} {k : Int} {p : Nat → Bool} (h : Box w base b k p) : BoxV w 0 (.pointer (some ⟨b, 0, none⟩)) p := .inr ⟨b, k, rfl, h.mono (Nat.zero_le _)⟩
set_option maxRecDepth 100000 in
set_option maxHeartbeats 1000000 in
theorem plainAny {base : Nat} (b g : Nat) (p : Nat → Bool) (w : World) (hX : Box w base b (plainK p) p) (hS : SetB w g p) (hT : Tab64 w) :
    Calls Tryz.prog 11 #[.pointer (some ⟨b, 0, none⟩), .slice (some ⟨g, 0, none⟩) 65536 65536] w fun e w' => e = .returned (.bool true) ∧ Below w.heap.size w w' := by
  have HX := Lib.hid hX
  have HS := Lib.hid hS
  have HT := Lib.hid hT
  have HLE := Lib.hid (L_le p)
  have HPK := Lib.hid (show (4096 < (L p).length → plainK p = 2) ∧ (¬ 4096 < (L p).length → plainK p = 1) from ⟨fun h => if_pos h, fun h => if_neg h⟩)
  clear hX hS hT
  generalize plainK p = kk at *
  go_enter Tryz.func11, Tryz.ntmps11
  go_wp2_with fail
  refine (rLen g p _ HS.out).mono ?_
  rintro e w1 ⟨rfl, hb1⟩
  have HB1 := Lib.hid hb1
  clear hb1
  by_cases h4 : 4096 < (L p).length
  · have h4i : (4096 : Int) < (L p).length := by omega
    obtain rfl : kk = 2 := HPK.out.1 h4
    go_wp2_with fail
    refine (boxKind b _ p _ (HX.out.below HB1.out)).mono ?_
    rintro e w2 ⟨rfl, hb2⟩
    have HB2 := Lib.hid (below_then HB1.out hb2)
    clear hb2
    go_wp2_with fail
    refine (boxLen _ p _ ((HX.out.below HB2.out).v)).mono ?_
    rintro e w3 ⟨rfl, hb3⟩
    have HB3 := Lib.hid (below_then HB2.out hb3)
    clear hb3
    go_wp2_with fail
    refine (boxList _ p _ ((HX.out.below HB3.out).v) (HT.out.stays HB3.out)).mono ?_
    rintro e w4 ⟨A4, c4, rfl, hc4, HO4, hb4⟩
    have HB4 := Lib.hid (below_then HB3.out hb4)
    clear hb4 hc4
    go_wp2_with fail
    refine (rList g p _ (HS.out.below HB4.out)).mono ?_
    rintro e w5 ⟨A5, c5, rfl, HR5, hb5⟩
    have HB5 := Lib.hid (below_then HB4.out hb5)
    have HR4 := Lib.hid (HO4.out.rd.below hb5)
    clear hb5
    go_wp2_with fail
    refine (rSame A4 A5 c4 c5 (L p) _ HR4.out HR5.out HLE.out).mono ?_
    rintro e w6 ⟨rfl, hb6⟩
    have HB6 := Lib.hid (below_then HB5.out hb6)
    clear hb6
    go_wp2
    go_ret
    exact ⟨rfl, HB6.out⟩
  · have h4i : ¬ (4096 : Int) < (L p).length := by omega
    obtain rfl : kk = 1 := HPK.out.2 h4
    go_wp2_with fail
    refine (boxKind b _ p _ (HX.out.below HB1.out)).mono ?_
    rintro e w2 ⟨rfl, hb2⟩
    have HB2 := Lib.hid (below_then HB1.out hb2)
    clear hb2
    go_wp2_with fail
    refine (boxLen _ p _ ((HX.out.below HB2.out).v)).mono ?_
    rintro e w3 ⟨rfl, hb3⟩
    have HB3 := Lib.hid (below_then HB2.out hb3)
    clear hb3
    go_wp2_with fail
    refine (boxList _ p _ ((HX.out.below HB3.out).v) (HT.out.stays HB3.out)).mono ?_
    rintro e w4 ⟨A4, c4, rfl, hc4, HO4, hb4⟩
    have HB4 := Lib.hid (below_then HB3.out hb4)
    clear hb4 hc4
    go_wp2_with fail
    refine (rList g p _ (HS.out.below HB4.out)).mono ?_
    rintro e w5 ⟨A5, c5, rfl, HR5, hb5⟩
    have HB5 := Lib.hid (below_then HB4.out hb5)
    have HR4 := Lib.hid (HO4.out.rd.below hb5)
    clear hb5
    go_wp2_with fail
    refine (rSame A4 A5 c4 c5 (L p) _ HR4.out HR5.out HLE.out).mono ?_
    rintro e w6 ⟨rfl, hb6⟩
    have HB6 := Lib.hid (below_then HB5.out hb6)
    clear hb6
    go_wp2
    go_ret
    exact ⟨rfl, HB6.out⟩
theorem boxOfL (A : Option Addr) (c : Nat) (l : List Int) (p : Nat → Bool) (w : World) (hl : l = L p) (hr : Rd .u16 w A l) (hT : Tab64 w) :
    Calls Tryz.prog 28 #[.slice A l.length c] w fun e w' => ∃ b, e = .returned (.pointer (some ⟨b, 0, none⟩)) ∧ Hid (Box w' w.heap.size b (plainK p) p) ∧ Below w.heap.size w w' := by
  subst hl
  exact boxOf A c p w hr hT
def p25 : Nat → Bool := fun i => decide (i = 2) || decide (i = 5)
def p5 : Nat → Bool := fun i => decide (i = 5)
theorem L_p25 : [(2 : Int), 5] = L p25 := L_unique (by simp) fun x => by
  simp only [List.mem_cons, List.not_mem_nil, or_false]
  constructor
  · rintro (rfl | rfl)
    · exact ⟨2, rfl, by omega, rfl⟩
    · exact ⟨5, rfl, by omega, rfl⟩
  · rintro ⟨i, rfl, _, h⟩
    unfold p25 at h
    simp at h
    omega
theorem L_p5 : [(5 : Int)] = L p5 := L_unique (by simp) fun x => by
  simp only [List.mem_cons, List.not_mem_nil, or_false]
  constructor
  · rintro rfl
    exact ⟨5, rfl, by omega, rfl⟩
  · rintro ⟨i, rfl, _, h⟩
    unfold p5 at h
    simp at h
    omega
theorem L_both25 : (L (bothP p25 p5)).length = 1 := by
  rw [show L (bothP p25 p5) = L p5 from L_congr fun i _ => by unfold bothP p25 p5; by_cases h : i = 5 <;> simp [h], ← L_p5]
  rfl
theorem rd_two (w : World) (x y : Int) : Rd .u16 (w.alloc (.cells #[.int .u16 x, .int .u16 y] 43)) (some ⟨w.heap.size, 0, none⟩) [x, y] := fun i hi => by
  rcases i with _ | _ | i
  · exact ⟨_, rfl, by simp, by rw [add_mk]; exact blk_cell (blk_new w _ _) 0 rfl⟩
  · exact ⟨_, rfl, by simp, by rw [add_mk]; exact blk_cell (blk_new w _ _) 1 rfl⟩
  · exact absurd hi (by simp)
theorem rd_one (w : World) (x : Int) : Rd .u16 (w.alloc (.cells #[.int .u16 x] 43)) (some ⟨w.heap.size, 0, none⟩) [x] := fun i hi => by
  rcases i with _ | i
  · exact ⟨_, rfl, by simp, by rw [add_mk]; exact blk_cell (blk_new w _ _) 0 rfl⟩
  · exact absurd hi (by simp)
set_option maxRecDepth 100000 in
set_option maxHeartbeats 1000000 in
theorem awake10 (w : World) (hT : Tab64 w) :
    Calls Tryz.prog 7 #[] w fun e w' => e = .returned (.bool true) ∧ Below w.heap.size w w' := by
  have HT := Lib.hid hT
  clear hT
  go_enter Tryz.func7, Tryz.ntmps7
  go_wp2_with fail
  have HBA := Lib.hid ((Below.refl w.heap.size w).alloc (Nat.le_refl _) (.cells #[.int .u16 2, .int .u16 5] 43))
  refine (boxOfL (some ⟨w.heap.size, 0, none⟩) 2 [2, 5] p25 _ L_p25 (rd_two w 2 5) (HT.out.stays HBA.out)).mono ?_
  rintro e w1 ⟨a, rfl, HA, hb1⟩
  have HB1 := Lib.hid (below_then HBA.out hb1)
  clear hb1
  go_wp2_with fail
  have HBA2 := Lib.hid ((Below.refl w1.heap.size w1).alloc (Nat.le_refl _) (.cells #[.int .u16 5] 43))
  refine (boxOfL (some ⟨w1.heap.size, 0, none⟩) 1 [5] p5 _ L_p5 (rd_one w1 5) (HT.out.stays (below_then HB1.out HBA2.out))).mono ?_
  rintro e w2 ⟨b, rfl, HB, hb2⟩
  have HB2 := Lib.hid (below_then HB1.out (below_then HBA2.out hb2))
  have HA2 := Lib.hid (HA.out.below (below_then HBA2.out hb2))
  clear hb2
  go_wp2_with fail
  refine (joinLess _ _ p25 p5 _ HA2.out.v HB.out.v (HT.out.stays HB2.out)).mono ?_
  rintro e w3 ⟨x, rfl, HX, hb3⟩
  have HB3 := Lib.hid (below_then HB2.out hb3)
  have HA3 := Lib.hid (HA2.out.below hb3)
  have HBB3 := Lib.hid (HB.out.below hb3)
  clear hb3
  go_wp2_with fail
  refine (boxHas (base := 0) _ _ 2 _ HX.out.v (by omega)).mono ?_
  rintro e w4 ⟨rfl, hb4⟩
  rw [show joinP true false false p25 p5 2 = true from rfl]
  have HB4 := Lib.hid (below_then HB3.out hb4)
  have HA4 := Lib.hid (HA3.out.below hb4)
  have HBB4 := Lib.hid (HBB3.out.below hb4)
  clear hb4
  go_wp2_with fail
  refine (joinBoth _ _ p25 p5 _ HA4.out.v HBB4.out.v (HT.out.stays HB4.out)).mono ?_
  rw [L_both25]
  rintro e w5 ⟨rfl, hb5⟩
  have HB5 := Lib.hid (below_then HB4.out hb5)
  clear hb5
  go_wp2
  go_ret
  exact ⟨rfl, HB5.out⟩
/-- joins of two, as the laws ask for them -/
theorem or2 (oa ob : Option Addr) (p q : Nat → Bool) (w : World) (ha : BoxV w 0 (.pointer oa) p) (hb : BoxV w 0 (.pointer ob) q) (hT : Tab64 w) :
    Calls Tryz.prog 12 #[.slice (some ⟨w.heap.size, 0, none⟩) 2 2] (w.alloc (.cells #[.pointer oa, .pointer ob] 29)) fun e w' => ∃ x, e = .returned (.pointer (some ⟨x, 0, none⟩)) ∧ Hid (Box w' w.heap.size x (plainK (fun i => p i || q i)) (fun i => p i || q i)) ∧ Below w.heap.size w w' := by
  have hba : Below w.heap.size w (w.alloc (.cells #[.pointer oa, .pointer ob] 29)) := (Below.refl w.heap.size w).alloc (Nat.le_refl _) _
  refine (joinOr (some ⟨w.heap.size, 0, none⟩) 2 [⟨.pointer oa, p⟩, ⟨.pointer ob, q⟩] _ (rdX_two ha hb) (hT.stays hba) (by simp)).mono ?_
  rintro e w1 ⟨x, h1, h2, h3⟩
  exact ⟨x, h1, (h2.out.mono hba.size).to (fun i _ => by simp [psX, orP]), below_then hba h3⟩
theorem and2 (oa ob : Option Addr) (p q : Nat → Bool) (w : World) (ha : BoxV w 0 (.pointer oa) p) (hb : BoxV w 0 (.pointer ob) q) (hT : Tab64 w) :
    Calls Tryz.prog 13 #[.slice (some ⟨w.heap.size, 0, none⟩) 2 2] (w.alloc (.cells #[.pointer oa, .pointer ob] 29)) fun e w' => ∃ x, e = .returned (.pointer (some ⟨x, 0, none⟩)) ∧ Hid (Box w' w.heap.size x (plainK (fun i => p i && q i)) (fun i => p i && q i)) ∧ Below w.heap.size w w' := by
  have hba : Below w.heap.size w (w.alloc (.cells #[.pointer oa, .pointer ob] 29)) := (Below.refl w.heap.size w).alloc (Nat.le_refl _) _
  refine (joinAnd (some ⟨w.heap.size, 0, none⟩) 2 [⟨.pointer oa, p⟩, ⟨.pointer ob, q⟩] _ (rdX_two ha hb) (hT.stays hba) (by simp)).mono ?_
  rintro e w1 ⟨x, h1, h2, h3⟩
  exact ⟨x, h1, (h2.out.mono hba.size).to (fun i _ => by simp [psX, andP]), below_then hba h3⟩
theorem less2 (oa ob : Option Addr) (p q : Nat → Bool) (w : World) (ha : BoxV w 0 (.pointer oa) p) (hb : BoxV w 0 (.pointer ob) q) (hT : Tab64 w) :
    Calls Tryz.prog 20 #[.pointer oa, .pointer ob] w fun e w' => ∃ x, e = .returned (.pointer (some ⟨x, 0, none⟩)) ∧ Hid (Box w' w.heap.size x (plainK (fun i => p i && !q i)) (fun i => p i && !q i)) ∧ Below w.heap.size w w' :=
  (joinLess _ _ p q w ha hb hT).mono fun e w1 ⟨x, h1, h2, h3⟩ => ⟨x, h1, h2.out.to (fun i _ => by unfold joinP; cases p i <;> cases q i <;> rfl), h3⟩
theorem xor2 (oa ob : Option Addr) (p q : Nat → Bool) (w : World) (ha : BoxV w 0 (.pointer oa) p) (hb : BoxV w 0 (.pointer ob) q) (hT : Tab64 w) :
    Calls Tryz.prog 21 #[.pointer oa, .pointer ob] w fun e w' => ∃ x, e = .returned (.pointer (some ⟨x, 0, none⟩)) ∧ Hid (Box w' w.heap.size x (plainK (fun i => p i != q i)) (fun i => p i != q i)) ∧ Below w.heap.size w w' :=
  (joinXor _ _ p q w ha hb hT).mono fun e w1 ⟨x, h1, h2, h3⟩ => ⟨x, h1, h2.out.to (fun i _ => by unfold joinP; cases p i <;> cases q i <;> rfl), h3⟩
end Go.Proofs.YtbjekoljipjldaaGreatDoor
