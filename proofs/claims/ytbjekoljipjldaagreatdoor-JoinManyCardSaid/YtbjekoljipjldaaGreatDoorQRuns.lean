/-
  Slices of runs: one that reads as a list (RdN), one of the call's own (OwnN), append of one; a store into the last one.
  Plain laws of runs (no program): what runs.Of makes of a rising list, and what is in it; of sets of numbers below 65536 and their rising lists.
  runs.Of of a rising list, walked.
  runs: count, Len, List, at, Has, Next, walked.
  runs: at, Has, Next, walked.
  Plain laws (no program): the rising list of a set against looking up, the next one, one more, words, and merging.
  box's ways to keep numbers (few, many, long), walked.
-/
import Derived.Test.YtbjekoljipjldaaGreatDoorQWalks
import Derived.Test.YtbjekoljipjldaaGreatDoorQLists
namespace Go.Proofs.YtbjekoljipjldaaGreatDoor
set_option linter.unusedVariables false
set_option linter.unusedSimpArgs false
open Go.RowKit

/-- a slice of pairs that reads so -/
def RdN (w : World) (A : Option Addr) (l : List (Nat × Nat)) : Prop := ∀ i : Nat, i < l.length → ∃ ad, A = some ad ∧ ad.block < w.heap.size ∧ w.cell? (ad.add (i * 2)) = some (.int .u16 (l.getD i (0, 0)).1) ∧ w.cell? (ad.add (i * 2 + 1)) = some (.int .u16 (l.getD i (0, 0)).2)
theorem RdN.below {w w' : World} {A : Option Addr} {l : List (Nat × Nat)} (h : RdN w A l) (hb : Below w.heap.size w w') : RdN w' A l := fun i hi => by
  obtain ⟨ad, e, h1, h2, h3⟩ := h i hi
  exact ⟨ad, e, by have := hb.size; omega, (hb.cell (p := ad.add (i * 2)) (by rw [block_of_add]; exact h1)).trans h2, (hb.cell (p := ad.add (i * 2 + 1)) (by rw [block_of_add]; exact h1)).trans h3⟩
theorem RdN.nil (w : World) (A : Option Addr) : RdN w A [] := fun i hi => absurd hi (by simp)
theorem RdN.take {w : World} {A : Option Addr} {l : List (Nat × Nat)} (h : RdN w A l) (m : Nat) : RdN w A (l.take m) := fun i hi => by
  simp only [List.length_take] at hi
  obtain ⟨ad, e, h1, h2, h3⟩ := h i (by omega)
  have : (l.take m).getD i (0, 0) = l.getD i (0, 0) := by simp [List.getD_eq_getElem?_getD, List.getElem?_take, show i < m by omega]
  exact ⟨ad, e, h1, by rw [this]; exact h2, by rw [this]; exact h3⟩
/-- the cells of pairs -/
def cellsN : List (Nat × Nat) → List Value
  | [] => []
  | x :: l => .int .u16 x.1 :: .int .u16 x.2 :: cellsN l
theorem cellsN_len (l : List (Nat × Nat)) : (cellsN l).length = l.length * 2 := by
  induction l with
  | nil => rfl
  | cons x l ih => simp only [cellsN, List.length_cons, ih]; omega
theorem cellsN_app (l m : List (Nat × Nat)) : cellsN (l ++ m) = cellsN l ++ cellsN m := by
  induction l with
  | nil => rfl
  | cons x l ih => simp [cellsN, ih]
theorem cellsN_at (l : List (Nat × Nat)) : ∀ i : Nat, i < l.length → (cellsN l)[i * 2]? = some (.int .u16 (l.getD i (0, 0)).1) ∧ (cellsN l)[i * 2 + 1]? = some (.int .u16 (l.getD i (0, 0)).2) := by
  induction l with
  | nil => intro i hi; simp at hi
  | cons x l ih =>
    intro i hi
    rcases i with _ | i
    · exact ⟨rfl, rfl⟩
    · have := ih i (by simpa using hi)
      rw [show (i + 1) * 2 = i * 2 + 1 + 1 by omega, show i * 2 + 1 + 1 + 1 = (i * 2 + 1) + 1 + 1 by omega]
      simpa [cellsN] using this
/-- a slice of pairs of the call's own (from block 'base' on) -/
def OwnN (w : World) (base : Nat) (v : Value) (l : List (Nat × Nat)) : Prop := w.ownsRow base 108 2 v l.length (cellsN l)
theorem OwnN.form {w : World} {base : Nat} {v : Value} {l : List (Nat × Nat)} (h : OwnN w base v l) : ∃ A c, v = .slice A l.length c ∧ l.length ≤ c ∧ c ≤ maxLen ∧ RdN w A l := by
  rcases h.2 with ⟨rfl, hn⟩ | ⟨g, cap, cur, rfl, hg, hh, hnc, hcap, hsz, htk⟩
  · refine ⟨none, 0, by rw [hn], by omega, by simp [maxLen], fun i hi => by omega⟩
  · refine ⟨some ⟨g, 0, none⟩, cap, rfl, hnc, hcap, fun i hi => ⟨_, rfl, ?_, ?_, ?_⟩⟩
    · rcases Nat.lt_or_ge g w.heap.size with h1 | h1
      · exact h1
      · rw [Array.getElem?_eq_none h1] at hh; cases hh
    · rw [add_mk, cell_of_row w g _ cur _ (0, 0) hh]
      have h1 := (cellsN_at l i hi).1
      rw [← htk, List.getElem?_take, if_pos (by omega)] at h1
      simpa using h1
    · rw [add_mk, cell_of_row w g _ cur _ (0, 0) hh]
      have h1 := (cellsN_at l i hi).2
      rw [← htk, List.getElem?_take, if_pos (by omega)] at h1
      simpa using h1
theorem OwnN.nil (w : World) (base : Nat) : OwnN w base (.slice none 0 0) [] := ⟨rfl, .inl ⟨rfl, rfl⟩⟩
theorem OwnN.block {w : World} {base : Nat} {v : Value} {l : List (Nat × Nat)} (h : OwnN w base v l) : ∀ g, v.ownBlock = some g → base ≤ g ∧ g < w.heap.size := by
  rcases h.2 with ⟨rfl, hn⟩ | ⟨g, cap, cur, rfl, hg, hh, hnc, hcap, hsz, htk⟩
  · intro g hg; simp [Value.ownBlock] at hg
  · intro g' hg'
    simp [Value.ownBlock] at hg'
    subst hg'
    exact ⟨hg, blk_lt hh⟩
/-- goes on behind what touches no block of pairs -/
theorem OwnN.kept {w w' : World} {base : Nat} {v : Value} {l : List (Nat × Nat)} {row : Option Nat} (h : OwnN w base v l) (hg : w.grownBy w' row) (hne : ∀ g, row = some g → ∀ cs, w.heap[g]? ≠ some (.cells cs 108 (0, 0))) : OwnN w' base v l := by
  obtain ⟨h1, h2⟩ := h
  refine ⟨h1, ?_⟩
  rcases h2 with h2 | ⟨g, cap, cur, rfl, hgb, hh, hr⟩
  · exact .inl h2
  · refine .inr ⟨g, cap, cur, rfl, hgb, ?_, hr⟩
    rw [hg.block g (blk_lt hh) (fun e => hne g e.symm cur hh)]
    exact hh
theorem OwnN.below {w w' : World} {base : Nat} {v : Value} {l : List (Nat × Nat)} (h : OwnN w base v l) (hb : Below w.heap.size w w') : OwnN w' base v l :=
  h.kept (row := none) ⟨hb.os, hb.tape, hb.output, hb.size, fun i hi _ => hb.block i hi⟩ (fun g hg => by cases hg)
/-- a block of another type is no row of pairs that is appended to -/
theorem grown_blockN {w w' : World} {base : Nat} {v : Value} {l : List (Nat × Nat)} (ho : OwnN w base v l) (hg : w.grownBy w' v.ownBlock) {b : Nat} {cs : Array Value} {t : TypeId} (hh : w.heap[b]? = some (.cells cs t (0, 0))) (hne : 108 ≠ t) :
    w'.heap[b]? = some (.cells cs t (0, 0)) := by
  rw [hg.block b (blk_lt hh) ?_, hh]
  intro hb
  rcases ho.2 with ⟨rfl, hn⟩ | ⟨g, cap, cur, rfl, hg', hh', _⟩
  · simp [Value.ownBlock] at hb
  · simp [Value.ownBlock] at hb
    subst hb
    rw [hh] at hh'
    cases hh'
    exact hne rfl
/-- a store into a block that isn't the row's -/
theorem OwnN.set {w : World} {base : Nat} {v : Value} {l : List (Nat × Nat)} (h : OwnN w base v l) (b i : Nat) (u : Value) (hne : v.ownBlock ≠ some b) : OwnN (w.setCell ⟨b, i, none⟩ u) base v l := by
  obtain ⟨h1, h2⟩ := h
  refine ⟨h1, ?_⟩
  rcases h2 with h2 | ⟨g, cap, cur, rfl, hgb, hh, hr⟩
  · exact .inl h2
  · refine .inr ⟨g, cap, cur, rfl, hgb, ?_, hr⟩
    rw [Below.heap_setCell w ⟨b, i, none⟩ u g (by rintro rfl; exact hne rfl)]
    exact hh
theorem OwnN.not_new {w : World} {base : Nat} {v : Value} {l : List (Nat × Nat)} (h : OwnN w base v l) (b : Nat) (hb : w.heap.size ≤ b) : v.ownBlock ≠ some b := fun e => by
  have := (h.block b e).2
  omega
theorem OwnN.alloc {w : World} {base : Nat} {v : Value} {l : List (Nat × Nat)} (h : OwnN w base v l) (o : Obj) : OwnN (w.alloc o) base v l :=
  h.below ((Below.refl _ _).alloc (Nat.le_refl _) o)
theorem OwnN.lt {w : World} {base : Nat} {v : Value} {l : List (Nat × Nat)} (h : OwnN w base v l) {b : Nat} {cs : Array Value} {t : TypeId} (hh : w.heap[b]? = some (.cells cs t (0, 0))) (ht : 108 ≠ t) : v.ownBlock ≠ some b := fun e => by
  rcases h.2 with ⟨rfl, hn⟩ | ⟨g, cap, cur, rfl, hg', hh', _⟩
  · simp [Value.ownBlock] at e
  · simp [Value.ownBlock] at e
    subst e
    rw [hh] at hh'
    cases hh'
    exact ht rfl
theorem pair_addr (ad : Addr) (k : Nat) : ad.add (k + 1) = ⟨(ad.add k).block, (ad.add k).off + 1, none⟩ := by
  rw [← add_of_add]
  generalize ad.add k = a
  simp [Addr.add]
/-- a row of integers that is appended to is no row of pairs, nor the other way round -/
theorem OwnN.push_far {w w' : World} {base base2 : Nat} {v v2 : Value} {l : List (Nat × Nat)} {k : IntKind} {e : TypeId} {l2 : List Int} (ho : OwnN w base v l) (hn : Own k e w base2 v2 l2) (hg : w.grownBy w' v2.ownBlock) (hne : e ≠ 108) : OwnN w' base v l :=
  ho.kept hg (fun g hg' cs hh => by
    rcases hn.2 with ⟨rfl, _⟩ | ⟨g', cap, cur, rfl, _, hh', _⟩
    · simp [Value.ownBlock] at hg'
    · simp [Value.ownBlock] at hg'
      subst hg'
      rw [hh] at hh'
      cases hh'
      exact hne rfl)
theorem Own.push_farN {w w' : World} {base base2 : Nat} {v v2 : Value} {l : List (Nat × Nat)} {k : IntKind} {e : TypeId} {l2 : List Int} (hn : Own k e w base v l2) (ho : OwnN w base2 v2 l) (hg : w.grownBy w' v2.ownBlock) (hne : 108 ≠ e) : Own k e w' base v l2 := by
  obtain ⟨h1, h2⟩ := hn
  refine ⟨h1, ?_⟩
  rcases h2 with h2 | ⟨g, cap, cur, rfl, hgb, hh, hr⟩
  · exact .inl h2
  · exact .inr ⟨g, cap, cur, rfl, hgb, grown_blockN ho hg hh hne, hr⟩
theorem run_info : (Tryz.prog.info? 108).map (fun i => (i.zero, i.size, i.bytes)) = some (some (.agg #[.int .u16 0, .int .u16 0]), 2, 4) := by kernel_rfl

section
variable {P : Program} {ops : Array Oper} {rest : List Oper} {o : Oper} {a : Act} {Q : Exit → Act → World → Prop} {w : World}
/-- append of one pair to a slice of the call's own -/
theorem wpList_pushN {t : TypeId} {i : TypeInfo} {z : Value} (base : Nat) (v : Value) (l : List (Nat × Nat)) (x : Nat × Nat) (s y : Operand) (B : Nat)
    (hgd : o.guard = none) (ho : o.op = .call { callee := .builtin .append, args := #[s, y], argTypes := #[t, t] })
    (ht : P.underlying t = some (.slice 108)) (hi : P.info? 108 = some i) (hz : i.zero = some z) (hs1 : i.size = 2) (hby : i.bytes = 4) (hzs : z.cells.size = 2)
    (hs : a.eval s = v) (hy : a.eval y = .slice (some ⟨B, 0, none⟩) 1 1) (hB : w.heap[B]? = some (.cells #[.int .u16 x.1, .int .u16 x.2] 108 (0, 0)))
    (hown : OwnN w base v l) (hbase : base ≤ w.heap.size) (hbytes : (l.length + 1) * 4 ≤ 140737488355328) (hlen : l.length + 1 ≤ maxLen)
    (h : ∀ v' w', OwnN w' base v' (l ++ [x]) → w.grownBy w' v.ownBlock → (v'.ownBlock = v.ownBlock ∨ v'.ownBlock = some w.heap.size) → wpList P ops Q rest (a.put o.dst v') w') : wpList P ops Q (o :: rest) a w := by
  refine wpList_append_own_at w hgd s y t ho base 108 i z 2 4 ht hi hz hs1 hby hzs (by omega) v l.length _ hs hown ⟨B, 0, none⟩ 1 1 [.int .u16 x.1, .int .u16 x.2] hy rfl ?_ ?_ hlen hbytes hbase ?_
  · intro j u hu
    rw [add_mk, cell_of_row w B j _ _ (0, 0) hB]
    rw [← hu]
    rcases j with _ | _ | j <;> rfl
  · intro u hu
    simp at hu
    rcases hu with rfl | rfl <;> rfl
  · intro v' w' h1 h2 _ h4
    refine h v' w' ?_ h2 h4
    unfold OwnN
    rw [cellsN_app, List.length_append]
    exact h1
end
theorem OwnN.last {w : World} {base g n c : Nat} {S : List (Nat × Nat)} {a b : Nat} (h : OwnN w base (.slice (some ⟨g, 0, none⟩) n c) (S ++ [(a, b)])) :
    w.cell? ⟨g, S.length * 2, none⟩ = some (.int .u16 a) ∧ w.cell? ⟨g, S.length * 2 + 1, none⟩ = some (.int .u16 b) ∧ w.frozen? ⟨g, S.length * 2 + 1, none⟩ = false ∧ ∀ x : Nat, OwnN (w.setCell ⟨g, S.length * 2 + 1, none⟩ (.int .u16 x)) base (.slice (some ⟨g, 0, none⟩) n c) (S ++ [(a, x)]) := by
  obtain ⟨A, c', e1, _, _, hr⟩ := h.form
  injection e1 with e1 e2 e3
  subst e1
  obtain ⟨ad, e4, _, c0, c1⟩ := hr S.length (by simp)
  injection e4 with e4
  subst e4
  have hg : (S ++ [(a, b)]).getD S.length (0, 0) = (a, b) := by simp [List.getD_eq_getElem?_getD]
  rw [hg, add_mk] at c0 c1
  refine ⟨c0, c1, ?_, fun x => ?_⟩
  · rcases h.2 with ⟨h2, _⟩ | ⟨g', cap, cur, e1, hg, hh, _⟩
    · cases h2
    · injection e1 with e1
      injection e1 with e1
      injection e1 with e1
      subst e1
      exact blk_free hh _
  · obtain ⟨h1, h2⟩ := h
    refine ⟨by simp [cellsN_len], ?_⟩
    rcases h2 with ⟨h2, _⟩ | ⟨g', cap, cur, e1, hg, hh, hnc, hcap, hsz, htk⟩
    · cases h2
    · simp only [Value.slice.injEq, Option.some.injEq, Addr.mk.injEq, and_true, true_and] at e1
      obtain ⟨rfl, rfl, rfl⟩ := e1
      refine .inr ⟨g, c, cur.setIfInBounds (S.length * 2 + 1) (.int .u16 x), by simp, hg, blk_set hh _ _, by simpa using hnc, hcap, by rw [Array.size_setIfInBounds]; exact hsz, ?_⟩
      rw [Array.toList_setIfInBounds, List.take_set]
      have e5 : (S ++ [(a, x)]).length = (S ++ [(a, b)]).length := by simp
      rw [e5, htk, cellsN_app, cellsN_app, List.set_append, cellsN_len, if_neg (by omega), show S.length * 2 + 1 - S.length * 2 = 1 by omega]
      rfl
/-- runs.add -/
def addRun (R : List (Nat × Nat)) (f t : Nat) : List (Nat × Nat) := match R.getLast? with
  | none => R ++ [(f, t)]
  | some r => if f ≤ r.2 + 1 then R.dropLast ++ [(r.1, max r.2 t)] else R ++ [(f, t)]
theorem addRun_nil (f t : Nat) : addRun [] f t = [(f, t)] := rfl
theorem addRun_snoc (S : List (Nat × Nat)) (a b f t : Nat) : addRun (S ++ [(a, b)]) f t = if f ≤ b + 1 then S ++ [(a, max b t)] else S ++ [(a, b)] ++ [(f, t)] := by
  unfold addRun
  simp
set_option maxRecDepth 100000 in
set_option maxHeartbeats 2000000 in
theorem runAdd_new (base : Nat) (A : Option Addr) (n c : Nat) (R : List (Nat × Nat)) (f t : Nat) (w : World) (ho : OwnN w base (.slice A n c) R) (hn : R.length = n) (hb : base ≤ w.heap.size) (hl : R.length ≤ 100000)
    (h : R = [] ∨ ∃ S a b, R = S ++ [(a, b)] ∧ b + 1 < f ∧ b < 65536) (hf : f < 65536) : Calls Tryz.prog 80 #[.slice A n c, .agg #[.int .u16 f, .int .u16 t]] w fun e w' => ∃ v', e = .returned v' ∧ OwnN w' base v' (R ++ [(f, t)]) ∧ Below base w w' := by
  obtain ⟨i0, hi, hz0, hz1, hz2⟩ := info_parts run_info
  have HO := Lib.hid ho
  clear ho
  go_enter Tryz.func80, Tryz.ntmps80
  rcases h with rfl | ⟨S, a, b, rfl, hbf, hbb⟩
  · obtain rfl : n = 0 := by simpa using hn.symm
    go_wp2
    go_quiet (fail)
    go_wp2_with (at_builtin; refine wpList_pushN base _ [] (f, t) _ _ _ rfl rfl Tryz.underlying84 hi hz0 hz1 hz2 rfl rfl rfl (alloc_at (by simp)) (HO.out.below ((below_drewN ((Below.refl _ _).alloc (Nat.le_refl _) _) _).alloc (by simp) _)) (by first | omega | (simp; omega)) (by first | omega | (simp; done) | (simp; omega)) (by unfold maxLen; first | omega | (simp; done) | (simp; omega)) ?_; intro v1 w1 ho1 hg1 _)
    go_wp2
    go_ret
    exact ⟨v1, rfl, ho1, (((below_drewN ((Below.refl _ _).alloc hb _) _).alloc (by simp; omega) _)).grown hg1 (by simp; omega) (fun g hgk => (HO.out.block g hgk).1)⟩
  · have hnS : n = S.length + 1 := by rw [← hn]; simp
    obtain ⟨A', c', e1, hc', _, hr⟩ := HO.out.form
    obtain ⟨ad, e4, hadb, c0, c1⟩ := hr S.length (by simp)
    injection e1 with e1 e2 e3
    subst e1
    subst e4
    have hg : (S ++ [(a, b)]).getD S.length (0, 0) = (a, b) := by simp [List.getD_eq_getElem?_getD]
    rw [hg] at c0 c1
    rw [pair_addr] at c1
    simp only at c1
    have c1 := ((((Below.refl _ w).alloc (Nat.le_refl _) (.cells #[.int .u16 f, .int .u16 t] 108)).cell (p := ⟨(ad.add (S.length * 2)).block, (ad.add (S.length * 2)).off + 1, none⟩) (by rw [block_of_add]; exact hadb))).trans c1
    have hl' : S.length + 1 ≤ 100000 := by simpa using hl
    have hm3 : (n : Int) - 1 = (S.length : Nat) := by omega
    have hm4 : ((0 : Int) < (n : Int)) := by omega
    have hm7 : 0 < n := by omega
    have hm8 : decide ((0 : Int) < (n : Int)) = true := decide_eq_true hm4
    have hm5 : S.length < n := by omega
    have hm6 : (S.length : Int) < n := by omega
    have hd : ¬ ((f : Int) ≤ (b : Int) + 1) := by omega
    have hd2 : decide ((f : Int) ≤ (b : Int) + 1) = false := decide_eq_false hd
    have HL := Lib.hid hl'
    have hmb : S.length ≤ 100000 := by omega
    have hf' : (f : Int) < 65536 := by omega
    have HN := Lib.hid hnS
    clear hl hl' hnS hn hr e2 e3 hg c0
    generalize hSR : S ++ [(a, b)] = R at *
    have hRl : R.length ≤ 100000 := by rw [← hSR]; simpa using HL.out
    generalize S.length = m at *
    go_wp2
    go_quiet (fail)
    go_wp2_with (at_builtin; refine wpList_pushN base _ R (f, t) _ _ _ rfl rfl Tryz.underlying84 hi hz0 hz1 hz2 rfl rfl rfl (alloc_at (by simp)) (HO.out.below ((below_drewN ((Below.refl _ _).alloc (Nat.le_refl _) _) _).alloc (by simp) _)) (by first | omega | (simp; omega)) (by first | omega | (simp; done) | (simp; omega)) (by unfold maxLen; first | omega | (simp; done) | (simp; omega)) ?_; intro v1 w1 ho1 hg1 _)
    go_wp2
    go_ret
    exact ⟨v1, rfl, ho1, (((below_drewN ((Below.refl _ _).alloc hb _) _).alloc (by simp; omega) _)).grown hg1 (by simp; omega) (fun g hgk => (HO.out.block g hgk).1)⟩
set_option maxRecDepth 100000 in
set_option maxHeartbeats 2000000 in
theorem runAdd_ext (base g n c : Nat) (S : List (Nat × Nat)) (a b f t : Nat) (w : World) (ho : OwnN w base (.slice (some ⟨g, 0, none⟩) n c) (S ++ [(a, b)])) (hn : (S ++ [(a, b)]).length = n) (hb : base ≤ w.heap.size) (hl : S.length ≤ 100000)
    (h1 : f ≤ b + 1) (h2 : b < t) (ht : t < 65536) : Calls Tryz.prog 80 #[.slice (some ⟨g, 0, none⟩) n c, .agg #[.int .u16 f, .int .u16 t]] w fun e w' => ∃ v', e = .returned v' ∧ OwnN w' base v' (S ++ [(a, t)]) ∧ Below base w w' := by
  have HO := Lib.hid ho
  have hgB := ho.block g rfl
  have hS := (ho.below ((Below.refl _ w).alloc (Nat.le_refl _) (.cells #[.int .u16 f, .int .u16 t] 108))).last
  obtain ⟨c0, c1, fr, HS⟩ := hS
  have HS := Lib.hid (HS t)
  have hnS : n = S.length + 1 := by rw [← hn]; simp
  have hm3 : (n : Int) - 1 = (S.length : Nat) := by omega
  have hm4 : ((0 : Int) < (n : Int)) := by omega
  have hm7 : 0 < n := by omega
  have hm8 : decide ((0 : Int) < (n : Int)) = true := decide_eq_true hm4
  have hm5 : S.length < n := by omega
  have hm6 : (S.length : Int) < n := by omega
  have hd : ((f : Int) ≤ (b : Int) + 1) := by omega
  have hbt : (b : Int) ≤ t := by omega
  clear c0 hn hnS ho
  go_enter Tryz.func80, Tryz.ntmps80
  generalize S.length = m at *
  go_wp2
  go_quiet (fail)
  go_wp2
  go_region
  go_wp2
  go_ret
  exact ⟨_, rfl, HS.out, (below_drewN ((Below.refl _ _).alloc hb _) _).setCell hgB.1 _⟩
end Go.Proofs.YtbjekoljipjldaaGreatDoor
namespace Go.Proofs.YtbjekoljipjldaaGreatDoor
set_option linter.unusedVariables false
set_option linter.unusedSimpArgs false
open Go.RowKit

/-- a set's rising list -/
def LN (p : Nat → Bool) : List Nat := bl p 65536
def L (p : Nat → Bool) : List Int := nums (LN p)
theorem LN_eq (p : Nat → Bool) : LN p = bl p 65536 := rfl
theorem L_def (p : Nat → Bool) : L p = nums (LN p) := rfl
attribute [irreducible] LN L
theorem mem_bl (p : Nat → Bool) (i : Nat) : ∀ t, i ∈ bl p t ↔ i < t ∧ p i = true := by
  intro t
  induction t with
  | zero => simp [bl]
  | succ t ih =>
    by_cases ht : p t = true
    · simp only [bl, ht, if_true, List.mem_append, ih, List.mem_singleton]
      constructor
      · rintro (⟨h, h2⟩ | rfl)
        · exact ⟨by omega, h2⟩
        · exact ⟨by omega, ht⟩
      · rintro ⟨h, h2⟩
        by_cases e : i = t
        · exact .inr e
        · exact .inl ⟨by omega, h2⟩
    · simp only [bl, ht, Bool.false_eq_true, if_false, List.append_nil, ih]
      constructor
      · rintro ⟨h, h2⟩; exact ⟨by omega, h2⟩
      · rintro ⟨h, h2⟩
        refine ⟨?_, h2⟩
        rcases Nat.lt_or_ge i t with h3 | h3
        · exact h3
        · have : i = t := by omega
          subst this
          exact absurd h2 ht
theorem bl_rise (p : Nat → Bool) : ∀ t, (bl p t).Pairwise (· < ·) := by
  intro t
  induction t with
  | zero => simp [bl]
  | succ t ih =>
    unfold bl
    refine List.pairwise_append.2 ⟨ih, ?_, fun a ha b hb => ?_⟩
    · split <;> simp
    · have h1 := ((mem_bl p a t).1 ha).1
      split at hb
      · simp at hb; omega
      · cases hb
theorem bl_cnt (p : Nat → Bool) : ∀ t, (bl p t).length = cnt p 0 t := by
  intro t
  induction t with
  | zero => rfl
  | succ t ih =>
    unfold bl cnt
    by_cases ht : p t = true <;> simp [ht, ih]
theorem mem_LN {p : Nat → Bool} {i : Nat} : i ∈ LN p ↔ i < 65536 ∧ p i = true := by rw [LN_eq]; exact mem_bl p i 65536
theorem LN_lt {p : Nat → Bool} {x : Nat} (h : x ∈ LN p) : x < 65536 := (mem_LN.1 h).1
theorem L_len (p : Nat → Bool) : (L p).length = cnt p 0 65536 := by rw [L_def, nums_len, LN_eq]; exact bl_cnt p _
theorem L_le (p : Nat → Bool) : (L p).length ≤ 65536 := by rw [L_len]; exact cnt_le _ _ _
theorem nums_eq {l : List Nat} (h : ∀ x ∈ l, x < 65536) : nums l = l.map (fun x : Nat => (x : Int)) := by
  unfold nums
  exact List.map_congr_left fun x hx => by rw [Nat.mod_eq_of_lt (h x hx)]
theorem L_eq (p : Nat → Bool) : L p = (LN p).map (fun x : Nat => (x : Int)) := by rw [L_def]; exact nums_eq fun x hx => LN_lt hx
theorem L_bd {p : Nat → Bool} {x : Int} (h : x ∈ L p) : 0 ≤ x ∧ x < 65536 := by
  rw [L_eq] at h
  obtain ⟨y, hy, rfl⟩ := List.mem_map.1 h
  have := LN_lt hy
  omega
theorem rise_map {l : List Nat} (h : l.Pairwise (· < ·)) : Rise (l.map (fun x : Nat => (x : Int))) := by
  induction l with
  | nil => trivial
  | cons x l ih =>
    rcases l with _ | ⟨y, l⟩
    · trivial
    · have h1 := List.pairwise_cons.1 h
      exact ⟨by have := h1.1 y (by simp); show (x : Int) < (y : Int); omega, ih h1.2⟩
theorem rise_n (p : Nat → Bool) (n : Nat) : (bl p n).Pairwise (· < ·) ∧ Rise ((bl p n).map (fun x : Nat => (x : Int))) := ⟨bl_rise p n, rise_map (bl_rise p n)⟩
theorem LN_rise (p : Nat → Bool) : (LN p).Pairwise (· < ·) := by rw [LN_eq]; exact (rise_n p 65536).1
theorem L_rise (p : Nat → Bool) : Rise (L p) := by
  rw [L_eq, LN_eq]
  generalize 65536 = n
  exact (rise_n p n).2
theorem L_at {p : Nat → Bool} {k : Nat} (hk : k < (L p).length) : ∃ x : Nat, (L p).getD k 0 = (x : Int) ∧ x < 65536 ∧ p x = true := by
  rw [L_eq] at hk ⊢
  simp only [List.length_map] at hk
  rw [List.getD_eq_getElem?_getD, List.getElem?_map, List.getElem?_eq_getElem hk]
  have := mem_LN.1 (List.getElem_mem hk)
  exact ⟨_, rfl, this.1, this.2⟩
theorem mem_L {p : Nat → Bool} {i : Nat} (hi : i < 65536) : ((i : Int) ∈ L p) ↔ p i = true := by
  rw [L_eq, List.mem_map]
  constructor
  · rintro ⟨y, hy, e⟩
    have : y = i := by omega
    subst this
    exact (mem_LN.1 hy).2
  · intro h
    exact ⟨i, mem_LN.2 ⟨hi, h⟩, rfl⟩
theorem bl_congr {p q : Nat → Bool} : ∀ t, (∀ i, i < t → p i = q i) → bl p t = bl q t := by
  intro t
  induction t with
  | zero => intro _; rfl
  | succ t ih =>
    intro h
    unfold bl
    rw [ih (fun i hi => h i (by omega)), h t (by omega)]
theorem L_congr {p q : Nat → Bool} (h : ∀ i, i < 65536 → p i = q i) : L p = L q := by
  rw [L_def, L_def, LN_eq, LN_eq, bl_congr _ h]
/-- rising lists with the same members -/
theorem rise_ext : ∀ {a b : List Nat}, a.Pairwise (· < ·) → b.Pairwise (· < ·) → (∀ x, x ∈ a ↔ x ∈ b) → a = b := by
  intro a
  induction a with
  | nil =>
    intro b _ _ h
    rcases b with _ | ⟨y, b⟩
    · rfl
    · exact absurd ((h y).2 (by simp)) (by simp)
  | cons x a ih =>
    intro b ha hb h
    rcases b with _ | ⟨y, b⟩
    · exact absurd ((h x).1 (by simp)) (by simp)
    · have ha' := List.pairwise_cons.1 ha
      have hb' := List.pairwise_cons.1 hb
      have hxy : x = y := by
        have h1 := (h x).1 (by simp)
        have h2 := (h y).2 (by simp)
        rcases List.mem_cons.1 h1 with h1 | h1
        · exact h1
        · rcases List.mem_cons.1 h2 with h2 | h2
          · exact h2.symm
          · have := ha'.1 y h2
            have := hb'.1 x h1
            omega
      subst hxy
      rw [ih ha'.2 hb'.2 fun z => ?_]
      have h1 := h z
      simp only [List.mem_cons] at h1
      constructor
      · intro hz
        rcases h1.1 (.inr hz) with e | e
        · have := ha'.1 z hz; omega
        · exact e
      · intro hz
        rcases h1.2 (.inr hz) with e | e
        · have := hb'.1 z hz; omega
        · exact e
/-- the numbers of runs -/
def flat (R : List (Nat × Nat)) : List Nat := R.flatMap fun r => List.range' r.1 (r.2 + 1 - r.1)
theorem flat_app (R S : List (Nat × Nat)) : flat (R ++ S) = flat R ++ flat S := by simp [flat]
theorem flat_one (a b : Nat) : flat [(a, b)] = List.range' a (b + 1 - a) := by simp [flat]
def WF (R : List (Nat × Nat)) : Prop := (∀ r ∈ R, r.1 ≤ r.2 ∧ r.2 < 65536) ∧ R.Pairwise (fun r s => r.2 + 1 < s.1)
def RI (R : List (Nat × Nat)) (l : List Nat) : Prop := WF R ∧ flat R = l ∧ R.length ≤ l.length ∧ ((R = [] ∧ l = []) ∨ ∃ S a b l', R = S ++ [(a, b)] ∧ l = l' ++ [b])
theorem RI.nil : RI [] [] := ⟨⟨by simp, by simp⟩, rfl, Nat.le_refl _, .inl ⟨rfl, rfl⟩⟩
theorem RI.new {R : List (Nat × Nat)} {l : List Nat} (h : RI R l) {v : Nat} (hv : v < 65536) (hl : ∀ S a b, R = S ++ [(a, b)] → b + 1 < v) : RI (R ++ [(v, v)]) (l ++ [v]) := by
  obtain ⟨⟨h1, h2⟩, h3, h4, h5⟩ := h
  refine ⟨⟨fun r hr => ?_, ?_⟩, ?_, by simpa using h4, .inr ⟨R, v, v, l, rfl, rfl⟩⟩
  · rcases List.mem_append.1 hr with hr | hr
    · exact h1 r hr
    · simp at hr; subst hr; exact ⟨Nat.le_refl _, hv⟩
  · refine List.pairwise_append.2 ⟨h2, by simp, fun r hr s hs => ?_⟩
    simp at hs
    subst hs
    show r.2 + 1 < v
    rcases h5 with ⟨rfl, _⟩ | ⟨S, a, b, l', rfl, _⟩
    · cases hr
    · have hb := hl S a b rfl
      rcases List.mem_append.1 hr with hr | hr
      · have := (List.pairwise_append.1 h2).2.2 r hr (a, b) (by simp)
        have := (h1 (a, b) (by simp)).1
        simp only at *
        omega
      · simp at hr; subst hr; exact hb
  · rw [flat_app, h3, flat_one, show v + 1 - v = 1 by omega]; rfl
theorem RI.ext {S : List (Nat × Nat)} {a b : Nat} {l : List Nat} (h : RI (S ++ [(a, b)]) l) (hv : b + 1 < 65536) : RI (S ++ [(a, b + 1)]) (l ++ [b + 1]) := by
  obtain ⟨⟨h1, h2⟩, h3, h4, h5⟩ := h
  have hab := (h1 (a, b) (by simp)).1
  simp only at hab
  refine ⟨⟨fun r hr => ?_, ?_⟩, ?_, by simp at h4 ⊢; omega, .inr ⟨S, a, b + 1, l, rfl, rfl⟩⟩
  · rcases List.mem_append.1 hr with hr | hr
    · exact h1 r (List.mem_append.2 (.inl hr))
    · simp at hr; subst hr; exact ⟨by show a ≤ b + 1; omega, hv⟩
  · have h6 := List.pairwise_append.1 h2
    refine List.pairwise_append.2 ⟨h6.1, by simp, fun r hr s hs => ?_⟩
    simp at hs
    subst hs
    exact h6.2.2 r hr (a, b) (by simp)
  · rw [flat_app, flat_one] at h3 ⊢
    rw [← h3, List.append_assoc, show b + 1 + 1 - a = (b + 1 - a) + 1 by omega, List.range'_concat]
    congr 3
    omega
/-- runs that are a set's -/
def RunsOf (R : List (Nat × Nat)) (p : Nat → Bool) : Prop := WF R ∧ flat R = LN p
theorem mem_flat {R : List (Nat × Nat)} {v : Nat} (hR : WF R) : v ∈ flat R ↔ ∃ k, k < R.length ∧ (R.getD k (0, 0)).1 ≤ v ∧ v ≤ (R.getD k (0, 0)).2 := by
  unfold flat
  rw [List.mem_flatMap]
  constructor
  · rintro ⟨r, hr, hv⟩
    obtain ⟨k, hk, rfl⟩ := List.getElem_of_mem hr
    have := List.mem_range'_1.1 hv
    refine ⟨k, hk, ?_⟩
    rw [List.getD_eq_getElem?_getD, List.getElem?_eq_getElem hk]
    simp only [Option.getD_some]
    omega
  · rintro ⟨k, hk, h1, h2⟩
    rw [List.getD_eq_getElem?_getD, List.getElem?_eq_getElem hk] at h1 h2
    exact ⟨R[k], List.getElem_mem hk, List.mem_range'_1.2 (by simp only [Option.getD_some] at h1 h2; omega)⟩
theorem WF.at_ {R : List (Nat × Nat)} (h : WF R) {k : Nat} (hk : k < R.length) : (R.getD k (0, 0)).1 ≤ (R.getD k (0, 0)).2 ∧ (R.getD k (0, 0)).2 < 65536 := by
  rw [List.getD_eq_getElem?_getD, List.getElem?_eq_getElem hk]
  exact h.1 _ (List.getElem_mem hk)
theorem WF.lt {R : List (Nat × Nat)} (h : WF R) {i j : Nat} (hi : i < j) (hj : j < R.length) : (R.getD i (0, 0)).2 + 1 < (R.getD j (0, 0)).1 := by
  rw [List.getD_eq_getElem?_getD, List.getD_eq_getElem?_getD, List.getElem?_eq_getElem hj, List.getElem?_eq_getElem (show i < R.length by omega)]
  exact List.pairwise_iff_getElem.1 h.2 i j (by omega) hj hi
/-- the place of the first run that ends there, or behind -/
def AtR (R : List (Nat × Nat)) (v i : Nat) : Prop := i ≤ R.length ∧ (∀ k, k < i → (R.getD k (0, 0)).2 < v) ∧ (∀ k, i ≤ k → k < R.length → v ≤ (R.getD k (0, 0)).2)
theorem atR_exists (v : Nat) {R : List (Nat × Nat)} (h : WF R) : ∃ i, AtR R v i := by
  have key : ∀ n, n ≤ R.length → ∃ i, i ≤ n ∧ (∀ k, k < i → (R.getD k (0, 0)).2 < v) ∧ (∀ k, i ≤ k → k < n → v ≤ (R.getD k (0, 0)).2) := by
    intro n
    induction n with
    | zero => intro _; exact ⟨0, Nat.le_refl _, fun k hk => by omega, fun k _ hk => by omega⟩
    | succ n ih =>
      intro hn
      obtain ⟨i, h1, h2, h3⟩ := ih (by omega)
      by_cases hv : (R.getD n (0, 0)).2 < v
      · refine ⟨n + 1, Nat.le_refl _, fun k hk => ?_, fun k _ _ => by omega⟩
        rcases Nat.lt_or_ge k n with hk2 | hk2
        · have := h.lt hk2 (by omega)
          have := h.at_ (k := n) (by omega)
          omega
        · have : k = n := by omega
          subst this; exact hv
      · refine ⟨i, by omega, h2, fun k hk1 hk2 => ?_⟩
        rcases Nat.lt_or_ge k n with hk3 | hk3
        · exact h3 k hk1 hk3
        · have : k = n := by omega
          subst this; omega
  obtain ⟨i, h1, h2, h3⟩ := key R.length (Nat.le_refl _)
  exact ⟨i, h1, h2, h3⟩
theorem runs_has {R : List (Nat × Nat)} {p : Nat → Bool} (h : RunsOf R p) {v i : Nat} (hv : v < 65536) (hi : AtR R v i) : (decide (i < R.length) && decide ((R.getD i (0, 0)).1 ≤ v)) = p v := by
  have hm : v ∈ flat R ↔ p v = true := by
    rw [h.2, mem_LN]
    exact ⟨fun h => h.2, fun h => ⟨hv, h⟩⟩
  rw [mem_flat h.1] at hm
  rw [Bool.eq_iff_iff]
  rw [← hm]
  simp only [Bool.and_eq_true, decide_eq_true_eq]
  constructor
  · rintro ⟨h1, h2⟩
    exact ⟨i, h1, h2, hi.2.2 i (Nat.le_refl _) h1⟩
  · rintro ⟨k, hk, h1, h2⟩
    rcases Nat.lt_trichotomy k i with h3 | h3 | h3
    · have := hi.2.1 k h3; omega
    · subst h3; exact ⟨hk, h1⟩
    · have := h.1.lt h3 hk
      have := h.1.at_ (k := i) (by omega)
      have := hi.2.2 i (Nat.le_refl _) (by omega)
      omega
theorem runs_next {R : List (Nat × Nat)} {p : Nat → Bool} (h : RunsOf R p) {f i : Nat} (hi : AtR R f i) : NextB p f 65536 (if i < R.length then ((if f < (R.getD i (0, 0)).1 then (R.getD i (0, 0)).1 else f : Nat) : Int) else -1) := by
  have hm : ∀ v, v < 65536 → ((∃ k, k < R.length ∧ (R.getD k (0, 0)).1 ≤ v ∧ v ≤ (R.getD k (0, 0)).2) ↔ p v = true) := fun v hv => by
    rw [← mem_flat h.1, h.2, mem_LN]
    exact ⟨fun h => h.2, fun h => ⟨hv, h⟩⟩
  by_cases hl : i < R.length
  · rw [if_pos hl]
    have h1 := h.1.at_ hl
    have h2 := hi.2.2 i (Nat.le_refl _) hl
    refine .inr ⟨_, rfl, ?_, ?_, ?_, fun j hj1 hj2 => ?_⟩
    · split <;> omega
    · split <;> omega
    · exact (hm _ (by split <;> omega)).1 ⟨i, hl, by split <;> omega, by split <;> omega⟩
    · split at hj2
      · rw [← Bool.not_eq_true, ← hm j (by omega)]
        rintro ⟨k, hk, h3, h4⟩
        rcases Nat.lt_trichotomy k i with h5 | h5 | h5
        · have := hi.2.1 k h5; omega
        · subst h5; omega
        · have := h.1.lt h5 hk; omega
      · omega
  · rw [if_neg hl]
    refine .inl ⟨rfl, fun j hj1 hj2 => ?_⟩
    rw [← Bool.not_eq_true, ← hm j hj2]
    rintro ⟨k, hk, h3, h4⟩
    have := hi.2.1 k (by omega)
    omega
end Go.Proofs.YtbjekoljipjldaaGreatDoor
namespace Go.Proofs.YtbjekoljipjldaaGreatDoor
set_option linter.unusedVariables false
set_option linter.unusedSimpArgs false
open Go.RowKit
attribute [local go_sem ↓] Go.wp_at_zero Go.wp_at_succ

theorem OwnN.formS {w : World} {base : Nat} {v : Value} {R : List (Nat × Nat)} (h : OwnN w base v R) : ∃ A c, v = .slice A R.length c ∧ R.length ≤ c ∧ RdN w A R ∧ OwnN w base (.slice A R.length c) R := by
  obtain ⟨A, c, rfl, h1, _, h2⟩ := h.form
  exact ⟨A, c, rfl, h1, h2, h⟩
theorem OwnN.mono {w : World} {base base' : Nat} {v : Value} {l : List (Nat × Nat)} (h : OwnN w base v l) (hB : base' ≤ base) : OwnN w base' v l := by
  obtain ⟨h1, h2⟩ := h
  refine ⟨h1, ?_⟩
  rcases h2 with h2 | ⟨g, cap, cur, rfl, hg, hr⟩
  · exact .inl h2
  · exact .inr ⟨g, cap, cur, rfl, by omega, hr⟩
theorem runAdd_step (base : Nat) (v : Value) (R : List (Nat × Nat)) (l : List Nat) (x : Nat) (w : World) (ho : OwnN w base v R) (hb : base ≤ w.heap.size) (hl : l.length ≤ 65536) (hR : RI R l) (hx : x < 65536) (hlx : ∀ y ∈ l, y < x) :
    Calls Tryz.prog 80 #[v, .agg #[.int .u16 x, .int .u16 x]] w fun e w' => ∃ v' R', e = .returned v' ∧ Hid (OwnN w' base v' R') ∧ Hid (RI R' (l ++ [x])) ∧ Below base w w' := by
  have hRl := hR.2.2.1
  obtain ⟨A, c, rfl, hc, hr, _⟩ := ho.formS
  rcases hR.2.2.2 with ⟨e1, e2⟩ | ⟨S, a, b, l', e1, e2⟩
  · exact (runAdd_new base A _ c R x x w ho rfl hb (by omega) (.inl e1) hx).mono fun e w' ⟨v', h1, h2, h3⟩ => ⟨v', _, h1, h2, hR.new hx (fun S a b e => by rw [e1] at e; simp at e), h3⟩
  · have hbx : b < x := hlx b (by rw [e2]; simp)
    by_cases hbx1 : b + 1 < x
    · exact (runAdd_new base A _ c R x x w ho rfl hb (by omega) (.inr ⟨S, a, b, e1, hbx1, by omega⟩) hx).mono fun e w' ⟨v', h1, h2, h3⟩ => ⟨v', _, h1, h2, hR.new hx (fun S' a' b' e => by
        rw [e1] at e
        have := (List.append_inj' e rfl).2
        simp at this
        omega), h3⟩
    · obtain rfl : x = b + 1 := by omega
      subst e1
      obtain ⟨ad, e4, _⟩ := hr 0 (by simp)
      rcases ho.2 with ⟨h2, _⟩ | ⟨g, cap, cur, e1, _⟩
      · rw [e4] at h2; cases h2
      · injection e1 with e1
        subst e1
        exact (runAdd_ext base g _ c S a b (b + 1) (b + 1) w ho rfl hb (by simp at hRl; omega) (Nat.le_refl _) (by omega) hx).mono fun e w' ⟨v', h1, h2, h3⟩ => ⟨v', _, h1, h2, hR.ext hx, h3⟩
theorem take_getD {l : List Nat} {k : Nat} (hk : k < l.length) : l.take (k + 1) = l.take k ++ [l.getD k 0] := by
  rw [List.take_succ_eq_append_getElem hk, List.getD_eq_getElem?_getD, List.getElem?_eq_getElem hk]; rfl
theorem take_lt {l : List Nat} (h : l.Pairwise (· < ·)) {k : Nat} (hk : k < l.length) : ∀ y ∈ l.take k, y < l.getD k 0 := by
  intro y hy
  obtain ⟨j, hj, rfl⟩ := List.getElem_of_mem hy
  simp at hj
  rw [List.getElem_take, List.getD_eq_getElem?_getD, List.getElem?_eq_getElem hk]
  exact List.pairwise_iff_getElem.1 h j k (by omega) hk (by omega)
set_option maxRecDepth 100000 in
set_option maxHeartbeats 2000000 in
theorem runsOfN (A : Option Addr) (c : Nat) (N : List Nat) (l : List Int) (w : World) (hr : Rd .u16 w A l) (hlN : l.length = N.length) (hat : ∀ k, k < N.length → l.getD k 0 = ((N.getD k 0 : Nat) : Int) ∧ N.getD k 0 < 65536) (hP : N.Pairwise (· < ·)) (hRi : Rise l) (hN : N.length ≤ 65536) :
    Calls Tryz.prog 58 #[.slice A l.length c] w fun e w' => ∃ A' c' R, e = .returned (.slice A' R.length c') ∧ R.length ≤ c' ∧ Hid (OwnN w' w.heap.size (.slice A' R.length c') R) ∧ Hid (RI R N) ∧ Below w.heap.size w w' := by
  have HR := Lib.hid hr
  have HI := Lib.hid hRi
  have HAT := Lib.hid hat
  have HP := Lib.hid hP
  have HLN := Lib.hid hlN
  have hl6 : l.length ≤ 65536 := by omega
  clear hr hRi hat hP hlN hN
  go_enter Tryz.func58, Tryz.ntmps58
  go_wp2_with fail
  refine (clone16 A c l _ HR.out (by omega)).mono ?_
  rintro e w1 ⟨v, rfl, ho, hb⟩
  obtain ⟨A', c', rfl, hc', _, hr'⟩ := ho.form
  have HR' := Lib.hid hr'
  have HB := Lib.hid hb
  clear ho hr' hb
  go_wp2_with fail
  refine (sort16 A' c' l _ HR'.out HI.out (by omega)).mono ?_
  rintro e w2 ⟨rfl, hb2⟩
  have HR2 := Lib.hid (HR'.out.below hb2)
  have HB2 := Lib.hid (below_then HB.out hb2)
  clear hb2 HR' HB HR
  go_wp2
  go_loopw [3, 13] (fun v3 v13 wr => ∃ (k : Nat) (R : List (Nat × Nat)), k ≤ l.length ∧ v13 = .int .i64 k ∧ Hid (OwnN wr w2.heap.size v3 R) ∧ Hid (RI R (N.take k)) ∧ Hid (Below w2.heap.size w2 wr)) (fun _ v13 _ => l.length - (intOf v13).toNat)
  case atStart => exact ⟨0, [], Nat.zero_le _, rfl, OwnN.nil _ _, RI.nil, Below.refl _ _⟩
  case round =>
    obtain ⟨k, R, hk, rfl, HO, HRI, HBk⟩ := hrel
    by_cases hlt : k < l.length
    · obtain ⟨ad, rfl, _, hcl⟩ := (HR2.out.below HBk.out) k hlt
      obtain ⟨e1, e2⟩ := HAT.out k (by have := HLN.out; omega)
      have HT := Lib.hid (take_getD (l := N) (k := k) (by have := HLN.out; omega))
      have HTL := Lib.hid (take_lt HP.out (k := k) (by have := HLN.out; omega))
      have htk : (N.take k).length ≤ 65536 := by have := HLN.out; simp; omega
      rw [e1] at hcl
      generalize N.getD k 0 = x at *
      have hsz := HBk.out.size
      clear e1
      go_wp2_with fail
      refine (runAdd_step w2.heap.size _ R (N.take k) x _ HO.out hsz htk HRI.out e2 HTL.out).mono ?_
      rintro e w3 ⟨v', R', rfl, HO3, HR3, hb3⟩
      have HRT := Lib.hid (show RI R' (N.take (k + 1)) by rw [HT.out]; exact HR3.out)
      have HB3 := Lib.hid (HBk.out.trans hb3)
      go_wp2
      go_roundw
      case rel => exact ⟨k + 1, R', by omega, by go_num, HO3.out, HRT.out, HB3.out⟩
      case measure => simp [intOf]; omega
    · obtain rfl : k = l.length := by omega
      have HRT := Lib.hid (show RI R N by have := HRI.out; rwa [List.take_of_length_le (by have := HLN.out; omega)] at this)
      obtain ⟨A3, c3, rfl, h3, _, h5⟩ := HO.out.formS
      go_wp2
      go_ret
      exact ⟨A3, c3, R, rfl, h3, h5.mono HB2.out.size, HRT.out, below_then HB2.out HBk.out⟩
end Go.Proofs.YtbjekoljipjldaaGreatDoor
namespace Go.Proofs.YtbjekoljipjldaaGreatDoor
set_option linter.unusedVariables false
set_option linter.unusedSimpArgs false
open Go.RowKit
attribute [local go_sem ↓] Go.wp_at_zero Go.wp_at_succ

theorem RdN.cells {w : World} {A : Option Addr} {R : List (Nat × Nat)} (h : RdN w A R) {k : Nat} (hk : k < R.length) : ∃ ad, A = some ad ∧ w.cell? (ad.add (k * 2)) = some (.int .u16 (R.getD k (0, 0)).1) ∧ w.cell? ⟨(ad.add (k * 2)).block, (ad.add (k * 2)).off + 1, none⟩ = some (.int .u16 (R.getD k (0, 0)).2) := by
  obtain ⟨ad, e, _, h1, h2⟩ := h k hk
  rw [pair_addr] at h2
  exact ⟨ad, e, h1, h2⟩
set_option maxRecDepth 100000 in
theorem runCount (f t : Nat) (w : World) (hf : f < 65536) (ht : t < 65536) : Calls Tryz.prog 186 #[.agg #[.int .u16 f, .int .u16 t]] w fun e w' => e = .returned (.int .i64 ((t : Int) - f + 1)) ∧ Below w.heap.size w w' := by
  go_enter Tryz.func186, Tryz.ntmps186
  go_wp2
  go_ret
  exact ⟨rfl, (Below.refl _ _).alloc (Nat.le_refl _) _⟩
set_option maxRecDepth 100000 in
theorem runAt1 (f t v : Nat) (w : World) (hv : v < 65536) (ht : t < 65536) : Calls Tryz.prog 188 #[.agg #[.int .u16 f, .int .u16 t], .int .u16 v] w fun e w' => e = .returned (.int .i64 ((t : Int) - v)) ∧ Below w.heap.size w w' := by
  go_enter Tryz.func188, Tryz.ntmps188
  go_wp2
  go_ret
  exact ⟨rfl, (Below.refl _ _).alloc (Nat.le_refl _) _⟩
theorem flat_take {R : List (Nat × Nat)} {k : Nat} (hk : k < R.length) : flat (R.take (k + 1)) = flat (R.take k) ++ List.range' (R.getD k (0, 0)).1 ((R.getD k (0, 0)).2 + 1 - (R.getD k (0, 0)).1) := by
  rw [List.take_succ_eq_append_getElem hk, flat_app, List.getD_eq_getElem?_getD, List.getElem?_eq_getElem hk]
  exact congrArg _ (flat_one _ _)
theorem flat_take_le (R : List (Nat × Nat)) (k : Nat) : (flat (R.take k)).length ≤ (flat R).length := by
  have h : flat R = flat (R.take k) ++ flat (R.drop k) := by rw [← flat_app, List.take_append_drop]
  rw [h]; simp
set_option maxRecDepth 100000 in
set_option maxHeartbeats 1000000 in
theorem runsLen (A : Option Addr) (c : Nat) (R : List (Nat × Nat)) (w : World) (hr : RdN w A R) (hW : WF R) (hf : (flat R).length ≤ 65536) (hl : R.length ≤ 65536) :
    Calls Tryz.prog 184 #[.slice A R.length c] w fun e w' => e = .returned (.int .i64 ((flat R).length : Nat)) ∧ Below w.heap.size w w' := by
  have HR := Lib.hid hr
  have HW := Lib.hid hW
  have HF := Lib.hid hf
  clear hr hW hf
  go_enter Tryz.func184, Tryz.ntmps184
  go_wp2
  go_loopw [3, 8] (fun v3 v8 wr => ∃ k n : Nat, k ≤ R.length ∧ v8 = .int .i64 k ∧ v3 = .int .i64 n ∧ Hid (n = (flat (R.take k)).length) ∧ n ≤ 65536 ∧ Hid (Below w.heap.size w wr)) (fun _ v8 _ => R.length - (intOf v8).toNat)
  case atStart => exact ⟨0, 0, Nat.zero_le _, rfl, rfl, rfl, by omega, Below.refl _ _⟩
  case round =>
    obtain ⟨k, n, hk, rfl, rfl, HN, hn, HB⟩ := hrel
    by_cases hlt : k < R.length
    · obtain ⟨ad, rfl, c0, c1⟩ := (HR.out.below HB.out).cells hlt
      obtain ⟨h1, h2⟩ := HW.out.at_ hlt
      have HT := Lib.hid (flat_take hlt)
      have HL := Lib.hid (Nat.le_trans (flat_take_le R (k + 1)) HF.out)
      generalize R.getD k (0, 0) = r at *
      have HNX := Lib.hid (show n + (r.2 + 1 - r.1) = (flat (R.take (k + 1))).length by rw [HT.out, HN.out]; simp)
      have hnx : n + (r.2 + 1 - r.1) ≤ 65536 := by rw [HNX.out]; exact HL.out
      have hsz := HB.out.size
      go_wp2_with fail
      refine (runCount r.1 r.2 _ (by omega) h2).mono ?_
      rintro e w3 ⟨rfl, hb3⟩
      go_wp2
      go_roundw
      case rel => exact ⟨k + 1, n + (r.2 + 1 - r.1), by omega, by go_num, by go_num, HNX.out, hnx, below_also (HB.out.alloc hsz _) hb3 (by simp; omega)⟩
      case measure => simp [intOf]; omega
    · obtain rfl : k = R.length := by omega
      have HN2 := HN.out
      rw [List.take_of_length_le (Nat.le_refl _)] at HN2
      subst HN2
      go_wp2
      go_ret
      exact ⟨rfl, HB.out⟩
def ints (l : List Nat) : List Int := l.map (fun x : Nat => (x : Int))
theorem ints_app (a b : List Nat) : ints (a ++ b) = ints a ++ ints b := by simp [ints]
theorem ints_len (a : List Nat) : (ints a).length = a.length := by simp [ints]
set_option maxRecDepth 100000 in
set_option maxHeartbeats 2000000 in
theorem runsList (A : Option Addr) (c : Nat) (R : List (Nat × Nat)) (w : World) (hr : RdN w A R) (hW : WF R) (hf : (flat R).length ≤ 65536) (hl : R.length ≤ 65536) :
    Calls Tryz.prog 182 #[.slice A R.length c] w fun e w' => ∃ v, e = .returned v ∧ Own .u16 43 w' w.heap.size v (ints (flat R)) ∧ Below w.heap.size w w' := by
  obtain ⟨i0, hi, hz0, hz1, hz2⟩ := info_parts u16_info
  have HR := Lib.hid hr
  have HW := Lib.hid hW
  have HF := Lib.hid hf
  clear hr hW hf
  go_enter Tryz.func182, Tryz.ntmps182
  go_wp2
  go_loopw [3, 9] (fun v3 v9 wr => ∃ k : Nat, k ≤ R.length ∧ v9 = .int .i64 k ∧ Hid (Own .u16 43 wr w.heap.size v3 (ints (flat (R.take k)))) ∧ Hid (Below w.heap.size w wr)) (fun _ v9 _ => R.length - (intOf v9).toNat)
  case atStart => exact ⟨0, Nat.zero_le _, rfl, Own.nil _ _ _ _, Below.refl _ _⟩
  case round =>
    obtain ⟨k, hk, rfl, HO, HB⟩ := hrel
    by_cases hlt : k < R.length
    · obtain ⟨ad, rfl, c0, c1⟩ := (HR.out.below HB.out).cells hlt
      obtain ⟨h1, h2⟩ := HW.out.at_ hlt
      have HT := Lib.hid (flat_take hlt)
      have HL := Lib.hid (Nat.le_trans (flat_take_le R (k + 1)) HF.out)
      generalize R.getD k (0, 0) = r at *
      obtain ⟨f, t⟩ := r
      simp only at c0 c1 h1 h2
      have HT := Lib.hid (show flat (R.take (k + 1)) = flat (R.take k) ++ List.range' f (t + 1 - f) from HT.out)
      have HLA := Lib.hid (show (flat (R.take k)).length + (t + 1 - f) ≤ 65536 by have := HL.out; rw [HT.out] at this; simpa using this)
      have hsz := HB.out.size
      have HBK := Lib.hid (blk_new wr #[.int .u16 f, .int .u16 t] 108)
      have HB0 := Lib.hid (HB.out.alloc hsz (.cells #[.int .u16 f, .int .u16 t] 108))
      have HO0 := Lib.hid (HO.out.below ((Below.refl _ wr).alloc (Nat.le_refl _) (.cells #[.int .u16 f, .int .u16 t] 108)))
      go_wp2
      go_loopw [3, 6] (fun v3 v6 wj => ∃ m : Nat, m ≤ t + 1 - f ∧ v6 = .int .i64 (((f + m : Nat)) : Int) ∧ Hid (Own .u16 43 wj w.heap.size v3 (ints (flat (R.take k) ++ List.range' f m))) ∧ Hid (wj.heap[wr.heap.size]? = some (.cells #[.int .u16 f, .int .u16 t] 108 (0, 0))) ∧ Hid (Below w.heap.size w wj)) (fun _ v6 _ => t + 1 - (intOf v6).toNat)
      case atStart => exact ⟨0, Nat.zero_le _, by go_num, by have := HO0.out; show Own _ _ _ _ _ _; simpa using this, HBK.out, HB0.out⟩
      case round =>
        obtain ⟨m, hm, rfl, HOi, HBi, HBe⟩ := hrel
        have q0 := blk_cell HBi.out 0 rfl
        have q1 := blk_cell HBi.out 1 rfl
        obtain ⟨x, hx⟩ : ∃ x, f + m = x := ⟨_, rfl⟩
        by_cases hxt : x ≤ t
        · have hxi : (x : Int) ≤ t := by omega
          have hx6 : x < 65536 := by omega
          have hx7 : (x : Int) < 65536 := by omega
          have HNX := Lib.hid (show ints (flat (R.take k) ++ List.range' f m) ++ [(x : Int)] = ints (flat (R.take k) ++ List.range' f (m + 1)) by
            rw [List.range'_concat, ← List.append_assoc, ints_app _ [f + 1 * m], show f + 1 * m = x by omega]; rfl)
          have HLN := Lib.hid (show (ints (flat (R.take k) ++ List.range' f m)).length ≤ 65536 by rw [ints_len, List.length_append, List.length_range']; have := HLA.out; omega)
          have HXE := Lib.hid hx
          have hszi := HBe.out.size
          have HMT := Lib.hid (show m + 1 ≤ t + 1 - f by omega)
          rw [hx]
          clear hx hm
          go_wp2_with (at_builtin; refine wpList_push w.heap.size _ _ (x : Int) _ _ _ rfl rfl Tryz.underlying45 hi hz0 hz1 hz2 rfl rfl rfl (heap_alloc_new _ _) (HOi.out.below ((Below.refl _ _).alloc (Nat.le_refl _) _)) (by simp; omega) (by have := HLN.out; omega) (by have := HLN.out; unfold maxLen; omega) ?_; intro v1 w1 ho1 hg1 _)
          have HB1 := Lib.hid (grown_block (HOi.out.below ((Below.refl _ _).alloc (Nat.le_refl _) (.cells #[.int .u16 x] 43))) hg1 (blk_old HBi.out (.cells #[.int .u16 x] 43)) (by decide))
          have HBE := Lib.hid (Below.grown (HBe.out.alloc hszi (.cells #[.int .u16 x] 43)) hg1 (by simp; omega) (fun g hgk => (HOi.out.block g hgk).1))
          have HO1 := Lib.hid (show Own .u16 43 w1 w.heap.size v1 (ints (flat (R.take k) ++ List.range' f (m + 1))) by rw [← HNX.out]; exact ho1)
          clear ho1 hg1
          go_wp2
          go_roundw
          case rel => exact ⟨m + 1, HMT.out, by have := HXE.out; go_num, HO1.out, HB1.out, HBE.out⟩
          case measure => simp [intOf]; omega
        · have hxi : ¬ ((x : Int) ≤ t) := by omega
          have HNX := Lib.hid (show ints (flat (R.take k) ++ List.range' f m) = ints (flat (R.take (k + 1))) by rw [HT.out, show t + 1 - f = m by omega])
          have HO1 := HOi.out
          rw [HNX.out] at HO1
          have HO1 := Lib.hid HO1
          rw [hx]
          go_wp2
          go_roundw
          case rel => exact ⟨k + 1, by omega, by go_num, HO1.out, HBe.out⟩
          case measure => simp [intOf]; omega
    · obtain rfl : k = R.length := by omega
      have HO2 := HO.out
      rw [List.take_of_length_le (Nat.le_refl _)] at HO2
      have HO2 := Lib.hid HO2
      go_wp2
      go_ret
      exact ⟨_, rfl, HO2.out, HB.out⟩
end Go.Proofs.YtbjekoljipjldaaGreatDoor
namespace Go.Proofs.YtbjekoljipjldaaGreatDoor
set_option linter.unusedVariables false
set_option linter.unusedSimpArgs false
open Go.RowKit
attribute [local go_sem ↓] Go.wp_at_zero Go.wp_at_succ

set_option maxRecDepth 100000 in
set_option maxHeartbeats 2000000 in
theorem runsSearch (A : Option Addr) (c : Nat) (R : List (Nat × Nat)) (v m : Nat) (w : World) (hr : RdN w A R) (hW : WF R) (hm : AtR R v m) (hl : R.length ≤ 65536) (hv : v < 65536) :
    Calls Tryz.prog 187 #[.slice A R.length c, .int .u16 v, .func (.func 188) #[] #[]] w fun e w' => ∃ b : Bool, e = .returned (.tuple #[.int .i64 m, .bool b]) ∧ Below w.heap.size w w' := by
  have HR := Lib.hid hr
  have HW := Lib.hid hW
  have HM := Lib.hid hm
  have hml := hm.1
  clear hr hW hm
  go_enter Tryz.func187, Tryz.ntmps187
  go_wp2
  go_loopw [9, 10] (fun v9 v10 wr => ∃ i j : Nat, v9 = .int .i64 i ∧ v10 = .int .i64 j ∧ i ≤ m ∧ m ≤ j ∧ j ≤ R.length ∧ Hid (Below w.heap.size w wr)) (fun v9 v10 _ => (intOf v10).toNat - (intOf v9).toNat)
  case atStart => exact ⟨0, R.length, rfl, rfl, Nat.zero_le _, hml, Nat.le_refl _, Below.refl _ _⟩
  case round =>
    obtain ⟨i, j, rfl, rfl, hi, hj, hjl, hb⟩ := hrel
    by_cases hlt : i < j
    · have hw1 : IntKind.i64.wrap ((i : Int) + (j : Int)) = (i : Int) + (j : Int) := by rw [IntKind.wrap_i64]; omega
      have hw2 : IntKind.u64.wrap ((i : Int) + (j : Int)) = (i : Int) + (j : Int) := by rw [IntKind.wrap_u64]; omega
      obtain ⟨h, hh, hih, hhj⟩ : ∃ h : Nat, ((i : Int) + (j : Int)) / 2 = (h : Int) ∧ i ≤ h ∧ h < j := ⟨(i + j) / 2, by omega, by omega, by omega⟩
      have hhl : h < R.length := by omega
      obtain ⟨ad, rfl, c0, c1⟩ := (HR.out.below hb.out).cells hhl
      obtain ⟨k1, k2⟩ := HW.out.at_ hhl
      have HCM := Lib.hid (show (R.getD h (0, 0)).2 < v ↔ h < m by
        constructor
        · intro hx
          rcases Nat.lt_or_ge h m with h1 | h1
          · exact h1
          · exact absurd (HM.out.2.2 h h1 hhl) (by omega)
        · exact fun h1 => HM.out.2.1 h h1)
      generalize R.getD h (0, 0) = r at *
      obtain ⟨f, t⟩ := r
      simp only at c0 c1 k1 k2
      have HCM := Lib.hid (show t < v ↔ h < m from HCM.out)
      go_wp2_with fail
      refine (runAt1 f t v _ hv k2).mono ?_
      rintro e w3 ⟨rfl, hb3⟩
      have HB3 := Lib.hid (below_also hb.out hb3 hb.out.size)
      clear hb3
      by_cases hxv : (t : Int) - v < 0
      · have hhm := HCM.out.1 (by omega)
        go_wp2
        go_roundw
        case rel => exact ⟨h + 1, j, by go_num, rfl, by omega, hj, hjl, HB3.out⟩
        case measure => simp [intOf]; omega
      · have hhm : ¬ h < m := fun h1 => absurd (HCM.out.2 h1) (by omega)
        go_wp2
        go_roundw
        case rel => exact ⟨i, h, rfl, rfl, hi, by omega, by omega, HB3.out⟩
        case measure => simp [intOf]; omega
    · obtain rfl : i = m := by omega
      obtain rfl : i = j := by omega
      by_cases hil : i < R.length
      · obtain ⟨ad, rfl, c0, c1⟩ := (HR.out.below hb.out).cells hil
        obtain ⟨k1, k2⟩ := HW.out.at_ hil
        generalize R.getD i (0, 0) = r at *
        obtain ⟨f, t⟩ := r
        simp only at c0 c1 k1 k2
        go_wp2_with fail
        refine (runAt1 f t v _ hv k2).mono ?_
        rintro e w3 ⟨rfl, hb3⟩
        have HB3 := Lib.hid (below_also hb.out hb3 hb.out.size)
        clear hb3
        by_cases htv : (t : Int) - v = 0
        · have htb : ((t : Int) - v == 0) = true := by rw [htv]; rfl
          go_wp2
          go_ret2
          exact ⟨_, rfl, HB3.out⟩
        · have htb : ((t : Int) - v == 0) = false := by rw [beq_eq_false_iff_ne]; exact htv
          go_wp2
          go_ret2
          exact ⟨_, rfl, HB3.out⟩
      · go_wp2
        go_ret2
        exact ⟨_, rfl, hb.out⟩
set_option maxRecDepth 100000 in
theorem runsAt (A : Option Addr) (c : Nat) (R : List (Nat × Nat)) (v m : Nat) (w : World) (hr : RdN w A R) (hW : WF R) (hm : AtR R v m) (hl : R.length ≤ 65536) (hv : v < 65536) :
    Calls Tryz.prog 185 #[.slice A R.length c, .int .u16 v] w fun e w' => e = .returned (.int .i64 m) ∧ Below w.heap.size w w' := by
  have HR := Lib.hid hr
  have HW := Lib.hid hW
  have HM := Lib.hid hm
  clear hr hW hm
  go_enter Tryz.func185, Tryz.ntmps185
  go_wp2_with fail
  refine (runsSearch A c R v m _ HR.out HW.out HM.out hl hv).mono ?_
  rintro e w3 ⟨b, rfl, hb3⟩
  go_wp2
  go_ret
  exact ⟨rfl, hb3⟩
set_option maxRecDepth 100000 in
set_option maxHeartbeats 1000000 in
theorem runsHas (A : Option Addr) (c : Nat) (R : List (Nat × Nat)) (p : Nat → Bool) (v : Nat) (w : World) (hr : RdN w A R) (hp : RunsOf R p) (hl : R.length ≤ 65536) (hv : v < 65536) :
    Calls Tryz.prog 181 #[.slice A R.length c, .int .u16 v] w fun e w' => e = .returned (.bool (p v)) ∧ Below w.heap.size w w' := by
  obtain ⟨m, hm⟩ := atR_exists v hp.1
  have HR := Lib.hid hr
  have HW := Lib.hid hp.1
  have HM := Lib.hid hm
  have hml := hm.1
  have HH := Lib.hid (runs_has hp hv hm)
  clear hr hm hp
  go_enter Tryz.func181, Tryz.ntmps181
  go_wp2_with fail
  refine (runsAt A c R v m _ HR.out HW.out HM.out hl hv).mono ?_
  rintro e w3 ⟨rfl, hb3⟩
  by_cases hil : m < R.length
  · obtain ⟨ad, rfl, c0, c1⟩ := (HR.out.below hb3).cells hil
    have HH2 := HH.out
    rw [decide_eq_true hil, Bool.true_and] at HH2
    replace HH2 := Lib.hid HH2
    clear HH
    generalize R.getD m (0, 0) = r at *
    obtain ⟨f, t⟩ := r
    simp only at c0 c1
    have HH2 := Lib.hid (show decide (f ≤ v) = p v from HH2.out)
    by_cases hfv : f ≤ v
    · have hfi : (f : Int) ≤ v := by omega
      go_wp2
      go_ret
      exact ⟨by rw [← HH2.out, decide_eq_true hfv]; rfl, hb3⟩
    · have hfi : ¬ (f : Int) ≤ v := by omega
      go_wp2
      go_ret
      exact ⟨by rw [← HH2.out, decide_eq_false hfv]; rfl, hb3⟩
  · have HH2 := HH.out
    rw [decide_eq_false hil, Bool.false_and] at HH2
    replace HH2 := Lib.hid HH2
    have hd : decide ((m : Int) < (R.length : Int)) = false := decide_eq_false (by omega)
    have hd2 : ¬ ((m : Int) < (R.length : Int)) := by omega
    clear HH HM hml hil hl
    generalize R.length = n at *
    go_wp2
    go_ret
    exact ⟨by rw [← HH2.out]; rfl, hb3⟩
set_option maxRecDepth 100000 in
set_option maxHeartbeats 1000000 in
theorem runsNext (A : Option Addr) (c : Nat) (R : List (Nat × Nat)) (p : Nat → Bool) (v : Nat) (w : World) (hr : RdN w A R) (hp : RunsOf R p) (hl : R.length ≤ 65536) (hv : v < 65536) :
    Calls Tryz.prog 183 #[.slice A R.length c, .int .u16 v] w fun e w' => ∃ x : Int, e = .returned (.tuple #[.int .u16 (toldR x).1, .bool (toldR x).2]) ∧ Hid (NextB p v 65536 x) ∧ Below w.heap.size w w' := by
  obtain ⟨m, hm⟩ := atR_exists v hp.1
  have HR := Lib.hid hr
  have HW := Lib.hid hp.1
  have HM := Lib.hid hm
  have hml := hm.1
  have HH := Lib.hid (runs_next hp hm)
  clear hr hm hp
  go_enter Tryz.func183, Tryz.ntmps183
  go_wp2_with fail
  refine (runsAt A c R v m _ HR.out HW.out HM.out hl hv).mono ?_
  rintro e w3 ⟨rfl, hb3⟩
  by_cases hil : m < R.length
  · obtain ⟨ad, rfl, c0, c1⟩ := (HR.out.below hb3).cells hil
    have HH2 := HH.out
    rw [if_pos hil] at HH2
    replace HH2 := Lib.hid HH2
    clear HH
    generalize R.getD m (0, 0) = r at *
    obtain ⟨f, t⟩ := r
    simp only at c0 c1
    by_cases hfv : v < f
    · have HH3 := HH2.out
      rw [if_pos hfv] at HH3
      replace HH3 := Lib.hid HH3
      have hfi : (v : Int) < f := by omega
      clear HH2
      go_wp2
      go_ret2
      exact ⟨(f : Int), by unfold toldR; rw [if_neg (by omega)]; rfl, HH3.out, hb3⟩
    · have HH3 := HH2.out
      rw [if_neg hfv] at HH3
      replace HH3 := Lib.hid HH3
      have hfi : ¬ (v : Int) < f := by omega
      clear HH2
      go_wp2
      go_ret2
      exact ⟨(v : Int), by unfold toldR; rw [if_neg (by omega)]; rfl, HH3.out, hb3⟩
  · have HH2 := HH.out
    rw [if_neg hil] at HH2
    replace HH2 := Lib.hid HH2
    clear HH
    go_wp2
    go_ret2
    exact ⟨-1, rfl, HH2.out, hb3⟩
end Go.Proofs.YtbjekoljipjldaaGreatDoor
namespace Go.Proofs.YtbjekoljipjldaaGreatDoor
set_option linter.unusedVariables false
set_option linter.unusedSimpArgs false
open Go.RowKit

theorem rise_pw : ∀ {l : List Int}, Rise l → l.Pairwise (· < ·) := by
  intro l
  induction l with
  | nil => intro _; exact List.Pairwise.nil
  | cons x l ih => intro h; exact List.pairwise_cons.2 ⟨h.head_lt, ih h.tail⟩
theorem pw_ext : ∀ {a b : List Int}, a.Pairwise (· < ·) → b.Pairwise (· < ·) → (∀ x, x ∈ a ↔ x ∈ b) → a = b := by
  intro a
  induction a with
  | nil =>
    intro b _ _ h
    rcases b with _ | ⟨y, b⟩
    · rfl
    · exact absurd ((h y).2 (by simp)) (by simp)
  | cons x a ih =>
    intro b ha hb h
    rcases b with _ | ⟨y, b⟩
    · exact absurd ((h x).1 (by simp)) (by simp)
    · have ha' := List.pairwise_cons.1 ha
      have hb' := List.pairwise_cons.1 hb
      have hxy : x = y := by
        have h1 := (h x).1 (by simp)
        have h2 := (h y).2 (by simp)
        rcases List.mem_cons.1 h1 with h1 | h1
        · exact h1
        · rcases List.mem_cons.1 h2 with h2 | h2
          · exact h2.symm
          · have := ha'.1 y h2
            have := hb'.1 x h1
            omega
      subst hxy
      rw [ih ha'.2 hb'.2 fun z => ?_]
      have h1 := h z
      simp only [List.mem_cons] at h1
      constructor
      · intro hz
        rcases h1.1 (.inr hz) with e | e
        · have := ha'.1 z hz; omega
        · exact e
      · intro hz
        rcases h1.2 (.inr hz) with e | e
        · have := hb'.1 z hz; omega
        · exact e
theorem mem_LI {p : Nat → Bool} {x : Int} : x ∈ L p ↔ ∃ i : Nat, x = (i : Int) ∧ i < 65536 ∧ p i = true := by
  constructor
  · intro h
    have hb := L_bd h
    obtain ⟨i, rfl⟩ := Int.eq_ofNat_of_zero_le hb.1
    exact ⟨i, rfl, by omega, (mem_L (by omega)).1 h⟩
  · rintro ⟨i, rfl, h1, h2⟩
    exact (mem_L h1).2 h2
theorem L_unique {p : Nat → Bool} {l : List Int} (h : l.Pairwise (· < ·)) (hm : ∀ x : Int, x ∈ l ↔ ∃ i : Nat, x = (i : Int) ∧ i < 65536 ∧ p i = true) : l = L p :=
  pw_ext h (rise_pw (L_rise p)) fun x => (hm x).trans mem_LI.symm
theorem getD_mem {l : List Int} {k : Nat} (hk : k < l.length) : l.getD k 0 ∈ l := by
  rw [List.getD_eq_getElem?_getD, List.getElem?_eq_getElem hk]
  exact List.getElem_mem hk
theorem mem_getD {l : List Int} {x : Int} (h : x ∈ l) : ∃ k, k < l.length ∧ l.getD k 0 = x := by
  obtain ⟨k, hk, rfl⟩ := List.getElem_of_mem h
  exact ⟨k, hk, by rw [List.getD_eq_getElem?_getD, List.getElem?_eq_getElem hk]; rfl⟩
theorem isIn_mem {l : List Int} (hR : Rise l) (v : Int) : isIn l v = true ↔ v ∈ l := by
  unfold isIn
  simp only [Bool.and_eq_true, decide_eq_true_eq, beq_iff_eq]
  constructor
  · rintro ⟨h1, h2⟩
    rw [← h2]
    exact getD_mem h1
  · intro h
    obtain ⟨k, hk, rfl⟩ := mem_getD h
    have h1 : k ≥ lowr l (l.getD k 0) := by
      rcases Nat.lt_or_ge k (lowr l (l.getD k 0)) with h1 | h1
      · exact absurd (lowr_lt k h1) (by omega)
      · exact h1
    rcases Nat.lt_or_ge (lowr l (l.getD k 0)) k with h2 | h2
    · have h3 := lowr_ge hR (v := l.getD k 0) (lowr l (l.getD k 0)) (Nat.le_refl _) (by omega)
      have h4 := rise_lt hR _ _ h2 hk
      omega
    · have h5 : lowr l (l.getD k 0) = k := by omega
      rw [h5]
      exact ⟨hk, rfl⟩
theorem isIn_L {p : Nat → Bool} {v : Nat} (hv : v < 65536) : isIn (L p) v = p v := by
  rw [Bool.eq_iff_iff, isIn_mem (L_rise p), mem_L hv]
theorem next_L {p : Nat → Bool} {v : Nat} : ∃ x : Int, (if lowr (L p) v < (L p).length then ((L p).getD (lowr (L p) v) 0, true) else (0, false)) = toldR x ∧ NextB p v 65536 x := by
  by_cases h : lowr (L p) v < (L p).length
  · obtain ⟨x, h1, h2, h3⟩ := L_at h
    rw [if_pos h, h1]
    refine ⟨x, by unfold toldR; rw [if_neg (by omega)], .inr ⟨x, rfl, ?_, h2, h3, fun j hj1 hj2 => ?_⟩⟩
    · have := lowr_ge (L_rise p) (v := (v : Int)) _ (Nat.le_refl _) h
      omega
    · rw [← Bool.not_eq_true, ← mem_L (show j < 65536 by omega)]
      intro hj
      obtain ⟨k, hk, hk2⟩ := mem_getD hj
      rcases Nat.lt_or_ge k (lowr (L p) v) with h4 | h4
      · have := lowr_lt k h4; omega
      · rcases Nat.lt_or_ge (lowr (L p) v) k with h5 | h5
        · have := rise_lt (L_rise p) _ _ h5 hk; omega
        · have : k = lowr (L p) v := by omega
          subst this
          omega
  · rw [if_neg h]
    refine ⟨-1, rfl, .inl ⟨rfl, fun j hj1 hj2 => ?_⟩⟩
    rw [← Bool.not_eq_true, ← mem_L hj2]
    intro hj
    obtain ⟨k, hk, hk2⟩ := mem_getD hj
    have := lowr_lt (l := L p) (v := (v : Int)) k (by omega)
    omega
theorem addR_in {l : List Int} {v : Int} (h : isIn l v = true) : addR l v = l := by unfold addR; rw [if_pos h]
/-- one more in a rising list -/
theorem addR_out {l : List Int} (hR : Rise l) {v : Int} (hn : v ∉ l) : (addR l v).Pairwise (· < ·) ∧ ∀ x, x ∈ addR l v ↔ x = v ∨ x ∈ l := by
  have hni : ¬ isIn l v = true := fun h => hn ((isIn_mem hR v).1 h)
  have hpw := rise_pw hR
  have ht : ∀ x ∈ l.take (lowr l v), x < v := fun x hx => by
    obtain ⟨k, hk, rfl⟩ := List.getElem_of_mem hx
    have hk2 : k < lowr l v := by have := hk; simp at this; omega
    have hk3 : k < l.length := by have := hk; simp at this; omega
    have := lowr_lt k hk2
    rw [List.getD_eq_getElem?_getD, List.getElem?_eq_getElem hk3] at this
    rw [List.getElem_take]
    exact this
  have hd : ∀ x ∈ l.drop (lowr l v), v < x := fun x hx => by
    obtain ⟨k, hk, rfl⟩ := List.getElem_of_mem hx
    have hk3 : lowr l v + k < l.length := by have := hk; simp at this; omega
    have := lowr_ge hR (v := v) (lowr l v + k) (by omega) hk3
    rw [List.getD_eq_getElem?_getD, List.getElem?_eq_getElem hk3] at this
    have hne : l[lowr l v + k] ≠ v := fun e => hn (e ▸ List.getElem_mem hk3)
    rw [List.getElem_drop]
    simp only [Option.getD_some] at this
    omega
  unfold addR
  rw [if_neg hni]
  generalize lowr l v = n at *
  refine ⟨?_, fun x => ?_⟩
  · rw [List.append_assoc]
    refine List.pairwise_append.2 ⟨hpw.sublist (List.take_sublist _ _), ?_, fun a ha b hb => ?_⟩
    · rw [List.singleton_append]
      exact List.pairwise_cons.2 ⟨hd, hpw.sublist (List.drop_sublist _ _)⟩
    · have h1 := ht a ha
      rcases List.mem_append.1 hb with hb | hb
      · simp at hb; omega
      · have := hd b hb; omega
  · have hs : x ∈ l ↔ x ∈ l.take n ∨ x ∈ l.drop n := by rw [← List.mem_append, List.take_append_drop]
    rw [List.mem_append, List.mem_append, List.mem_singleton, hs]
    constructor
    · rintro ((h | h) | h)
      · exact .inr (.inl h)
      · exact .inl h
      · exact .inr (.inr h)
    · rintro (h | h | h)
      · exact .inl (.inr h)
      · exact .inl (.inl h)
      · exact .inr h
def withV (p : Nat → Bool) (v : Nat) : Nat → Bool := fun i => p i || decide (i = v)
theorem withV_eq (p : Nat → Bool) (v i : Nat) : withV p v i = true ↔ p i = true ∨ i = v := by unfold withV; simp
theorem addR_L {p : Nat → Bool} {v : Nat} (hv : v < 65536) : addR (L p) v = L (withV p v) := by
  by_cases h : p v = true
  · rw [addR_in (by rw [isIn_L hv]; exact h)]
    refine L_congr fun i hi => ?_
    rw [Bool.eq_iff_iff, withV_eq]
    exact ⟨.inl, fun h2 => h2.elim id fun e => by rw [e]; exact h⟩
  · have h1 := addR_out (L_rise p) (v := (v : Int)) (fun hm => h ((mem_L hv).1 hm))
    refine L_unique h1.1 fun x => (h1.2 x).trans ?_
    rw [mem_LI]
    constructor
    · rintro (rfl | ⟨i, e, h2, h3⟩)
      · exact ⟨v, rfl, hv, (withV_eq _ _ _).2 (.inr rfl)⟩
      · exact ⟨i, e, h2, (withV_eq _ _ _).2 (.inl h3)⟩
    · rintro ⟨i, e, h2, h3⟩
      rcases (withV_eq _ _ _).1 h3 with h4 | rfl
      · exact .inr ⟨i, e, h2, h4⟩
      · exact .inl e
/-- words of a list -/
theorem setW_ws {ws : List Nat} (h : Ws ws) (v : Nat) : Ws (setW ws v) := by
  unfold setW
  refine h.set _ _ ?_
  refine or_lt64 _ _ ?_ ?_
  · rcases Nat.lt_or_ge (v / 64) 1024 with h1 | h1
    · exact h.at_ h1
    · rw [List.getD_eq_getElem?_getD, List.getElem?_eq_none (by rw [h.1]; exact h1)]; decide
  · exact Nat.lt_of_lt_of_le (Nat.pow_lt_pow_right (by decide) (Nat.mod_lt v (by decide))) (Nat.le_refl _)
theorem setAll_bit : ∀ (l : List Int) (ws : List Nat), Ws ws → (∀ x ∈ l, 0 ≤ x ∧ x < 65536) → Ws (setAll ws l) ∧ ∀ i, i < 65536 → wbit (setAll ws l) i = (wbit ws i || decide ((i : Int) ∈ l)) := by
  intro l
  induction l with
  | nil => intro ws hw _; exact ⟨hw, fun i _ => by simp [setAll]⟩
  | cons x l ih =>
    intro ws hw hb
    have hx := hb x (by simp)
    have h1 := ih (setW ws x.toNat) (setW_ws hw _) (fun y hy => hb y (by simp [hy]))
    refine ⟨h1.1, fun i hi => ?_⟩
    have h2 := h1.2 i hi
    rw [setW_bit ws hw _ _ (by omega)] at h2
    show wbit (setAll (setW ws x.toNat) l) i = _
    rw [h2]
    have e : decide (i = x.toNat) = decide ((i : Int) = x) := by rw [decide_eq_decide]; omega
    rw [e]
    by_cases h3 : (i : Int) = x <;> by_cases h4 : (i : Int) ∈ l <;> simp [h3, h4]
theorem zeros_bit (i : Nat) : wbit (List.replicate 1024 0) i = false := by
  unfold wbit
  rcases Nat.lt_or_ge (i / 64) 1024 with h | h
  · rw [List.getD_eq_getElem?_getD, List.getElem?_replicate, if_pos h]; simp
  · rw [List.getD_eq_getElem?_getD, List.getElem?_replicate, if_neg (by omega)]; simp
theorem setAll_L (p : Nat → Bool) : Ws (setAll (List.replicate 1024 0) (L p)) ∧ ∀ i, i < 65536 → wbit (setAll (List.replicate 1024 0) (L p)) i = p i := by
  have h := setAll_bit (L p) _ zeros_ws (fun x hx => L_bd hx)
  refine ⟨h.1, fun i hi => ?_⟩
  rw [h.2 i hi, zeros_bit, Bool.false_or, Bool.eq_iff_iff, decide_eq_true_eq, mem_L hi]
theorem size_L {ws : List Nat} {p : Nat → Bool} (h : ∀ i, i < 65536 → wbit ws i = p i) : size ws = (L p).length := by
  rw [L_len]; exact cnt_congr _ (fun i _ hi => h i hi)
end Go.Proofs.YtbjekoljipjldaaGreatDoor
namespace Go.Proofs.YtbjekoljipjldaaGreatDoor
set_option linter.unusedVariables false
set_option linter.unusedSimpArgs false
open Go.RowKit

set_option maxRecDepth 100000 in
set_option maxHeartbeats 1000000 in
theorem arrHas (A : Option Addr) (c : Nat) (l : List Int) (v : Int) (w : World) (hr : Rd .u16 w A l) (hR : Rise l) (hlen : l.length ≤ 900000) :
    Calls Tryz.prog 158 #[.slice A l.length c, .int .u16 v] w fun e w' => ∃ b : Bool, e = .returned (.bool b) ∧ Hid (b = isIn l v) ∧ Below w.heap.size w w' := by
  have HR := Lib.hid hr
  have HRI := Lib.hid hR
  clear hr hR
  go_enter Tryz.func158, Tryz.ntmps158
  go_wp2_with fail
  refine (bsearch16 A c l v _ HR.out HRI.out (by omega)).mono ?_
  rintro e w1 ⟨i, b, rfl, HI, HB, hb1⟩
  go_wp2
  go_ret
  exact ⟨b, rfl, HB, hb1⟩
/-- array.Select -/
def selR (l : List Int) (k : Int) : Int × Bool := if k < 0 ∨ (l.length : Int) ≤ k then (0, false) else (l.getD k.toNat 0, true)
set_option maxRecDepth 100000 in
set_option maxHeartbeats 1000000 in
theorem arrSelect (A : Option Addr) (c : Nat) (l : List Int) (k : Int) (w : World) (hr : Rd .u16 w A l) :
    Calls Tryz.prog 160 #[.slice A l.length c, .int .i64 k] w fun e w' => e = .returned (.tuple #[.int .u16 (selR l k).1, .bool (selR l k).2]) ∧ Below w.heap.size w w' := by
  have HR := Lib.hid hr
  clear hr
  go_enter Tryz.func160, Tryz.ntmps160
  by_cases h0 : k < 0
  · have HS := Lib.hid (show selR l k = (0, false) by unfold selR; rw [if_pos (.inl h0)])
    go_wp2
    go_ret2
    exact ⟨by rw [HS.out]; rfl, Below.refl _ _⟩
  · by_cases h1 : (l.length : Int) ≤ k
    · have HS := Lib.hid (show selR l k = (0, false) by unfold selR; rw [if_pos (.inr h1)])
      go_wp2
      go_ret2
      exact ⟨by rw [HS.out]; rfl, Below.refl _ _⟩
    · obtain ⟨n, rfl⟩ := Int.eq_ofNat_of_zero_le (show 0 ≤ k by omega)
      have hn : n < l.length := by omega
      obtain ⟨ad, rfl, had, hc⟩ := HR.out n hn
      have HS := Lib.hid (show selR l n = (l.getD n 0, true) by unfold selR; rw [if_neg (by omega)]; rfl)
      generalize l.getD n 0 = x at *
      go_wp2
      go_ret2
      exact ⟨by rw [HS.out]; rfl, Below.refl _ _⟩
/-- the i-th number, or none, of a looked-up place -/
theorem arrSelect' (A : Option Addr) (c : Nat) (l : List Int) (k : Int) (w : World) (hr : Rd .u16 w A l) :
    Calls Tryz.prog 160 #[.slice A l.length c, .int .i64 k] w fun e w' => ∃ (x : Int) (b : Bool), e = .returned (.tuple #[.int .u16 x, .bool b]) ∧ Hid (selR l k = (x, b)) ∧ Below w.heap.size w w' :=
  (arrSelect A c l k w hr).mono fun e w' ⟨he, hb⟩ => ⟨_, _, he, rfl, hb⟩
/-- array.Next, array.Prev -/
def nextR (l : List Int) (v : Int) : Int × Bool := selR l (lowr l v)
set_option maxRecDepth 100000 in
set_option maxHeartbeats 1000000 in
theorem arrNext (A : Option Addr) (c : Nat) (l : List Int) (v : Int) (w : World) (hr : Rd .u16 w A l) (hR : Rise l) (hlen : l.length ≤ 900000) :
    Calls Tryz.prog 159 #[.slice A l.length c, .int .u16 v] w fun e w' => e = .returned (.tuple #[.int .u16 (nextR l v).1, .bool (nextR l v).2]) ∧ Below w.heap.size w w' := by
  have HR := Lib.hid hr
  have HRI := Lib.hid hR
  clear hr hR
  go_enter Tryz.func159, Tryz.ntmps159
  go_wp2_with fail
  refine (bsearch16 A c l v _ HR.out HRI.out (by omega)).mono ?_
  rintro e w1 ⟨i, b, rfl, HI, HB, hb1⟩
  have HN := Lib.hid (show nextR l v = selR l i by unfold nextR; rw [HI.out])
  go_wp2_with fail
  refine (arrSelect' A c l i _ (HR.out.below hb1)).mono ?_
  rintro e w2 ⟨x, y, rfl, HX, hb2⟩
  go_wp2
  go_ret2
  exact ⟨by rw [HN.out, HX.out]; rfl, below_then hb1 hb2⟩
theorem nextR_L (p : Nat → Bool) (v : Nat) : ∃ x : Int, nextR (L p) v = toldR x ∧ NextB p v 65536 x := by
  obtain ⟨x, h1, h2⟩ := next_L (p := p) (v := v)
  refine ⟨x, ?_, h2⟩
  rw [← h1]
  unfold nextR selR
  by_cases h : lowr (L p) v < (L p).length
  · rw [if_pos h, if_neg (by omega), Int.toNat_natCast]
  · rw [if_neg h, if_pos (by omega)]
theorem m1_has (x : Value) (w : World) : (method 287 78 (.agg #[x]) "stepstone/box.has").run Tryz.prog w = .ok (151, .agg #[x]) w := by kernel_rfl
theorem m2_has (x : Value) (w : World) : (method 287 83 (.agg #[x]) "stepstone/box.has").run Tryz.prog w = .ok (163, .agg #[x]) w := by kernel_rfl
theorem m3_has (x : Value) (w : World) : (method 287 87 (.agg #[x]) "stepstone/box.has").run Tryz.prog w = .ok (174, .agg #[x]) w := by kernel_rfl
theorem m1_size (x : Value) (w : World) : (method 287 78 (.agg #[x]) "stepstone/box.size").run Tryz.prog w = .ok (157, .agg #[x]) w := by kernel_rfl
theorem m2_size (x : Value) (w : World) : (method 287 83 (.agg #[x]) "stepstone/box.size").run Tryz.prog w = .ok (169, .agg #[x]) w := by kernel_rfl
theorem m3_size (x : Value) (w : World) : (method 287 87 (.agg #[x]) "stepstone/box.size").run Tryz.prog w = .ok (180, .agg #[x]) w := by kernel_rfl
theorem m1_next (x : Value) (w : World) : (method 287 78 (.agg #[x]) "stepstone/box.next").run Tryz.prog w = .ok (154, .agg #[x]) w := by kernel_rfl
theorem m2_next (x : Value) (w : World) : (method 287 83 (.agg #[x]) "stepstone/box.next").run Tryz.prog w = .ok (166, .agg #[x]) w := by kernel_rfl
theorem m3_next (x : Value) (w : World) : (method 287 87 (.agg #[x]) "stepstone/box.next").run Tryz.prog w = .ok (177, .agg #[x]) w := by kernel_rfl
theorem m1_list (x : Value) (w : World) : (method 287 78 (.agg #[x]) "stepstone/box.list").run Tryz.prog w = .ok (153, .agg #[x]) w := by kernel_rfl
theorem m2_list (x : Value) (w : World) : (method 287 83 (.agg #[x]) "stepstone/box.list").run Tryz.prog w = .ok (165, .agg #[x]) w := by kernel_rfl
theorem m3_list (x : Value) (w : World) : (method 287 87 (.agg #[x]) "stepstone/box.list").run Tryz.prog w = .ok (176, .agg #[x]) w := by kernel_rfl
theorem m1_kind (x : Value) (w : World) : (method 287 78 (.agg #[x]) "stepstone/box.kind").run Tryz.prog w = .ok (152, .agg #[x]) w := by kernel_rfl
theorem m2_kind (x : Value) (w : World) : (method 287 83 (.agg #[x]) "stepstone/box.kind").run Tryz.prog w = .ok (164, .agg #[x]) w := by kernel_rfl
theorem m3_kind (x : Value) (w : World) : (method 287 87 (.agg #[x]) "stepstone/box.kind").run Tryz.prog w = .ok (175, .agg #[x]) w := by kernel_rfl
theorem m1_cost (x : Value) (w : World) : (method 287 78 (.agg #[x]) "stepstone/box.cost").run Tryz.prog w = .ok (150, .agg #[x]) w := by kernel_rfl
theorem m2_cost (x : Value) (w : World) : (method 287 83 (.agg #[x]) "stepstone/box.cost").run Tryz.prog w = .ok (162, .agg #[x]) w := by kernel_rfl
set_option maxRecDepth 100000 in
theorem k1Kind (y : Value) (w : World) : Calls Tryz.prog 152 #[.agg #[y]] w fun e w' => e = .returned (.int .i64 1) ∧ Below w.heap.size w w' := by
  go_enter Tryz.func152, Tryz.ntmps152
  go_wp2
  go_ret
  exact ⟨rfl, (Below.refl _ _).alloc (Nat.le_refl _) _⟩
set_option maxRecDepth 100000 in
theorem k2Kind (y : Value) (w : World) : Calls Tryz.prog 164 #[.agg #[y]] w fun e w' => e = .returned (.int .i64 2) ∧ Below w.heap.size w w' := by
  go_enter Tryz.func164, Tryz.ntmps164
  go_wp2
  go_ret
  exact ⟨rfl, (Below.refl _ _).alloc (Nat.le_refl _) _⟩
set_option maxRecDepth 100000 in
theorem k3Kind (y : Value) (w : World) : Calls Tryz.prog 175 #[.agg #[y]] w fun e w' => e = .returned (.int .i64 3) ∧ Below w.heap.size w w' := by
  go_enter Tryz.func175, Tryz.ntmps175
  go_wp2
  go_ret
  exact ⟨rfl, (Below.refl _ _).alloc (Nat.le_refl _) _⟩
set_option maxRecDepth 100000 in
theorem k2Cost (y : Value) (w : World) : Calls Tryz.prog 162 #[.agg #[y]] w fun e w' => e = .returned (.int .i64 1024) ∧ Below w.heap.size w w' := by
  go_enter Tryz.func162, Tryz.ntmps162
  go_wp2
  go_ret
  exact ⟨rfl, (Below.refl _ _).alloc (Nat.le_refl _) _⟩
set_option maxRecDepth 100000 in
theorem k1Size (A : Option Addr) (n c : Nat) (w : World) : Calls Tryz.prog 157 #[.agg #[.slice A n c]] w fun e w' => e = .returned (.int .i64 n) ∧ Below w.heap.size w w' := by
  go_enter Tryz.func157, Tryz.ntmps157
  go_wp2
  go_ret
  exact ⟨rfl, (Below.refl _ _).alloc (Nat.le_refl _) _⟩
set_option maxRecDepth 100000 in
theorem k1Cost (A : Option Addr) (n c : Nat) (w : World) : Calls Tryz.prog 150 #[.agg #[.slice A n c]] w fun e w' => e = .returned (.int .i64 n) ∧ Below w.heap.size w w' := by
  go_enter Tryz.func150, Tryz.ntmps150
  go_wp2
  go_ret
  exact ⟨rfl, (Below.refl _ _).alloc (Nat.le_refl _) _⟩
set_option maxRecDepth 100000 in
theorem k3Cost (A : Option Addr) (n c : Nat) (w : World) (hn : n ≤ 65536) : Calls Tryz.prog 59 #[.agg #[.slice A n c]] w fun e w' => e = .returned (.int .i64 (2 * (n : Int))) ∧ Below w.heap.size w w' := by
  go_enter Tryz.func59, Tryz.ntmps59
  go_wp2
  go_ret
  exact ⟨rfl, (Below.refl _ _).alloc (Nat.le_refl _) _⟩
set_option maxRecDepth 100000 in
set_option maxHeartbeats 1000000 in
theorem k1Has (A : Option Addr) (c : Nat) (p : Nat → Bool) (v : Nat) (w : World) (hr : Rd .u16 w A (L p)) (hv : v < 65536) :
    Calls Tryz.prog 151 #[.agg #[.slice A (L p).length c], .int .u16 (v : Nat)] w fun e w' => e = .returned (.bool (p v)) ∧ Below w.heap.size w w' := by
  have HR := Lib.hid hr; have HL := Lib.hid (L_le p); clear hr
  go_enter Tryz.func151, Tryz.ntmps151
  go_wp2_with fail
  refine (arrHas A c (L p) v _ (HR.out.below ((Below.refl _ _).alloc (Nat.le_refl _) _)) (L_rise p) (by have := HL.out; omega)).mono ?_
  rintro e w1 ⟨r, rfl, HV, hb1⟩
  go_wp2
  (go_ret; exact ⟨by rw [HV.out, isIn_L hv]; rfl, below_then ((Below.refl _ _).alloc (Nat.le_refl _) _) hb1⟩)
set_option maxRecDepth 100000 in
set_option maxHeartbeats 1000000 in
theorem k2Has (b s d : Nat) (ws : List Nat) (v : Nat) (w : World) (hB : Bm w b s d ws) (hv : v < 65536) :
    Calls Tryz.prog 163 #[.agg #[.pointer (some ⟨b, 0, none⟩)], .int .u16 (v : Nat)] w fun e w' => e = .returned (.bool (wbit ws v)) ∧ Below w.heap.size w w' := by
  have HR := Lib.hid hB; clear hB
  go_enter Tryz.func163, Tryz.ntmps163
  go_wp2_with fail
  refine (bmHas b s d ws v _ (HR.out.below ((Below.refl _ _).alloc (Nat.le_refl _) _)) hv).mono ?_
  rintro e w1 ⟨rfl, rfl⟩
  go_wp2
  (go_ret; exact ⟨rfl, (Below.refl _ _).alloc (Nat.le_refl _) _⟩)
set_option maxRecDepth 100000 in
set_option maxHeartbeats 1000000 in
theorem k3Has (A : Option Addr) (c : Nat) (R : List (Nat × Nat)) (p : Nat → Bool) (v : Nat) (w : World) (hr : RdN w A R) (hp : RunsOf R p) (hl : R.length ≤ 65536) (hv : v < 65536) :
    Calls Tryz.prog 174 #[.agg #[.slice A R.length c], .int .u16 (v : Nat)] w fun e w' => e = .returned (.bool (p v)) ∧ Below w.heap.size w w' := by
  have HR := Lib.hid hr; have HP := Lib.hid hp; clear hr hp
  go_enter Tryz.func174, Tryz.ntmps174
  go_wp2_with fail
  refine (runsHas A c R p v _ (HR.out.below ((Below.refl _ _).alloc (Nat.le_refl _) _)) HP.out hl hv).mono ?_
  rintro e w1 ⟨rfl, hb1⟩
  go_wp2
  (go_ret; exact ⟨rfl, below_then ((Below.refl _ _).alloc (Nat.le_refl _) _) hb1⟩)
set_option maxRecDepth 100000 in
set_option maxHeartbeats 1000000 in
theorem k1Next (A : Option Addr) (c : Nat) (p : Nat → Bool) (v : Nat) (w : World) (hr : Rd .u16 w A (L p)) :
    Calls Tryz.prog 154 #[.agg #[.slice A (L p).length c], .int .u16 (v : Nat)] w fun e w' => ∃ x : Int, e = .returned (.tuple #[.int .u16 (toldR x).1, .bool (toldR x).2]) ∧ Hid (NextB p v 65536 x) ∧ Below w.heap.size w w' := by
  have HR := Lib.hid hr; have HL := Lib.hid (L_le p); have HX := Lib.hid (nextR_L p v); clear hr
  go_enter Tryz.func154, Tryz.ntmps154
  go_wp2_with fail
  refine (arrNext A c (L p) v _ (HR.out.below ((Below.refl _ _).alloc (Nat.le_refl _) _)) (L_rise p) (by have := HL.out; omega)).mono ?_
  rintro e w1 ⟨rfl, hb1⟩
  go_wp2
  (go_ret2; obtain ⟨x, h1, h2⟩ := HX.out; exact ⟨x, by rw [← h1]; rfl, h2, below_then ((Below.refl _ _).alloc (Nat.le_refl _) _) hb1⟩)
set_option maxRecDepth 100000 in
set_option maxHeartbeats 1000000 in
theorem k2Next (b s d : Nat) (ws : List Nat) (v : Nat) (w : World) (hB : Bm w b s d ws) (hT : Tab64 w) (hv : v < 65536) :
    Calls Tryz.prog 166 #[.agg #[.pointer (some ⟨b, 0, none⟩)], .int .u16 (v : Nat)] w fun e w' => ∃ x : Int, e = .returned (.tuple #[.int .u16 (toldR x).1, .bool (toldR x).2]) ∧ Hid (NextB (wbit ws) v 65536 x) ∧ Below w.heap.size w w' := by
  have HR := Lib.hid hB; have HT := Lib.hid hT; clear hB hT
  go_enter Tryz.func166, Tryz.ntmps166
  go_wp2_with fail
  refine (bmNext b s d ws v _ (HR.out.below ((Below.refl _ _).alloc (Nat.le_refl _) _)) (HT.out.stays ((Below.refl _ _).alloc (Nat.le_refl _) _)) hv).mono ?_
  rintro e w1 ⟨x, rfl, HX, hb1⟩
  go_wp2
  (go_ret2; exact ⟨x, rfl, HX, below_then ((Below.refl _ _).alloc (Nat.le_refl _) _) hb1⟩)
set_option maxRecDepth 100000 in
set_option maxHeartbeats 1000000 in
theorem k3Next (A : Option Addr) (c : Nat) (R : List (Nat × Nat)) (p : Nat → Bool) (v : Nat) (w : World) (hr : RdN w A R) (hp : RunsOf R p) (hl : R.length ≤ 65536) (hv : v < 65536) :
    Calls Tryz.prog 177 #[.agg #[.slice A R.length c], .int .u16 (v : Nat)] w fun e w' => ∃ x : Int, e = .returned (.tuple #[.int .u16 (toldR x).1, .bool (toldR x).2]) ∧ Hid (NextB p v 65536 x) ∧ Below w.heap.size w w' := by
  have HR := Lib.hid hr; have HP := Lib.hid hp; clear hr hp
  go_enter Tryz.func177, Tryz.ntmps177
  go_wp2_with fail
  refine (runsNext A c R p v _ (HR.out.below ((Below.refl _ _).alloc (Nat.le_refl _) _)) HP.out hl hv).mono ?_
  rintro e w1 ⟨x, rfl, HX, hb1⟩
  go_wp2
  (go_ret2; exact ⟨x, rfl, HX, below_then ((Below.refl _ _).alloc (Nat.le_refl _) _) hb1⟩)
set_option maxRecDepth 100000 in
set_option maxHeartbeats 1000000 in
theorem k1List (A : Option Addr) (c : Nat) (p : Nat → Bool) (w : World) (hr : Rd .u16 w A (L p)) :
    Calls Tryz.prog 153 #[.agg #[.slice A (L p).length c]] w fun e w' => ∃ v, e = .returned v ∧ Own .u16 43 w' w.heap.size v (L p) ∧ Below w.heap.size w w' := by
  have HR := Lib.hid hr; have HL := Lib.hid (L_le p); clear hr
  go_enter Tryz.func153, Tryz.ntmps153
  go_wp2_with fail
  refine (clone16 A c (L p) _ (HR.out.below ((Below.refl _ _).alloc (Nat.le_refl _) _)) (by have := HL.out; omega)).mono ?_
  rintro e w1 ⟨v, rfl, ho, hb1⟩
  go_wp2
  (go_ret; exact ⟨v, rfl, ho.mono (by simp), below_then ((Below.refl _ _).alloc (Nat.le_refl _) _) hb1⟩)
set_option maxRecDepth 100000 in
set_option maxHeartbeats 1000000 in
theorem k3List (A : Option Addr) (c : Nat) (R : List (Nat × Nat)) (p : Nat → Bool) (w : World) (hr : RdN w A R) (hp : RunsOf R p) (hl : R.length ≤ 65536) :
    Calls Tryz.prog 176 #[.agg #[.slice A R.length c]] w fun e w' => ∃ v, e = .returned v ∧ Own .u16 43 w' w.heap.size v (L p) ∧ Below w.heap.size w w' := by
  have HR := Lib.hid hr; have HP := Lib.hid hp; have HF := Lib.hid (show (flat R).length ≤ 65536 by rw [hp.2]; have := L_le p; rw [L_eq] at this; simpa using this); have HE := Lib.hid (show ints (flat R) = L p by rw [hp.2, L_eq]; rfl); clear hr hp
  go_enter Tryz.func176, Tryz.ntmps176
  go_wp2_with fail
  refine (runsList A c R _ (HR.out.below ((Below.refl _ _).alloc (Nat.le_refl _) _)) HP.out.1 HF.out hl).mono ?_
  rintro e w1 ⟨v, rfl, ho, hb1⟩
  go_wp2
  (go_ret; exact ⟨v, rfl, by rw [← HE.out]; exact ho.mono (by simp), below_then ((Below.refl _ _).alloc (Nat.le_refl _) _) hb1⟩)
set_option maxRecDepth 100000 in
set_option maxHeartbeats 1000000 in
theorem k3Size (A : Option Addr) (c : Nat) (R : List (Nat × Nat)) (p : Nat → Bool) (w : World) (hr : RdN w A R) (hp : RunsOf R p) (hl : R.length ≤ 65536) :
    Calls Tryz.prog 180 #[.agg #[.slice A R.length c]] w fun e w' => e = .returned (.int .i64 ((L p).length : Nat)) ∧ Below w.heap.size w w' := by
  have HR := Lib.hid hr; have HP := Lib.hid hp; have HF := Lib.hid (show (flat R).length ≤ 65536 by rw [hp.2]; have := L_le p; rw [L_eq] at this; simpa using this); have HE := Lib.hid (show (flat R).length = (L p).length by rw [hp.2, L_eq]; simp); clear hr hp
  go_enter Tryz.func180, Tryz.ntmps180
  go_wp2_with fail
  refine (runsLen A c R _ (HR.out.below ((Below.refl _ _).alloc (Nat.le_refl _) _)) HP.out.1 HF.out hl).mono ?_
  rintro e w1 ⟨rfl, hb1⟩
  go_wp2
  (go_ret; exact ⟨by rw [← HE.out]; rfl, below_then ((Below.refl _ _).alloc (Nat.le_refl _) _) hb1⟩)
set_option maxRecDepth 100000 in
set_option maxHeartbeats 1000000 in
theorem k2Size (b s d : Nat) (ws : List Nat) (w : World) (hB : Bm w b s d ws) :
    Calls Tryz.prog 169 #[.agg #[.pointer (some ⟨b, 0, none⟩)]] w fun e w' => e = .returned (.int .i64 (size ws : Nat)) ∧ Below w.heap.size w w' := by
  have HR := Lib.hid hB; clear hB
  go_enter Tryz.func169, Tryz.ntmps169
  go_wp2_with fail
  refine (bmLen b s d ws _ (HR.out.below ((Below.refl _ _).alloc (Nat.le_refl _) _))).mono ?_
  rintro e w1 ⟨rfl, rfl⟩
  go_wp2
  (go_ret; exact ⟨rfl, (Below.refl _ _).alloc (Nat.le_refl _) _⟩)
set_option maxRecDepth 100000 in
set_option maxHeartbeats 1000000 in
theorem k2List (b s d : Nat) (ws : List Nat) (p : Nat → Bool) (w : World) (hB : Bm w b s d ws) (hT : Tab64 w) (hp : ∀ i, i < 65536 → wbit ws i = p i) :
    Calls Tryz.prog 165 #[.agg #[.pointer (some ⟨b, 0, none⟩)]] w fun e w' => ∃ v, e = .returned v ∧ Own .u16 43 w' w.heap.size v (L p) ∧ Below w.heap.size w w' := by
  have HB := Lib.hid hB
  have HT := Lib.hid hT
  have HP := Lib.hid hp
  clear hB hT hp
  go_enter Tryz.func165, Tryz.ntmps165
  go_wp2_with fail
  refine (bmAllMake b _).mono ?_
  rintro e w1 ⟨rfl, rfl⟩
  have HBW := Lib.hid (((Below.refl w.heap.size w).alloc (Nat.le_refl _) (.cells #[.pointer (some ⟨b, 0, none⟩)] 83)).alloc (by simp) (.cells #[.pointer (some ⟨b, 0, none⟩)] 60))
  go_wp2_with fail
  refine (collectBm (w.heap.size + 1) b s d ws _ (blk_cell (alloc_at (by simp)) 0 rfl) (by simp) (HB.out.below HBW.out) (HT.out.stays HBW.out)).mono ?_
  rintro e w2 ⟨v, rfl, ⟨xs, hxs, ho⟩, hb⟩
  have HX := Lib.hid hxs
  have HO := Lib.hid ho
  have HBB := Lib.hid (below_then HBW.out hb)
  clear hxs ho hb
  go_wp2
  go_ret
  refine ⟨v, rfl, ?_, HBB.out⟩
  have h := HO.out.mono (base' := w.heap.size) (by simp; omega)
  rw [HX.out, bl_congr 65536 HP.out, ← LN_eq, ← L_def] at h
  exact h
end Go.Proofs.YtbjekoljipjldaaGreatDoor
