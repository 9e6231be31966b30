/-
  Rows of elements of several cells: append of one, a cell that is set; of no program.
-/
import Derived.Test.YtmpjjehihimadaaGreatChg
import Derived.Deep.RegionLaw
namespace Go.Proofs.YtmpjjehihimadaaGreat
set_option linter.unusedVariables false
set_option linter.unusedSimpArgs false
open Go.RowKit

theorem flatN {α : Type} (f : α → List Value) (k : Nat) (hf : ∀ x, (f x).length = k) : ∀ (ls : List α) (i j : Nat) (hi : i < ls.length) (hj : j < k), (ls.flatMap f)[i * k + j]? = (f ls[i])[j]?
  | [], i, j, hi, hj => by simp at hi
  | x :: ls, 0, j, hi, hj => by
    rw [List.flatMap_cons, List.getElem?_append_left (by rw [hf]; omega)]
    simp
  | x :: ls, i + 1, j, hi, hj => by
    have h1 : (i + 1) * k = i * k + k := by rw [Nat.add_mul, Nat.one_mul]
    rw [List.flatMap_cons, List.getElem?_append_right (by rw [hf]; omega)]
    have := flatN f k hf ls i j (by simpa using hi) hj
    rw [hf, show (i + 1) * k + j - k = i * k + j by omega, this]
    simp
theorem flatL {α : Type} (f : α → List Value) (k : Nat) (hf : ∀ x, (f x).length = k) : ∀ (ls : List α), (ls.flatMap f).length = ls.length * k
  | [] => by simp
  | x :: ls => by rw [List.flatMap_cons, List.length_append, hf, flatL f k hf ls, List.length_cons, Nat.add_mul, Nat.one_mul, Nat.add_comm]
/-- some cells in a row are set, from a place on -/
def sets : List Value → Nat → List Value → List Value
  | l, _, [] => l
  | l, p, u :: us => sets (l.set p u) (p + 1) us
theorem sets_left : ∀ (us r t : List Value) (j : Nat), j + us.length ≤ r.length → sets (r ++ t) j us = sets r j us ++ t
  | [], _, _, _, _ => rfl
  | u :: us, r, t, j, h => by
    simp only [List.length_cons] at h
    unfold sets
    rw [List.set_append_left _ _ (by omega)]
    exact sets_left us (r.set j u) t (j + 1) (by rw [List.length_set]; omega)
theorem sets_right : ∀ (us r t : List Value) (j : Nat), sets (r ++ t) (r.length + j) us = r ++ sets t j us
  | [], _, _, _ => rfl
  | u :: us, r, t, j => by
    unfold sets
    rw [List.set_append_right _ _ (by omega), show r.length + j - r.length = j by omega]
    exact sets_right us r (t.set j u) (j + 1)
theorem flat_sets (k : Nat) (us : List Value) (hu : us.length ≤ k) : ∀ (rows : List (List Value)) (i : Nat), (∀ r ∈ rows, r.length = k) → ∀ (hi : i < rows.length), sets rows.flatten (i * k) us = (rows.set i (sets rows[i] 0 us)).flatten
  | [], i, _, hi => by simp at hi
  | r :: rows, 0, hr, hi => by
    have h0 := hr r (by simp)
    rw [Nat.zero_mul, List.flatten_cons, sets_left _ _ _ _ (by omega)]
    simp
  | r :: rows, i + 1, hr, hi => by
    have h0 := hr r (by simp)
    have h1 : (i + 1) * k = r.length + i * k := by rw [Nat.add_mul, Nat.one_mul, h0, Nat.add_comm]
    rw [List.flatten_cons, h1, sets_right, flat_sets k us hu rows i (fun r h => hr r (by simp [h])) (by simpa using hi)]
    simp
/-- an element is put, if its place is -/
def putAt {α : Type} (ls : List α) (i : Int) (x : α) : List α := if 0 ≤ i then ls.set i.toNat x else ls
theorem putAt_nat {α : Type} (ls : List α) (n : Nat) (x : α) : ls.set n x = putAt ls (n : Int) x := by unfold putAt; rw [if_pos (Int.natCast_nonneg n)]; rfl
theorem putAt_none {α : Type} (ls : List α) (i : Int) (x : α) (h : ¬ (0 ≤ i ∧ i < ls.length)) : putAt ls i x = ls := by
  unfold putAt
  by_cases hi : 0 ≤ i
  · rw [if_pos hi, List.set_eq_of_length_le (by omega)]
  · rw [if_neg hi]
/-- a cell of a row is set -/
theorem row_set {w : World} {base : Nat} {e : TypeId} {k g n c : Nat} {cs : List Value} (h : w.ownsRow base e k (.slice (some ⟨g, 0, none⟩) n c) n cs) (j : Nat) (u : Value) (hj : j < n * k) : (w.setCell ⟨g, j, none⟩ u).ownsRow base e k (.slice (some ⟨g, 0, none⟩) n c) n (cs.set j u) := by
  obtain ⟨h1, h2⟩ := h
  refine ⟨by simpa using h1, ?_⟩
  rcases h2 with ⟨h2, _⟩ | ⟨g', cap, cur, h2, hg, hh, hnc, hcap, hsz, htk⟩
  · cases h2
  · simp only [Value.slice.injEq, Option.some.injEq, Addr.mk.injEq, true_and, and_true] at h2
    obtain ⟨rfl, rfl⟩ := h2
    refine .inr ⟨g, c, cur.setIfInBounds j u, rfl, hg, blk_set hh j u, hnc, hcap, by simpa using hsz, ?_⟩
    rw [← htk, Array.toList_setIfInBounds, List.take_set]
theorem rowG_chg {S : Nat → Prop} {w w' : World} {base n : Nat} {e : TypeId} {k : Nat} {v : Value} {cs : List Value} (h : w.ownsRow base e k v n cs) (hc : Chg S w w') (hn : ∀ g, v.ownBlock = some g → ¬ S g) : w'.ownsRow base e k v n cs := by
  obtain ⟨h1, h2⟩ := h
  refine ⟨h1, ?_⟩
  rcases h2 with h2 | ⟨g, cap, cur, rfl, hg, hh, hr⟩
  · exact .inl h2
  · exact .inr ⟨g, cap, cur, rfl, hg, hc.blk hh (hn g rfl), hr⟩
theorem row_succ {W : World} {base : Nat} {e : TypeId} {size : Nat} {v : Value} {k : Nat} {xs : List Value} (h : W.ownsRow base e size v (k + 1) xs) : ∃ g cap, v = .slice (some ⟨g, 0, none⟩) (k + 1) cap := by
  rcases h.2 with ⟨_, h⟩ | ⟨g, cap, cur, rfl, _⟩
  · cases h
  · exact ⟨g, cap, rfl⟩
theorem rowG_lt {w : World} {base n : Nat} {e : TypeId} {k : Nat} {v : Value} {cs : List Value} (h : w.ownsRow base e k v n cs) : ∀ g, v.ownBlock = some g → base ≤ g ∧ g < w.heap.size := fun g hg => by
  rcases h.2 with ⟨rfl, _⟩ | ⟨g', cap, cur, rfl, hb, hh, _⟩
  · cases hg
  · simp only [Value.ownBlock, Option.some.injEq] at hg
    subst hg
    exact ⟨hb, blk_lt hh⟩
theorem rowG_ty {w : World} {base n : Nat} {e : TypeId} {k : Nat} {v : Value} {cs : List Value} (h : w.ownsRow base e k v n cs) : ∀ g, v.ownBlock = some g → ∃ cur, w.heap[g]? = some (.cells cur e (0, 0)) := fun g hg => by
  rcases h.2 with ⟨rfl, _⟩ | ⟨g', cap, cur, rfl, hb, hh, _⟩
  · cases hg
  · simp only [Value.ownBlock, Option.some.injEq] at hg
    subst hg
    exact ⟨cur, hh⟩
section
variable {P : Program} {ops : Array Oper} {rest : List Oper} {o : Oper} {a : Act} {Q : Exit → Act → World → Prop} {w : World}
/-- append of one element of several cells to a row of the call's own -/
theorem run_pushR {e t ty : TypeId} {i : TypeInfo} {z : Value} {by_ size : Nat} (base : Nat) (v : Value) (n : Nat) (cs news : List Value) (B : Nat)
    (ht : P.underlying t = some (.slice e)) (hi : P.info? e = some i) (hz : i.zero = some z) (hs1 : i.size = size) (hby : i.bytes = by_) (hzs : z.cells.size = size) (hsz : 0 < size)
    (hB : w.heap[B]? = some (.cells news.toArray e (0, 0))) (hnl : news.length = size) (hu : ∀ u ∈ news, u.oneCell' = true)
    (hown : w.ownsRow base e size v n cs) (hbase : base ≤ w.heap.size) (hbytes : (n + 1) * by_ ≤ 140737488355328) (hlen : n + 1 ≤ maxLen) :
    ∃ v' w', (Builtin.append_ #[t, t] ty #[v, .slice (some ⟨B, 0, none⟩) 1 1]).run P w = .ok v' w' ∧ w'.ownsRow base e size v' (n + 1) (cs ++ news) ∧ w.grownBy w' v.ownBlock ∧ (v'.ownBlock = v.ownBlock ∨ v'.ownBlock = some w.heap.size) := by
  obtain ⟨v', w', hrun, h2, h3, _, h5⟩ := run_append_own_at (P := P) w base t ty e i z size by_ ht hi hz hs1 hby hzs hsz v n cs hown ⟨B, 0, none⟩ 1 1 news (by omega) (by
    intro j x hx
    have hj : j < news.length := by
      rcases Nat.lt_or_ge j news.length with h | h
      · exact h
      · rw [List.getElem?_eq_none h] at hx; cases hx
    rw [add_mk, cell_of_row w B j _ e (0, 0) hB]
    simpa using hx) hu hlen hbytes hbase
  exact ⟨v', w', hrun, h2, h3, h5⟩
theorem wp_pushR {K : Act → World → Prop} {e t : TypeId} {i : TypeInfo} {z : Value} {by_ size : Nat} (base : Nat) (v : Value) (n : Nat) (cs news : List Value) (s y : Operand) (B : Nat)
    (ho : o.op = .call { callee := .builtin .append, args := #[s, y], argTypes := #[t, t] })
    (ht : P.underlying t = some (.slice e)) (hi : P.info? e = some i) (hz : i.zero = some z) (hs1 : i.size = size) (hby : i.bytes = by_) (hzs : z.cells.size = size) (hsz : 0 < size)
    (hs : a.eval s = v) (hy : a.eval y = .slice (some ⟨B, 0, none⟩) 1 1) (hB : w.heap[B]? = some (.cells news.toArray e (0, 0))) (hnl : news.length = size) (hu : ∀ u ∈ news, u.oneCell' = true)
    (hown : w.ownsRow base e size v n cs) (hbase : base ≤ w.heap.size) (hbytes : (n + 1) * by_ ≤ 140737488355328) (hlen : n + 1 ≤ maxLen)
    (h : ∀ v' w', w'.ownsRow base e size v' (n + 1) (cs ++ news) → w.grownBy w' v.ownBlock → (v'.ownBlock = v.ownBlock ∨ v'.ownBlock = some w.heap.size) → K (a.put o.dst v') w') : o.wp P a w K Q := by
  obtain ⟨v', w', hrun, h2, h3, h4⟩ := run_pushR (P := P) (ty := o.type) base v n cs news B ht hi hz hs1 hby hzs hsz hB hnl hu hown hbase hbytes hlen
  unfold Oper.wp execOp
  simp only [ho, resolve, invoke, builtin, Sem.run_bind, Sem.run_pure, Result.andThen_ok, List.map_toArray, List.map_cons, List.map_nil, hs, hy, hrun]
  exact h v' w' h2 h3 h4
theorem wpList_pushR {e t : TypeId} {i : TypeInfo} {z : Value} {by_ size : Nat} (base : Nat) (v : Value) (n : Nat) (cs news : List Value) (s y : Operand) (B : Nat)
    (hgd : o.guard = none) (ho : o.op = .call { callee := .builtin .append, args := #[s, y], argTypes := #[t, t] })
    (ht : P.underlying t = some (.slice e)) (hi : P.info? e = some i) (hz : i.zero = some z) (hs1 : i.size = size) (hby : i.bytes = by_) (hzs : z.cells.size = size) (hsz : 0 < size)
    (hs : a.eval s = v) (hy : a.eval y = .slice (some ⟨B, 0, none⟩) 1 1) (hB : w.heap[B]? = some (.cells news.toArray e (0, 0))) (hnl : news.length = size) (hu : ∀ u ∈ news, u.oneCell' = true)
    (hown : w.ownsRow base e size v n cs) (hbase : base ≤ w.heap.size) (hbytes : (n + 1) * by_ ≤ 140737488355328) (hlen : n + 1 ≤ maxLen)
    (h : ∀ v' w', w'.ownsRow base e size v' (n + 1) (cs ++ news) → w.grownBy w' v.ownBlock → (v'.ownBlock = v.ownBlock ∨ v'.ownBlock = some w.heap.size) → wpList P ops Q rest (a.put o.dst v') w') : wpList P ops Q (o :: rest) a w :=
  wpList_plain hgd fun _ hK => wp_pushR base v n cs news s y B ho ht hi hz hs1 hby hzs hsz hs hy hB hnl hu hown hbase hbytes hlen fun v' w' h2 h3 h4 => hK _ _ (h v' w' h2 h3 h4)
/-- the same at a step of a region that draws its order -/
theorem step_pushR {K : Act → World → Prop} {E : Prop} {e t : TypeId} {i : TypeInfo} {z : Value} {by_ size : Nat} (base : Nat) (v : Value) (n : Nat) (cs news : List Value) (s y : Operand) (B : Nat)
    (hgd : o.guard = none) (ho : o.op = .call { callee := .builtin .append, args := #[s, y], argTypes := #[t, t] })
    (ht : P.underlying t = some (.slice e)) (hi : P.info? e = some i) (hz : i.zero = some z) (hs1 : i.size = size) (hby : i.bytes = by_) (hzs : z.cells.size = size) (hsz : 0 < size)
    (hs : a.eval s = v) (hy : a.eval y = .slice (some ⟨B, 0, none⟩) 1 1) (hB : w.heap[B]? = some (.cells news.toArray e (0, 0))) (hnl : news.length = size) (hu : ∀ u ∈ news, u.oneCell' = true)
    (hown : w.ownsRow base e size v n cs) (hbase : base ≤ w.heap.size) (hbytes : (n + 1) * by_ ≤ 140737488355328) (hlen : n + 1 ≤ maxLen)
    (h : ∀ v' w', w'.ownsRow base e size v' (n + 1) (cs ++ news) → w.grownBy w' v.ownBlock → (v'.ownBlock = v.ownBlock ∨ v'.ownBlock = some w.heap.size) → K (a.put o.dst v') w') :
    if Region.wanted o (yielded ops a.tmps) = true then Oper.wp P o a w K Q else E := by
  have hw : Region.wanted o (yielded ops a.tmps) = true := by simp [Region.wanted, hgd]
  rw [if_pos hw]
  exact wp_pushR base v n cs news s y B ho ht hi hz hs1 hby hzs hsz hs hy hB hnl hu hown hbase hbytes hlen h
end
end Go.Proofs.YtmpjjehihimadaaGreat
