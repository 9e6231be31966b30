/-
  Words for memory, of no program: a slice of integers that reads as a list (Rd), a slice of the call's own (Own), append of one and of many.
  append(v, make([]T, n)...) on a slice of integers of the call's own; make of integers. (append of zeros: turned from a law that the kit's print tool prints.)
  Rising lists of integers, in plain Lean: how many lead that are less; with one more.
  slices' BinarySearch, Clone, Grow, Concat at uint16, walked.
  slices.Concat at uint16 and the functions of package array that look, walked.
  package array's looks and Add, walked.
-/
import Derived.Test.YtbjekoljipjldaaGreatDoorProg
import Derived.WalkKit
import Derived.WalkSpells
import Derived.WalkLawsBesides
import Derived.Deep.QuietTactic
import Derived.BigQuiet
import Derived.Deep.RegionHeld3
import Derived.Lib.Hide
import Derived.Maps.AppendAt
import Derived.Deep.AppendLies
import Derived.LoopTactic
import Derived.Laws.OwnMore
import Derived.IntWalk
import Derived.Deep.DrawnRows
import Derived.Deep.RegionLaw
namespace Go.Proofs.YtbjekoljipjldaaGreatDoor
set_option linter.unusedVariables false
set_option linter.unusedSimpArgs false
open Go.RowKit

theorem bcell {W w1 : World} (hb : Below W.heap.size W w1) : (∀ b o, b < W.heap.size → w1.cell? ⟨b, o, none⟩ = W.cell? ⟨b, o, none⟩) ∧ (∀ b o, b < W.heap.size → w1.frozen? ⟨b, o, none⟩ = W.frozen? ⟨b, o, none⟩) :=
  ⟨fun b o h => hb.cell (p := ⟨b, o, none⟩) h, fun b o h => hb.frozen (p := ⟨b, o, none⟩) h⟩
theorem gmax2_int (k k' : IntKind) (x y : Int) : Builtin.max2 (.int k x) (.int k' y) = pure (.int k (if x < y then y else x)) := by simp only [Builtin.max2, gt_iff_lt]
theorem gmin2_int (k k' : IntKind) (x y : Int) : Builtin.min2 (.int k x) (.int k' y) = pure (.int k (if y < x then y else x)) := by simp only [Builtin.min2]
theorem gmax_two (ats : Array TypeId) (ty : TypeId) (a b : Value) : Builtin.max_ ats ty #[a, b] = (Builtin.max2 a b >>= fun s => pure s) := by simp only [Builtin.max_, List.foldlM_cons, List.foldlM_nil]
theorem gmin_two (ats : Array TypeId) (ty : TypeId) (a b : Value) : Builtin.min_ ats ty #[a, b] = (Builtin.min2 a b >>= fun s => pure s) := by simp only [Builtin.min_, List.foldlM_cons, List.foldlM_nil]
theorem below_also {B : Nat} {a b c : World} (h : Below B a b) (k : Below b.heap.size b c) (hB : B ≤ b.heap.size) : Below B a c := h.trans (k.mono hB)
theorem below_then {a b c : World} (h : Below a.heap.size a b) (k : Below b.heap.size b c) : Below a.heap.size a c := h.trans (k.mono h.size)
theorem below_drewN {B : Nat} {w w' : World} (h : Below B w w') (n : Nat) : Below B w (w'.drewN n) := h.trans ⟨rfl, rfl, rfl, Nat.le_refl _, fun _ _ => rfl⟩
theorem block_of_add (a : Addr) (n : Nat) : (a.add n).block = a.block := by unfold Addr.add; split <;> rfl
theorem add_of_add (a : Addr) (i j : Nat) : (a.add i).add j = a.add (i + j) := by
  unfold Addr.add
  by_cases hi : i = 0 <;> by_cases hj : j = 0 <;> simp [hi, hj, Nat.add_assoc]
theorem add_mk (g i : Nat) : (Addr.mk g 0 none).add i = ⟨g, i, none⟩ := by
  unfold Addr.add; split
  · rename_i h; subst h; rfl
  · simp
theorem ret_int {k : IntKind} {a b : Int} (h : a = b) : Ending.returned (.int k a) = Ending.returned (.int k b) := by rw [h]
theorem ret_bool {a b : Bool} (h : a = b) : Ending.returned (.bool a) = Ending.returned (.bool b) := by rw [h]

/-- a slice of integers that reads so -/
def Rd (k : IntKind) (w : World) (A : Option Addr) (l : List Int) : Prop := ∀ i : Nat, i < l.length → ∃ ad, A = some ad ∧ ad.block < w.heap.size ∧ w.cell? (ad.add i) = some (.int k (l.getD i 0))
theorem Rd.below {k : IntKind} {w w' : World} {A : Option Addr} {l : List Int} (h : Rd k w A l) (hb : Below w.heap.size w w') : Rd k w' A l := fun i hi => by
  obtain ⟨ad, e, h1, h2⟩ := h i hi
  exact ⟨ad, e, by have := hb.size; omega, (hb.cell (p := ad.add i) (by rw [block_of_add]; exact h1)).trans h2⟩
/-- behind draws, too: the world that a call began in has the same heap -/
theorem Rd.belowH {k : IntKind} {w w0 w' : World} {A : Option Addr} {l : List Int} (h : Rd k w A l) (hb : Below w0.heap.size w0 w') (e : w0.heap = w.heap) : Rd k w' A l := fun i hi => by
  obtain ⟨ad, e1, h1, h2⟩ := h i hi
  have h3 : w0.cell? (ad.add i) = some (.int k (l.getD i 0)) := by
    rw [World.cell?_of_block (w := w) (w' := w0) (a := ad.add i) (by rw [e])]; exact h2
  exact ⟨ad, e1, by have := hb.size; rw [e] at this; omega, (hb.cell (p := ad.add i) (by rw [block_of_add, e]; exact h1)).trans h3⟩
theorem below_H {B : Nat} {w w0 w' : World} (hb : Below B w0 w') (e : w0.heap = w.heap) (eo : w0.os = w.os) (et : w0.tape = w.tape) (eu : w0.output = w.output) : Below B w w' :=
  ⟨hb.os.trans eo, hb.tape.trans et, hb.output.trans eu, by have := hb.size; rw [e] at this; exact this, fun k hk => (hb.block k hk).trans (by rw [e])⟩
theorem Rd.nil (k : IntKind) (w : World) (A : Option Addr) : Rd k w A [] := fun i hi => absurd hi (by simp)
theorem Rd.cut {k : IntKind} {w : World} {A : Option Addr} {l : List Int} (h : Rd k w A l) (j m : Nat) : Rd k w (A.map (·.add j)) ((l.drop j).take m) := fun i hi => by
  simp only [List.length_take, List.length_drop] at hi
  obtain ⟨ad, e, h1, h2⟩ := h (j + i) (by omega)
  refine ⟨ad.add j, by rw [e]; rfl, by rw [block_of_add]; exact h1, ?_⟩
  rw [add_of_add, h2]
  simp [List.getD_eq_getElem?_getD, List.getElem?_take, List.getElem?_drop, show i < m by omega]
theorem Rd.take {k : IntKind} {w : World} {A : Option Addr} {l : List Int} (h : Rd k w A l) (m : Nat) : Rd k w A (l.take m) := fun i hi => by
  simp only [List.length_take] at hi
  obtain ⟨ad, e, h1, h2⟩ := h i (by omega)
  refine ⟨ad, e, h1, ?_⟩
  rw [h2]
  simp [List.getD_eq_getElem?_getD, List.getElem?_take, show i < m by omega]

/-- a slice of the call's own (from block 'base' on) that holds so -/
def Own (k : IntKind) (e : TypeId) (w : World) (base : Nat) (v : Value) (l : List Int) : Prop := w.ownsRow base e 1 v l.length (l.map (Value.int k))
theorem Own.form {k : IntKind} {e : TypeId} {w : World} {base : Nat} {v : Value} {l : List Int} (h : Own k e w base v l) : ∃ A c, v = .slice A l.length c ∧ l.length ≤ c ∧ c ≤ maxLen ∧ Rd k w A l := by
  rcases h.2 with ⟨rfl, hn⟩ | ⟨g, cap, cur, rfl, hg, hh, hnc, hcap, hsz, htk⟩
  · refine ⟨none, 0, by rw [hn], by omega, by simp [maxLen], fun i hi => by omega⟩
  · refine ⟨some ⟨g, 0, none⟩, cap, rfl, hnc, hcap, fun i hi => ⟨_, rfl, ?_, ?_⟩⟩
    · rcases Nat.lt_or_ge g w.heap.size with h1 | h1
      · exact h1
      · rw [Array.getElem?_eq_none h1] at hh; cases hh
    · rw [add_mk, cell_of_row w g i cur e (0, 0) hh]
      have h1 : (cur.toList.take (l.length * 1))[i]? = some (.int k (l.getD i 0)) := by
        rw [htk, List.getElem?_map, List.getD_eq_getElem?_getD, List.getElem?_eq_getElem hi]; rfl
      rw [List.getElem?_take, if_pos (by omega)] at h1
      simpa using h1
theorem Own.below {k : IntKind} {e : TypeId} {w w' : World} {base : Nat} {v : Value} {l : List Int} (h : Own k e w base v l) (hb : Below w.heap.size w w') : Own k e w' base v l := by
  obtain ⟨h1, h2⟩ := h
  refine ⟨h1, ?_⟩
  rcases h2 with h2 | ⟨g, cap, cur, rfl, hg, hh, hr⟩
  · exact .inl h2
  · refine .inr ⟨g, cap, cur, rfl, hg, ?_, hr⟩
    rw [hb.block g (by
      rcases Nat.lt_or_ge g w.heap.size with h1 | h1
      · exact h1
      · rw [Array.getElem?_eq_none h1] at hh; cases hh)]
    exact hh
theorem Own.belowH {k : IntKind} {e : TypeId} {w w0 w' : World} {base : Nat} {v : Value} {l : List Int} (h : Own k e w base v l) (hb : Below w0.heap.size w0 w') (eh : w0.heap = w.heap) : Own k e w' base v l := by
  obtain ⟨h1, h2⟩ := h
  refine ⟨h1, ?_⟩
  rcases h2 with h2 | ⟨g, cap, cur, rfl, hg, hh, hr⟩
  · exact .inl h2
  · refine .inr ⟨g, cap, cur, rfl, hg, ?_, hr⟩
    rw [hb.block g (by
      rw [eh]
      rcases Nat.lt_or_ge g w.heap.size with h1 | h1
      · exact h1
      · rw [Array.getElem?_eq_none h1] at hh; cases hh), eh]
    exact hh
theorem Own.mono {k : IntKind} {e : TypeId} {w : World} {base base' : Nat} {v : Value} {l : List Int} (h : Own k e w base v l) (hB : base' ≤ base) : Own k e w base' v l := by
  obtain ⟨h1, h2⟩ := h
  refine ⟨h1, ?_⟩
  rcases h2 with h2 | ⟨g, cap, cur, rfl, hg, hr⟩
  · exact .inl h2
  · exact .inr ⟨g, cap, cur, rfl, by omega, hr⟩
theorem Own.nil (k : IntKind) (e : TypeId) (w : World) (base : Nat) : Own k e w base (.slice none 0 0) [] := ⟨rfl, .inl ⟨rfl, rfl⟩⟩
theorem Own.block {k : IntKind} {e : TypeId} {w : World} {base : Nat} {v : Value} {l : List Int} (h : Own k e w base v l) : ∀ g, v.ownBlock = some g → base ≤ g ∧ g < w.heap.size := by
  rcases h.2 with ⟨rfl, hn⟩ | ⟨g, cap, cur, rfl, hg, hh, hnc, hcap, hsz, htk⟩
  · intro g hg; simp [Value.ownBlock] at hg
  · intro g' hg'
    simp [Value.ownBlock] at hg'
    subst hg'
    refine ⟨hg, ?_⟩
    rcases Nat.lt_or_ge g w.heap.size with h1 | h1
    · exact h1
    · rw [Array.getElem?_eq_none h1] at hh; cases hh
/-- a new block of the call's, laid out -/
theorem Own.made {k : IntKind} {e : TypeId} {w : World} {base : Nat} (hb : base ≤ w.heap.size) (l : List Int) (hl : l.length ≤ maxLen) : Own k e (w.alloc (.cells (l.map (Value.int k)).toArray e)) base (.slice (some ⟨w.heap.size, 0, none⟩) l.length l.length) l :=
  ⟨by simp, .inr ⟨_, _, _, rfl, hb, heap_alloc_new w _, Nat.le_refl _, hl, by simp, by simp [List.take_of_length_le]⟩⟩

section
variable {P : Program} {ops : Array Oper} {rest : List Oper} {o : Oper} {a : Act} {Q : Exit → Act → World → Prop} {w : World}
/-- append of one integer to a slice of the call's own -/
theorem wpList_push {k : IntKind} {e t : TypeId} {i : TypeInfo} {z : Value} {by_ : Nat} (base : Nat) (v : Value) (l : List Int) (x : Int) (s y : Operand) (B : Nat)
    (hgd : o.guard = none) (ho : o.op = .call { callee := .builtin .append, args := #[s, y], argTypes := #[t, t] })
    (ht : P.underlying t = some (.slice e)) (hi : P.info? e = some i) (hz : i.zero = some z) (hs1 : i.size = 1) (hby : i.bytes = by_) (hzs : z.cells.size = 1)
    (hs : a.eval s = v) (hy : a.eval y = .slice (some ⟨B, 0, none⟩) 1 1) (hB : w.heap[B]? = some (.cells #[.int k x] e (0, 0)))
    (hown : Own k e w base v l) (hbase : base ≤ w.heap.size) (hbytes : (l.length + 1) * by_ ≤ 140737488355328) (hlen : l.length + 1 ≤ maxLen)
    (h : ∀ v' w', Own k e w' base v' (l ++ [x]) → w.grownBy w' v.ownBlock → (v'.ownBlock = v.ownBlock ∨ v'.ownBlock = some w.heap.size) → wpList P ops Q rest (a.put o.dst v') w') : wpList P ops Q (o :: rest) a w := by
  refine wpList_append_own_at w hgd s y t ho base e i z 1 by_ ht hi hz hs1 hby hzs (by omega) v l.length _ hs hown ⟨B, 0, none⟩ 1 1 [.int k x] hy rfl ?_ ?_ hlen hbytes hbase ?_
  · intro j u hu
    have hj : j = 0 := by
      rcases j with _ | j
      · rfl
      · simp at hu
    subst hj
    simp at hu
    subst hu
    rw [add_mk, cell_of_row w B 0 _ e (0, 0) hB]
    rfl
  · intro u hu
    simp at hu
    subst hu
    rfl
  · intro v' w' h1 h2 _ h4
    refine h v' w' ?_ h2 h4
    simpa [Own] using h1
/-- append of a slice that reads as a list to a slice of the call's own -/
theorem run_pushAll {k : IntKind} {e t ty : TypeId} {i : TypeInfo} {z : Value} {by_ : Nat} (base : Nat) (v : Value) (l m : List Int) (A : Option Addr) (c : Nat)
    (ht : P.underlying t = some (.slice e)) (hi : P.info? e = some i) (hz : i.zero = some z) (hs1 : i.size = 1) (hby : i.bytes = by_) (hzs : z.cells.size = 1)
    (hr : Rd k w A m) (hown : Own k e w base v l) (hbase : base ≤ w.heap.size) (hbytes : (l.length + m.length) * by_ ≤ 140737488355328) (hlen : l.length + m.length ≤ maxLen) :
    ∃ v' w', (Builtin.append_ #[t, t] ty #[v, .slice A m.length c]).run P w = .ok v' w' ∧ Own k e w' base v' (l ++ m) ∧ w.grownBy w' v.ownBlock ∧ (v'.ownBlock = v.ownBlock ∨ v'.ownBlock = some w.heap.size) := by
  rcases A with _ | ad
  · have hm : m = [] := by
      rcases m with _ | ⟨m0, m⟩
      · rfl
      · obtain ⟨ad, e1, _⟩ := hr 0 (by simp)
        cases e1
    subst hm
    refine ⟨v, w, ?_, by simpa using hown, World.grownBy.refl w _, .inl rfl⟩
    rcases hown.2 with ⟨rfl, hn⟩ | ⟨g, cap, cur, rfl, hg, hh, hnc, hcap, hsz, htk⟩
    · simp [Builtin.append_, run_underlying ht, sizeOf, typeInfo, hi, Builtin.lenOf, Builtin.firstCells]
    · simp [Builtin.append_, run_underlying ht, sizeOf, typeInfo, hi, Builtin.lenOf, Builtin.firstCells, hnc, storeCells]
  · obtain ⟨v', w', hrun, h2, h3, _, h5⟩ := run_append_own_at (P := P) w base t ty e i z 1 by_ ht hi hz hs1 hby hzs (by omega) v l.length _ hown ad m.length c (m.map (Value.int k)) (by simp) (by
      intro j u hu
      have hj : j < m.length := by
        rcases Nat.lt_or_ge j m.length with h1 | h1
        · exact h1
        · rw [List.getElem?_eq_none (by simpa using h1)] at hu; cases hu
      obtain ⟨ad', e1, _, hc⟩ := hr j hj
      cases e1
      rw [hc, ← hu, List.getElem?_map, List.getD_eq_getElem?_getD, List.getElem?_eq_getElem hj]
      rfl) (by
      intro u hu
      obtain ⟨x, _, rfl⟩ := List.mem_map.1 hu
      rfl) hlen hbytes hbase
    exact ⟨v', w', hrun, by simpa [Own] using h2, h3, h5⟩
theorem wp_pushAll {K : Act → World → Prop} {k : IntKind} {e t : TypeId} {i : TypeInfo} {z : Value} {by_ : Nat} (base : Nat) (v : Value) (l m : List Int) (A : Option Addr) (c : Nat) (s y : Operand)
    (ho : o.op = .call { callee := .builtin .append, args := #[s, y], argTypes := #[t, t] })
    (ht : P.underlying t = some (.slice e)) (hi : P.info? e = some i) (hz : i.zero = some z) (hs1 : i.size = 1) (hby : i.bytes = by_) (hzs : z.cells.size = 1)
    (hs : a.eval s = v) (hy : a.eval y = .slice A m.length c) (hr : Rd k w A m)
    (hown : Own k e w base v l) (hbase : base ≤ w.heap.size) (hbytes : (l.length + m.length) * by_ ≤ 140737488355328) (hlen : l.length + m.length ≤ maxLen)
    (h : ∀ v' w', Own k e w' base v' (l ++ m) → w.grownBy w' v.ownBlock → (v'.ownBlock = v.ownBlock ∨ v'.ownBlock = some w.heap.size) → K (a.put o.dst v') w') : o.wp P a w K Q := by
  obtain ⟨v', w', hrun, h2, h3, h4⟩ := run_pushAll (P := P) (ty := o.type) base v l m A c ht hi hz hs1 hby hzs hr hown hbase hbytes hlen
  unfold Oper.wp execOp
  simp only [ho, resolve, invoke, builtin, Sem.run_bind, Sem.run_pure, Result.andThen_ok, List.map_toArray, List.map_cons, List.map_nil, hs, hy, hrun]
  exact h v' w' h2 h3 h4
theorem wpList_pushAll {k : IntKind} {e t : TypeId} {i : TypeInfo} {z : Value} {by_ : Nat} (base : Nat) (v : Value) (l m : List Int) (A : Option Addr) (c : Nat) (s y : Operand)
    (hgd : o.guard = none) (ho : o.op = .call { callee := .builtin .append, args := #[s, y], argTypes := #[t, t] })
    (ht : P.underlying t = some (.slice e)) (hi : P.info? e = some i) (hz : i.zero = some z) (hs1 : i.size = 1) (hby : i.bytes = by_) (hzs : z.cells.size = 1)
    (hs : a.eval s = v) (hy : a.eval y = .slice A m.length c) (hr : Rd k w A m)
    (hown : Own k e w base v l) (hbase : base ≤ w.heap.size) (hbytes : (l.length + m.length) * by_ ≤ 140737488355328) (hlen : l.length + m.length ≤ maxLen)
    (h : ∀ v' w', Own k e w' base v' (l ++ m) → w.grownBy w' v.ownBlock → (v'.ownBlock = v.ownBlock ∨ v'.ownBlock = some w.heap.size) → wpList P ops Q rest (a.put o.dst v') w') : wpList P ops Q (o :: rest) a w :=
  wpList_plain hgd fun _ hK => wp_pushAll base v l m A c s y ho ht hi hz hs1 hby hzs hs hy hr hown hbase hbytes hlen fun v' w' h2 h3 h4 => hK _ _ (h v' w' h2 h3 h4)
/-- the same at a step of a region that draws its order -/
theorem step_pushAll {K : Act → World → Prop} {E : Prop} {k : IntKind} {e t : TypeId} {i : TypeInfo} {z : Value} {by_ : Nat} (base : Nat) (v : Value) (l m : List Int) (A : Option Addr) (c : Nat) (s y : Operand)
    (hgd : o.guard = none) (ho : o.op = .call { callee := .builtin .append, args := #[s, y], argTypes := #[t, t] })
    (ht : P.underlying t = some (.slice e)) (hi : P.info? e = some i) (hz : i.zero = some z) (hs1 : i.size = 1) (hby : i.bytes = by_) (hzs : z.cells.size = 1)
    (hs : a.eval s = v) (hy : a.eval y = .slice A m.length c) (hr : Rd k w A m)
    (hown : Own k e w base v l) (hbase : base ≤ w.heap.size) (hbytes : (l.length + m.length) * by_ ≤ 140737488355328) (hlen : l.length + m.length ≤ maxLen)
    (h : ∀ v' w', Own k e w' base v' (l ++ m) → w.grownBy w' v.ownBlock → (v'.ownBlock = v.ownBlock ∨ v'.ownBlock = some w.heap.size) → K (a.put o.dst v') w') :
    if Region.wanted o (yielded ops a.tmps) = true then Oper.wp P o a w K Q else E := by
  have hw : Region.wanted o (yielded ops a.tmps) = true := by simp [Region.wanted, hgd]
  rw [if_pos hw]
  exact wp_pushAll base v l m A c s y ho ht hi hz hs1 hby hzs hs hy hr hown hbase hbytes hlen h
/-- a cheap look ahead of a dear step: the operation is a call of this function, of this builtin -/
theorem gate_scall {K : Act → World → Prop} {E : Prop} {f : FuncId} {xs : Array Operand} {ts : Array TypeId} (_ho : o.op = .call { callee := .value (.func f), args := xs, argTypes := ts })
    (h : if Region.wanted o (yielded ops a.tmps) = true then Oper.wp P o a w K Q else E) : if Region.wanted o (yielded ops a.tmps) = true then Oper.wp P o a w K Q else E := h
theorem gate_sbuiltin {K : Act → World → Prop} {E : Prop} {b : Builtin} {xs : Array Operand} {ts : Array TypeId} (_ho : o.op = .call { callee := .builtin b, args := xs, argTypes := ts })
    (h : if Region.wanted o (yielded ops a.tmps) = true then Oper.wp P o a w K Q else E) : if Region.wanted o (yielded ops a.tmps) = true then Oper.wp P o a w K Q else E := h
theorem enters_fn {P : Program} {f : FuncId} {fn : Func} (hf : P.funcs[f]? = some fn) (hname : (fn.name == "runtime.NumGoroutine") = false) (hb : fn.body.isSome = true) (args : Array Value) (w : World) : (callFunc f args).run P w = .ok (.enter f args) w := by
  have h1 : fn.name ≠ "runtime.NumGoroutine" := by simpa using hname
  obtain ⟨c, hc⟩ := Option.isSome_iff_exists.1 hb
  simp [callFunc, hf, h1, hc]
/-- a call at a step of a region that draws its order -/
theorem step_goes {K : Act → World → Prop} {E : Prop} {f : FuncId} {fn : Func} {xs : Array Operand} {ts : Array TypeId} (hgd : o.guard = none) (hf : P.funcs[f]? = some fn) (hname : (fn.name == "runtime.NumGoroutine") = false) (hb : fn.body.isSome = true) (args : Array Value)
    (hop : o.op = .call { callee := .value (.func f), args := xs, argTypes := ts }) (hargs : xs.map a.eval = args) {R : Ending → World → Prop} (hc : Calls P f args w R)
    (h : ∀ e w', R e w' → ∃ v, e = .returned v ∧ K (a.put o.dst v) w') : if Region.wanted o (yielded ops a.tmps) = true then Oper.wp P o a w K Q else E := by
  have hw : Region.wanted o (yielded ops a.tmps) = true := by simp [Region.wanted, hgd]
  rw [if_pos hw]
  have he := enters_fn hf hname hb args w
  have hrun : (execOp a.eval o).run P w = .ok (.enter f args) w := by
    unfold execOp
    simp [hop, resolve, Deferred.ofValue, invoke, Act.eval, hargs, he]
  unfold Oper.wp
  rw [hrun, Oper.upon_enter]
  refine hc.mono fun e w'' hh => ?_
  obtain ⟨v, rfl, hk⟩ := h e w'' hh
  exact hk
end
/-- a block of another type is no row that is appended to -/
theorem grown_block {k : IntKind} {e : TypeId} {w w' : World} {base : Nat} {v : Value} {l : List Int} (ho : Own k e w base v l) (hg : w.grownBy w' v.ownBlock) {b : Nat} {cs : Array Value} {t : TypeId} (hh : w.heap[b]? = some (.cells cs t (0, 0))) (hne : e ≠ t) :
    w'.heap[b]? = some (.cells cs t (0, 0)) := by
  have hbl : b < w.heap.size := by
    rcases Nat.lt_or_ge b w.heap.size with h | h
    · exact h
    · rw [Array.getElem?_eq_none h] at hh; cases hh
  rw [hg.block b hbl ?_, hh]
  intro hb
  rcases ho.2 with ⟨rfl, hn⟩ | ⟨g, cap, cur, rfl, hg', hh', _⟩
  · simp [Value.ownBlock] at hb
  · simp [Value.ownBlock] at hb
    subst hb
    rw [hh] at hh'
    cases hh'
    exact hne rfl
theorem blk_lt {w : World} {b : Nat} {o : Obj} (hh : w.heap[b]? = some o) : b < w.heap.size := by
  rcases Nat.lt_or_ge b w.heap.size with h | h
  · exact h
  · rw [Array.getElem?_eq_none h] at hh; cases hh
theorem blk_cell {w : World} {b : Nat} {cs : Array Value} {t : TypeId} (hh : w.heap[b]? = some (.cells cs t (0, 0))) (i : Nat) {v : Value} (hv : cs[i]? = some v) : w.cell? ⟨b, i, none⟩ = some v := by rw [cell_of_row w b i cs t (0, 0) hh, hv]
theorem blk_free {w : World} {b : Nat} {cs : Array Value} {t : TypeId} (hh : w.heap[b]? = some (.cells cs t (0, 0))) (i : Nat) : w.frozen? ⟨b, i, none⟩ = false := by simp [World.frozen?, hh]
theorem blk_below {w w0 w' : World} {b : Nat} {o : Obj} (hh : w.heap[b]? = some o) (hb : Below w0.heap.size w0 w') (e : w0.heap = w.heap) : w'.heap[b]? = some o := by
  rw [hb.block b (by rw [e]; exact blk_lt hh), e]; exact hh
theorem blk_set {w : World} {b : Nat} {cs : Array Value} {t : TypeId} (hh : w.heap[b]? = some (.cells cs t (0, 0))) (i : Nat) (u : Value) : (w.setCell ⟨b, i, none⟩ u).heap[b]? = some (.cells (cs.setIfInBounds i u) t (0, 0)) := by
  simp [World.setCell, Array.getElem?_modify, hh]
theorem own_set {k : IntKind} {e : TypeId} {w : World} {base : Nat} {v : Value} {l : List Int} (ho : Own k e w base v l) {b : Nat} {cs : Array Value} {t : TypeId} (hh : w.heap[b]? = some (.cells cs t (0, 0))) (hne : e ≠ t) (i : Nat) (u : Value) : Own k e (w.setCell ⟨b, i, none⟩ u) base v l := by
  obtain ⟨h1, h2⟩ := ho
  refine ⟨h1, ?_⟩
  rcases h2 with h2 | ⟨g, cap, cur, rfl, hg, hg2, hr⟩
  · exact .inl h2
  · refine .inr ⟨g, cap, cur, rfl, hg, ?_, hr⟩
    rw [Below.heap_setCell w ⟨b, i, none⟩ u g (by rintro rfl; rw [hh] at hg2; cases hg2; exact hne rfl)]
    exact hg2
theorem below_grown {B : Nat} {w0 w w' : World} {k : IntKind} {e : TypeId} {v : Value} {l : List Int} (h : Below B w0 w) (ho : Own k e w B v l) (hg : w.grownBy w' v.ownBlock) (hB : B ≤ w.heap.size) : Below B w0 w' :=
  h.grown hg hB (fun g hgk => (ho.block g hgk).1)
end Go.Proofs.YtbjekoljipjldaaGreatDoor
namespace Go.Proofs.YtbjekoljipjldaaGreatDoor
set_option linter.unusedVariables false
set_option linter.unusedSimpArgs false
open Go.RowKit

theorem zeroCells_int (k : IntKind) (m : Nat) : Builtin.zeroCells #[.int k 0] m = (List.replicate m (Value.int k 0)).toArray := by
  apply Array.ext'
  apply List.ext_getElem?
  intro j
  simp only [Builtin.zeroCells, Array.toList_map, Array.toList_range, List.getElem?_map, List.getElem?_replicate]
  by_cases hj : j < m
  · rw [List.getElem?_range (by simpa using hj), if_pos hj]
    simp [Nat.mod_one]
  · rw [if_neg hj, List.getElem?_eq_none (by simpa using hj)]
    rfl
section
variable {P : Program} {ops : Array Oper} {rest : List Oper} {o : Oper} {a : Act} {Q : Exit → Act → World → Prop} {w : World}
theorem run_appendZeros {k kt kx : IntKind} {e t ti ty : TypeId} {i : TypeInfo} {by_ : Nat} (base : Nat) (v : Value) (l : List Int) (m : Nat)
    (ht : P.underlying t = some (.slice e)) (hti : P.underlying ti = some (.int kt)) (hi : P.info? e = some i) (hz : i.zero = some (.int k 0)) (hs1 : i.size = 1) (hby : i.bytes = by_) (hb0 : 0 < by_)
    (hown : Own k e w base v l) (hbase : base ≤ w.heap.size) (hbytes : (l.length + m) * by_ ≤ 140737488355328) (hlen : l.length + m ≤ maxLen) :
    ∃ v' w', (Builtin.append_ #[t, ti] ty #[v, .int kx m]).run P w = .ok v' w' ∧ Own k e w' base v' (l ++ List.replicate m 0) ∧ w.grownBy w' v.ownBlock ∧ (v'.ownBlock = v.ownBlock ∨ v'.ownBlock = some w.heap.size) := by
  subst hby
  obtain ⟨n, hn⟩ : ∃ n, l.length = n := ⟨_, rfl⟩
  obtain ⟨xs, hxs⟩ : ∃ xs, l.map (Value.int k) = xs := ⟨_, rfl⟩
  obtain ⟨news, hnews⟩ : ∃ news, news = List.replicate m (Value.int k 0) := ⟨_, rfl⟩
  have hall : (l ++ List.replicate m 0).map (Value.int k) = xs ++ news := by rw [List.map_append, hxs, hnews]; simp
  have hln : (l ++ List.replicate m (0 : Int)).length = n + m := by simp [hn]
  have hxl : xs.length = n := by rw [← hxs, List.length_map, hn]
  have hnl : news.length = m := by rw [hnews]; simp
  have hna : Builtin.zeroCells #[Value.int k 0] m = news.toArray := by rw [zeroCells_int, hnews]
  have h1 : ∀ u ∈ news, u.oneCell' = true := fun u hu => by rw [hnews] at hu; rw [(List.mem_replicate.1 hu).2]; rfl
  unfold Own at hown ⊢
  rw [hn] at hown hbytes hlen
  rw [hxs] at hown
  rw [hall, hln]
  have hle : n + m ≤ 140737488355328 := Nat.le_trans (Nat.le_mul_of_pos_right _ hb0) hbytes
  have hw : IntKind.i64.wrap (m : Int) = m := by rw [IntKind.wrap_i64]; omega
  have hw0 : IntKind.i64.wrap 0 = 0 := by rw [IntKind.wrap_i64]; rfl
  have hneg : ¬ ((m : Int) < 0) := by omega
  have hmb : m * i.bytes ≤ 140737488355328 := Nat.le_trans (Nat.mul_le_mul_right _ (Nat.le_add_left m n)) hbytes
  have hbig : ¬ (281474976710656 < (m : Int) * (i.bytes : Int)) := by
    rw [← Int.natCast_mul]
    omega
  have hzs : (Value.int k 0).cells = #[Value.int k 0] := rfl
  have grown : ∀ (old : Nat), old < n + m → ∀ (row : Option Nat),
      (w.drew.alloc (.cells (xs.toArray ++ news.toArray ++ Builtin.zeroCells #[Value.int k 0] (grownCap w (n + m) old e - (n + m))) e)).ownsRow base e 1
        (.slice (some ⟨w.heap.size, 0, none⟩) (n + m) (grownCap w (n + m) old e)) (n + m) (xs ++ news) ∧
      w.grownBy (w.drew.alloc (.cells (xs.toArray ++ news.toArray ++ Builtin.zeroCells #[Value.int k 0] (grownCap w (n + m) old e - (n + m))) e)) row := by
    intro old ho row
    have hge := grownCap_ge w (n + m) old e
    have hcm : grownCap w (n + m) old e ≤ maxLen := grownCap_le_maxLen w (n + m) old e hlen
    refine ⟨⟨by rw [List.length_append]; omega, .inr ⟨w.heap.size, _, _, rfl, hbase, heap_alloc_new w.drew _, hge, hcm, ?_, ?_⟩⟩, ⟨rfl, rfl, rfl, by simp, fun k hk _ => heap_alloc_old w.drew _ hk⟩⟩
    · simp only [Array.size_append, List.size_toArray, size_zeroCells, hxl, hnl]
      simp
      omega
    · simp only [Array.toList_append, List.append_assoc]
      rw [← List.append_assoc, show (n + m) * 1 = (xs ++ news).length by rw [List.length_append]; omega]
      exact List.take_left
  have runs : ∀ (A : Option Addr) (cap : Nat), cap < n + m → (Builtin.firstCells 1 n (.slice A n cap)).run P w.drew = .ok xs.toArray w.drew → (Builtin.append_ #[t, ti] ty #[.slice A n cap, .int kx m]).run P w =
      .ok (.slice (some ⟨w.heap.size, 0, none⟩) (n + m) (grownCap w (n + m) cap e)) (w.drew.alloc (.cells (xs.toArray ++ news.toArray ++ Builtin.zeroCells #[Value.int k 0] (grownCap w (n + m) cap e - (n + m))) e)) := by
    intro A cap hcap hfo
    have hn : ¬ (n + m ≤ cap) := by omega
    have h63' : ¬ (9223372036854775807 < ((n : Int) + (m : Int))) := by omega
    have hfit := growslice_fits hcap hbytes
    have h48' : ¬ (281474976710656 < Builtin.nextslicecap (n + m) cap * i.bytes) := by omega
    by_cases hm : m = 0
    · have hnl2 : news = [] := List.eq_nil_of_length_eq_zero (by rw [hnl, hm])
      subst hm
      rw [hnl2]
      simp only [Nat.add_zero] at hn h63' h48' ⊢
      have h63'' : ¬ (9223372036854775807 < (n : Int)) := by omega
      simp [Builtin.append_, run_underlying ht, run_underlying hti, sizeOf, typeInfo, zeroValue, hi, hz, hs1, asInt, asIntOf, hw0, hn, h63'', h48', Question.forced, hfo, newRow, grownCap, hzs]
    · simp [Builtin.append_, run_underlying ht, run_underlying hti, sizeOf, typeInfo, zeroValue, hi, hz, hs1, asInt, asIntOf, hw, hneg, hbig, hn, h63', h48', Question.forced, hfo, newRow, grownCap, hm, hzs, hna]
      congr 2
      apply Array.ext'
      simp [List.append_assoc]
  rcases hown.2 with ⟨rfl, rfl⟩ | ⟨g, cap, cur, rfl, hbg, hg, hnc, hcm, hcs, htake⟩
  · have hx : xs = [] := List.eq_nil_of_length_eq_zero hxl
    by_cases hm : m = 0
    · have hnl2 : news = [] := List.eq_nil_of_length_eq_zero (by rw [hnl, hm])
      subst hm
      rw [hnl2, hx]
      refine ⟨.slice none 0 0, w, ?_, World.ownsRow_nil w base e 1, ⟨rfl, rfl, rfl, Nat.le_refl _, fun _ _ _ => rfl⟩, Or.inl rfl⟩
      simp [Builtin.append_, run_underlying ht, run_underlying hti, sizeOf, typeInfo, hi, hs1, asInt, asIntOf, hw0]
    · have hgr := grown 0 (by omega) (Value.ownBlock (.slice none 0 0))
      exact ⟨_, _, runs none 0 (by omega) (by rw [hx]; simp [Builtin.firstCells]), hgr.1, hgr.2, Or.inr rfl⟩
  · by_cases hroom : n + m ≤ cap
    · have hst := run_storeCells_at P g n e news 0 cur w hg (by rw [hnl, hcs]; omega) h1
      simp only [Nat.add_zero] at hst
      refine ⟨.slice (some ⟨g, 0, none⟩) (n + m) cap, _, ?_, ⟨by rw [List.length_append]; omega, .inr ⟨g, cap, _, rfl, hbg, setRow_heap w g cur (cur.toList.take n ++ news ++ cur.toList.drop (n + news.length)).toArray e (0, 0) hg, hroom, hcm, ?_, ?_⟩⟩, ⟨rfl, rfl, rfl, by simp, fun k _ hk => setRow_other w g k _ (fun e => hk (by simp [Value.ownBlock, e]))⟩, Or.inl rfl⟩
      · by_cases hm : m = 0
        · have hnl2 : news = [] := List.eq_nil_of_length_eq_zero (by rw [hnl, hm])
          subst hm
          rw [hnl2] at hst ⊢
          simp [Builtin.append_, run_underlying ht, run_underlying hti, sizeOf, typeInfo, hi, hs1, asInt, asIntOf, hw0, hnc, Addr.add_lit] at hst ⊢
          rw [hst]
          rfl
        · simp [Builtin.append_, run_underlying ht, run_underlying hti, sizeOf, typeInfo, zeroValue, hi, hz, hs1, asInt, asIntOf, hw, hneg, hbig, hroom, hm, hzs, hna, Addr.add_lit, hst]
      · simp only [List.size_toArray, List.length_append, List.length_take, List.length_drop, Array.length_toList]
        omega
      · rw [Nat.mul_one] at htake ⊢
        simp only [htake]
        rw [show n + m = (xs ++ news).length by rw [List.length_append]; omega]
        exact List.take_left
    · have holds : ∀ j u, xs[j]? = some u → w.cell? ((⟨g, 0, none⟩ : Addr).add j) = some u := hown.cells (g := g) rfl
      have hgr := grown cap (by omega) (Value.ownBlock (.slice (some ⟨g, 0, none⟩) n cap))
      exact ⟨_, _, runs (some ⟨g, 0, none⟩) cap (by omega) (run_firstCells_some (P := P) w.drew 1 n _ n cap xs (by omega) (by simpa using holds)), hgr.1, hgr.2, Or.inr rfl⟩
theorem wpList_appendZeros {k kt kx : IntKind} {e t ti : TypeId} {i : TypeInfo} {by_ : Nat} (base : Nat) (v : Value) (l : List Int) (m : Nat) (s y : Operand)
    (hgd : o.guard = none) (ho : o.op = .call { callee := .builtin .append, args := #[s, y], argTypes := #[t, ti] })
    (ht : P.underlying t = some (.slice e)) (hti : P.underlying ti = some (.int kt)) (hi : P.info? e = some i) (hz : i.zero = some (.int k 0)) (hs1 : i.size = 1) (hby : i.bytes = by_) (hb0 : 0 < by_)
    (hs : a.eval s = v) (hy : a.eval y = .int kx m)
    (hown : Own k e w base v l) (hbase : base ≤ w.heap.size) (hbytes : (l.length + m) * by_ ≤ 140737488355328) (hlen : l.length + m ≤ maxLen)
    (h : ∀ v' w', Own k e w' base v' (l ++ List.replicate m 0) → w.grownBy w' v.ownBlock → (v'.ownBlock = v.ownBlock ∨ v'.ownBlock = some w.heap.size) → wpList P ops Q rest (a.put o.dst v') w') : wpList P ops Q (o :: rest) a w := by
  refine wpList_plain hgd fun K hK => ?_
  obtain ⟨v', w', hrun, h2, h3, h4⟩ := run_appendZeros (P := P) (ty := o.type) (kx := kx) base v l m ht hti hi hz hs1 hby hb0 hown hbase hbytes hlen
  unfold Oper.wp execOp
  simp only [ho, resolve, invoke, builtin, Sem.run_bind, Sem.run_pure, Result.andThen_ok, List.map_toArray, List.map_cons, List.map_nil, hs, hy, hrun]
  exact hK _ _ (h v' w' h2 h3 h4)
theorem madeCells_int (k : IntKind) (m : Nat) : madeCells #[.int k 0] m = (List.replicate m (Value.int k 0)).toArray := by
  apply Array.ext'
  apply List.ext_getElem?
  intro j
  simp only [madeCells, Array.toList_map, Array.toList_range, List.getElem?_map, List.getElem?_replicate]
  by_cases hj : j < m
  · rw [List.getElem?_range (by simpa using hj), if_pos hj]
    simp [Nat.mod_one]
  · rw [if_neg hj, List.getElem?_eq_none (by simpa using hj)]
    rfl
theorem wpList_makeInts {k : IntKind} {e t : TypeId} {i : TypeInfo} (n : Nat) (x y : Operand)
    (hgd : o.guard = none) (ho : o.op = .makeSlice t x y)
    (ht : P.underlying t = some (.slice e)) (hi : P.info? e = some i) (hz : i.zero = some (.int k 0)) (hs1 : i.size = 1)
    (hx : a.eval x = .int .i64 n) (hy : a.eval y = .int .i64 n) (hbytes : i.bytes * n ≤ 281474976710656) (hlen : n ≤ maxLen)
    (h : wpList P ops Q rest (a.put o.dst (.slice (some ⟨w.heap.size, 0, none⟩) n n)) (w.alloc (.cells (List.replicate n (Value.int k 0)).toArray e))) : wpList P ops Q (o :: rest) a w := by
  refine wpList_plain hgd fun K hK => ?_
  have h63' : (n : Int) ≤ 9223372036854775807 := by
    have h := hlen
    simp [maxLen] at h
    omega
  have hb' : (i.bytes : Int) * (n : Int) ≤ 281474976710656 := by
    have h : ((i.bytes * n : Nat) : Int) ≤ 281474976710656 := by omega
    rwa [Int.natCast_mul] at h
  have hr := run_make (P := P) w t e i _ ht hi hz .i64 .i64 n n (by omega) (Int.le_refl _) hb' h63'
  simp only [Int.toNat_natCast, hs1, Nat.mul_one] at hr
  rw [show (Value.int k 0).cells = #[Value.int k 0] from rfl, madeCells_int] at hr
  unfold Oper.wp execOp
  simp only [ho, Sem.run_bind, Sem.run_pure, Result.andThen_ok, hx, hy, hr]
  exact hK _ _ h
end
end Go.Proofs.YtbjekoljipjldaaGreatDoor
namespace Go.Proofs.YtbjekoljipjldaaGreatDoor
set_option linter.unusedVariables false
set_option linter.unusedSimpArgs false

theorem drop_getD {l : List Int} {k : Nat} (hk : k < l.length) : l.drop k = l.getD k 0 :: l.drop (k + 1) := by
  rw [List.drop_eq_getElem_cons hk]
  simp [List.getD_eq_getElem?_getD, List.getElem?_eq_getElem hk]
/-- how many lead that are less -/
def lowr : List Int → Int → Nat
  | [], _ => 0
  | x :: l, k => if x < k then lowr l k + 1 else 0
theorem lowr_le (l : List Int) (k : Int) : lowr l k ≤ l.length := by
  induction l with
  | nil => exact Nat.le_refl _
  | cons x l ih => simp only [lowr, List.length_cons]; split <;> omega
def isIn (l : List Int) (k : Int) : Bool := decide (lowr l k < l.length) && (l.getD (lowr l k) 0 == k)
def addR (l : List Int) (k : Int) : List Int := if isIn l k then l else l.take (lowr l k) ++ [k] ++ l.drop (lowr l k)
def Rise : List Int → Prop
  | [] => True
  | [_] => True
  | x :: y :: l => x < y ∧ Rise (y :: l)
theorem Rise.tail {x : Int} {l : List Int} (h : Rise (x :: l)) : Rise l := by
  cases l with
  | nil => trivial
  | cons y l => exact h.2
theorem Rise.head_lt {x : Int} {l : List Int} (h : Rise (x :: l)) : ∀ y ∈ l, x < y := by
  induction l generalizing x with
  | nil => intro y hy; cases hy
  | cons z l ih =>
    intro y hy
    rcases List.mem_cons.1 hy with rfl | hy
    · exact h.1
    · exact Int.lt_trans h.1 (ih h.2 y hy)
theorem lowr_lt {l : List Int} {v : Int} : ∀ k, k < lowr l v → l.getD k 0 < v := by
  induction l with
  | nil => intro k hk; simp [lowr] at hk
  | cons x l ih =>
    intro k hk
    simp only [lowr] at hk
    split at hk
    · cases k with
      | zero => simpa using by assumption
      | succ k => simpa using ih k (by omega)
    · omega
theorem lowr_ge {l : List Int} (hR : Rise l) {v : Int} : ∀ k, lowr l v ≤ k → k < l.length → v ≤ l.getD k 0 := by
  induction l with
  | nil => intro k _ hk; simp at hk
  | cons x l ih =>
    intro k h hk
    simp only [lowr] at h
    split at h
    · cases k with
      | zero => omega
      | succ k => simpa using ih hR.tail k (by omega) (by simpa using hk)
    · rename_i hx
      cases k with
      | zero => simp; omega
      | succ k =>
        have h1 := hR.head_lt (l.getD k 0) (by
          simp only [List.length_cons, Nat.add_lt_add_iff_right] at hk
          rw [List.getD_eq_getElem?_getD, List.getElem?_eq_getElem hk]
          exact List.getElem_mem hk)
        simp only [List.getD_cons_succ]
        omega
theorem rise_at {l : List Int} (h : Rise l) : ∀ i, i + 1 < l.length → l.getD i 0 < l.getD (i + 1) 0 := by
  induction l with
  | nil => intro i hi; simp at hi
  | cons x l ih =>
    intro i hi
    cases i with
    | zero =>
      cases l with
      | nil => simp at hi
      | cons y l => exact h.1
    | succ i => simpa using ih h.tail i (by simpa using hi)
end Go.Proofs.YtbjekoljipjldaaGreatDoor
namespace Go.Proofs.YtbjekoljipjldaaGreatDoor
set_option linter.unusedVariables false
set_option linter.unusedSimpArgs false
open Go.RowKit

/-- numbers of 16 bits -/
def U16 (l : List Int) : Prop := ∀ x ∈ l, 0 ≤ x ∧ x ≤ 65535
theorem U16.at_ {l : List Int} (h : U16 l) {k : Nat} (hk : k < l.length) : 0 ≤ l.getD k 0 ∧ l.getD k 0 ≤ 65535 := by
  rw [List.getD_eq_getElem?_getD, List.getElem?_eq_getElem hk]
  exact h _ (List.getElem_mem hk)
theorem u16_info : (Tryz.prog.info? 43).map (fun i => (i.zero, i.size, i.bytes)) = some (some (.int .u16 0), 1, 2) := by kernel_rfl

set_option maxHeartbeats 1000000 in
set_option maxRecDepth 100000 in
theorem bsearch16 (A : Option Addr) (c : Nat) (l : List Int) (v : Int) (w : World) (hr : Rd .u16 w A l) (hR : Rise l) (hlen : l.length ≤ 1000000) :
    Calls Tryz.prog 77 #[.slice A l.length c, .int .u16 v] w fun e w' => ∃ (i : Nat) (b : Bool), e = .returned (.tuple #[.int .i64 i, .bool b]) ∧ Hid (i = lowr l v) ∧ Hid (b = isIn l v) ∧ Below w.heap.size w w' := by
  have HR := Lib.hid hr
  have HL := Lib.hid (fun k => lowr_lt (l := l) (v := v) k)
  have HG := Lib.hid (fun k => lowr_ge hR (v := v) k)
  obtain ⟨m, hm⟩ : ∃ m, lowr l v = m := ⟨_, rfl⟩
  have hml := lowr_le l v
  have HI := Lib.hid (show isIn l v = (decide (m < l.length) && (l.getD m 0 == v)) by unfold isIn; rw [hm])
  rw [hm] at hml HL HG
  have HM := Lib.hid hm
  clear hr hR hm
  go_enter Tryz.func77, Tryz.ntmps77
  go_wp2
  go_loopw [7, 8] (fun v7 v8 wr => ∃ i j : Nat, v7 = .int .i64 i ∧ v8 = .int .i64 j ∧ i ≤ m ∧ m ≤ j ∧ j ≤ l.length ∧ Below w.heap.size w wr) (fun v7 v8 _ => (intOf v8).toNat - (intOf v7).toNat)
  case atStart => exact ⟨0, l.length, rfl, rfl, Nat.zero_le _, hml, Nat.le_refl _, Below.refl _ _⟩
  case round =>
    obtain ⟨i, j, rfl, rfl, hi, hj, hjl, hb⟩ := hrel
    by_cases hlt : i < j
    · have hw1 : IntKind.i64.wrap ((i : Int) + (j : Int)) = (i : Int) + (j : Int) := by rw [IntKind.wrap_i64]; omega
      have hw2 : IntKind.u64.wrap ((i : Int) + (j : Int)) = (i : Int) + (j : Int) := by rw [IntKind.wrap_u64]; omega
      obtain ⟨h, hh, hih, hhj⟩ : ∃ h : Nat, ((i : Int) + (j : Int)) / 2 = (h : Int) ∧ i ≤ h ∧ h < j := ⟨(i + j) / 2, by omega, by omega, by omega⟩
      have hhl : h < l.length := by omega
      obtain ⟨ad, rfl, had, hc⟩ := HR.out h hhl
      have hc' := (hb.cell (p := ad.add h) (by rw [block_of_add]; exact had)).trans hc
      clear hc
      have hcmp : l.getD h 0 < v ↔ h < m := by
        constructor
        · intro hx
          rcases Nat.lt_or_ge h m with h1 | h1
          · exact h1
          · exact absurd (HG.out h h1 hhl) (by omega)
        · exact fun h1 => HL.out h h1
      have hCM := Lib.hid hcmp
      clear hcmp
      generalize l.getD h 0 = x at *
      by_cases hxv : x < v
      · have hhm := hCM.out.1 hxv
        go_wp2
        go_roundw
        case rel => exact ⟨h + 1, j, by go_num, rfl, by omega, hj, hjl, hb⟩
        case measure => simp [intOf]; omega
      · have hhm : ¬ h < m := fun h1 => hxv (hCM.out.2 h1)
        go_wp2
        go_roundw
        case rel => exact ⟨i, h, rfl, rfl, hi, by omega, by omega, hb⟩
        case measure => simp [intOf]; omega
    · obtain rfl : i = m := by omega
      obtain rfl : i = j := by omega
      by_cases hil : i < l.length
      · obtain ⟨ad, rfl, had, hc⟩ := HR.out i hil
        have hc' := (hb.cell (p := ad.add i) (by rw [block_of_add]; exact had)).trans hc
        have HI2 := Lib.hid (show isIn l v = (l.getD i 0 == v) by rw [HI.out, decide_eq_true hil]; rfl)
        clear hc HL HG
        generalize l.getD i 0 = x at *
        by_cases hxv : x = v
        · have hb2 : (x == v) = true := by simp [hxv]
          have HI3 := Lib.hid (show isIn l v = true by rw [HI2.out, hb2])
          subst hxv
          go_wp2
          go_ret2
          exact ⟨i, true, rfl, HM.out.symm, HI3.out.symm, hb⟩
        · have hb2 : (x == v) = false := by simp [hxv]
          have HI3 := Lib.hid (show isIn l v = false by rw [HI2.out, hb2])
          clear HI2
          go_wp2
          go_ret2
          exact ⟨i, false, rfl, HM.out.symm, HI3.out.symm, hb⟩
      · have HI2 := Lib.hid (show isIn l v = false by rw [HI.out, decide_eq_false hil]; rfl)
        go_wp2
        go_ret2
        exact ⟨i, false, rfl, HM.out.symm, HI2.out.symm, hb⟩
set_option maxHeartbeats 400000 in
set_option maxRecDepth 100000 in
theorem clone16 (A : Option Addr) (c : Nat) (l : List Int) (w : World) (hr : Rd .u16 w A l) (hlen : l.length ≤ 1000000) :
    Calls Tryz.prog 66 #[.slice A l.length c] w fun e w' => ∃ v, e = .returned v ∧ Own .u16 43 w' w.heap.size v l ∧ Below w.heap.size w w' := by
  obtain ⟨i0, hi, hz0, hz1, hz2⟩ := info_parts u16_info
  have hq := fun w => Lib.run_eql_slice_nil (P := Tryz.prog) w 45 43 A l.length c 0 0 Tryz.underlying45
  have HR := Lib.hid hr
  clear hr
  rcases A with _ | ad
  · have hl : l = [] := by
      rcases l with _ | ⟨x, l⟩
      · rfl
      · obtain ⟨_, e, _⟩ := HR.out 0 (by simp); cases e
    subst hl
    clear hq
    have hq := fun w => Lib.run_eql_slice_nil (P := Tryz.prog) w 45 43 none 0 c 0 0 Tryz.underlying45
    go_enter Tryz.func66, Tryz.ntmps66
    go_wp2
    go_ret
    exact ⟨_, rfl, Own.nil _ _ _ _, Below.refl _ _⟩
  · have hown := Own.made (k := .u16) (e := 43) (w := w) (base := w.heap.size) (Nat.le_refl _) [] (by simp [maxLen])
    have hb := (Below.refl w.heap.size w).alloc (Nat.le_refl _) (.cells #[] 43)
    go_enter Tryz.func66, Tryz.ntmps66
    go_wp2_with (at_builtin; refine wpList_pushAll w.heap.size _ [] l _ c _ _ rfl rfl Tryz.underlying45 hi hz0 hz1 hz2 rfl rfl rfl (HR.out.below ((Below.refl _ _).alloc (Nat.le_refl _) _)) hown ?g0 ?g1 ?g2 ?_; (case g0 => simp); (case g1 => simp; omega); (case g2 => simp [maxLen]; omega); intro v2 w2 ho2 hg2 _)
    go_ret
    exact ⟨_, rfl, ho2, hb.grown hg2 (by simp) (fun g hgk => (hown.block g hgk).1)⟩
/-- a row of the call's own, cut to nothing -/
theorem Own.cut0 {k : IntKind} {e : TypeId} {w : World} {base : Nat} {A : Option Addr} {n c : Nat} {l : List Int} (h : Own k e w base (.slice A n c) l) : Own k e w base (.slice A 0 c) [] := by
  obtain ⟨h1, h2⟩ := h
  refine ⟨rfl, ?_⟩
  rcases h2 with ⟨h2, h3⟩ | ⟨g, cap, cur, e1, hg, hh, hnc, hcap, hsz, htk⟩
  · injection h2 with a1 a2 a3
    subst a1; subst a3
    exact .inl ⟨rfl, rfl⟩
  · injection e1 with a1 a2 a3
    subst a1; subst a3
    exact .inr ⟨g, _, cur, rfl, hg, hh, Nat.zero_le _, hcap, hsz, by simp⟩
set_option maxHeartbeats 400000 in
set_option maxRecDepth 100000 in
theorem grow16 (n : Nat) (w : World) (hn : n ≤ 1000000) :
    Calls Tryz.prog 93 #[.slice none 0 0, .int .i64 n] w fun e w' => ∃ v, e = .returned v ∧ Own .u16 43 w' w.heap.size v [] ∧ Below w.heap.size w w' := by
  obtain ⟨i0, hi, hz0, hz1, hz2⟩ := info_parts u16_info
  have hnil := Lib.hid (Own.nil .u16 43 w w.heap.size)
  have hb1 : ([] : List Int).length + n ≤ maxLen := by simp [maxLen]; omega
  have hb2 : (([] : List Int).length + n) * 2 ≤ 140737488355328 := by simp; omega
  go_enter Tryz.func93, Tryz.ntmps93
  by_cases h0 : 0 < n
  · have h0i : (0 : Int) < n := by omega
    have h0j : ¬ (n : Int) < 0 := by omega
    go_wp2_with (at_builtin; refine wpList_appendZeros (kx := .i64) w.heap.size _ [] n _ _ rfl rfl Tryz.underlying45 Tryz.underlying3 hi hz0 hz1 hz2 (by decide) rfl rfl hnil.out (Nat.le_refl _) hb2 hb1 ?_; intro v2 w2 ho2 hg2 hx2; obtain ⟨A2, c2, rfl, hc2, _, _⟩ := ho2.form; have HO := Lib.hid ho2.cut0; have HB := Lib.hid ((Below.refl w.heap.size w).grown hg2 (Nat.le_refl _) (fun g hgk => (hnil.out.block g hgk).1)); clear ho2 hg2 hx2)
    go_ret
    exact ⟨_, rfl, HO.out, HB.out⟩
  · obtain rfl : n = 0 := by omega
    go_wp2
    go_ret
    exact ⟨_, rfl, hnil.out, Below.refl _ _⟩
end Go.Proofs.YtbjekoljipjldaaGreatDoor
namespace Go.Proofs.YtbjekoljipjldaaGreatDoor
set_option linter.unusedVariables false
set_option linter.unusedSimpArgs false
open Go.RowKit

set_option maxHeartbeats 1000000 in
set_option maxRecDepth 100000 in
theorem concat3 (B : Nat) (A0 A1 A2 : Option Addr) (c0 c1 c2 : Nat) (l0 l1 l2 : List Int) (w : World) (hB : w.heap[B]? = some (.cells #[.slice A0 l0.length c0, .slice A1 l1.length c1, .slice A2 l2.length c2] 45 (0, 0)))
    (h0 : Rd .u16 w A0 l0) (h1 : Rd .u16 w A1 l1) (h2 : Rd .u16 w A2 l2) (hl : l0.length + l1.length + l2.length ≤ 1000000) :
    Calls Tryz.prog 78 #[.slice (some ⟨B, 0, none⟩) 3 3] w fun e w' => ∃ v, e = .returned v ∧ Own .u16 43 w' w.heap.size v (l0 ++ l1 ++ l2) ∧ Below w.heap.size w w' := by
  obtain ⟨i0, hi, hz0, hz1, hz2⟩ := info_parts u16_info
  have H0 := Lib.hid h0
  have H1 := Lib.hid h1
  have H2 := Lib.hid h2
  have HB := Lib.hid hB
  have q0 := blk_cell hB 0 rfl
  have q1 := blk_cell hB 1 rfl
  have q2 := blk_cell hB 2 rfl
  have BB : ∀ a b : Nat, a + b ≤ 1000000 → (a + b) * 2 ≤ 140737488355328 ∧ a + b ≤ maxLen := fun a b h => ⟨by omega, by unfold maxLen; omega⟩
  clear h0 h1 h2 hB
  go_enter Tryz.func78, Tryz.ntmps78
  go_wp2
  go_loopw [3, 11] (fun v3 v11 wr => ∃ k s : Nat, k ≤ 3 ∧ v11 = .int .i64 k ∧ v3 = .int .i64 s ∧ Hid (s = if k = 0 then 0 else if k = 1 then l0.length else if k = 2 then l0.length + l1.length else l0.length + l1.length + l2.length) ∧ wr = w) (fun _ v11 _ => 3 - (intOf v11).toNat)
  case atStart => exact ⟨0, 0, by omega, rfl, rfl, rfl, rfl⟩
  case round =>
    obtain ⟨k, s, hk, rfl, rfl, HS, rfl⟩ := hrel
    rcases k with _ | _ | _ | _ | k
    · obtain rfl : s = 0 := HS.out
      clear HS
      go_wp2
      go_roundw
      case rel => exact ⟨1, l0.length, by omega, rfl, by simp, rfl, trivial⟩
      case measure => simp [intOf]
    · obtain rfl : s = l0.length := HS.out
      clear HS
      go_wp2
      go_roundw
      case rel => exact ⟨2, l0.length + l1.length, by omega, rfl, by simp, rfl, trivial⟩
      case measure => simp [intOf]
    · have hs : s = l0.length + l1.length := HS.out
      have hs2 : IntKind.i64.wrap ((s : Int) + (l2.length : Int)) = (s : Int) + (l2.length : Int) := by rw [IntKind.wrap_i64]; omega
      have hs3 : ¬ (s : Int) + (l2.length : Int) < 0 := by omega
      have hs4 : s + l2.length = l0.length + l1.length + l2.length := by omega
      have hs5 : s ≤ 1000000 := by omega
      have HS4 := Lib.hid hs4
      clear hs hs4 HS
      go_wp2
      go_roundw
      case rel => exact ⟨3, s + l2.length, by omega, rfl, by simp, HS4.out, trivial⟩
      case measure => simp [intOf]
    · have hs : s ≤ 1000000 := by have : s = l0.length + l1.length + l2.length := HS.out; omega
      clear HS
      rename World => w
      go_wp2_with fail
      refine (grow16 s _ hs).mono ?_
      rintro e w1 ⟨v6, rfl, ho1, hb1⟩
      have HO1 := Lib.hid ho1
      have q0' := (hb1.cell (p := ⟨B, 0, none⟩) (blk_lt HB.out)).trans q0
      have q1' := (hb1.cell (p := ⟨B, 1, none⟩) (blk_lt HB.out)).trans q1
      have q2' := (hb1.cell (p := ⟨B, 2, none⟩) (blk_lt HB.out)).trans q2
      have HB1 := Lib.hid hb1
      have hbw := blk_lt HB.out
      clear ho1 hb1 q0 q1 q2
      go_wp2_with fail
      go_loopw [6, 27] (fun v6 v27 wr => ∃ (k : Nat) (p : List Int), k ≤ 3 ∧ v27 = .int .i64 k ∧ Hid (p = if k = 0 then [] else if k = 1 then l0 else if k = 2 then l0 ++ l1 else l0 ++ l1 ++ l2) ∧ Hid (Own .u16 43 wr w.heap.size v6 p) ∧ Below w.heap.size w wr) (fun _ v27 _ => 3 - (intOf v27).toNat)
      case atStart => exact ⟨0, [], by omega, rfl, rfl, HO1, HB1.out⟩
      case round =>
        obtain ⟨k, p, hk, rfl, HP, HO, hb⟩ := hrel
        rename World => wx
        have hsz := hb.size
        have r0 := (hb.cell (p := ⟨B, 0, none⟩) hbw).trans (blk_cell HB.out 0 rfl)
        have r1 := (hb.cell (p := ⟨B, 1, none⟩) hbw).trans (blk_cell HB.out 1 rfl)
        have r2 := (hb.cell (p := ⟨B, 2, none⟩) hbw).trans (blk_cell HB.out 2 rfl)
        rcases k with _ | _ | _ | _ | k
        · obtain rfl : p = [] := HP.out
          have b1 := BB 0 l0.length (by omega)
          go_wp2_with (at_builtin; refine wpList_pushAll w.heap.size _ [] l0 A0 c0 _ _ rfl rfl Tryz.underlying45 hi hz0 hz1 hz2 rfl rfl rfl (H0.out.below hb) HO.out hsz b1.1 b1.2 ?_; intro v2 w2 ho2 hg2 _)
          try go_wp2
          go_roundw
          case rel => exact ⟨1, l0, by omega, rfl, rfl, ho2, hb.grown hg2 hsz (fun g hg => (HO.out.block g hg).1)⟩
          case measure => simp [intOf]
        · obtain rfl : p = l0 := HP.out
          have b1 := BB p.length l1.length (by omega)
          go_wp2_with (at_builtin; refine wpList_pushAll w.heap.size _ p l1 A1 c1 _ _ rfl rfl Tryz.underlying45 hi hz0 hz1 hz2 rfl rfl rfl (H1.out.below hb) HO.out hsz b1.1 b1.2 ?_; intro v2 w2 ho2 hg2 _)
          try go_wp2
          go_roundw
          case rel => exact ⟨2, p ++ l1, by omega, rfl, rfl, ho2, hb.grown hg2 hsz (fun g hg => (HO.out.block g hg).1)⟩
          case measure => simp [intOf]
        · have hp : p = l0 ++ l1 := HP.out
          have b1 := BB p.length l2.length (by rw [hp]; simp; omega)
          have HE := Lib.hid (show p ++ l2 = l0 ++ l1 ++ l2 by rw [hp])
          clear hp HP
          go_wp2_with (at_builtin; refine wpList_pushAll w.heap.size _ p l2 A2 c2 _ _ rfl rfl Tryz.underlying45 hi hz0 hz1 hz2 rfl rfl rfl (H2.out.below hb) HO.out hsz b1.1 b1.2 ?_; intro v2 w2 ho2 hg2 _)
          try go_wp2
          go_roundw
          case rel => exact ⟨3, p ++ l2, by omega, rfl, HE.out, ho2, hb.grown hg2 hsz (fun g hg => (HO.out.block g hg).1)⟩
          case measure => simp [intOf]
        · have HE := Lib.hid (show p = l0 ++ l1 ++ l2 from HP.out)
          clear HP
          go_wp2
          go_ret
          exact ⟨_, rfl, by rw [← HE.out]; exact HO.out, hb⟩
        · omega
    · omega
end Go.Proofs.YtbjekoljipjldaaGreatDoor
namespace Go.Proofs.YtbjekoljipjldaaGreatDoor
set_option linter.unusedVariables false
set_option linter.unusedSimpArgs false
open Go.RowKit
attribute [local go_sem ↓] Go.wp_at_zero Go.wp_at_succ

theorem concat3n (B : Nat) (A0 A1 A2 : Option Addr) (n0 n1 n2 c0 c1 c2 : Nat) (l0 l1 l2 : List Int) (w : World) (e0 : l0.length = n0) (e1 : l1.length = n1) (e2 : l2.length = n2) (hB : w.heap[B]? = some (.cells #[.slice A0 n0 c0, .slice A1 n1 c1, .slice A2 n2 c2] 45 (0, 0)))
    (h0 : Rd .u16 w A0 l0) (h1 : Rd .u16 w A1 l1) (h2 : Rd .u16 w A2 l2) (hl : n0 + n1 + n2 ≤ 1000000) :
    Calls Tryz.prog 78 #[.slice (some ⟨B, 0, none⟩) 3 3] w fun e w' => ∃ v, e = .returned v ∧ Own .u16 43 w' w.heap.size v (l0 ++ l1 ++ l2) ∧ Below w.heap.size w w' := by
  subst e0; subst e1; subst e2
  exact concat3 B A0 A1 A2 c0 c1 c2 l0 l1 l2 w hB h0 h1 h2 hl
theorem alloc_at {w : World} {o : Obj} {k : Nat} (h : k = w.heap.size) : (w.alloc o).heap[k]? = some o := by subst h; exact heap_alloc_new _ _
theorem blk_alloc {w : World} {b : Nat} {o : Obj} (hh : w.heap[b]? = some o) (x : Obj) : (w.alloc x).heap[b]? = some o := blk_below hh ((Below.refl _ _).alloc (Nat.le_refl _) x) rfl
/-- one number in a block -/
theorem Rd.one {k : IntKind} {w : World} {B : Nat} {x : Int} {e : TypeId} (h : w.heap[B]? = some (.cells #[.int k x] e (0, 0))) : Rd k w (some ⟨B, 0, none⟩) [x] := fun i hi => by
  obtain rfl : i = 0 := by simpa using hi
  exact ⟨_, rfl, blk_lt h, by rw [add_mk]; exact blk_cell h 0 rfl⟩
theorem Rd.drop {k : IntKind} {w : World} {A : Option Addr} {l : List Int} (h : Rd k w A l) (j : Nat) : Rd k w (A.map (·.add j)) (l.drop j) := by
  have := h.cut j (l.length - j)
  rwa [List.take_of_length_le (by simp)] at this
set_option maxHeartbeats 1000000 in
set_option maxRecDepth 100000 in
theorem arrAdd (A : Option Addr) (c : Nat) (l : List Int) (v : Int) (w : World) (hr : Rd .u16 w A l) (hR : Rise l) (hc : l.length ≤ c) (hlen : l.length ≤ 900000) :
    Calls Tryz.prog 54 #[.slice A l.length c, .int .u16 v] w fun e w' => ∃ V b, e = .returned (.tuple #[V, .bool b]) ∧ Hid (b = !isIn l v) ∧ Own .u16 43 w' w.heap.size V (addR l v) ∧ Below w.heap.size w w' := by
  have HR := Lib.hid hr
  have HRI := Lib.hid hR
  clear hr hR
  go_enter Tryz.func54, Tryz.ntmps54
  go_wp2_with fail
  refine (bsearch16 A c l v _ HR.out HRI.out (by omega)).mono ?_
  rintro e w1 ⟨i, b, rfl, HI, HB, hb1⟩
  have hil : i ≤ l.length := by rw [HI.out]; exact lowr_le l v
  cases b
  · have HA := Lib.hid (show l.take i ++ [v] ++ l.drop i = addR l v by unfold addR; rw [← HB.out, HI.out]; rfl)
    have HB1 := Lib.hid (show (true : Bool) = !isIn l v by rw [← HB.out]; rfl)
    have R1 := Lib.hid (HR.out.below hb1)
    have hsz := hb1.size
    have hlt : (l.take i).length = i := by rw [List.length_take]; omega
    have hld : (l.drop i).length = l.length - i := by rw [List.length_drop]
    have HLT := Lib.hid hlt
    have HLD := Lib.hid hld
    have hi1 : (i : Int) ≤ (c : Int) := by omega
    have hi2 : (i : Int) ≤ (l.length : Int) := by omega
    clear hlt hld HB HI HRI
    have KEY : ∀ (A2 : Option Addr) (c2 m : Nat), l.length - i = m → Hid (Rd .u16 w1 A2 (l.drop i)) → Hid (∀ (wx : World) (B C : Nat), Below w1.heap.size w1 wx → wx.heap[C]? = some (.cells #[.int .u16 v] 43 (0, 0)) →
        wx.heap[B]? = some (.cells #[.slice A i c, .slice (some ⟨C, 0, none⟩) 1 1, .slice A2 m c2] 45 (0, 0)) →
        Calls Tryz.prog 78 #[.slice (some ⟨B, 0, none⟩) 3 3] wx fun e w' => ∃ V, e = .returned V ∧ Hid (Own .u16 43 w' w.heap.size V (addR l v) ∧ Below w.heap.size w w')) := by
      intro A2 c2 m hm hR2 wx B C hbx hC hB
      have := concat3n B A _ A2 _ _ _ _ _ _ (l.take i) [v] (l.drop i) wx HLT.out rfl (HLD.out.trans hm) hB (Rd.take (R1.out.below hbx) i) (Rd.one hC) (hR2.out.below hbx) (by simp; omega)
      rw [HA.out] at this
      exact this.mono fun e w' ⟨V, he, h2, h3⟩ => ⟨V, he, h2.mono (Nat.le_trans hsz hbx.size), below_then (below_then hb1 hbx) h3⟩
    by_cases hci : c = i
    · subst hci
      obtain rfl : c = l.length := by omega
      have KEY1 := KEY A 0 0 (by omega) (by show Rd _ _ _ _; rw [List.drop_length]; exact Rd.nil _ _ _)
      clear KEY
      go_wp2_with fail
      go_region_law (first | ((with_reducible refine gate_scall (f := 78) rfl ?_); refine step_goes rfl Tryz.func78 (by kernel_rfl) rfl #[.slice (some ⟨_, 0, none⟩) 3 3] rfl (by simp only [List.map_toArray, List.map_cons, List.map_nil]; rfl) (KEY1.out _ _ _ (by repeat (first | exact Below.refl _ _ | refine Below.drew ?_ | refine Below.alloc ?_ (by first | omega | (simp; done) | (simp; omega)) _)) (by first | exact blk_alloc (heap_alloc_new _ _) _ | exact alloc_at (by simp)) (alloc_at (by simp))) ?_; rintro e wy ⟨V, rfl, HV⟩; refine ⟨_, rfl, ?_⟩))
      all_goals
        go_wp2
        go_ret2
        exact ⟨_, _, rfl, HB1.out, HV.out.1, HV.out.2⟩
    · rcases A with _ | ad
      · have hl : l = [] := by
          rcases l with _ | ⟨x, l⟩
          · rfl
          · obtain ⟨_, e, _⟩ := R1.out 0 (by simp); cases e
        subst hl
        obtain rfl : i = 0 := by simpa using hil
        have KEY1 := KEY none c 0 rfl (Rd.nil _ _ _)
        clear KEY
        go_wp2_with fail
        go_region_law (first | ((with_reducible refine gate_scall (f := 78) rfl ?_); refine step_goes rfl Tryz.func78 (by kernel_rfl) rfl #[.slice (some ⟨_, 0, none⟩) 3 3] rfl (by simp only [List.map_toArray, List.map_cons, List.map_nil]; rfl) (KEY1.out _ _ _ (by repeat (first | exact Below.refl _ _ | refine Below.drew ?_ | refine Below.alloc ?_ (by first | omega | (simp; done) | (simp; omega)) _)) (by first | exact blk_alloc (heap_alloc_new _ _) _ | exact alloc_at (by simp)) (alloc_at (by simp))) ?_; rintro e wy ⟨V, rfl, HV⟩; refine ⟨_, rfl, ?_⟩))
        all_goals
          go_wp2
          go_ret2
          exact ⟨_, _, rfl, HB1.out, HV.out.1, HV.out.2⟩
      · have KEY1 := KEY (some (ad.add i)) (c - i) (l.length - i) rfl (R1.out.drop i)
        clear KEY
        go_wp2_with fail
        go_region_law (first | ((with_reducible refine gate_scall (f := 78) rfl ?_); refine step_goes rfl Tryz.func78 (by kernel_rfl) rfl #[.slice (some ⟨_, 0, none⟩) 3 3] rfl (by simp only [List.map_toArray, List.map_cons, List.map_nil]; rfl) (KEY1.out _ _ _ (by repeat (first | exact Below.refl _ _ | refine Below.drew ?_ | refine Below.alloc ?_ (by first | omega | (simp; done) | (simp; omega)) _)) (by first | exact blk_alloc (heap_alloc_new _ _) _ | exact alloc_at (by simp)) (alloc_at (by simp))) ?_; rintro e wy ⟨V, rfl, HV⟩; refine ⟨_, rfl, ?_⟩))
        all_goals
          go_wp2
          go_ret2
          exact ⟨_, _, rfl, HB1.out, HV.out.1, HV.out.2⟩
  · have HA := Lib.hid (show l = addR l v by unfold addR; rw [← HB.out]; rfl)
    have HB1 := Lib.hid (show (false : Bool) = !isIn l v by rw [← HB.out]; rfl)
    go_wp2_with fail
    refine (clone16 A c l _ (HR.out.below hb1) (by omega)).mono ?_
    rintro e w2 ⟨V, rfl, ho, hb2⟩
    go_wp2
    go_ret2
    exact ⟨_, _, rfl, HB1.out, by rw [← HA.out]; exact ho.mono hb1.size, below_then hb1 hb2⟩
end Go.Proofs.YtbjekoljipjldaaGreatDoor
