/-
  Words for memory, of no program: a slice of integers that reads as a list (Rd), a slice of the call's own (Own), append of one and of many.
-/
import Derived.Test.YtmpjjehihimadaaGreatProg
import Derived.WalkKit
import Derived.WalkSpells
import Derived.WalkLawsBesides
import Derived.Deep.QuietTactic
import Derived.BigQuiet
import Derived.Deep.RegionHeld3
import Derived.Lib.Hide
import Derived.Maps.AppendAt
import Derived.Deep.AppendLies
import Derived.LoopTactic
namespace Go.Proofs.YtmpjjehihimadaaGreat
set_option linter.unusedVariables false
set_option linter.unusedSimpArgs false
open Go.RowKit

theorem bcell {W w1 : World} (hb : Below W.heap.size W w1) : (∀ b o, b < W.heap.size → w1.cell? ⟨b, o, none⟩ = W.cell? ⟨b, o, none⟩) ∧ (∀ b o, b < W.heap.size → w1.frozen? ⟨b, o, none⟩ = W.frozen? ⟨b, o, none⟩) :=
  ⟨fun b o h => hb.cell (p := ⟨b, o, none⟩) h, fun b o h => hb.frozen (p := ⟨b, o, none⟩) h⟩
theorem gmax2_int (k k' : IntKind) (x y : Int) : Builtin.max2 (.int k x) (.int k' y) = pure (.int k (if x < y then y else x)) := by simp only [Builtin.max2, gt_iff_lt]
theorem gmin2_int (k k' : IntKind) (x y : Int) : Builtin.min2 (.int k x) (.int k' y) = pure (.int k (if y < x then y else x)) := by simp only [Builtin.min2]
theorem gmax_two (ats : Array TypeId) (ty : TypeId) (a b : Value) : Builtin.max_ ats ty #[a, b] = (Builtin.max2 a b >>= fun s => pure s) := by simp only [Builtin.max_, List.foldlM_cons, List.foldlM_nil]
theorem gmin_two (ats : Array TypeId) (ty : TypeId) (a b : Value) : Builtin.min_ ats ty #[a, b] = (Builtin.min2 a b >>= fun s => pure s) := by simp only [Builtin.min_, List.foldlM_cons, List.foldlM_nil]
theorem below_also {B : Nat} {a b c : World} (h : Below B a b) (k : Below b.heap.size b c) (hB : B ≤ b.heap.size) : Below B a c := h.trans (k.mono hB)
theorem below_then {a b c : World} (h : Below a.heap.size a b) (k : Below b.heap.size b c) : Below a.heap.size a c := h.trans (k.mono h.size)
theorem below_drewN {B : Nat} {w w' : World} (h : Below B w w') (n : Nat) : Below B w (w'.drewN n) := h.trans ⟨rfl, rfl, rfl, Nat.le_refl _, fun _ _ => rfl⟩
theorem block_of_add (a : Addr) (n : Nat) : (a.add n).block = a.block := by unfold Addr.add; split <;> rfl
theorem add_of_add (a : Addr) (i j : Nat) : (a.add i).add j = a.add (i + j) := by
  unfold Addr.add
  by_cases hi : i = 0 <;> by_cases hj : j = 0 <;> simp [hi, hj, Nat.add_assoc]
theorem add_mk (g i : Nat) : (Addr.mk g 0 none).add i = ⟨g, i, none⟩ := by
  unfold Addr.add; split
  · rename_i h; subst h; rfl
  · simp
theorem ret_int {k : IntKind} {a b : Int} (h : a = b) : Ending.returned (.int k a) = Ending.returned (.int k b) := by rw [h]
theorem ret_bool {a b : Bool} (h : a = b) : Ending.returned (.bool a) = Ending.returned (.bool b) := by rw [h]

/-- a slice of integers that reads so -/
def Rd (k : IntKind) (w : World) (A : Option Addr) (l : List Int) : Prop := ∀ i : Nat, i < l.length → ∃ ad, A = some ad ∧ ad.block < w.heap.size ∧ w.cell? (ad.add i) = some (.int k (l.getD i 0))
theorem Rd.below {k : IntKind} {w w' : World} {A : Option Addr} {l : List Int} (h : Rd k w A l) (hb : Below w.heap.size w w') : Rd k w' A l := fun i hi => by
  obtain ⟨ad, e, h1, h2⟩ := h i hi
  exact ⟨ad, e, by have := hb.size; omega, (hb.cell (p := ad.add i) (by rw [block_of_add]; exact h1)).trans h2⟩
/-- behind draws, too: the world that a call began in has the same heap -/
theorem Rd.belowH {k : IntKind} {w w0 w' : World} {A : Option Addr} {l : List Int} (h : Rd k w A l) (hb : Below w0.heap.size w0 w') (e : w0.heap = w.heap) : Rd k w' A l := fun i hi => by
  obtain ⟨ad, e1, h1, h2⟩ := h i hi
  have h3 : w0.cell? (ad.add i) = some (.int k (l.getD i 0)) := by
    rw [World.cell?_of_block (w := w) (w' := w0) (a := ad.add i) (by rw [e])]; exact h2
  exact ⟨ad, e1, by have := hb.size; rw [e] at this; omega, (hb.cell (p := ad.add i) (by rw [block_of_add, e]; exact h1)).trans h3⟩
theorem below_H {B : Nat} {w w0 w' : World} (hb : Below B w0 w') (e : w0.heap = w.heap) (eo : w0.os = w.os) (et : w0.tape = w.tape) (eu : w0.output = w.output) : Below B w w' :=
  ⟨hb.os.trans eo, hb.tape.trans et, hb.output.trans eu, by have := hb.size; rw [e] at this; exact this, fun k hk => (hb.block k hk).trans (by rw [e])⟩
theorem Rd.nil (k : IntKind) (w : World) (A : Option Addr) : Rd k w A [] := fun i hi => absurd hi (by simp)
theorem Rd.cut {k : IntKind} {w : World} {A : Option Addr} {l : List Int} (h : Rd k w A l) (j m : Nat) : Rd k w (A.map (·.add j)) ((l.drop j).take m) := fun i hi => by
  simp only [List.length_take, List.length_drop] at hi
  obtain ⟨ad, e, h1, h2⟩ := h (j + i) (by omega)
  refine ⟨ad.add j, by rw [e]; rfl, by rw [block_of_add]; exact h1, ?_⟩
  rw [add_of_add, h2]
  simp [List.getD_eq_getElem?_getD, List.getElem?_take, List.getElem?_drop, show i < m by omega]
theorem Rd.take {k : IntKind} {w : World} {A : Option Addr} {l : List Int} (h : Rd k w A l) (m : Nat) : Rd k w A (l.take m) := fun i hi => by
  simp only [List.length_take] at hi
  obtain ⟨ad, e, h1, h2⟩ := h i (by omega)
  refine ⟨ad, e, h1, ?_⟩
  rw [h2]
  simp [List.getD_eq_getElem?_getD, List.getElem?_take, show i < m by omega]

/-- a slice of the call's own (from block 'base' on) that holds so -/
def Own (k : IntKind) (e : TypeId) (w : World) (base : Nat) (v : Value) (l : List Int) : Prop := w.ownsRow base e 1 v l.length (l.map (Value.int k))
theorem Own.form {k : IntKind} {e : TypeId} {w : World} {base : Nat} {v : Value} {l : List Int} (h : Own k e w base v l) : ∃ A c, v = .slice A l.length c ∧ l.length ≤ c ∧ c ≤ maxLen ∧ Rd k w A l := by
  rcases h.2 with ⟨rfl, hn⟩ | ⟨g, cap, cur, rfl, hg, hh, hnc, hcap, hsz, htk⟩
  · refine ⟨none, 0, by rw [hn], by omega, by simp [maxLen], fun i hi => by omega⟩
  · refine ⟨some ⟨g, 0, none⟩, cap, rfl, hnc, hcap, fun i hi => ⟨_, rfl, ?_, ?_⟩⟩
    · rcases Nat.lt_or_ge g w.heap.size with h1 | h1
      · exact h1
      · rw [Array.getElem?_eq_none h1] at hh; cases hh
    · rw [add_mk, cell_of_row w g i cur e (0, 0) hh]
      have h1 : (cur.toList.take (l.length * 1))[i]? = some (.int k (l.getD i 0)) := by
        rw [htk, List.getElem?_map, List.getD_eq_getElem?_getD, List.getElem?_eq_getElem hi]; rfl
      rw [List.getElem?_take, if_pos (by omega)] at h1
      simpa using h1
theorem Own.below {k : IntKind} {e : TypeId} {w w' : World} {base : Nat} {v : Value} {l : List Int} (h : Own k e w base v l) (hb : Below w.heap.size w w') : Own k e w' base v l := by
  obtain ⟨h1, h2⟩ := h
  refine ⟨h1, ?_⟩
  rcases h2 with h2 | ⟨g, cap, cur, rfl, hg, hh, hr⟩
  · exact .inl h2
  · refine .inr ⟨g, cap, cur, rfl, hg, ?_, hr⟩
    rw [hb.block g (by
      rcases Nat.lt_or_ge g w.heap.size with h1 | h1
      · exact h1
      · rw [Array.getElem?_eq_none h1] at hh; cases hh)]
    exact hh
theorem Own.belowH {k : IntKind} {e : TypeId} {w w0 w' : World} {base : Nat} {v : Value} {l : List Int} (h : Own k e w base v l) (hb : Below w0.heap.size w0 w') (eh : w0.heap = w.heap) : Own k e w' base v l := by
  obtain ⟨h1, h2⟩ := h
  refine ⟨h1, ?_⟩
  rcases h2 with h2 | ⟨g, cap, cur, rfl, hg, hh, hr⟩
  · exact .inl h2
  · refine .inr ⟨g, cap, cur, rfl, hg, ?_, hr⟩
    rw [hb.block g (by
      rw [eh]
      rcases Nat.lt_or_ge g w.heap.size with h1 | h1
      · exact h1
      · rw [Array.getElem?_eq_none h1] at hh; cases hh), eh]
    exact hh
theorem Own.mono {k : IntKind} {e : TypeId} {w : World} {base base' : Nat} {v : Value} {l : List Int} (h : Own k e w base v l) (hB : base' ≤ base) : Own k e w base' v l := by
  obtain ⟨h1, h2⟩ := h
  refine ⟨h1, ?_⟩
  rcases h2 with h2 | ⟨g, cap, cur, rfl, hg, hr⟩
  · exact .inl h2
  · exact .inr ⟨g, cap, cur, rfl, by omega, hr⟩
theorem Own.nil (k : IntKind) (e : TypeId) (w : World) (base : Nat) : Own k e w base (.slice none 0 0) [] := ⟨rfl, .inl ⟨rfl, rfl⟩⟩
theorem Own.block {k : IntKind} {e : TypeId} {w : World} {base : Nat} {v : Value} {l : List Int} (h : Own k e w base v l) : ∀ g, v.ownBlock = some g → base ≤ g ∧ g < w.heap.size := by
  rcases h.2 with ⟨rfl, hn⟩ | ⟨g, cap, cur, rfl, hg, hh, hnc, hcap, hsz, htk⟩
  · intro g hg; simp [Value.ownBlock] at hg
  · intro g' hg'
    simp [Value.ownBlock] at hg'
    subst hg'
    refine ⟨hg, ?_⟩
    rcases Nat.lt_or_ge g w.heap.size with h1 | h1
    · exact h1
    · rw [Array.getElem?_eq_none h1] at hh; cases hh
/-- a new block of the call's, laid out -/
theorem Own.made {k : IntKind} {e : TypeId} {w : World} {base : Nat} (hb : base ≤ w.heap.size) (l : List Int) (hl : l.length ≤ maxLen) : Own k e (w.alloc (.cells (l.map (Value.int k)).toArray e)) base (.slice (some ⟨w.heap.size, 0, none⟩) l.length l.length) l :=
  ⟨by simp, .inr ⟨_, _, _, rfl, hb, heap_alloc_new w _, Nat.le_refl _, hl, by simp, by simp [List.take_of_length_le]⟩⟩

section
variable {P : Program} {ops : Array Oper} {rest : List Oper} {o : Oper} {a : Act} {Q : Exit → Act → World → Prop} {w : World}
/-- append of one integer to a slice of the call's own -/
theorem wpList_push {k : IntKind} {e t : TypeId} {i : TypeInfo} {z : Value} {by_ : Nat} (base : Nat) (v : Value) (l : List Int) (x : Int) (s y : Operand) (B : Nat)
    (hgd : o.guard = none) (ho : o.op = .call { callee := .builtin .append, args := #[s, y], argTypes := #[t, t] })
    (ht : P.underlying t = some (.slice e)) (hi : P.info? e = some i) (hz : i.zero = some z) (hs1 : i.size = 1) (hby : i.bytes = by_) (hzs : z.cells.size = 1)
    (hs : a.eval s = v) (hy : a.eval y = .slice (some ⟨B, 0, none⟩) 1 1) (hB : w.heap[B]? = some (.cells #[.int k x] e (0, 0)))
    (hown : Own k e w base v l) (hbase : base ≤ w.heap.size) (hbytes : (l.length + 1) * by_ ≤ 140737488355328) (hlen : l.length + 1 ≤ maxLen)
    (h : ∀ v' w', Own k e w' base v' (l ++ [x]) → w.grownBy w' v.ownBlock → (v'.ownBlock = v.ownBlock ∨ v'.ownBlock = some w.heap.size) → wpList P ops Q rest (a.put o.dst v') w') : wpList P ops Q (o :: rest) a w := by
  refine wpList_append_own_at w hgd s y t ho base e i z 1 by_ ht hi hz hs1 hby hzs (by omega) v l.length _ hs hown ⟨B, 0, none⟩ 1 1 [.int k x] hy rfl ?_ ?_ hlen hbytes hbase ?_
  · intro j u hu
    have hj : j = 0 := by
      rcases j with _ | j
      · rfl
      · simp at hu
    subst hj
    simp at hu
    subst hu
    rw [add_mk, cell_of_row w B 0 _ e (0, 0) hB]
    rfl
  · intro u hu
    simp at hu
    subst hu
    rfl
  · intro v' w' h1 h2 _ h4
    refine h v' w' ?_ h2 h4
    simpa [Own] using h1
/-- append of a slice that reads as a list to a slice of the call's own -/
theorem run_pushAll {k : IntKind} {e t ty : TypeId} {i : TypeInfo} {z : Value} {by_ : Nat} (base : Nat) (v : Value) (l m : List Int) (A : Option Addr) (c : Nat)
    (ht : P.underlying t = some (.slice e)) (hi : P.info? e = some i) (hz : i.zero = some z) (hs1 : i.size = 1) (hby : i.bytes = by_) (hzs : z.cells.size = 1)
    (hr : Rd k w A m) (hown : Own k e w base v l) (hbase : base ≤ w.heap.size) (hbytes : (l.length + m.length) * by_ ≤ 140737488355328) (hlen : l.length + m.length ≤ maxLen) :
    ∃ v' w', (Builtin.append_ #[t, t] ty #[v, .slice A m.length c]).run P w = .ok v' w' ∧ Own k e w' base v' (l ++ m) ∧ w.grownBy w' v.ownBlock ∧ (v'.ownBlock = v.ownBlock ∨ v'.ownBlock = some w.heap.size) := by
  rcases A with _ | ad
  · have hm : m = [] := by
      rcases m with _ | ⟨m0, m⟩
      · rfl
      · obtain ⟨ad, e1, _⟩ := hr 0 (by simp)
        cases e1
    subst hm
    refine ⟨v, w, ?_, by simpa using hown, World.grownBy.refl w _, .inl rfl⟩
    rcases hown.2 with ⟨rfl, hn⟩ | ⟨g, cap, cur, rfl, hg, hh, hnc, hcap, hsz, htk⟩
    · simp [Builtin.append_, run_underlying ht, sizeOf, typeInfo, hi, Builtin.lenOf, Builtin.firstCells]
    · simp [Builtin.append_, run_underlying ht, sizeOf, typeInfo, hi, Builtin.lenOf, Builtin.firstCells, hnc, storeCells]
  · obtain ⟨v', w', hrun, h2, h3, _, h5⟩ := run_append_own_at (P := P) w base t ty e i z 1 by_ ht hi hz hs1 hby hzs (by omega) v l.length _ hown ad m.length c (m.map (Value.int k)) (by simp) (by
      intro j u hu
      have hj : j < m.length := by
        rcases Nat.lt_or_ge j m.length with h1 | h1
        · exact h1
        · rw [List.getElem?_eq_none (by simpa using h1)] at hu; cases hu
      obtain ⟨ad', e1, _, hc⟩ := hr j hj
      cases e1
      rw [hc, ← hu, List.getElem?_map, List.getD_eq_getElem?_getD, List.getElem?_eq_getElem hj]
      rfl) (by
      intro u hu
      obtain ⟨x, _, rfl⟩ := List.mem_map.1 hu
      rfl) hlen hbytes hbase
    exact ⟨v', w', hrun, by simpa [Own] using h2, h3, h5⟩
theorem wp_pushAll {K : Act → World → Prop} {k : IntKind} {e t : TypeId} {i : TypeInfo} {z : Value} {by_ : Nat} (base : Nat) (v : Value) (l m : List Int) (A : Option Addr) (c : Nat) (s y : Operand)
    (ho : o.op = .call { callee := .builtin .append, args := #[s, y], argTypes := #[t, t] })
    (ht : P.underlying t = some (.slice e)) (hi : P.info? e = some i) (hz : i.zero = some z) (hs1 : i.size = 1) (hby : i.bytes = by_) (hzs : z.cells.size = 1)
    (hs : a.eval s = v) (hy : a.eval y = .slice A m.length c) (hr : Rd k w A m)
    (hown : Own k e w base v l) (hbase : base ≤ w.heap.size) (hbytes : (l.length + m.length) * by_ ≤ 140737488355328) (hlen : l.length + m.length ≤ maxLen)
    (h : ∀ v' w', Own k e w' base v' (l ++ m) → w.grownBy w' v.ownBlock → (v'.ownBlock = v.ownBlock ∨ v'.ownBlock = some w.heap.size) → K (a.put o.dst v') w') : o.wp P a w K Q := by
  obtain ⟨v', w', hrun, h2, h3, h4⟩ := run_pushAll (P := P) (ty := o.type) base v l m A c ht hi hz hs1 hby hzs hr hown hbase hbytes hlen
  unfold Oper.wp execOp
  simp only [ho, resolve, invoke, builtin, Sem.run_bind, Sem.run_pure, Result.andThen_ok, List.map_toArray, List.map_cons, List.map_nil, hs, hy, hrun]
  exact h v' w' h2 h3 h4
theorem wpList_pushAll {k : IntKind} {e t : TypeId} {i : TypeInfo} {z : Value} {by_ : Nat} (base : Nat) (v : Value) (l m : List Int) (A : Option Addr) (c : Nat) (s y : Operand)
    (hgd : o.guard = none) (ho : o.op = .call { callee := .builtin .append, args := #[s, y], argTypes := #[t, t] })
    (ht : P.underlying t = some (.slice e)) (hi : P.info? e = some i) (hz : i.zero = some z) (hs1 : i.size = 1) (hby : i.bytes = by_) (hzs : z.cells.size = 1)
    (hs : a.eval s = v) (hy : a.eval y = .slice A m.length c) (hr : Rd k w A m)
    (hown : Own k e w base v l) (hbase : base ≤ w.heap.size) (hbytes : (l.length + m.length) * by_ ≤ 140737488355328) (hlen : l.length + m.length ≤ maxLen)
    (h : ∀ v' w', Own k e w' base v' (l ++ m) → w.grownBy w' v.ownBlock → (v'.ownBlock = v.ownBlock ∨ v'.ownBlock = some w.heap.size) → wpList P ops Q rest (a.put o.dst v') w') : wpList P ops Q (o :: rest) a w :=
  wpList_plain hgd fun _ hK => wp_pushAll base v l m A c s y ho ht hi hz hs1 hby hzs hs hy hr hown hbase hbytes hlen fun v' w' h2 h3 h4 => hK _ _ (h v' w' h2 h3 h4)
/-- the same at a step of a region that draws its order -/
theorem step_pushAll {K : Act → World → Prop} {E : Prop} {k : IntKind} {e t : TypeId} {i : TypeInfo} {z : Value} {by_ : Nat} (base : Nat) (v : Value) (l m : List Int) (A : Option Addr) (c : Nat) (s y : Operand)
    (hgd : o.guard = none) (ho : o.op = .call { callee := .builtin .append, args := #[s, y], argTypes := #[t, t] })
    (ht : P.underlying t = some (.slice e)) (hi : P.info? e = some i) (hz : i.zero = some z) (hs1 : i.size = 1) (hby : i.bytes = by_) (hzs : z.cells.size = 1)
    (hs : a.eval s = v) (hy : a.eval y = .slice A m.length c) (hr : Rd k w A m)
    (hown : Own k e w base v l) (hbase : base ≤ w.heap.size) (hbytes : (l.length + m.length) * by_ ≤ 140737488355328) (hlen : l.length + m.length ≤ maxLen)
    (h : ∀ v' w', Own k e w' base v' (l ++ m) → w.grownBy w' v.ownBlock → (v'.ownBlock = v.ownBlock ∨ v'.ownBlock = some w.heap.size) → K (a.put o.dst v') w') :
    if Region.wanted o (yielded ops a.tmps) = true then Oper.wp P o a w K Q else E := by
  have hw : Region.wanted o (yielded ops a.tmps) = true := by simp [Region.wanted, hgd]
  rw [if_pos hw]
  exact wp_pushAll base v l m A c s y ho ht hi hz hs1 hby hzs hs hy hr hown hbase hbytes hlen h
/-- a cheap look ahead of a dear step: the operation is a call of this function, of this builtin -/
theorem gate_scall {K : Act → World → Prop} {E : Prop} {f : FuncId} {xs : Array Operand} {ts : Array TypeId} (_ho : o.op = .call { callee := .value (.func f), args := xs, argTypes := ts })
    (h : if Region.wanted o (yielded ops a.tmps) = true then Oper.wp P o a w K Q else E) : if Region.wanted o (yielded ops a.tmps) = true then Oper.wp P o a w K Q else E := h
theorem gate_sbuiltin {K : Act → World → Prop} {E : Prop} {b : Builtin} {xs : Array Operand} {ts : Array TypeId} (_ho : o.op = .call { callee := .builtin b, args := xs, argTypes := ts })
    (h : if Region.wanted o (yielded ops a.tmps) = true then Oper.wp P o a w K Q else E) : if Region.wanted o (yielded ops a.tmps) = true then Oper.wp P o a w K Q else E := h
theorem enters_fn {P : Program} {f : FuncId} {fn : Func} (hf : P.funcs[f]? = some fn) (hname : (fn.name == "runtime.NumGoroutine") = false) (hb : fn.body.isSome = true) (args : Array Value) (w : World) : (callFunc f args).run P w = .ok (.enter f args) w := by
  have h1 : fn.name ≠ "runtime.NumGoroutine" := by simpa using hname
  obtain ⟨c, hc⟩ := Option.isSome_iff_exists.1 hb
  simp [callFunc, hf, h1, hc]
/-- a call at a step of a region that draws its order -/
theorem step_goes {K : Act → World → Prop} {E : Prop} {f : FuncId} {fn : Func} {xs : Array Operand} {ts : Array TypeId} (hgd : o.guard = none) (hf : P.funcs[f]? = some fn) (hname : (fn.name == "runtime.NumGoroutine") = false) (hb : fn.body.isSome = true) (args : Array Value)
    (hop : o.op = .call { callee := .value (.func f), args := xs, argTypes := ts }) (hargs : xs.map a.eval = args) {R : Ending → World → Prop} (hc : Calls P f args w R)
    (h : ∀ e w', R e w' → ∃ v, e = .returned v ∧ K (a.put o.dst v) w') : if Region.wanted o (yielded ops a.tmps) = true then Oper.wp P o a w K Q else E := by
  have hw : Region.wanted o (yielded ops a.tmps) = true := by simp [Region.wanted, hgd]
  rw [if_pos hw]
  have he := enters_fn hf hname hb args w
  have hrun : (execOp a.eval o).run P w = .ok (.enter f args) w := by
    unfold execOp
    simp [hop, resolve, Deferred.ofValue, invoke, Act.eval, hargs, he]
  unfold Oper.wp
  rw [hrun, Oper.upon_enter]
  refine hc.mono fun e w'' hh => ?_
  obtain ⟨v, rfl, hk⟩ := h e w'' hh
  exact hk
end
/-- a block of another type is no row that is appended to -/
theorem grown_block {k : IntKind} {e : TypeId} {w w' : World} {base : Nat} {v : Value} {l : List Int} (ho : Own k e w base v l) (hg : w.grownBy w' v.ownBlock) {b : Nat} {cs : Array Value} {t : TypeId} (hh : w.heap[b]? = some (.cells cs t (0, 0))) (hne : e ≠ t) :
    w'.heap[b]? = some (.cells cs t (0, 0)) := by
  have hbl : b < w.heap.size := by
    rcases Nat.lt_or_ge b w.heap.size with h | h
    · exact h
    · rw [Array.getElem?_eq_none h] at hh; cases hh
  rw [hg.block b hbl ?_, hh]
  intro hb
  rcases ho.2 with ⟨rfl, hn⟩ | ⟨g, cap, cur, rfl, hg', hh', _⟩
  · simp [Value.ownBlock] at hb
  · simp [Value.ownBlock] at hb
    subst hb
    rw [hh] at hh'
    cases hh'
    exact hne rfl
theorem blk_lt {w : World} {b : Nat} {o : Obj} (hh : w.heap[b]? = some o) : b < w.heap.size := by
  rcases Nat.lt_or_ge b w.heap.size with h | h
  · exact h
  · rw [Array.getElem?_eq_none h] at hh; cases hh
theorem blk_cell {w : World} {b : Nat} {cs : Array Value} {t : TypeId} (hh : w.heap[b]? = some (.cells cs t (0, 0))) (i : Nat) {v : Value} (hv : cs[i]? = some v) : w.cell? ⟨b, i, none⟩ = some v := by rw [cell_of_row w b i cs t (0, 0) hh, hv]
theorem blk_free {w : World} {b : Nat} {cs : Array Value} {t : TypeId} (hh : w.heap[b]? = some (.cells cs t (0, 0))) (i : Nat) : w.frozen? ⟨b, i, none⟩ = false := by simp [World.frozen?, hh]
theorem blk_below {w w0 w' : World} {b : Nat} {o : Obj} (hh : w.heap[b]? = some o) (hb : Below w0.heap.size w0 w') (e : w0.heap = w.heap) : w'.heap[b]? = some o := by
  rw [hb.block b (by rw [e]; exact blk_lt hh), e]; exact hh
theorem blk_set {w : World} {b : Nat} {cs : Array Value} {t : TypeId} (hh : w.heap[b]? = some (.cells cs t (0, 0))) (i : Nat) (u : Value) : (w.setCell ⟨b, i, none⟩ u).heap[b]? = some (.cells (cs.setIfInBounds i u) t (0, 0)) := by
  simp [World.setCell, Array.getElem?_modify, hh]
theorem own_set {k : IntKind} {e : TypeId} {w : World} {base : Nat} {v : Value} {l : List Int} (ho : Own k e w base v l) {b : Nat} {cs : Array Value} {t : TypeId} (hh : w.heap[b]? = some (.cells cs t (0, 0))) (hne : e ≠ t) (i : Nat) (u : Value) : Own k e (w.setCell ⟨b, i, none⟩ u) base v l := by
  obtain ⟨h1, h2⟩ := ho
  refine ⟨h1, ?_⟩
  rcases h2 with h2 | ⟨g, cap, cur, rfl, hg, hg2, hr⟩
  · exact .inl h2
  · refine .inr ⟨g, cap, cur, rfl, hg, ?_, hr⟩
    rw [Below.heap_setCell w ⟨b, i, none⟩ u g (by rintro rfl; rw [hh] at hg2; cases hg2; exact hne rfl)]
    exact hg2
theorem below_grown {B : Nat} {w0 w w' : World} {k : IntKind} {e : TypeId} {v : Value} {l : List Int} (h : Below B w0 w) (ho : Own k e w B v l) (hg : w.grownBy w' v.ownBlock) (hB : B ≤ w.heap.size) : Below B w0 w' :=
  h.grown hg hB (fun g hgk => (ho.block g hgk).1)
end Go.Proofs.YtmpjjehihimadaaGreat
