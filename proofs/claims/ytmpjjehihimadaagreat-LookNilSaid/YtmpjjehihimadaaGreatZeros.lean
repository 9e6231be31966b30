/-
  append(v, make([]T, n)...) on a slice of integers of the call's own; make of integers. (append of zeros: turned from a law that the kit's print tool prints.)
-/
import Derived.Test.YtmpjjehihimadaaGreatKit
import Derived.Laws.OwnMore
namespace Go.Proofs.YtmpjjehihimadaaGreat
set_option linter.unusedVariables false
set_option linter.unusedSimpArgs false
open Go.RowKit

theorem zeroCells_int (k : IntKind) (m : Nat) : Builtin.zeroCells #[.int k 0] m = (List.replicate m (Value.int k 0)).toArray := by
  apply Array.ext'
  apply List.ext_getElem?
  intro j
  simp only [Builtin.zeroCells, Array.toList_map, Array.toList_range, List.getElem?_map, List.getElem?_replicate]
  by_cases hj : j < m
  · rw [List.getElem?_range (by simpa using hj), if_pos hj]
    simp [Nat.mod_one]
  · rw [if_neg hj, List.getElem?_eq_none (by simpa using hj)]
    rfl
section
variable {P : Program} {ops : Array Oper} {rest : List Oper} {o : Oper} {a : Act} {Q : Exit → Act → World → Prop} {w : World}
theorem run_appendZeros {k kt kx : IntKind} {e t ti ty : TypeId} {i : TypeInfo} {by_ : Nat} (base : Nat) (v : Value) (l : List Int) (m : Nat)
    (ht : P.underlying t = some (.slice e)) (hti : P.underlying ti = some (.int kt)) (hi : P.info? e = some i) (hz : i.zero = some (.int k 0)) (hs1 : i.size = 1) (hby : i.bytes = by_) (hb0 : 0 < by_)
    (hown : Own k e w base v l) (hbase : base ≤ w.heap.size) (hbytes : (l.length + m) * by_ ≤ 140737488355328) (hlen : l.length + m ≤ maxLen) :
    ∃ v' w', (Builtin.append_ #[t, ti] ty #[v, .int kx m]).run P w = .ok v' w' ∧ Own k e w' base v' (l ++ List.replicate m 0) ∧ w.grownBy w' v.ownBlock ∧ (v'.ownBlock = v.ownBlock ∨ v'.ownBlock = some w.heap.size) := by
  subst hby
  obtain ⟨n, hn⟩ : ∃ n, l.length = n := ⟨_, rfl⟩
  obtain ⟨xs, hxs⟩ : ∃ xs, l.map (Value.int k) = xs := ⟨_, rfl⟩
  obtain ⟨news, hnews⟩ : ∃ news, news = List.replicate m (Value.int k 0) := ⟨_, rfl⟩
  have hall : (l ++ List.replicate m 0).map (Value.int k) = xs ++ news := by rw [List.map_append, hxs, hnews]; simp
  have hln : (l ++ List.replicate m (0 : Int)).length = n + m := by simp [hn]
  have hxl : xs.length = n := by rw [← hxs, List.length_map, hn]
  have hnl : news.length = m := by rw [hnews]; simp
  have hna : Builtin.zeroCells #[Value.int k 0] m = news.toArray := by rw [zeroCells_int, hnews]
  have h1 : ∀ u ∈ news, u.oneCell' = true := fun u hu => by rw [hnews] at hu; rw [(List.mem_replicate.1 hu).2]; rfl
  unfold Own at hown ⊢
  rw [hn] at hown hbytes hlen
  rw [hxs] at hown
  rw [hall, hln]
  have hle : n + m ≤ 140737488355328 := Nat.le_trans (Nat.le_mul_of_pos_right _ hb0) hbytes
  have hw : IntKind.i64.wrap (m : Int) = m := by rw [IntKind.wrap_i64]; omega
  have hw0 : IntKind.i64.wrap 0 = 0 := by rw [IntKind.wrap_i64]; rfl
  have hneg : ¬ ((m : Int) < 0) := by omega
  have hmb : m * i.bytes ≤ 140737488355328 := Nat.le_trans (Nat.mul_le_mul_right _ (Nat.le_add_left m n)) hbytes
  have hbig : ¬ (281474976710656 < (m : Int) * (i.bytes : Int)) := by
    rw [← Int.natCast_mul]
    omega
  have hzs : (Value.int k 0).cells = #[Value.int k 0] := rfl
  have grown : ∀ (old : Nat), old < n + m → ∀ (row : Option Nat),
      (w.drew.alloc (.cells (xs.toArray ++ news.toArray ++ Builtin.zeroCells #[Value.int k 0] (grownCap w (n + m) old e - (n + m))) e)).ownsRow base e 1
        (.slice (some ⟨w.heap.size, 0, none⟩) (n + m) (grownCap w (n + m) old e)) (n + m) (xs ++ news) ∧
      w.grownBy (w.drew.alloc (.cells (xs.toArray ++ news.toArray ++ Builtin.zeroCells #[Value.int k 0] (grownCap w (n + m) old e - (n + m))) e)) row := by
    intro old ho row
    have hge := grownCap_ge w (n + m) old e
    have hcm : grownCap w (n + m) old e ≤ maxLen := grownCap_le_maxLen w (n + m) old e hlen
    refine ⟨⟨by rw [List.length_append]; omega, .inr ⟨w.heap.size, _, _, rfl, hbase, heap_alloc_new w.drew _, hge, hcm, ?_, ?_⟩⟩, ⟨rfl, rfl, rfl, by simp, fun k hk _ => heap_alloc_old w.drew _ hk⟩⟩
    · simp only [Array.size_append, List.size_toArray, size_zeroCells, hxl, hnl]
      simp
      omega
    · simp only [Array.toList_append, List.append_assoc]
      rw [← List.append_assoc, show (n + m) * 1 = (xs ++ news).length by rw [List.length_append]; omega]
      exact List.take_left
  have runs : ∀ (A : Option Addr) (cap : Nat), cap < n + m → (Builtin.firstCells 1 n (.slice A n cap)).run P w.drew = .ok xs.toArray w.drew → (Builtin.append_ #[t, ti] ty #[.slice A n cap, .int kx m]).run P w =
      .ok (.slice (some ⟨w.heap.size, 0, none⟩) (n + m) (grownCap w (n + m) cap e)) (w.drew.alloc (.cells (xs.toArray ++ news.toArray ++ Builtin.zeroCells #[Value.int k 0] (grownCap w (n + m) cap e - (n + m))) e)) := by
    intro A cap hcap hfo
    have hn : ¬ (n + m ≤ cap) := by omega
    have h63' : ¬ (9223372036854775807 < ((n : Int) + (m : Int))) := by omega
    have hfit := growslice_fits hcap hbytes
    have h48' : ¬ (281474976710656 < Builtin.nextslicecap (n + m) cap * i.bytes) := by omega
    by_cases hm : m = 0
    · have hnl2 : news = [] := List.eq_nil_of_length_eq_zero (by rw [hnl, hm])
      subst hm
      rw [hnl2]
      simp only [Nat.add_zero] at hn h63' h48' ⊢
      have h63'' : ¬ (9223372036854775807 < (n : Int)) := by omega
      simp [Builtin.append_, run_underlying ht, run_underlying hti, sizeOf, typeInfo, zeroValue, hi, hz, hs1, asInt, asIntOf, hw0, hn, h63'', h48', Question.forced, hfo, newRow, grownCap, hzs]
    · simp [Builtin.append_, run_underlying ht, run_underlying hti, sizeOf, typeInfo, zeroValue, hi, hz, hs1, asInt, asIntOf, hw, hneg, hbig, hn, h63', h48', Question.forced, hfo, newRow, grownCap, hm, hzs, hna]
      congr 2
      apply Array.ext'
      simp [List.append_assoc]
  rcases hown.2 with ⟨rfl, rfl⟩ | ⟨g, cap, cur, rfl, hbg, hg, hnc, hcm, hcs, htake⟩
  · have hx : xs = [] := List.eq_nil_of_length_eq_zero hxl
    by_cases hm : m = 0
    · have hnl2 : news = [] := List.eq_nil_of_length_eq_zero (by rw [hnl, hm])
      subst hm
      rw [hnl2, hx]
      refine ⟨.slice none 0 0, w, ?_, World.ownsRow_nil w base e 1, ⟨rfl, rfl, rfl, Nat.le_refl _, fun _ _ _ => rfl⟩, Or.inl rfl⟩
      simp [Builtin.append_, run_underlying ht, run_underlying hti, sizeOf, typeInfo, hi, hs1, asInt, asIntOf, hw0]
    · have hgr := grown 0 (by omega) (Value.ownBlock (.slice none 0 0))
      exact ⟨_, _, runs none 0 (by omega) (by rw [hx]; simp [Builtin.firstCells]), hgr.1, hgr.2, Or.inr rfl⟩
  · by_cases hroom : n + m ≤ cap
    · have hst := run_storeCells_at P g n e news 0 cur w hg (by rw [hnl, hcs]; omega) h1
      simp only [Nat.add_zero] at hst
      refine ⟨.slice (some ⟨g, 0, none⟩) (n + m) cap, _, ?_, ⟨by rw [List.length_append]; omega, .inr ⟨g, cap, _, rfl, hbg, setRow_heap w g cur (cur.toList.take n ++ news ++ cur.toList.drop (n + news.length)).toArray e (0, 0) hg, hroom, hcm, ?_, ?_⟩⟩, ⟨rfl, rfl, rfl, by simp, fun k _ hk => setRow_other w g k _ (fun e => hk (by simp [Value.ownBlock, e]))⟩, Or.inl rfl⟩
      · by_cases hm : m = 0
        · have hnl2 : news = [] := List.eq_nil_of_length_eq_zero (by rw [hnl, hm])
          subst hm
          rw [hnl2] at hst ⊢
          simp [Builtin.append_, run_underlying ht, run_underlying hti, sizeOf, typeInfo, hi, hs1, asInt, asIntOf, hw0, hnc, Addr.add_lit] at hst ⊢
          rw [hst]
          rfl
        · simp [Builtin.append_, run_underlying ht, run_underlying hti, sizeOf, typeInfo, zeroValue, hi, hz, hs1, asInt, asIntOf, hw, hneg, hbig, hroom, hm, hzs, hna, Addr.add_lit, hst]
      · simp only [List.size_toArray, List.length_append, List.length_take, List.length_drop, Array.length_toList]
        omega
      · rw [Nat.mul_one] at htake ⊢
        simp only [htake]
        rw [show n + m = (xs ++ news).length by rw [List.length_append]; omega]
        exact List.take_left
    · have holds : ∀ j u, xs[j]? = some u → w.cell? ((⟨g, 0, none⟩ : Addr).add j) = some u := hown.cells (g := g) rfl
      have hgr := grown cap (by omega) (Value.ownBlock (.slice (some ⟨g, 0, none⟩) n cap))
      exact ⟨_, _, runs (some ⟨g, 0, none⟩) cap (by omega) (run_firstCells_some (P := P) w.drew 1 n _ n cap xs (by omega) (by simpa using holds)), hgr.1, hgr.2, Or.inr rfl⟩
theorem wpList_appendZeros {k kt kx : IntKind} {e t ti : TypeId} {i : TypeInfo} {by_ : Nat} (base : Nat) (v : Value) (l : List Int) (m : Nat) (s y : Operand)
    (hgd : o.guard = none) (ho : o.op = .call { callee := .builtin .append, args := #[s, y], argTypes := #[t, ti] })
    (ht : P.underlying t = some (.slice e)) (hti : P.underlying ti = some (.int kt)) (hi : P.info? e = some i) (hz : i.zero = some (.int k 0)) (hs1 : i.size = 1) (hby : i.bytes = by_) (hb0 : 0 < by_)
    (hs : a.eval s = v) (hy : a.eval y = .int kx m)
    (hown : Own k e w base v l) (hbase : base ≤ w.heap.size) (hbytes : (l.length + m) * by_ ≤ 140737488355328) (hlen : l.length + m ≤ maxLen)
    (h : ∀ v' w', Own k e w' base v' (l ++ List.replicate m 0) → w.grownBy w' v.ownBlock → (v'.ownBlock = v.ownBlock ∨ v'.ownBlock = some w.heap.size) → wpList P ops Q rest (a.put o.dst v') w') : wpList P ops Q (o :: rest) a w := by
  refine wpList_plain hgd fun K hK => ?_
  obtain ⟨v', w', hrun, h2, h3, h4⟩ := run_appendZeros (P := P) (ty := o.type) (kx := kx) base v l m ht hti hi hz hs1 hby hb0 hown hbase hbytes hlen
  unfold Oper.wp execOp
  simp only [ho, resolve, invoke, builtin, Sem.run_bind, Sem.run_pure, Result.andThen_ok, List.map_toArray, List.map_cons, List.map_nil, hs, hy, hrun]
  exact hK _ _ (h v' w' h2 h3 h4)
theorem madeCells_int (k : IntKind) (m : Nat) : madeCells #[.int k 0] m = (List.replicate m (Value.int k 0)).toArray := by
  apply Array.ext'
  apply List.ext_getElem?
  intro j
  simp only [madeCells, Array.toList_map, Array.toList_range, List.getElem?_map, List.getElem?_replicate]
  by_cases hj : j < m
  · rw [List.getElem?_range (by simpa using hj), if_pos hj]
    simp [Nat.mod_one]
  · rw [if_neg hj, List.getElem?_eq_none (by simpa using hj)]
    rfl
theorem wpList_makeInts {k : IntKind} {e t : TypeId} {i : TypeInfo} (n : Nat) (x y : Operand)
    (hgd : o.guard = none) (ho : o.op = .makeSlice t x y)
    (ht : P.underlying t = some (.slice e)) (hi : P.info? e = some i) (hz : i.zero = some (.int k 0)) (hs1 : i.size = 1)
    (hx : a.eval x = .int .i64 n) (hy : a.eval y = .int .i64 n) (hbytes : i.bytes * n ≤ 281474976710656) (hlen : n ≤ maxLen)
    (h : wpList P ops Q rest (a.put o.dst (.slice (some ⟨w.heap.size, 0, none⟩) n n)) (w.alloc (.cells (List.replicate n (Value.int k 0)).toArray e))) : wpList P ops Q (o :: rest) a w := by
  refine wpList_plain hgd fun K hK => ?_
  have h63' : (n : Int) ≤ 9223372036854775807 := by
    have h := hlen
    simp [maxLen] at h
    omega
  have hb' : (i.bytes : Int) * (n : Int) ≤ 281474976710656 := by
    have h : ((i.bytes * n : Nat) : Int) ≤ 281474976710656 := by omega
    rwa [Int.natCast_mul] at h
  have hr := run_make (P := P) w t e i _ ht hi hz .i64 .i64 n n (by omega) (Int.le_refl _) hb' h63'
  simp only [Int.toNat_natCast, hs1, Nat.mul_one] at hr
  rw [show (Value.int k 0).cells = #[Value.int k 0] from rfl, madeCells_int] at hr
  unfold Oper.wp execOp
  simp only [ho, Sem.run_bind, Sem.run_pure, Result.andThen_ok, hx, hy, hr]
  exact hK _ _ h
end
end Go.Proofs.YtmpjjehihimadaaGreat
