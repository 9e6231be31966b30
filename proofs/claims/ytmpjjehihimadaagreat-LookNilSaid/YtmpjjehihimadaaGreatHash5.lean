/-
  hash.Table: plain laws of places; New, Len, walked.
-/
import Derived.Test.YtmpjjehihimadaaGreatHash4
namespace Go.Proofs.YtmpjjehihimadaaGreat
set_option linter.unusedVariables false
set_option linter.unusedSimpArgs false
open Go.RowKit

/-- how many places are taken -/
def cntF (es : List En) : Nat := (es.filter (·.full)).length
theorem cntF_le (es : List En) : cntF es ≤ es.length := List.length_filter_le _ _
theorem free_of {es : List En} (h : cntF es < es.length) : Free es := by
  induction es with
  | nil => simp at h
  | cons e es ih =>
    by_cases he : e.full = true
    · have e1 : cntF (e :: es) = cntF es + 1 := by unfold cntF; rw [List.filter_cons_of_pos he]; rfl
      have h1 : cntF es < es.length := by rw [e1] at h; simp only [List.length_cons] at h; omega
      obtain ⟨f, hf, h2⟩ := ih h1
      exact ⟨f + 1, by simpa using hf, by simpa using h2⟩
    · exact ⟨0, by simp, by simpa using he⟩
theorem cntF_set (es : List En) (i : Nat) (x : En) : cntF (es.set i x) ≤ cntF es + 1 := by
  unfold cntF
  induction es generalizing i with
  | nil => simp
  | cons e es ih =>
    rcases i with _ | i
    · simp only [List.set_cons_zero, List.filter_cons]
      split <;> split <;> simp <;> omega
    · simp only [List.set_cons_succ, List.filter_cons]
      have := ih i
      split <;> simp <;> omega
theorem cntF_val (es : List En) (i : Nat) (x : En) (hi : i < es.length) (hx : x.full = es[i].full) : cntF (es.set i x) = cntF es := by
  unfold cntF
  induction es generalizing i with
  | nil => simp
  | cons e es ih =>
    rcases i with _ | i
    · simp only [List.set_cons_zero, List.filter_cons, hx, List.getElem_cons_zero]
      split <;> simp
    · simp only [List.set_cons_succ, List.filter_cons]
      have := ih i (by simpa using hi) (by simpa using hx)
      split <;> simp [this]
/-- a table in order: its size, how many entries -/
structure Ti (es : List En) (n : Int) : Prop where
  size : ∃ j, Sz es.length j
  few : (cntF es : Int) ≤ n
  half : 2 * n ≤ es.length
theorem Ti.free {es : List En} {n : Int} (h : Ti es n) : Free es := by
  obtain ⟨j, hj⟩ := h.size
  have h1 := sz_pos hj
  have h2 := h.few
  have h3 := h.half
  exact free_of (by omega)
def e0 : En := ⟨0, 0, 0, false⟩
theorem cntF_zeros (n : Nat) : cntF (List.replicate n e0) = 0 := by
  unfold cntF
  rw [List.filter_eq_nil_iff.2 (fun x hx => by rw [(List.mem_replicate.1 hx).2]; decide)]
  rfl
set_option maxRecDepth 100000 in
theorem hLenT (t g m : Nat) (es : List En) (seed n : Int) (w : World) (hT : Tb w t g m es seed n) : Calls Tryz.prog 195 #[.pointer (some ⟨t, 0, none⟩)] w fun e w' => e = .returned (.int .i64 n) ∧ w' = w := by
  obtain ⟨_, _, _, c3, _⟩ := hT.cells
  clear hT
  go_enter Tryz.func195, Tryz.ntmps195
  go_wp2
  go_ret
  exact ⟨rfl, rfl⟩
theorem made4 {z0 z1 z2 z3 : Value} (n i k : Nat) (hi : i < n) (hk : k < 4) : (madeCells #[z0, z1, z2, z3] (n * 4))[i * 4 + k]? = #[z0, z1, z2, z3][k]? := by
  unfold madeCells
  rw [Array.getElem?_map, Array.getElem?_range, if_pos (by omega)]
  simp only [Option.map_some, List.size_toArray, List.length_cons, List.length_nil, Nat.zero_add]
  rw [show (i * 4 + k) % (0 + 1 + 1 + 1 + 1) = k by omega]
  rcases (show k = 0 ∨ k = 1 ∨ k = 2 ∨ k = 3 by omega) with rfl | rfl | rfl | rfl <;> rfl
theorem pl_made (w : World) (n : Nat) : Pl (w.alloc (.cells (madeCells #[.int .u8 0, .int .u64 0, .int .u64 0, .bool false] (n * 4)) 229)) w.heap.size (List.replicate n e0) := by
  refine ⟨_, blk_new _ _ _, fun i hi => ?_⟩
  have hi' : i < n := by simpa using hi
  rw [List.getElem_replicate]
  exact ⟨made4 n i 0 hi' (by omega), made4 n i 1 hi' (by omega), made4 n i 2 hi' (by omega), made4 n i 3 hi' (by omega)⟩
section
variable {P : Program} {ops : Array Oper} {rest : List Oper} {o : Oper} {a : Act} {Q : Exit → Act → World → Prop} {w : World}
theorem wpList_makeRows {z : Value} {e t : TypeId} {i : TypeInfo} (n : Nat) (x y : Operand)
    (hgd : o.guard = none) (ho : o.op = .makeSlice t x y)
    (ht : P.underlying t = some (.slice e)) (hi : P.info? e = some i) (hz : i.zero = some z)
    (hx : a.eval x = .int .i64 n) (hy : a.eval y = .int .i64 n) (hbytes : i.bytes * n ≤ 281474976710656) (hlen : n ≤ maxLen)
    (h : wpList P ops Q rest (a.put o.dst (.slice (some ⟨w.heap.size, 0, none⟩) n n)) (w.alloc (.cells (madeCells z.cells (n * i.size)) e))) : wpList P ops Q (o :: rest) a w := by
  refine wpList_plain hgd fun K hK => ?_
  have h63' : (n : Int) ≤ 9223372036854775807 := by
    have h := hlen
    simp [maxLen] at h
    omega
  have hb' : (i.bytes : Int) * (n : Int) ≤ 281474976710656 := by
    have h : ((i.bytes * n : Nat) : Int) ≤ 281474976710656 := by omega
    rwa [Int.natCast_mul] at h
  have hr := run_make (P := P) w t e i _ ht hi hz .i64 .i64 n n (by omega) (by omega) hb' h63'
  simp only [Int.toNat_natCast] at hr
  unfold Oper.wp execOp
  simp only [ho, Sem.run_bind, Sem.run_pure, Result.andThen_ok, hx, hy, hr]
  exact hK _ _ h
end
theorem entry_info : (Tryz.prog.info? 229).map (fun i => (i.zero, i.size, i.bytes)) = some (some (.agg #[.int .u8 0, .int .u64 0, .int .u64 0, .bool false]), 4, 32) := by kernel_rfl
set_option maxRecDepth 100000 in
set_option maxHeartbeats 1000000 in
theorem hNew (m : Nat) (seed : Int) (w : World) : Calls Tryz.prog 59 #[.pointer (some ⟨m, 0, none⟩), .int .u64 seed] w fun e w' => ∃ t g es, e = .returned (.pointer (some ⟨t, 0, none⟩)) ∧ w.heap.size ≤ t ∧ w.heap.size ≤ g ∧ Hid (Tb w' t g m es seed 0) ∧ Hid (Ti es 0) ∧ Hid (∀ x ∈ es, x = e0) ∧ Below w.heap.size w w' := by
  obtain ⟨i0, hi, hz0, hz1, hz2⟩ := info_parts entry_info
  have HP := Lib.hid (pl_made w 8)
  go_enter Tryz.func59, Tryz.ntmps59
  go_wp2_with (refine wpList_makeRows 8 _ _ rfl rfl Tryz.underlying155 hi hz0 rfl rfl (by rw [hz2]; decide) (by unfold maxLen; decide) ?_; rw [hz1])
  go_ret
  have hb := blk_new (w.alloc (.cells (madeCells #[.int .u8 0, .int .u64 0, .int .u64 0, .bool false] (8 * 4)) 229)) #[.pointer (some ⟨m, 0, none⟩), .slice (some ⟨w.heap.size, 0, none⟩) 8 8, .int .u64 seed, .int .i64 0, .int .i64 0] 157
  rw [World.size_alloc] at hb
  have hba := (Below.refl w.heap.size w).alloc (Nat.le_refl _) (.cells (madeCells #[.int .u8 0, .int .u64 0, .int .u64 0, .bool false] (8 * 4)) 229)
  obtain ⟨cs, h1, h2⟩ := HP.out
  refine ⟨w.heap.size + 1, w.heap.size, List.replicate 8 e0, rfl, by omega, Nat.le_refl _, ⟨⟨0, hb⟩, ⟨cs, blk_old h1 _, h2⟩⟩, ⟨⟨3, by decide, by decide, by decide⟩, by rw [cntF_zeros]; decide, by decide⟩, fun x hx => (List.mem_replicate.1 hx).2, hba.alloc (by simp) _⟩
end Go.Proofs.YtmpjjehihimadaaGreat
