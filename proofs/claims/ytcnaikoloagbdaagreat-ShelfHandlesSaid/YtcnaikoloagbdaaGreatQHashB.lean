/-
  hash.Table: plain laws of places; New, Len, walked.
  hash.Table: rehash, walked.
  hash.Table: Put, walked.
-/
import Derived.Test.YtcnaikoloagbdaaGreatQHashA
namespace Go.Proofs.YtcnaikoloagbdaaGreat
set_option linter.unusedVariables false
set_option linter.unusedSimpArgs false
open Go.RowKit

/-- how many places are taken -/
def cntF (es : List En) : Nat := (es.filter (·.full)).length
theorem cntF_le (es : List En) : cntF es ≤ es.length := List.length_filter_le _ _
theorem free_of {es : List En} (h : cntF es < es.length) : Free es := by
  induction es with
  | nil => simp at h
  | cons e es ih =>
    by_cases he : e.full = true
    · have e1 : cntF (e :: es) = cntF es + 1 := by unfold cntF; rw [List.filter_cons_of_pos he]; rfl
      have h1 : cntF es < es.length := by rw [e1] at h; simp only [List.length_cons] at h; omega
      obtain ⟨f, hf, h2⟩ := ih h1
      exact ⟨f + 1, by simpa using hf, by simpa using h2⟩
    · exact ⟨0, by simp, by simpa using he⟩
theorem cntF_set (es : List En) (i : Nat) (x : En) : cntF (es.set i x) ≤ cntF es + 1 := by
  unfold cntF
  induction es generalizing i with
  | nil => simp
  | cons e es ih =>
    rcases i with _ | i
    · simp only [List.set_cons_zero, List.filter_cons]
      split <;> split <;> simp <;> omega
    · simp only [List.set_cons_succ, List.filter_cons]
      have := ih i
      split <;> simp <;> omega
theorem cntF_val (es : List En) (i : Nat) (x : En) (hi : i < es.length) (hx : x.full = es[i].full) : cntF (es.set i x) = cntF es := by
  unfold cntF
  induction es generalizing i with
  | nil => simp
  | cons e es ih =>
    rcases i with _ | i
    · simp only [List.set_cons_zero, List.filter_cons, hx, List.getElem_cons_zero]
      split <;> simp
    · simp only [List.set_cons_succ, List.filter_cons]
      have := ih i (by simpa using hi) (by simpa using hx)
      split <;> simp [this]
/-- a table in order: its size, how many entries -/
structure Ti (es : List En) (n : Int) : Prop where
  size : ∃ j, Sz es.length j
  few : (cntF es : Int) ≤ n
  half : 2 * n ≤ es.length
theorem Ti.free {es : List En} {n : Int} (h : Ti es n) : Free es := by
  obtain ⟨j, hj⟩ := h.size
  have h1 := sz_pos hj
  have h2 := h.few
  have h3 := h.half
  exact free_of (by omega)
def e0 : En := ⟨0, 0, 0, false⟩
theorem cntF_zeros (n : Nat) : cntF (List.replicate n e0) = 0 := by
  unfold cntF
  rw [List.filter_eq_nil_iff.2 (fun x hx => by rw [(List.mem_replicate.1 hx).2]; decide)]
  rfl
set_option maxRecDepth 100000 in
theorem hLenT (t g m : Nat) (es : List En) (seed n : Int) (w : World) (hT : Tb w t g m es seed n) : Calls Tryz.prog 222 #[.pointer (some ⟨t, 0, none⟩)] w fun e w' => e = .returned (.int .i64 n) ∧ w' = w := by
  obtain ⟨_, _, _, c3, _⟩ := hT.cells
  clear hT
  go_enter Tryz.func222, Tryz.ntmps222
  go_wp2
  go_ret
  exact ⟨rfl, rfl⟩
theorem made4 {z0 z1 z2 z3 : Value} (n i k : Nat) (hi : i < n) (hk : k < 4) : (madeCells #[z0, z1, z2, z3] (n * 4))[i * 4 + k]? = #[z0, z1, z2, z3][k]? := by
  unfold madeCells
  rw [Array.getElem?_map, Array.getElem?_range, if_pos (by omega)]
  simp only [Option.map_some, List.size_toArray, List.length_cons, List.length_nil, Nat.zero_add]
  rw [show (i * 4 + k) % (0 + 1 + 1 + 1 + 1) = k by omega]
  rcases (show k = 0 ∨ k = 1 ∨ k = 2 ∨ k = 3 by omega) with rfl | rfl | rfl | rfl <;> rfl
theorem pl_made (w : World) (n : Nat) : Pl (w.alloc (.cells (madeCells #[.int .u8 0, .int .u64 0, .int .u64 0, .bool false] (n * 4)) 255)) w.heap.size (List.replicate n e0) := by
  refine ⟨_, blk_new _ _ _, fun i hi => ?_⟩
  have hi' : i < n := by simpa using hi
  rw [List.getElem_replicate]
  exact ⟨made4 n i 0 hi' (by omega), made4 n i 1 hi' (by omega), made4 n i 2 hi' (by omega), made4 n i 3 hi' (by omega)⟩
section
variable {P : Program} {ops : Array Oper} {rest : List Oper} {o : Oper} {a : Act} {Q : Exit → Act → World → Prop} {w : World}
theorem wpList_makeRows {z : Value} {e t : TypeId} {i : TypeInfo} (n : Nat) (x y : Operand)
    (hgd : o.guard = none) (ho : o.op = .makeSlice t x y)
    (ht : P.underlying t = some (.slice e)) (hi : P.info? e = some i) (hz : i.zero = some z)
    (hx : a.eval x = .int .i64 n) (hy : a.eval y = .int .i64 n) (hbytes : i.bytes * n ≤ 281474976710656) (hlen : n ≤ maxLen)
    (h : wpList P ops Q rest (a.put o.dst (.slice (some ⟨w.heap.size, 0, none⟩) n n)) (w.alloc (.cells (madeCells z.cells (n * i.size)) e))) : wpList P ops Q (o :: rest) a w := by
  refine wpList_plain hgd fun K hK => ?_
  have h63' : (n : Int) ≤ 9223372036854775807 := by
    have h := hlen
    simp [maxLen] at h
    omega
  have hb' : (i.bytes : Int) * (n : Int) ≤ 281474976710656 := by
    have h : ((i.bytes * n : Nat) : Int) ≤ 281474976710656 := by omega
    rwa [Int.natCast_mul] at h
  have hr := run_make (P := P) w t e i _ ht hi hz .i64 .i64 n n (by omega) (by omega) hb' h63'
  simp only [Int.toNat_natCast] at hr
  unfold Oper.wp execOp
  simp only [ho, Sem.run_bind, Sem.run_pure, Result.andThen_ok, hx, hy, hr]
  exact hK _ _ h
end
theorem entry_info : (Tryz.prog.info? 255).map (fun i => (i.zero, i.size, i.bytes)) = some (some (.agg #[.int .u8 0, .int .u64 0, .int .u64 0, .bool false]), 4, 32) := by kernel_rfl
set_option maxRecDepth 100000 in
set_option maxHeartbeats 1000000 in
theorem hNew (m : Nat) (seed : Int) (w : World) : Calls Tryz.prog 143 #[.pointer (some ⟨m, 0, none⟩), .int .u64 seed] w fun e w' => ∃ t g es, e = .returned (.pointer (some ⟨t, 0, none⟩)) ∧ w.heap.size ≤ t ∧ w.heap.size ≤ g ∧ Hid (Tb w' t g m es seed 0) ∧ Hid (Ti es 0) ∧ Hid (∀ x ∈ es, x = e0) ∧ Below w.heap.size w w' := by
  obtain ⟨i0, hi, hz0, hz1, hz2⟩ := info_parts entry_info
  have HP := Lib.hid (pl_made w 8)
  go_enter Tryz.func143, Tryz.ntmps143
  go_wp2_with (refine wpList_makeRows 8 _ _ rfl rfl Tryz.underlying250 hi hz0 rfl rfl (by rw [hz2]; decide) (by unfold maxLen; decide) ?_; rw [hz1])
  go_ret
  have hb := blk_new (w.alloc (.cells (madeCells #[.int .u8 0, .int .u64 0, .int .u64 0, .bool false] (8 * 4)) 255)) #[.pointer (some ⟨m, 0, none⟩), .slice (some ⟨w.heap.size, 0, none⟩) 8 8, .int .u64 seed, .int .i64 0, .int .i64 0] 252
  rw [World.size_alloc] at hb
  have hba := (Below.refl w.heap.size w).alloc (Nat.le_refl _) (.cells (madeCells #[.int .u8 0, .int .u64 0, .int .u64 0, .bool false] (8 * 4)) 255)
  obtain ⟨cs, h1, h2⟩ := HP.out
  refine ⟨w.heap.size + 1, w.heap.size, List.replicate 8 e0, rfl, by omega, Nat.le_refl _, ⟨⟨0, hb⟩, ⟨cs, blk_old h1 _, h2⟩⟩, ⟨⟨3, by decide, by decide, by decide⟩, by rw [cntF_zeros]; decide, by decide⟩, fun x hx => (List.mem_replicate.1 hx).2, hba.alloc (by simp) _⟩
end Go.Proofs.YtcnaikoloagbdaaGreat
namespace Go.Proofs.YtcnaikoloagbdaaGreat
set_option linter.unusedVariables false
set_option linter.unusedSimpArgs false
open Go.RowKit

theorem Tb.places {w : World} {t g g' m : Nat} {es es' : List En} {seed n : Int} (h : Tb w t g m es seed n) (hp : Pl (w.setCell ⟨t, 1, none⟩ (.slice (some ⟨g', 0, none⟩) es'.length es'.length)) g' es') : Tb (w.setCell ⟨t, 1, none⟩ (.slice (some ⟨g', 0, none⟩) es'.length es'.length)) t g' m es' seed n := by
  obtain ⟨pr, h3⟩ := h.head
  exact ⟨⟨pr, blk_set h3 1 _⟩, hp⟩
theorem s_ne (cs : Array Value) {i j : Nat} (v : Value) (h : i ≠ j) : (cs.setIfInBounds i v)[j]? = cs[j]? := by rw [Array.getElem?_setIfInBounds, if_neg h]
theorem s_eq (cs : Array Value) {i : Nat} (v : Value) (h : i < cs.size) : (cs.setIfInBounds i v)[i]? = some v := by rw [Array.getElem?_setIfInBounds, if_pos rfl, if_pos h]
theorem Pl.put {w : World} {g : Nat} {es : List En} (h : Pl w g es) (i : Nat) (hi : i < es.length) (x : En) : Pl ((((w.setCell ⟨g, i * 4, none⟩ (.int .u8 x.lv)).setCell ⟨g, i * 4 + 1, none⟩ (.int .u64 x.pf)).setCell ⟨g, i * 4 + 2, none⟩ (.int .u64 x.v)).setCell ⟨g, i * 4 + 3, none⟩ (.bool x.full)) g (es.set i x) := by
  obtain ⟨cs, h1, h2⟩ := h
  refine ⟨_, blk_set (blk_set (blk_set (blk_set h1 _ _) _ _) _ _) _ _, fun k hk => ?_⟩
  rw [List.length_set] at hk
  have hz : i * 4 + 3 < cs.size := by
    rcases Nat.lt_or_ge (i * 4 + 3) cs.size with h | h
    · exact h
    · have := (h2 i hi).2.2.2
      rw [Array.getElem?_eq_none h] at this
      cases this
  by_cases e : k = i
  · subst e
    rw [List.getElem_set_self]
    refine ⟨?_, ?_, ?_, ?_⟩
    · rw [s_ne _ _ (by omega), s_ne _ _ (by omega), s_ne _ _ (by omega), s_eq _ _ (by omega)]
    · rw [s_ne _ _ (by omega), s_ne _ _ (by omega), s_eq _ _ (by simp; omega)]
    · rw [s_ne _ _ (by omega), s_eq _ _ (by simp; omega)]
    · rw [s_eq _ _ (by simp; omega)]
  · rw [List.getElem_set_ne (fun h => e h.symm)]
    obtain ⟨a, b, c, d⟩ := h2 k hk
    refine ⟨?_, ?_, ?_, ?_⟩
    · rw [s_ne _ _ (by omega), s_ne _ _ (by omega), s_ne _ _ (by omega), s_ne _ _ (by omega)]; exact a
    · rw [s_ne _ _ (by omega), s_ne _ _ (by omega), s_ne _ _ (by omega), s_ne _ _ (by omega)]; exact b
    · rw [s_ne _ _ (by omega), s_ne _ _ (by omega), s_ne _ _ (by omega), s_ne _ _ (by omega)]; exact c
    · rw [s_ne _ _ (by omega), s_ne _ _ (by omega), s_ne _ _ (by omega), s_ne _ _ (by omega)]; exact d
theorem Chg.put4 {S : Nat → Prop} {w w' : World} (h : Chg S w w') {g : Nat} (i : Nat) (a b c d : Value) (hb : S g ∨ w.heap.size ≤ g) : Chg S w ((((w'.setCell ⟨g, i * 4, none⟩ a).setCell ⟨g, i * 4 + 1, none⟩ b).setCell ⟨g, i * 4 + 2, none⟩ c).setCell ⟨g, i * 4 + 3, none⟩ d) :=
  (((h.set a hb).set b hb).set c hb).set d hb
theorem Tb.put {w : World} {t g m : Nat} {es : List En} {seed n : Int} (h : Tb w t g m es seed n) (i : Nat) (hi : i < es.length) (x : En) : Tb ((((w.setCell ⟨g, i * 4, none⟩ (.int .u8 x.lv)).setCell ⟨g, i * 4 + 1, none⟩ (.int .u64 x.pf)).setCell ⟨g, i * 4 + 2, none⟩ (.int .u64 x.v)).setCell ⟨g, i * 4 + 3, none⟩ (.bool x.full)) t g m (es.set i x) seed n := by
  obtain ⟨pr, h3⟩ := h.head
  refine ⟨⟨pr, ?_⟩, h.rows.put i hi x⟩
  rw [List.length_set]
  exact ((Chg.refl (fun k => k = g) w).put4 i _ _ _ _ (.inl rfl)).blk h3 (fun e => h.ne e.symm)
theorem cntF_take (es : List En) (k : Nat) (hk : k < es.length) : cntF (es.take (k + 1)) = cntF (es.take k) + (if es[k].full = true then 1 else 0) := by
  unfold cntF
  rw [List.take_succ_eq_append_getElem hk, List.filter_append, List.length_append]
  congr 1
  by_cases h : es[k].full = true
  · rw [if_pos h, List.filter_cons_of_pos h]; rfl
  · rw [if_neg h, List.filter_cons_of_neg h]; rfl
theorem cntF_take_le (es : List En) (k : Nat) : cntF (es.take k) ≤ cntF es := by
  unfold cntF
  conv => rhs; rw [← List.take_append_drop k es, List.filter_append, List.length_append]
  exact Nat.le_add_right _ _
set_option maxRecDepth 100000 in
set_option maxHeartbeats 4000000 in
theorem hRehash (t g m j : Nat) (es : List En) (seed n : Int) (w : World) (hT : Tb w t g m es seed n) (hs : Sz es.length j) (hs2 : Sz (2 * es.length) (j + 1)) :
    Calls Tryz.prog 163 #[.pointer (some ⟨t, 0, none⟩), .int .i64 (2 * es.length : Nat)] w fun e w' => ∃ g' es', e = .returned (.tuple #[]) ∧ w.heap.size ≤ g' ∧ Hid (Tb w' t g' m es' seed n) ∧ Hid (es'.length = 2 * es.length ∧ cntF es' ≤ cntF es ∧ ∀ x ∈ es', x = e0 ∨ x ∈ es) ∧ Hid (Chg (· = t) w w') := by
  obtain ⟨i0, hi, hz0, hz1, hz2⟩ := info_parts entry_info
  have HS := Lib.hid hs
  have HS2 := Lib.hid hs2
  have hsp := sz_pos hs
  obtain ⟨c0, c1, c2, c3, ⟨pr, c4⟩, fz, htl⟩ := hT.cells
  have f1 := fz 1
  have f4 := fz 4
  have hgt := hT.ne
  have hgl := hT.rows.lt
  have hp := pl_made (w.setCell ⟨t, 1, none⟩ (.slice (some ⟨w.heap.size, 0, none⟩) (2 * es.length) (2 * es.length))) (2 * es.length)
  rw [show (w.setCell ⟨t, 1, none⟩ (.slice (some ⟨w.heap.size, 0, none⟩) (2 * es.length) (2 * es.length))).heap.size = w.heap.size by simp] at hp
  obtain ⟨es0, he0⟩ : ∃ es0, List.replicate (2 * es.length) e0 = es0 := ⟨_, rfl⟩
  have hl0 : es0.length = 2 * es.length := by rw [← he0, List.length_replicate]
  have hm0 : ∀ x ∈ es0, x = e0 := by rw [← he0]; exact fun x hx => (List.mem_replicate.1 hx).2
  have hc0 : cntF es0 = 0 := by rw [← he0]; exact cntF_zeros _
  rw [he0] at hp
  obtain ⟨pr0, hh⟩ := hT.head
  have hh2 := blk_old (blk_set hh 1 (.slice (some ⟨w.heap.size, 0, none⟩) (2 * es.length) (2 * es.length))) (.cells (madeCells #[.int .u8 0, .int .u64 0, .int .u64 0, .bool false] (2 * es.length * 4)) 255)
  have HT1 := Lib.hid (show Tb ((w.setCell ⟨t, 1, none⟩ (.slice (some ⟨w.heap.size, 0, none⟩) (2 * es.length) (2 * es.length))).alloc (.cells (madeCells #[.int .u8 0, .int .u64 0, .int .u64 0, .bool false] (2 * es.length * 4)) 255)) t w.heap.size m es0 seed n from ⟨⟨pr0, by rw [hl0]; exact hh2⟩, hp⟩)
  have HC1 := Lib.hid (((Chg.refl (fun k => k = t) w).set (b := t) (i := 1) (.slice (some ⟨w.heap.size, 0, none⟩) (2 * es.length) (2 * es.length)) (.inl rfl)).alloc (.cells (madeCells #[.int .u8 0, .int .u64 0, .int .u64 0, .bool false] (2 * es.length * 4)) 255))
  have HP1 := Lib.hid (hT.rows.chg HC1.out hgt)
  have HL0 := Lib.hid hl0
  have HM0 := Lib.hid hm0
  have HC0 := Lib.hid hc0
  clear hT hs hs2 fz hp he0 hl0 hm0 hc0 hh hh2
  go_enter Tryz.func163, Tryz.ntmps163
  go_wp2_with (refine wpList_makeRows (2 * es.length) _ _ rfl rfl Tryz.underlying250 hi hz0 rfl rfl (by rw [hz2]; omega) (by unfold maxLen; omega) ?_; rw [hz1])
  generalize (w.setCell ⟨t, 1, none⟩ (.slice (some ⟨w.heap.size, 0, none⟩) (2 * es.length) (2 * es.length))).alloc (.cells (madeCells #[.int .u8 0, .int .u64 0, .int .u64 0, .bool false] (2 * es.length * 4)) 255) = w1 at *
  go_loopw [7, 8, 9, 25] (fun _ _ _ v25 wr => ∃ (k : Nat) (es' : List En), k ≤ es.length ∧ v25 = .int .i64 k ∧ Hid (es'.length = 2 * es.length) ∧ Hid (cntF es' ≤ cntF (es.take k)) ∧ Hid (∀ x ∈ es', x = e0 ∨ x ∈ es) ∧ Hid (Tb wr t w.heap.size m es' seed n) ∧ Hid (Pl wr g es) ∧ Hid (Chg (· = t) w wr)) (fun _ _ _ v25 _ => es.length - (intOf v25).toNat)
  case atStart => exact ⟨0, es0, Nat.zero_le _, rfl, HL0.out, by show _ ≤ _; rw [HC0.out]; exact Nat.zero_le _, fun x hx => .inl (HM0.out x hx), HT1.out, HP1.out, HC1.out⟩
  case round =>
    clear HT1 HP1 HC1 HL0 HM0 HC0 c0 c1 c2 c3 c4 f1 f4
    obtain ⟨k, es', hk, rfl, HL, HN, HM, HT, HP, HC⟩ := hrel
    by_cases hlt : k < es.length
    · obtain ⟨e0, e1, e2, e3, _⟩ := HP.out.at_ hlt
      obtain ⟨x, hx⟩ : ∃ x, es[k] = x := ⟨_, rfl⟩
      rw [hx] at e0 e1 e2 e3
      obtain ⟨xl, xp, xv, xf⟩ := x
      simp only [] at e0 e1 e2 e3
      have HX := Lib.hid hx
      have HTK := Lib.hid (cntF_take es k hlt)
      clear hx
      have hba := (Below.refl wr.heap.size wr).alloc (Nat.le_refl _) (.cells #[.int .u8 xl, .int .u64 xp, .int .u64 xv, .bool xf] 255)
      have HTA := Lib.hid (HT.out.chg (S := fun _ => False) (Chg.of_below hba) (fun h => h) (fun h => h))
      have HPA := Lib.hid (HP.out.chg (S := fun _ => False) (Chg.of_below hba) (fun h => h))
      have HCA := Lib.hid (HC.out.then (Chg.of_below hba))
      have HKA := Lib.hid (blk_new wr #[.int .u8 xl, .int .u64 xp, .int .u64 xv, .bool xf] 255)
      cases xf
      · go_wp2
        go_roundw
        case rel => exact ⟨k + 1, es', by omega, by go_num, HL.out, by show _ ≤ _; rw [HTK.out, HX.out]; exact HN.out, HM.out, HTA.out, HPA.out, HCA.out⟩
        case measure => simp [intOf]; omega
      · go_wp2_with fail
        have hfr : Free es' := free_of (by have h1 := HN.out; have h2 := cntF_take_le es k; have h3 := cntF_le es; have h4 := HL.out; omega)
        obtain ⟨f, hf, hff⟩ := hfr
        refine (hFind t w.heap.size m (j + 1) es' seed n xl xp _ HTA.out (by rw [HL.out]; exact HS2.out) f hf hff).mono ?_
        rintro e w3 ⟨i, b, rfl, HI, _, HT3, HC3⟩
        have hgb : g ≠ wr.heap.size := by have := HP.out.lt; omega
        have HPB := Lib.hid (HPA.out.chg HC3.out hgt)
        have HCB := Lib.hid (HCA.out.then HC3.out)
        have HKB := Lib.hid (HC3.out.blk HKA.out (by have := HC.out.size; omega))
        obtain ⟨hi2, _⟩ := HI.out
        obtain ⟨d0, d1, d2, d3, _, _, _⟩ := HT3.out.cells
        obtain ⟨_, _, _, _, fr⟩ := HT3.out.rows.at_ hi2
        have k0 := blk_cell HKB.out 0 rfl
        have k1 := blk_cell HKB.out 1 rfl
        have k2 := blk_cell HKB.out 2 rfl
        have k3 := blk_cell HKB.out 3 rfl
        have r0 := fr (i * 4)
        have r1 := fr (i * 4 + 1)
        have r2 := fr (i * 4 + 2)
        have r3 := fr (i * 4 + 3)
        have hl2 := HL.out
        have hi3 : (i : Int) < (es'.length : Nat) := by omega
        clear fr hff hba
        go_wp2
        go_region
        have HT4 := Lib.hid (HT3.out.put i hi2 ⟨xl, xp, xv, true⟩)
        have HP4 := Lib.hid (HPB.out.chg ((Chg.refl (fun k => k = w.heap.size) w3).put4 i (.int .u8 xl) (.int .u64 xp) (.int .u64 xv) (.bool true) (.inl rfl)) (by omega))
        have HC4 := Lib.hid (HCB.out.put4 i (.int .u8 xl) (.int .u64 xp) (.int .u64 xv) (.bool true) (.inr (Nat.le_refl _)))
        have HN4 := Lib.hid (cntF_set es' i ⟨xl, xp, xv, true⟩)
        generalize (((w3.setCell ⟨w.heap.size, i * 4, none⟩ (.int .u8 xl)).setCell ⟨w.heap.size, i * 4 + 1, none⟩ (.int .u64 xp)).setCell ⟨w.heap.size, i * 4 + 2, none⟩ (.int .u64 xv)).setCell ⟨w.heap.size, i * 4 + 3, none⟩ (.bool true) = w4 at *
        go_wp2
        go_roundw
        case rel => exact ⟨k + 1, es'.set i ⟨xl, xp, xv, true⟩, by omega, by go_num, by show _ = _; rw [List.length_set]; exact hl2, by show _ ≤ _; rw [HTK.out, HX.out]; have h1 := HN4.out; have h2 := HN.out; simp only [if_true]; omega, fun x hx => (List.mem_or_eq_of_mem_set hx).elim (HM.out x) (fun h => .inr (by rw [h, ← HX.out]; exact List.getElem_mem _)), HT4.out.chg (S := fun _ => False) ((Chg.refl _ _).drew) (fun h => h) (fun h => h), HP4.out.chg (S := fun _ => False) ((Chg.refl _ _).drew) (fun h => h), HC4.out.drew⟩
        case measure => simp [intOf]; omega
    · obtain rfl : k = es.length := by omega
      have HN5 := HN.out
      rw [List.take_of_length_le (Nat.le_refl _)] at HN5
      replace HN5 := Lib.hid HN5
      obtain ⟨d0, d1, d2, d3, ⟨pr5, d4⟩, fz, _⟩ := HT.out.cells
      have f4 := fz 4
      clear fz
      go_wp2
      go_end0
      exact ⟨w.heap.size, es', rfl, Nat.le_refl _, HT.out.probes _, ⟨HL.out, HN5.out, HM.out⟩, HC.out.set _ (.inl rfl)⟩
end Go.Proofs.YtcnaikoloagbdaaGreat
namespace Go.Proofs.YtcnaikoloagbdaaGreat
set_option linter.unusedVariables false
set_option linter.unusedSimpArgs false
open Go.RowKit

theorem Pl.val {w : World} {g : Nat} {es : List En} (h : Pl w g es) (i : Nat) (hi : i < es.length) (v : Int) : Pl (w.setCell ⟨g, i * 4 + 2, none⟩ (.int .u64 v)) g (es.set i ⟨es[i].lv, es[i].pf, v, es[i].full⟩) := by
  obtain ⟨cs, h1, h2⟩ := h
  refine ⟨_, blk_set h1 _ _, fun k hk => ?_⟩
  rw [List.length_set] at hk
  obtain ⟨a, b, c, d⟩ := h2 k hk
  have hz : k * 4 + 2 < cs.size := by
    rcases Nat.lt_or_ge (k * 4 + 2) cs.size with h | h
    · exact h
    · rw [Array.getElem?_eq_none h] at c
      cases c
  by_cases e : k = i
  · subst e
    rw [List.getElem_set_self]
    refine ⟨?_, ?_, ?_, ?_⟩
    · rw [s_ne _ _ (by omega)]; exact a
    · rw [s_ne _ _ (by omega)]; exact b
    · rw [s_eq _ _ (by omega)]
    · rw [s_ne _ _ (by omega)]; exact d
  · rw [List.getElem_set_ne (fun h => e h.symm)]
    refine ⟨?_, ?_, ?_, ?_⟩
    · rw [s_ne _ _ (by omega)]; exact a
    · rw [s_ne _ _ (by omega)]; exact b
    · rw [s_ne _ _ (by omega)]; exact c
    · rw [s_ne _ _ (by omega)]; exact d
theorem Tb.val {w : World} {t g m : Nat} {es : List En} {seed n : Int} (h : Tb w t g m es seed n) (i : Nat) (hi : i < es.length) (v : Int) : Tb (w.setCell ⟨g, i * 4 + 2, none⟩ (.int .u64 v)) t g m (es.set i ⟨es[i].lv, es[i].pf, v, es[i].full⟩) seed n := by
  obtain ⟨pr, h3⟩ := h.head
  refine ⟨⟨pr, ?_⟩, h.rows.val i hi v⟩
  rw [List.length_set]
  exact blk_other h3 _ (fun e => h.ne e.symm)
theorem Tb.count {w : World} {t g m : Nat} {es : List En} {seed n : Int} (h : Tb w t g m es seed n) (n' : Int) : Tb (w.setCell ⟨t, 3, none⟩ (.int .i64 n')) t g m es seed n' := by
  obtain ⟨pr, h3⟩ := h.head
  exact ⟨⟨pr, blk_set h3 3 _⟩, h.rows.chg (S := (· = t)) ((Chg.refl _ _).set _ (.inl rfl)) h.ne⟩
/-- values are of these -/
def Vals (es : List En) (V : Int → Prop) : Prop := ∀ x ∈ es, x = e0 ∨ V x.v
theorem Vals.set {es : List En} {V : Int → Prop} (h : Vals es V) (i : Nat) (x : En) (hx : V x.v) : Vals (es.set i x) V := fun y hy => (List.mem_or_eq_of_mem_set hy).elim (h y) (fun e => .inr (by rw [e]; exact hx))
theorem sz_twice {s j : Nat} (h : Sz s j) (hs : s ≤ 2000) : Sz (2 * s) (j + 1) := by
  obtain ⟨rfl, h3, h12⟩ := h
  refine ⟨by rw [Nat.pow_succ]; omega, by omega, ?_⟩
  rcases Nat.lt_or_ge j 12 with h | h
  · omega
  · have : 2 ^ 12 ≤ 2 ^ j := Nat.pow_le_pow_right (by decide) h
    omega
theorem hRehash2 (t g m j : Nat) (es : List En) (seed n : Int) (w : World) (hT : Tb w t g m es seed n) (hs : Sz es.length j) (hs2 : Sz (2 * es.length) (j + 1)) :
    Calls Tryz.prog 163 #[.pointer (some ⟨t, 0, none⟩), .int .i64 (2 * (es.length : Int))] w fun e w' => ∃ g' es', e = .returned (.tuple #[]) ∧ w.heap.size ≤ g' ∧ Hid (Tb w' t g' m es' seed n) ∧ Hid (es'.length = 2 * es.length ∧ cntF es' ≤ cntF es ∧ ∀ x ∈ es', x = e0 ∨ x ∈ es) ∧ Hid (Chg (· = t) w w') := by
  have h := hRehash t g m j es seed n w hT hs hs2
  rwa [show ((2 * es.length : Nat) : Int) = 2 * (es.length : Int) by omega] at h
set_option maxRecDepth 100000 in
set_option maxHeartbeats 4000000 in
theorem hPut (t g m n : Nat) (es : List En) (seed lv pf v : Int) (V : Int → Prop) (w : World) (hT : Tb w t g m es seed (n : Nat)) (hI : Ti es (n : Nat)) (hn : n < 1000) (hV : Vals es V) (hv : V v) :
    Calls Tryz.prog 140 #[.pointer (some ⟨t, 0, none⟩), .agg #[.int .u8 lv, .int .u64 pf], .int .u64 v] w fun e w' => ∃ g' es' n' b, e = .returned (.bool b) ∧ (g' = g ∨ w.heap.size ≤ g') ∧ n ≤ n' ∧ n' ≤ n + 1 ∧ Hid (Tb w' t g' m es' seed (n' : Nat)) ∧ Hid (Ti es' (n' : Nat)) ∧ Hid (Vals es' V) ∧ Hid (Chg (fun k => k = t ∨ k = g) w w') := by
  obtain ⟨j, hs⟩ := hI.size
  have hsp := sz_pos hs
  have hfew := hI.few
  have hhalf := hI.half
  have HS := Lib.hid hs
  have HI := Lib.hid hI
  have HF := Lib.hid hI.free
  have HV := Lib.hid hV
  have HVV := Lib.hid hv
  have hA := (Below.refl w.heap.size w).alloc (Nat.le_refl _) (.cells #[.int .u8 lv, .int .u64 pf] 201)
  have HT0 := Lib.hid (hT.chg (S := fun _ => False) (Chg.of_below hA) (fun h => h) (fun h => h))
  have HC0 := Lib.hid (Chg.of_below (S := fun k => k = t ∨ k = g) hA)
  have HK0 := Lib.hid (blk_new w #[.int .u8 lv, .int .u64 pf] 201)
  have htl := hT.cells.2.2.2.2.2.2
  have hgl := hT.rows.lt
  have hgt := hT.ne
  clear hT hI hs hV hv hA
  go_enter Tryz.func140, Tryz.ntmps140
  go_wp2_with fail
  generalize w.alloc (.cells #[.int .u8 lv, .int .u64 pf] 201) = w0 at *
  obtain ⟨f, hf, hff⟩ := HF.out
  refine (hFind t g m j es seed n lv pf _ HT0.out HS.out f hf hff).mono ?_
  rintro e w2 ⟨i, b, rfl, HX, _, HT2, hc2⟩
  have HC2 := Lib.hid (HC0.out.then (hc2.out.mono (fun b _ h => .inl h)))
  have HK2 := Lib.hid (hc2.out.blk HK0.out (by omega))
  clear HT0 HC0 HK0 hc2 hff
  obtain ⟨hi, hfu, _⟩ := HX.out
  obtain ⟨c0, c1, c2, c3, _, fz, _⟩ := HT2.out.cells
  obtain ⟨_, _, _, _, fr⟩ := HT2.out.rows.at_ hi
  have r0 := fr (i * 4)
  have r1 := fr (i * 4 + 1)
  have r2 := fr (i * 4 + 2)
  have r3 := fr (i * 4 + 3)
  have f3 := fz 3
  have HFU := Lib.hid hfu
  have k0 := blk_cell HK2.out 0 rfl
  have k1 := blk_cell HK2.out 1 rfl
  clear fz fr hfu
  cases b
  · go_wp2
    go_region
    have HT4 := Lib.hid ((HT2.out.put i hi ⟨lv, pf, v, true⟩).chg (S := fun _ => False) ((Chg.refl _ _).drew) (fun h => h) (fun h => h))
    have HC4 := Lib.hid ((HC2.out.put4 i (.int .u8 lv) (.int .u64 pf) (.int .u64 v) (.bool true) (.inl (.inr rfl))).drew)
    have HN4 := Lib.hid (cntF_set es i ⟨lv, pf, v, true⟩)
    have HV4 := Lib.hid (HV.out.set i ⟨lv, pf, v, true⟩ HVV.out)
    have HL4 := Lib.hid (show (es.set i ⟨lv, pf, v, true⟩).length = es.length from List.length_set)
    generalize ((((w2.setCell ⟨g, i * 4, none⟩ (.int .u8 lv)).setCell ⟨g, i * 4 + 1, none⟩ (.int .u64 pf)).setCell ⟨g, i * 4 + 2, none⟩ (.int .u64 v)).setCell ⟨g, i * 4 + 3, none⟩ (.bool true)).drew = w4 at *
    generalize es.set i ⟨lv, pf, v, true⟩ = es4 at *
    clear c0 c1 c2 c3 r0 r1 r2 r3 f3 k0 k1 HT2 HC2 HK2
    obtain ⟨c0, c1, c2, c3, _, fz, _⟩ := HT4.out.cells
    have f3 := fz 3
    rw [HL4.out] at c1
    have HT5 := Lib.hid (HT4.out.count ((n : Int) + 1))
    have HC5 := Lib.hid (HC4.out.set (b := t) (i := 3) (.int .i64 ((n : Int) + 1)) (.inl (.inl rfl)))
    have e1 : (((n + 1 : Nat)) : Int) = (n : Int) + 1 := by omega
    clear fz
    by_cases hbig : es.length < 2 * (n + 1)
    · have hb : (es.length : Int) < 2 * ((n : Int) + 1) := by omega
      go_wp2
      go_quiet (fail)
      have HT6 := Lib.hid (HT5.out.chg (S := fun _ => False) ((Chg.refl _ _).drewN nq) (fun h => h) (fun h => h))
      have HC6 := Lib.hid (HC5.out.drewN nq)
      generalize (w4.setCell ⟨t, 3, none⟩ (.int .i64 ((n : Int) + 1))).drewN nq = w5 at *
      clear c0 c1 c2 c3 f3 HT4 HC4 HT5 HC5
      obtain ⟨c0, c1, c2, c3, _, _, _⟩ := HT6.out.cells
      rw [HL4.out] at c1
      have hR := hRehash2 t g m j es4 seed ((n : Int) + 1) w5 HT6.out (by rw [HL4.out]; exact HS.out) (by rw [HL4.out]; exact sz_twice HS.out (by omega))
      rw [HL4.out] at hR
      have HRR := Lib.hid hR
      clear hR
      go_wp2_with fail
      refine HRR.out.mono ?_
      rintro e w6 ⟨g', es', rfl, hg', HT7, HE, HC7⟩
      have HC8 := Lib.hid (HC6.out.then (HC7.out.mono (fun b _ h => .inl h)))
      obtain ⟨hE1, hE2, hE3⟩ := HE.out
      have HE3 := Lib.hid hE3
      clear hE3
      go_wp2
      go_ret
      exact ⟨g', es', n + 1, true, rfl, .inr (by have := HC6.out.size; omega), by omega, Nat.le_refl _, by rw [e1]; exact HT7.out, ⟨⟨j + 1, by rw [hE1]; exact sz_twice HS.out (by omega)⟩, by have := HN4.out; omega, by rw [hE1]; omega⟩, fun x hx => (HE3.out x hx).elim .inl (fun h => HV4.out x h), HC8.out⟩
    · have hb : ¬ (es.length : Int) < 2 * ((n : Int) + 1) := by omega
      go_wp2
      go_quiet (fail)
      go_wp2
      go_ret
      exact ⟨g, es4, n + 1, true, rfl, .inl rfl, by omega, Nat.le_refl _, by rw [e1]; exact HT5.out.chg (S := fun _ => False) ((Chg.refl _ _).drewN _) (fun h => h) (fun h => h), ⟨⟨j, by rw [HL4.out]; exact HS.out⟩, by have := HN4.out; omega, by rw [HL4.out]; omega⟩, HV4.out, HC5.out.drewN _⟩
  · go_wp2
    go_ret
    exact ⟨g, _, n, false, rfl, .inl rfl, Nat.le_refl _, by omega, HT2.out.val i hi v, ⟨⟨j, by rw [List.length_set]; exact HS.out⟩, by rw [cntF_val es i ⟨es[i].lv, es[i].pf, v, es[i].full⟩ hi rfl]; exact HI.out.few, by rw [List.length_set]; exact HI.out.half⟩, HV.out.set i _ HVV.out, HC2.out.set _ (.inl (.inr rfl))⟩
end Go.Proofs.YtcnaikoloagbdaaGreat
