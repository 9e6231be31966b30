/-
  package look over a VEB with the keys 1, 5 and 9, a cursor from 2 to 9; nil ones; walked.
-/
import Derived.Test.YtmpjjehihimadaaGreatVFace
import Derived.Handy
namespace Go.Proofs.YtmpjjehihimadaaGreat
set_option linter.unusedVariables false
set_option linter.unusedSimpArgs false
open Go.RowKit Go.Shelf

theorem set_ifaceV : ∃ ms, Tryz.prog.underlying 45 = some (.interface ms) := by
  have h : (match Tryz.prog.underlying 45 with | some (.interface _) => true | _ => false) = true := by kernel_rfl
  generalize Tryz.prog.underlying 45 = o at h
  match o, h with
  | some (.interface a), _ => exact ⟨a, rfl⟩
/-- a set isn't nil -/
theorem run_eql_set_nilV (t : TypeId) (v : Value) (w : World) : (binOp .eql 45 (.iface t v) .nilIface).run Tryz.prog w = .ok (.bool false) w := by
  obtain ⟨ms, hu⟩ := set_ifaceV
  have h : ∀ d : Nat, (Op.equalIn (d + 1) 45 (.iface t v) .nilIface).run Tryz.prog w = .ok false w := fun d => by simp [Op.equalIn, run_underlying hu]
  simp only [binOp]
  simp [Op.equal, Op.maxDepth, h 9999]
attribute [local go_sem] run_eql_set_nilV
theorem VP.notT {w : World} {d : VD} (h : VP w d) {b : Nat} {t : TypeId} (hb : tyV w b t) (h1 : t ≠ 116) (h2 : t ≠ 154) (h3 : t ≠ 157) (h4 : t ≠ 229) (h5 : t ≠ 151) (h6 : t ≠ 214) : ¬ d.own b := by
  obtain ⟨t1, t2, t3, t4, t5, t6⟩ := h.tys
  rintro (e | e | e | e | e | e)
  · exact hb.ne t1 h1 e
  · exact hb.ne t2 h2 e
  · exact hb.ne t3 h3 e
  · exact hb.ne t4 h4 e
  · exact hb.ne t5 h5 e
  · exact hb.ne (t6 b e) h6 rfl
/-- a kept VEB (k), its version; a cursor (c) from 2 to 9 -/
structure CK (w : World) (k c : Nat) (d : VD) (ver at_ : Int) (past : Bool) : Prop where
  p : VP w d
  v3 : V3 d ∨ ver = 1
  n : 0 < d.n
  kept : w.heap[k]? = some (.cells #[.iface 83 (.pointer (some ⟨d.t, 0, none⟩)), .int .u64 ver] 47 (0, 0))
  cur : w.heap[c]? = some (.cells #[.pointer (some ⟨k, 0, none⟩), .int .u64 0, .int .u64 2, .int .u64 9, .int .u64 at_, .bool past] 49 (0, 0))
theorem CK.nk {w : World} {k c : Nat} {d : VD} {ver at_ : Int} {past : Bool} (h : CK w k c d ver at_ past) : ¬ d.own k := h.p.notT ⟨_, h.kept⟩ (by decide) (by decide) (by decide) (by decide) (by decide) (by decide)
theorem CK.nc {w : World} {k c : Nat} {d : VD} {ver at_ : Int} {past : Bool} (h : CK w k c d ver at_ past) : ¬ d.own c := h.p.notT ⟨_, h.cur⟩ (by decide) (by decide) (by decide) (by decide) (by decide) (by decide)
theorem CK.kc {w : World} {k c : Nat} {d : VD} {ver at_ : Int} {past : Bool} (h : CK w k c d ver at_ past) : k ≠ c := tyV.ne (w := w) (s := 47) (t := 49) ⟨_, h.kept⟩ ⟨_, h.cur⟩ (by decide)
/-- the blocks of all three -/
def CKown (k c : Nat) (d : VD) (b : Nat) : Prop := b = k ∨ b = c ∨ d.own b
theorem CK.red {w w' : World} {k c : Nat} {d : VD} {ver at_ : Int} {past : Bool} (h : CK w k c d ver at_ past) (hp : VP w' d) (hc : Chg d.red w w') : CK w' k c d ver at_ past :=
  ⟨hp, h.v3, h.n, hc.blk h.kept (fun e => h.nk (d.red_own _ e)), hc.blk h.cur (fun e => h.nc (d.red_own _ e))⟩
theorem CK.put {w w' : World} {k c : Nat} {d : VD} {ver at_ : Int} {past : Bool} (h : CK w k c d ver at_ past) {at2 : Int} {past2 : Bool} (hc : w'.heap[c]? = some (.cells #[.pointer (some ⟨k, 0, none⟩), .int .u64 0, .int .u64 2, .int .u64 9, .int .u64 at2, .bool past2] 49 (0, 0))) (hg : Chg (· = c) w w') : CK w' k c d ver at2 past2 :=
  ⟨h.p.chg hg (fun q hq e => h.nc (by have e' : q = c := e; rw [e'] at hq; exact hq)), h.v3, h.n, hg.blk h.kept (fun e => h.kc e), hc⟩
set_option maxRecDepth 100000 in
theorem keepV (t : Nat) (w : World) : Calls Tryz.prog 5 #[.iface 83 (.pointer (some ⟨t, 0, none⟩))] w fun e w' => e = .returned (.pointer (some ⟨w.heap.size, 0, none⟩)) ∧ w' = w.alloc (.cells #[.iface 83 (.pointer (some ⟨t, 0, none⟩)), .int .u64 0] 47) := by
  go_enter Tryz.func5, Tryz.ntmps5
  go_wp2
  go_ret
  exact ⟨rfl, rfl⟩
set_option maxRecDepth 100000 in
theorem openV (k : Nat) (t : Nat) (w : World) (h : w.heap[k]? = some (.cells #[.iface 83 (.pointer (some ⟨t, 0, none⟩)), .int .u64 0] 47 (0, 0))) : Calls Tryz.prog 6 #[.pointer (some ⟨k, 0, none⟩), .int .u64 2, .int .u64 9] w fun e w' => e = .returned (.tuple #[.pointer (some ⟨w.heap.size, 0, none⟩), .int .i64 0]) ∧ w' = w.alloc (.cells #[.pointer (some ⟨k, 0, none⟩), .int .u64 0, .int .u64 2, .int .u64 9, .int .u64 2, .bool false] 49) := by
  have k1 := blk_cell h 1 (v := .int .u64 0) rfl
  clear h
  go_enter Tryz.func6, Tryz.ntmps6
  go_wp2
  go_ret2
  exact ⟨rfl, rfl⟩
set_option maxRecDepth 100000 in
theorem mayV {w : World} {k c : Nat} {d : VD} {ver at_ : Int} {past : Bool} (h : CK w k c d ver at_ past) : Calls Tryz.prog 19 #[.pointer (some ⟨c, 0, none⟩)] w fun e w' => e = .returned (.int .i64 (if ver = 0 then 0 else 9)) ∧ Hid (Below w.heap.size w w') := by
  have k1 := blk_cell h.kept 1 (v := .int .u64 ver) rfl
  have c0 := blk_cell h.cur 0 (v := .pointer (some ⟨k, 0, none⟩)) rfl
  have c1 := blk_cell h.cur 1 (v := .int .u64 0) rfl
  clear h
  by_cases hv : ver = 0
  · subst hv
    go_enter Tryz.func19, Tryz.ntmps19
    go_wp2
    go_quiet (fail)
    go_wp2
    go_ret
    exact ⟨rfl, below_drewN (Below.refl _ _) _⟩
  · have hv2 : (ver == 0) = false := by simpa using hv
    rw [if_neg hv]
    clear hv
    go_enter Tryz.func19, Tryz.ntmps19
    go_wp2
    go_quiet (fail)
    go_wp2
    go_ret
    exact ⟨rfl, below_drewN (Below.refl _ _) _⟩
set_option maxRecDepth 100000 in
set_option maxHeartbeats 2000000 in
theorem aheadV {w : World} {k c : Nat} {d : VD} {a : Int} (h : CK w k c d 0 a false) (y : Int) (hy : y ≤ 9)
    (hn : ∀ V, VP V d → Calls Tryz.prog 108 #[.pointer (some ⟨d.t, 0, none⟩), .int .u64 a] V fun e V' => e = .returned (.tuple #[.int .u64 y, .bool true]) ∧ Hid (VP V' d) ∧ Hid (Chg d.red V V')) :
    Calls Tryz.prog 20 #[.pointer (some ⟨c, 0, none⟩)] w fun e w' => e = .returned (.tuple #[.int .u64 y, .int .i64 0]) ∧ Hid (CK w' k c d 0 y false) ∧ Hid (Chg (CKown k c d) w w') := by
  have H := Lib.hid h
  have HN := Lib.hid (hn _ h.p.drewn)
  have HF := Lib.hid (show ∀ V, CK V k c d 0 a false → V.cell? ⟨c, 0, none⟩ = some (.pointer (some ⟨k, 0, none⟩)) ∧ V.cell? ⟨k, 0, none⟩ = some (.iface 83 (.pointer (some ⟨d.t, 0, none⟩))) ∧ V.cell? ⟨c, 4, none⟩ = some (.int .u64 a) from fun V hV =>
    ⟨blk_cell hV.cur 0 rfl, blk_cell hV.kept 0 rfl, blk_cell hV.cur 4 rfl⟩)
  have q5 := blk_cell h.cur 5 (v := .bool false) rfl
  have q1 := HF.out _ h
  have hd := h.red h.p.drewn (Chg.refl _ w).drew
  have HD := Lib.hid hd
  have q2 := HF.out _ hd
  have hyy : (9 < y) = False := eq_false (by omega)
  clear h hn hd
  go_enter Tryz.func20, Tryz.ntmps20
  go_wp2
  go_region_held3 (fun w' => w'.cell? ⟨c, 0, none⟩ = some (.pointer (some ⟨k, 0, none⟩)) ∧ w'.cell? ⟨k, 0, none⟩ = some (.iface 83 (.pointer (some ⟨d.t, 0, none⟩))) ∧ w'.cell? ⟨c, 4, none⟩ = some (.int .u64 a)) (first | exact q1 | exact q2 | exact q3) (first | (go_at_call 108; refine HN.out.mono ?_; rintro e w3 ⟨rfl, HP3, HC3⟩; have HK3 := Lib.hid (HD.out.red HP3.out HC3.out); have q3 := HF.out _ HK3.out))
  have c3 := blk_cell HK3.out.cur 3 (v := .int .u64 9) rfl
  have f4 := blk_free HK3.out.cur 4
  have c4 := q3.2.2
  have HCH := Lib.hid ((Chg.refl d.red w).drew.then HC3.out)
  have HS := Lib.hid (show CK (w3.setCell ⟨c, 4, none⟩ (.int .u64 y)) k c d 0 y false from HK3.out.put (by simpa using blk_set HK3.out.cur 4 (.int .u64 y)) ((Chg.refl (· = c) w3).set (b := c) (i := 4) (.int .u64 y) (.inl rfl)))
  have HC4 := Lib.hid (show Chg (CKown k c d) w (w3.setCell ⟨c, 4, none⟩ (.int .u64 y)) from (HCH.out.mono (fun b _ hb => .inr (.inr (d.red_own b hb)))).set _ (.inl (.inr (.inl rfl))))
  clear q1 q2 q3 HN HF q5 HD HC3 HP3 HCH
  go_wp2
  go_ret2
  exact ⟨rfl, HS.out, HC4.out⟩
set_option maxRecDepth 100000 in
set_option maxHeartbeats 2000000 in
/-- the next key y, not the last one -/
theorem nextV {w : World} {k c : Nat} {d : VD} {a : Int} (h : CK w k c d 0 a false) (y : Int) (hy : y < 9) (hy0 : 0 ≤ y)
    (hn : ∀ V, VP V d → Calls Tryz.prog 108 #[.pointer (some ⟨d.t, 0, none⟩), .int .u64 a] V fun e V' => e = .returned (.tuple #[.int .u64 y, .bool true]) ∧ Hid (VP V' d) ∧ Hid (Chg d.red V V')) :
    Calls Tryz.prog 7 #[.pointer (some ⟨c, 0, none⟩)] w fun e w' => e = .returned (.tuple #[.int .u64 y, .int .i64 0]) ∧ Hid (CK w' k c d 0 (y + 1) false) ∧ Hid (Chg (CKown k c d) w w') := by
  have H := Lib.hid h
  have HN := Lib.hid hn
  have hyy : (y == 9) = false := by simp; omega
  have hyw : IntKind.u64.wrap (y + 1) = y + 1 := by unfold IntKind.wrap; simp [IntKind.bits, IntKind.signed]; omega
  have HYW := Lib.hid hyw
  clear h hn hyw
  go_enter Tryz.func7, Tryz.ntmps7
  go_wp2_with fail
  refine (mayV H.out).mono ?_
  rintro e w1 ⟨rfl, HB1⟩
  have H1 := Lib.hid (H.out.red (H.out.p.below HB1.out) (Chg.of_below HB1.out))
  go_wp2_with fail
  refine (aheadV H1.out y (by omega) HN.out).mono ?_
  rintro e w2 ⟨rfl, H2, HC2⟩
  have c3 := blk_cell H2.out.cur 3 (v := .int .u64 9) rfl
  have c4 := blk_cell H2.out.cur 4 (v := .int .u64 y) rfl
  have f4 := blk_free H2.out.cur 4
  have HS := Lib.hid (show CK (w2.setCell ⟨c, 4, none⟩ (.int .u64 (y + 1))) k c d 0 (y + 1) false from H2.out.put (by simpa using blk_set H2.out.cur 4 (.int .u64 (y + 1))) ((Chg.refl (· = c) w2).set (b := c) (i := 4) (.int .u64 (y + 1)) (.inl rfl)))
  have HC4 := Lib.hid (show Chg (CKown k c d) w (w2.setCell ⟨c, 4, none⟩ (.int .u64 (y + 1))) from ((Chg.of_below (S := CKown k c d) HB1.out).then HC2.out).set _ (.inl (.inr (.inl rfl))))
  clear HN HC2 HB1
  go_wp2
  go_ret2
  exact ⟨rfl, HS.out, HC4.out⟩
set_option maxRecDepth 100000 in
set_option maxHeartbeats 2000000 in
/-- the next key is the range's end -/
theorem nextV9 {w : World} {k c : Nat} {d : VD} {a : Int} (h : CK w k c d 0 a false)
    (hn : ∀ V, VP V d → Calls Tryz.prog 108 #[.pointer (some ⟨d.t, 0, none⟩), .int .u64 a] V fun e V' => e = .returned (.tuple #[.int .u64 9, .bool true]) ∧ Hid (VP V' d) ∧ Hid (Chg d.red V V')) :
    Calls Tryz.prog 7 #[.pointer (some ⟨c, 0, none⟩)] w fun e w' => e = .returned (.tuple #[.int .u64 9, .int .i64 0]) ∧ Hid (CK w' k c d 0 9 true) ∧ Hid (Chg (CKown k c d) w w') := by
  have H := Lib.hid h
  have HN := Lib.hid hn
  clear h hn
  go_enter Tryz.func7, Tryz.ntmps7
  go_wp2_with fail
  refine (mayV H.out).mono ?_
  rintro e w1 ⟨rfl, HB1⟩
  have H1 := Lib.hid (H.out.red (H.out.p.below HB1.out) (Chg.of_below HB1.out))
  go_wp2_with fail
  refine (aheadV H1.out 9 (by omega) HN.out).mono ?_
  rintro e w2 ⟨rfl, H2, HC2⟩
  have c3 := blk_cell H2.out.cur 3 (v := .int .u64 9) rfl
  have c5 := blk_cell H2.out.cur 5 (v := .bool false) rfl
  have f5 := blk_free H2.out.cur 5
  have HS := Lib.hid (show CK (w2.setCell ⟨c, 5, none⟩ (.bool true)) k c d 0 9 true from H2.out.put (by simpa using blk_set H2.out.cur 5 (.bool true)) ((Chg.refl (· = c) w2).set (b := c) (i := 5) (.bool true) (.inl rfl)))
  have HC4 := Lib.hid (show Chg (CKown k c d) w (w2.setCell ⟨c, 5, none⟩ (.bool true)) from ((Chg.of_below (S := CKown k c d) HB1.out).then HC2.out).set _ (.inl (.inr (.inl rfl))))
  clear HN HC2 HB1
  go_wp2
  go_ret2
  exact ⟨rfl, HS.out, HC4.out⟩
set_option maxRecDepth 100000 in
set_option maxHeartbeats 2000000 in
/-- behind all -/
theorem nextVEnd {w : World} {k c : Nat} {d : VD} {a : Int} (h : CK w k c d 0 a true) :
    Calls Tryz.prog 7 #[.pointer (some ⟨c, 0, none⟩)] w fun e w' => e = .returned (.tuple #[.int .u64 0, .int .i64 10]) ∧ Hid (CK w' k c d 0 a true) ∧ Hid (Below w.heap.size w w') := by
  have H := Lib.hid h
  clear h
  go_enter Tryz.func7, Tryz.ntmps7
  go_wp2_with fail
  refine (mayV H.out).mono ?_
  rintro e w1 ⟨rfl, HB1⟩
  have H1 := Lib.hid (H.out.red (H.out.p.below HB1.out) (Chg.of_below HB1.out))
  have c5 := blk_cell H1.out.cur 5 (v := .bool true) rfl
  go_wp2
  go_ret2
  exact ⟨rfl, H1.out, HB1.out⟩
set_option maxRecDepth 100000 in
set_option maxHeartbeats 2000000 in
/-- stale -/
theorem nextVStale {w : World} {k c : Nat} {d : VD} {ver a : Int} {past : Bool} (h : CK w k c d ver a past) (hv : ver ≠ 0) :
    Calls Tryz.prog 7 #[.pointer (some ⟨c, 0, none⟩)] w fun e w' => e = .returned (.tuple #[.int .u64 0, .int .i64 9]) ∧ Hid (Below w.heap.size w w') := by
  have HM := Lib.hid (mayV h)
  have HV := Lib.hid hv
  clear h hv
  go_enter Tryz.func7, Tryz.ntmps7
  go_wp2_with fail
  refine HM.out.mono ?_
  rintro e w1 ⟨rfl, HB1⟩
  rw [if_neg HV.out]
  clear HM
  go_wp2
  go_ret2
  exact ⟨rfl, HB1.out⟩
set_option maxRecDepth 100000 in
set_option maxHeartbeats 2000000 in
/-- back from behind all -/
theorem prevV9 {w : World} {k c : Nat} {d : VD} {a : Int} (h : CK w k c d 0 a true)
    (hn : ∀ V, VP V d → Calls Tryz.prog 109 #[.pointer (some ⟨d.t, 0, none⟩), .int .u64 9] V fun e V' => e = .returned (.tuple #[.int .u64 9, .bool true]) ∧ Hid (VP V' d) ∧ Hid (Chg d.red V V')) :
    Calls Tryz.prog 8 #[.pointer (some ⟨c, 0, none⟩)] w fun e w' => e = .returned (.tuple #[.int .u64 9, .int .i64 0]) ∧ Hid (CK w' k c d 0 9 false) ∧ Hid (Chg (CKown k c d) w w') := by
  have H := Lib.hid h
  have HN := Lib.hid hn
  have HF := Lib.hid (show ∀ V, CK V k c d 0 a true → V.cell? ⟨c, 0, none⟩ = some (.pointer (some ⟨k, 0, none⟩)) ∧ V.cell? ⟨k, 0, none⟩ = some (.iface 83 (.pointer (some ⟨d.t, 0, none⟩))) ∧ V.cell? ⟨c, 3, none⟩ = some (.int .u64 9) from fun V hV =>
    ⟨blk_cell hV.cur 0 rfl, blk_cell hV.kept 0 rfl, blk_cell hV.cur 3 rfl⟩)
  clear h hn
  go_enter Tryz.func8, Tryz.ntmps8
  go_wp2_with fail
  refine (mayV H.out).mono ?_
  rintro e w1 ⟨rfl, HB1⟩
  have H1 := Lib.hid (H.out.red (H.out.p.below HB1.out) (Chg.of_below HB1.out))
  have c5 := blk_cell H1.out.cur 5 (v := .bool true) rfl
  have q1 := HF.out _ H1.out
  have hd := H1.out.red H1.out.p.drewn (Chg.refl _ w1).drew
  have HD := Lib.hid hd
  have q2 := HF.out _ hd
  have HNN := Lib.hid (HN.out _ hd.p)
  clear hd
  go_wp2
  go_region_held3 (fun w' => w'.cell? ⟨c, 0, none⟩ = some (.pointer (some ⟨k, 0, none⟩)) ∧ w'.cell? ⟨k, 0, none⟩ = some (.iface 83 (.pointer (some ⟨d.t, 0, none⟩))) ∧ w'.cell? ⟨c, 3, none⟩ = some (.int .u64 9)) (first | exact q1 | exact q2 | exact q3) (first | (go_at_call 109; refine HNN.out.mono ?_; rintro e w3 ⟨rfl, HP3, HC3⟩; have HK3 := Lib.hid (HD.out.red HP3.out HC3.out); have q3 := HF.out _ HK3.out))
  have c2 := blk_cell HK3.out.cur 2 (v := .int .u64 2) rfl
  have f4 := blk_free HK3.out.cur 4
  have f5 := blk_free HK3.out.cur 5
  have c4 := blk_cell HK3.out.cur 4 (v := .int .u64 a) rfl
  have c5' := blk_cell HK3.out.cur 5 (v := .bool true) rfl
  have HCH := Lib.hid (((Chg.of_below (S := d.red) HB1.out).drew).then HC3.out)
  have HS := Lib.hid (show CK ((w3.setCell ⟨c, 4, none⟩ (.int .u64 9)).setCell ⟨c, 5, none⟩ (.bool false)) k c d 0 9 false from HK3.out.put (by simpa using blk_set (blk_set HK3.out.cur 4 (.int .u64 9)) 5 (.bool false)) (((Chg.refl (· = c) w3).set (b := c) (i := 4) (.int .u64 9) (.inl rfl)).set (b := c) (i := 5) (.bool false) (.inl rfl)))
  have HC4 := Lib.hid (show Chg (CKown k c d) w ((w3.setCell ⟨c, 4, none⟩ (.int .u64 9)).setCell ⟨c, 5, none⟩ (.bool false)) from ((HCH.out.mono (fun b _ hb => .inr (.inr (d.red_own b hb)))).set _ (.inl (.inr (.inl rfl)))).set _ (.inl (.inr (.inl rfl))))
  clear q1 q2 q3 HN HF HD HC3 HP3 HCH c5 HNN
  go_wp2
  go_ret2
  exact ⟨rfl, HS.out, HC4.out⟩
set_option maxRecDepth 100000 in
theorem lookChangedV (k : Nat) (v : Value) (w : World) (h : w.heap[k]? = some (.cells #[v, .int .u64 0] 47 (0, 0))) : Calls Tryz.prog 22 #[.pointer (some ⟨k, 0, none⟩), .int .i64 0] w fun e w' => e = .returned (.int .i64 0) ∧ Hid (w'.heap[k]? = some (.cells #[v, .int .u64 1] 47 (0, 0))) ∧ Hid (Chg (· = k) w w') := by
  have H := Lib.hid h
  have c1 := blk_cell h 1 (v := .int .u64 0) rfl
  have f1 := blk_free h 1
  clear h
  go_enter Tryz.func22, Tryz.ntmps22
  go_wp2
  go_ret
  exact ⟨rfl, by show _ = _; simpa using blk_set H.out 1 (.int .u64 1), (Chg.refl _ w).set _ (.inl rfl)⟩
set_option maxRecDepth 100000 in
set_option maxHeartbeats 2000000 in
/-- a key more -/
theorem keptInsertV {w : World} {k c : Nat} {d : VD} {a : Int} {past : Bool} (h : CK w k c d 0 a past) (x : Int)
    (hn : Calls Tryz.prog 103 #[.pointer (some ⟨d.t, 0, none⟩), .int .u64 x] w fun e V' => ∃ d', e = .returned (.int .i64 0) ∧ Hid (VO w V' d d') ∧ Hid (0 < d'.n)) :
    Calls Tryz.prog 13 #[.pointer (some ⟨k, 0, none⟩), .int .u64 x] w fun e w' => ∃ d', e = .returned (.int .i64 0) ∧ Hid (CK w' k c d' 1 a past) ∧ Hid (Chg (CKown k c d) w w') := by
  have H := Lib.hid h
  have HN := Lib.hid hn
  have k0 := blk_cell h.kept 0 (v := .iface 83 (.pointer (some ⟨d.t, 0, none⟩))) rfl
  clear h hn
  go_enter Tryz.func13, Tryz.ntmps13
  go_wp2_with fail
  refine HN.out.mono ?_
  rintro e w1 ⟨d', rfl, HO, HNN⟩
  have HK1 := Lib.hid (HO.out.chg.blk H.out.kept H.out.nk)
  have HC1 := Lib.hid (HO.out.chg.blk H.out.cur H.out.nc)
  clear HN k0
  go_wp2_with fail
  refine (lookChangedV k (.iface 83 (.pointer (some ⟨d.t, 0, none⟩))) w1 HK1.out).mono ?_
  rintro e w2 ⟨rfl, HK2, HC2⟩
  go_wp2
  go_ret
  refine ⟨d', rfl, ⟨HO.out.vp.chg HC2.out (fun q hq e => ?_), .inr rfl, HNN.out, by rw [HO.out.t]; exact HK2.out, HC2.out.blk HC1.out (fun e => H.out.kc e.symm)⟩, (HO.out.chg.mono (fun b _ hb => .inr (.inr hb))).then (HC2.out.mono (fun b _ hb => .inl hb))⟩
  have e' : q = k := e
  rw [e'] at hq
  exact (HO.out.own k hq).elim H.out.nk (fun h => by have := blk_lt H.out.kept; omega)
end Go.Proofs.YtmpjjehihimadaaGreat
