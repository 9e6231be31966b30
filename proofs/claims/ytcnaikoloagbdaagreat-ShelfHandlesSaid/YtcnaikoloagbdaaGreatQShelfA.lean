/-
  package look: Keep, changed, Insert, Swap, Version; walked.
  package shelf: at, Taken, missing; a handle that isn't open is refused; walked.
-/
import Derived.Test.YtcnaikoloagbdaaGreatQFace6
import Derived.Test.YtcnaikoloagbdaaGreatQSKA
namespace Go.Proofs.YtcnaikoloagbdaaGreat
set_option linter.unusedVariables false
set_option linter.unusedSimpArgs false
open Go.RowKit Go.Shelf
attribute [local go_sem] run_eql_set_nil
attribute [local go_sem ↓] Go.wp_at_zero Go.wp_at_succ

set_option maxRecDepth 100000 in
theorem lookKeep (s : SK) (w : World) : Calls Tryz.prog 94 #[s.v] w fun e w' => e = .returned (.pointer (some ⟨w.heap.size, 0, none⟩)) ∧ w' = w.alloc (.cells #[s.v, .int .u64 0] 75) := by
  obtain ⟨t, v, e⟩ := s.iface
  rw [e]
  go_enter Tryz.func94, Tryz.ntmps94
  go_wp2
  go_ret
  exact ⟨rfl, rfl⟩
set_option maxRecDepth 100000 in
theorem lookChanged (k : Nat) (er : Int) (v : Value) (ver : Int) (w : World) (h : w.heap[k]? = some (.cells #[v, .int .u64 ver] 75 (0, 0))) : Calls Tryz.prog 81 #[.pointer (some ⟨k, 0, none⟩), .int .i64 er] w fun e w' => ∃ ver' : Int, e = .returned (.int .i64 er) ∧ Hid (w'.heap[k]? = some (.cells #[v, .int .u64 ver'] 75 (0, 0))) ∧ Hid (Chg (· = k) w w') := by
  have H := Lib.hid h
  have c1 := blk_cell h 1 (v := .int .u64 ver) rfl
  have f1 := blk_free h 1
  clear h
  by_cases h0 : er = 0
  · subst h0
    go_enter Tryz.func81, Tryz.ntmps81
    go_wp2
    go_ret
    exact ⟨IntKind.u64.wrap (ver + 1), rfl, by show _ = _; simpa using blk_set H.out 1 (.int .u64 (IntKind.u64.wrap (ver + 1))), (Chg.refl _ w).set _ (.inl rfl)⟩
  · have h1 : (er == 0) = false := by simpa using h0
    clear h0
    go_enter Tryz.func81, Tryz.ntmps81
    go_wp2
    go_ret
    exact ⟨ver, rfl, H.out, Chg.refl _ _⟩
set_option maxRecDepth 100000 in
theorem lookVersion (k : Nat) (v : Value) (ver : Int) (w : World) (h : w.heap[k]? = some (.cells #[v, .int .u64 ver] 75 (0, 0))) : Calls Tryz.prog 48 #[.pointer (some ⟨k, 0, none⟩)] w fun e w' => e = .returned (.int .u64 ver) ∧ w' = w := by
  have c1 := blk_cell h 1 (v := .int .u64 ver) rfl
  clear h
  go_enter Tryz.func48, Tryz.ntmps48
  go_wp2
  go_ret
  exact ⟨rfl, rfl⟩
/-- a key may be inserted -/
def SKI (k : Int) : SK → Prop
  | .e _ => k = 5
  | .t _ => False
  | .x d => d.ls.length ≤ 6 ∧ 1000 ≤ d.limit ∧ 0 ≤ k ∧ k ≤ 18446744073709551615
  | .y d => d.ks.length ≤ 90 ∧ d.n ≤ 90 ∧ 1000 ≤ d.limit ∧ 1000 ≤ d.xd.limit ∧ 0 ≤ k ∧ k ≤ 18446744073709551615
/-- what it is then -/
def SKn (er : Int) : SK → SK → Prop
  | .e _, .t _ => er = 0
  | .x d, .x d' => d'.limit = d.limit ∧ d'.ls.length ≤ d.ls.length + 1 ∧ d'.R ≤ 2 * d.R + 1
  | .y d, .y d' => d'.limit = d.limit ∧ d'.xd.limit = d.xd.limit ∧ d'.ks.length ≤ d.ks.length + 1 ∧ d'.n ≤ d.n + 1
  | _, _ => False
theorem ITok.put {w w1 w2 : World} {x : IT} {s' : SK} {ver' : Int} (h : ITok w x) (hp : s'.P w1) (hv : s'.v = x.s.v) (ho : ∀ q, s'.own q → x.s.own q ∨ w.heap.size ≤ q) (hc : Chg x.s.own w w1) (hk : w2.heap[x.k]? = some (.cells #[x.s.v, .int .u64 ver'] 75 (0, 0))) (hc2 : Chg (· = x.k) w1 w2) :
    ITok w2 { x with s := s', ver := ver' } ∧ (∀ b, ({ x with s := s', ver := ver' } : IT).own b → x.own b ∨ w.heap.size ≤ b) ∧ Chg x.own w w2 := by
  have hi := blk_lt h.item
  have hkl := blk_lt h.kept
  have hik : x.i ≠ x.k := fun e => by
    have h1 := h.item
    have h2 := h.kept
    rw [e, h2] at h1
    simp only [Option.some.injEq, Obj.cells.injEq] at h1
    exact absurd h1.2.1 (by decide)
  have hz := hc.size
  refine ⟨⟨hc2.blk (hc.blk h.item h.nik.1) (fun e => hik e), by show w2.heap[x.k]? = some (Obj.cells #[s'.v, .int .u64 ver'] 75 (0, 0)); rw [hv]; exact hk, SK.chg hp hc2 (fun q hq e => ?_), ?_⟩, fun b hb => ?_, (hc.mono (fun b _ hb => .inr (.inr hb))).then (hc2.mono (fun b _ hb => .inr (.inl hb)))⟩
  · have e' : q = x.k := e
    subst e'
    exact (ho _ hq).elim h.nik.2 (fun h => by omega)
  · exact ⟨fun hq => (ho _ hq).elim h.nik.1 (fun h => absurd h (Nat.not_le_of_lt hi)), fun hq => (ho _ hq).elim h.nik.2 (fun h => absurd h (Nat.not_le_of_lt hkl))⟩
  · rcases hb with hb | hb | hb
    · exact .inl (.inl hb)
    · exact .inl (.inr (.inl hb))
    · exact (ho b hb).imp (fun h => .inr (.inr h)) id
set_option maxRecDepth 100000 in
set_option maxHeartbeats 2000000 in
theorem keptInsert (x : IT) (k : Int) (w : World) (h : ITok w x) (hk : SKI k x.s) :
    Calls Tryz.prog 55 #[.pointer (some ⟨x.k, 0, none⟩), .int .u64 k] w fun e w' => ∃ (er : Int) (s' : SK) (ver' : Int), e = .returned (.int .i64 er) ∧ Hid (er ≠ 6) ∧ Hid (SKn er x.s s') ∧ Hid (ITok w' { x with s := s', ver := ver' }) ∧ Hid (∀ b, ({ x with s := s', ver := ver' } : IT).own b → x.own b ∨ w.heap.size ≤ b) ∧ Hid (Chg x.own w w') := by
  have H := Lib.hid h
  obtain ⟨i, kk, tag, seed, lim, ver, s⟩ := x
  have c0 := blk_cell h.kept 0 (v := s.v) rfl
  have HP := Lib.hid h.p
  cases s with
  | t d => exact hk.elim
  | e d =>
    obtain rfl : k = 5 := hk
    have hT0 : T0 w d := h.p
    have HINS := Lib.hid (tInsert d w hT0.tp hT0.n hT0.ls hT0.lim hT0.kb)
    simp only [SK.v] at c0
    clear h hT0
    go_enter Tryz.func55, Tryz.ntmps55
    go_wp2_with fail
    refine HINS.out.mono ?_
    rintro e w1 ⟨rfl, d', HT1, HT2, HT3, HT4, HT5⟩
    clear c0 HINS
    go_wp2_with fail
    refine (lookChanged kk 0 (SK.e d).v ver w1 (HT5.out.blk H.out.kept H.out.nik.2)).mono ?_
    rintro e w2 ⟨ver', rfl, HK, HC⟩
    have HF := Lib.hid (H.out.put (s' := .t d') ⟨HT1.out, HT3.out, HT2.out.2.1, HT2.out.2.2.1, HT2.out.2.2.2⟩ (by simp only [SK.v, HT2.out.1]) HT4.out HT5.out HK.out HC.out)
    go_wp2
    go_ret
    exact ⟨0, .t d', ver', rfl, by show (0 : Int) ≠ 6; decide, rfl, HF.out.1, HF.out.2.1, HF.out.2.2⟩
  | x d =>
    obtain ⟨h1, h2, h3⟩ := hk
    have HINS := Lib.hid (xInsert d k w h.p h1 h2 h3)
    simp only [SK.v] at c0
    clear h h1 h2 h3
    go_enter Tryz.func55, Tryz.ntmps55
    go_wp2_with fail
    refine HINS.out.mono ?_
    rintro e w1 ⟨er, d', rfl, HE, HS⟩
    clear c0 HINS
    go_wp2_with fail
    refine (lookChanged kk er (SK.x d).v ver w1 (HS.out.chg.blk H.out.kept H.out.nik.2)).mono ?_
    rintro e w2 ⟨ver', rfl, HK, HC⟩
    have HF := Lib.hid (H.out.put (s' := .x d') HS.out.xf (by simp only [SK.v, HS.out.x]) HS.out.own HS.out.chg HK.out HC.out)
    go_wp2
    go_ret
    exact ⟨er, .x d', ver', rfl, HE.out, ⟨HS.out.limit, HS.out.len, HS.out.R⟩, HF.out.1, HF.out.2.1, HF.out.2.2⟩
  | y d =>
    obtain ⟨h1, h2, h3, h4, h5⟩ := hk
    have HINS := Lib.hid (yInsert d k w h.p h1 h2 h3 h4 h5)
    simp only [SK.v] at c0
    clear h h1 h2 h3 h4 h5
    go_enter Tryz.func55, Tryz.ntmps55
    go_wp2_with fail
    refine HINS.out.mono ?_
    rintro e w1 ⟨er, d', rfl, HE, HS⟩
    clear c0 HINS
    go_wp2_with fail
    refine (lookChanged kk er (SK.y d).v ver w1 (HS.out.chg.blk H.out.kept H.out.nik.2)).mono ?_
    rintro e w2 ⟨ver', rfl, HK, HC⟩
    have HF := Lib.hid (H.out.put (s' := .y d') HS.out.yf (by simp only [SK.v, HS.out.y]) HS.out.own HS.out.chg HK.out HC.out)
    go_wp2
    go_ret
    exact ⟨er, .y d', ver', rfl, HE.out, ⟨HS.out.limit, HS.out.xlimit, HS.out.len, HS.out.n⟩, HF.out.1, HF.out.2.1, HF.out.2.2⟩
set_option maxRecDepth 100000 in
set_option maxHeartbeats 2000000 in
theorem keptSwap (x : IT) (s' : SK) (w : World) (h : ITok w x) (hp : s'.P w) (hd : ∀ q, x.own q → ¬ s'.own q) (hN1 : x.s.N ≤ 100000) (hN2 : s'.N ≤ 100000) :
    Calls Tryz.prog 62 #[.pointer (some ⟨x.k, 0, none⟩), s'.v] w fun e w' => ∃ (ver' : Int), (∃ v, e = .returned v) ∧ Hid (ITok w' { x with s := s', ver := ver' }) ∧ Hid (Chg (fun q => x.own q ∨ s'.own q) w w') := by
  have H := Lib.hid h
  have HD := Lib.hid hd
  have c0 := blk_cell h.kept 0 (v := x.s.v) rfl
  have hds : ∀ q, x.s.own q → ¬ s'.own q := fun q hq => hd q (.inr (.inr hq))
  have HEQ := Lib.hid (faceEqual x.s s' (SK.env2 x.s s') (SK.in_left x.s s' hds) (SK.in_right x.s s' hds) hN1 hN2 w ⟨h.p, hp⟩)
  obtain ⟨t, v, hsv⟩ := s'.iface
  have HSV := Lib.hid hsv
  rw [hsv] at HEQ ⊢
  clear h hd hds hp hsv
  go_enter Tryz.func62, Tryz.ntmps62
  go_wp2_with fail
  refine HEQ.out.mono ?_
  rintro e w1 ⟨r, _, rfl, HG, HC⟩
  clear HEQ c0
  have HI := Lib.hid (HC.out.blk H.out.item (fun e => e.elim (fun e => H.out.nik.1 (x.s.red_own _ e)) (fun e => HD.out _ (.inl rfl) (s'.red_own _ e))))
  have HK := Lib.hid (HC.out.blk H.out.kept (fun e => e.elim (fun e => H.out.nik.2 (x.s.red_own _ e)) (fun e => HD.out _ (.inr (.inl rfl)) (s'.red_own _ e))))
  have c0 := blk_cell HK.out 0 (v := x.s.v) rfl
  have c1 := blk_cell HK.out 1 (v := .int .u64 x.ver) rfl
  have f0 := blk_free HK.out 0
  have f1 := blk_free HK.out 1
  have HFIN := Lib.hid (show ∀ (ver' : Int) (w2 : World), w2.heap[x.k]? = some (.cells #[.iface t v, .int .u64 ver'] 75 (0, 0)) → Chg (· = x.k) w1 w2 → ITok w2 { x with s := s', ver := ver' } ∧ Chg (fun q => x.own q ∨ s'.own q) w w2 from fun ver' w2 hk hc => by
    have hik : x.i ≠ x.k := fun e => by
      have h1 := H.out.item
      have h2 := H.out.kept
      rw [e, h2] at h1
      simp only [Option.some.injEq, Obj.cells.injEq] at h1
      exact absurd h1.2.1 (by decide)
    exact ⟨⟨hc.blk HI.out (fun e => hik e), by show w2.heap[x.k]? = some (Obj.cells #[s'.v, .int .u64 ver'] 75 (0, 0)); rw [HSV.out]; exact hk, SK.chg HG.out.2 hc (fun q hq e => by have e' : q = x.k := e; subst e'; exact HD.out _ (.inr (.inl rfl)) hq), fun e => HD.out _ (.inl rfl) e, fun e => HD.out _ (.inr (.inl rfl)) e⟩, (HC.out.mono (fun q _ e => e.imp (fun e => .inr (.inr (x.s.red_own _ e))) (s'.red_own _))).then (hc.mono (fun q _ e => .inl (.inr (.inl e))))⟩)
  cases r
  · go_wp2
    go_end0
    have hs := blk_set (blk_set HK.out 1 (.int .u64 (IntKind.u64.wrap (x.ver + 1)))) 0 (.iface t v)
    have hf := HFIN.out (IntKind.u64.wrap (x.ver + 1)) _ (by simpa using hs) (((Chg.refl (· = x.k) w1).set (b := x.k) (i := 1) _ (.inl rfl)).set (b := x.k) (i := 0) _ (.inl rfl))
    exact ⟨IntKind.u64.wrap (x.ver + 1), ⟨_, rfl⟩, hf.1, hf.2⟩
  · go_wp2
    go_end0
    have hs := blk_set HK.out 0 (.iface t v)
    have hf := HFIN.out x.ver _ (by simpa using hs) ((Chg.refl _ w1).set _ (.inl rfl))
    exact ⟨x.ver, ⟨_, rfl⟩, hf.1, hf.2⟩
end Go.Proofs.YtcnaikoloagbdaaGreat
namespace Go.Proofs.YtcnaikoloagbdaaGreat
set_option linter.unusedVariables false
set_option linter.unusedSimpArgs false
open Go.RowKit Go.Shelf
attribute [local go_sem ↓] Go.wp_at_zero Go.wp_at_succ

set_option maxRecDepth 100000 in
theorem shAt {B : Nat} {w : World} {s : Nat} {l : Nat → Option IT} (H : SH B w s l) (h : Int) : Calls Tryz.prog 36 #[.pointer (some ⟨s, 0, none⟩), .int .i64 h] w fun e w' => e = .returned (encI (lk l h)) ∧ w' = w := by
  by_cases h0 : 0 ≤ h
  · by_cases h8 : h < 8
    · obtain ⟨n, rfl⟩ := Int.eq_ofNat_of_zero_le h0
      have hn : n < 8 := by omega
      have c := H.cell n hn
      have e : lk l (n : Int) = l n := by unfold lk; rw [if_pos ⟨h0, h8⟩, Int.toNat_natCast]
      rw [e]
      clear H e h0 h8
      obtain ⟨v, hv⟩ : ∃ v, encI (l n) = .pointer v := by cases l n <;> exact ⟨_, rfl⟩
      rw [hv] at c ⊢
      go_enter Tryz.func36, Tryz.ntmps36
      go_wp2
      go_ret
      exact ⟨rfl, rfl⟩
    · have e : lk l h = none := by unfold lk; rw [if_neg (by omega)]
      rw [e]
      clear H e
      go_enter Tryz.func36, Tryz.ntmps36
      go_wp2
      go_ret
      exact ⟨rfl, rfl⟩
  · have e : lk l h = none := by unfold lk; rw [if_neg (by omega)]
    rw [e]
    clear H e
    go_enter Tryz.func36, Tryz.ntmps36
    go_wp2
    go_ret
    exact ⟨rfl, rfl⟩
theorem shAtNo {B : Nat} {w : World} {s : Nat} {l : Nat → Option IT} (H : SH B w s l) (h : Int) (hno : lk l h = none) : Calls Tryz.prog 36 #[.pointer (some ⟨s, 0, none⟩), .int .i64 h] w fun e w' => e = .returned (.pointer none) ∧ w' = w := by
  have := shAt H h
  rwa [hno] at this
theorem shAtIs {B : Nat} {w : World} {s : Nat} {l : Nat → Option IT} (H : SH B w s l) (h : Int) {x : IT} (hx : lk l h = some x) : Calls Tryz.prog 36 #[.pointer (some ⟨s, 0, none⟩), .int .i64 h] w fun e w' => e = .returned (.pointer (some ⟨x.i, 0, none⟩)) ∧ w' = w := by
  have := shAt H h
  rwa [hx] at this
set_option maxRecDepth 100000 in
theorem shAtNil (h : Int) (w : World) : Calls Tryz.prog 36 #[.pointer none, .int .i64 h] w fun e w' => e = .returned (.pointer none) ∧ w' = w := by
  go_enter Tryz.func36, Tryz.ntmps36
  go_wp2
  go_ret
  exact ⟨rfl, rfl⟩
set_option maxRecDepth 100000 in
theorem noTaken (p : Option Addr) (h : Int) (w : World) (hno : Calls Tryz.prog 36 #[.pointer p, .int .i64 h] w fun e w' => e = .returned (.pointer none) ∧ w' = w) : Calls Tryz.prog 30 #[.pointer p, .int .i64 h] w fun e w' => e = .returned (.bool false) ∧ w' = w := by
  have HA := Lib.hid hno
  clear hno
  go_enter Tryz.func30, Tryz.ntmps30
  go_wp2_with fail
  refine HA.out.mono ?_
  rintro e w1 ⟨rfl, rfl⟩
  clear HA
  go_wp2
  go_ret
  exact ⟨rfl, rfl⟩
set_option maxRecDepth 100000 in
theorem isTaken (p : Option Addr) (h : Int) (i : Nat) (w : World) (hno : Calls Tryz.prog 36 #[.pointer p, .int .i64 h] w fun e w' => e = .returned (.pointer (some ⟨i, 0, none⟩)) ∧ w' = w) : Calls Tryz.prog 30 #[.pointer p, .int .i64 h] w fun e w' => e = .returned (.bool true) ∧ w' = w := by
  have HA := Lib.hid hno
  clear hno
  go_enter Tryz.func30, Tryz.ntmps30
  go_wp2_with fail
  refine HA.out.mono ?_
  rintro e w1 ⟨rfl, rfl⟩
  clear HA
  go_wp2
  go_ret
  exact ⟨rfl, rfl⟩
theorem shTaken {B : Nat} {w : World} {s : Nat} {l : Nat → Option IT} (H : SH B w s l) (h : Int) : Calls Tryz.prog 30 #[.pointer (some ⟨s, 0, none⟩), .int .i64 h] w fun e w' => e = .returned (.bool (lk l h).isSome) ∧ w' = w := by
  rcases hx : lk l h with _ | x
  · exact noTaken _ h w (shAtNo H h hx)
  · exact isTaken _ h x.i w (shAtIs H h hx)
set_option maxRecDepth 100000 in
theorem shMissing {B : Nat} {w : World} {s : Nat} {l : Nat → Option IT} (H : SH B w s l) (h : Int) : Calls Tryz.prog 60 #[.pointer (some ⟨s, 0, none⟩), .int .i64 h] w fun e w' => e = .returned (.bool (lk l h).isNone) ∧ w' = w := by
  have HT := Lib.hid (shTaken H h)
  clear H
  generalize lk l h = o at *
  cases o with
  | none =>
    simp only [Option.isSome_none, Option.isNone_none] at HT ⊢
    go_enter Tryz.func60, Tryz.ntmps60
    go_wp2_with fail
    refine HT.out.mono ?_
    rintro e w1 ⟨rfl, rfl⟩
    clear HT
    go_wp2
    go_ret
    exact ⟨rfl, rfl⟩
  | some x =>
    simp only [Option.isSome_some, Option.isNone_some] at HT ⊢
    go_enter Tryz.func60, Tryz.ntmps60
    go_wp2_with fail
    refine HT.out.mono ?_
    rintro e w1 ⟨rfl, rfl⟩
    clear HT
    go_wp2
    go_ret
    exact ⟨rfl, rfl⟩
set_option maxRecDepth 100000 in
theorem noInsert (p : Option Addr) (h : Int) (k : Int) (w : World) (hno : Calls Tryz.prog 36 #[.pointer p, .int .i64 h] w fun e w' => e = .returned (.pointer none) ∧ w' = w) : Calls Tryz.prog 21 #[.pointer p, .int .i64 h, .int .u64 k] w fun e w' => e = .returned (.int .i64 6) ∧ w' = w := by
  have HA := Lib.hid hno
  clear hno
  go_enter Tryz.func21, Tryz.ntmps21
  go_wp2_with fail
  refine HA.out.mono ?_
  rintro e w1 ⟨rfl, rfl⟩
  clear HA
  go_wp2
  go_ret
  exact ⟨rfl, rfl⟩
set_option maxRecDepth 100000 in
theorem noDelete (p : Option Addr) (h : Int) (k : Int) (w : World) (hno : Calls Tryz.prog 36 #[.pointer p, .int .i64 h] w fun e w' => e = .returned (.pointer none) ∧ w' = w) : Calls Tryz.prog 23 #[.pointer p, .int .i64 h, .int .u64 k] w fun e w' => e = .returned (.int .i64 6) ∧ w' = w := by
  have HA := Lib.hid hno
  clear hno
  go_enter Tryz.func23, Tryz.ntmps23
  go_wp2_with fail
  refine HA.out.mono ?_
  rintro e w1 ⟨rfl, rfl⟩
  clear HA
  go_wp2
  go_ret
  exact ⟨rfl, rfl⟩
set_option maxRecDepth 100000 in
theorem noPut (p : Option Addr) (h : Int) (k m : Int) (w : World) (hno : Calls Tryz.prog 36 #[.pointer p, .int .i64 h] w fun e w' => e = .returned (.pointer none) ∧ w' = w) : Calls Tryz.prog 22 #[.pointer p, .int .i64 h, .int .u64 k, .int .u64 m] w fun e w' => e = .returned (.int .i64 6) ∧ w' = w := by
  have HA := Lib.hid hno
  clear hno
  go_enter Tryz.func22, Tryz.ntmps22
  go_wp2_with fail
  refine HA.out.mono ?_
  rintro e w1 ⟨rfl, rfl⟩
  clear HA
  go_wp2
  go_ret
  exact ⟨rfl, rfl⟩
set_option maxRecDepth 100000 in
theorem noClear (p : Option Addr) (h : Int)  (w : World) (hno : Calls Tryz.prog 36 #[.pointer p, .int .i64 h] w fun e w' => e = .returned (.pointer none) ∧ w' = w) : Calls Tryz.prog 24 #[.pointer p, .int .i64 h] w fun e w' => e = .returned (.int .i64 6) ∧ w' = w := by
  have HA := Lib.hid hno
  clear hno
  go_enter Tryz.func24, Tryz.ntmps24
  go_wp2_with fail
  refine HA.out.mono ?_
  rintro e w1 ⟨rfl, rfl⟩
  clear HA
  go_wp2
  go_ret
  exact ⟨rfl, rfl⟩
set_option maxRecDepth 100000 in
theorem noWipe (p : Option Addr) (h : Int) (k m : Int) (w : World) (hno : Calls Tryz.prog 36 #[.pointer p, .int .i64 h] w fun e w' => e = .returned (.pointer none) ∧ w' = w) : Calls Tryz.prog 20 #[.pointer p, .int .i64 h, .int .u64 k, .int .u64 m] w fun e w' => e = .returned (.tuple #[.int .i64 0, .int .i64 6]) ∧ w' = w := by
  have HA := Lib.hid hno
  clear hno
  go_enter Tryz.func20, Tryz.ntmps20
  go_wp2_with fail
  refine HA.out.mono ?_
  rintro e w1 ⟨rfl, rfl⟩
  clear HA
  go_wp2
  go_ret2
  exact ⟨rfl, rfl⟩
set_option maxRecDepth 100000 in
theorem noGet (p : Option Addr) (h : Int) (k : Int) (w : World) (hno : Calls Tryz.prog 36 #[.pointer p, .int .i64 h] w fun e w' => e = .returned (.pointer none) ∧ w' = w) : Calls Tryz.prog 6 #[.pointer p, .int .i64 h, .int .u64 k] w fun e w' => e = .returned (.tuple #[.int .u64 0, .int .i64 6]) ∧ w' = w := by
  have HA := Lib.hid hno
  clear hno
  go_enter Tryz.func6, Tryz.ntmps6
  go_wp2_with fail
  refine HA.out.mono ?_
  rintro e w1 ⟨rfl, rfl⟩
  clear HA
  go_wp2
  go_ret2
  exact ⟨rfl, rfl⟩
set_option maxRecDepth 100000 in
theorem noHas (p : Option Addr) (h : Int) (k : Int) (w : World) (hno : Calls Tryz.prog 36 #[.pointer p, .int .i64 h] w fun e w' => e = .returned (.pointer none) ∧ w' = w) : Calls Tryz.prog 7 #[.pointer p, .int .i64 h, .int .u64 k] w fun e w' => e = .returned (.tuple #[.bool false, .int .i64 6]) ∧ w' = w := by
  have HA := Lib.hid hno
  clear hno
  go_enter Tryz.func7, Tryz.ntmps7
  go_wp2_with fail
  refine HA.out.mono ?_
  rintro e w1 ⟨rfl, rfl⟩
  clear HA
  go_wp2
  go_ret2
  exact ⟨rfl, rfl⟩
set_option maxRecDepth 100000 in
theorem noNext (p : Option Addr) (h : Int) (k : Int) (w : World) (hno : Calls Tryz.prog 36 #[.pointer p, .int .i64 h] w fun e w' => e = .returned (.pointer none) ∧ w' = w) : Calls Tryz.prog 8 #[.pointer p, .int .i64 h, .int .u64 k] w fun e w' => e = .returned (.tuple #[.int .u64 0, .int .i64 6]) ∧ w' = w := by
  have HA := Lib.hid hno
  clear hno
  go_enter Tryz.func8, Tryz.ntmps8
  go_wp2_with fail
  refine HA.out.mono ?_
  rintro e w1 ⟨rfl, rfl⟩
  clear HA
  go_wp2
  go_ret2
  exact ⟨rfl, rfl⟩
set_option maxRecDepth 100000 in
theorem noPrev (p : Option Addr) (h : Int) (k : Int) (w : World) (hno : Calls Tryz.prog 36 #[.pointer p, .int .i64 h] w fun e w' => e = .returned (.pointer none) ∧ w' = w) : Calls Tryz.prog 9 #[.pointer p, .int .i64 h, .int .u64 k] w fun e w' => e = .returned (.tuple #[.int .u64 0, .int .i64 6]) ∧ w' = w := by
  have HA := Lib.hid hno
  clear hno
  go_enter Tryz.func9, Tryz.ntmps9
  go_wp2_with fail
  refine HA.out.mono ?_
  rintro e w1 ⟨rfl, rfl⟩
  clear HA
  go_wp2
  go_ret2
  exact ⟨rfl, rfl⟩
set_option maxRecDepth 100000 in
theorem noLen (p : Option Addr) (h : Int)  (w : World) (hno : Calls Tryz.prog 36 #[.pointer p, .int .i64 h] w fun e w' => e = .returned (.pointer none) ∧ w' = w) : Calls Tryz.prog 68 #[.pointer p, .int .i64 h] w fun e w' => e = .returned (.tuple #[.int .i64 0, .int .i64 6]) ∧ w' = w := by
  have HA := Lib.hid hno
  clear hno
  go_enter Tryz.func68, Tryz.ntmps68
  go_wp2_with fail
  refine HA.out.mono ?_
  rintro e w1 ⟨rfl, rfl⟩
  clear HA
  go_wp2
  go_ret2
  exact ⟨rfl, rfl⟩
set_option maxRecDepth 100000 in
theorem noRank (p : Option Addr) (h : Int) (k : Int) (w : World) (hno : Calls Tryz.prog 36 #[.pointer p, .int .i64 h] w fun e w' => e = .returned (.pointer none) ∧ w' = w) : Calls Tryz.prog 10 #[.pointer p, .int .i64 h, .int .u64 k] w fun e w' => e = .returned (.tuple #[.int .i64 0, .int .i64 6]) ∧ w' = w := by
  have HA := Lib.hid hno
  clear hno
  go_enter Tryz.func10, Tryz.ntmps10
  go_wp2_with fail
  refine HA.out.mono ?_
  rintro e w1 ⟨rfl, rfl⟩
  clear HA
  go_wp2
  go_ret2
  exact ⟨rfl, rfl⟩
set_option maxRecDepth 100000 in
theorem noSelect (p : Option Addr) (h : Int) (k : Int) (w : World) (hno : Calls Tryz.prog 36 #[.pointer p, .int .i64 h] w fun e w' => e = .returned (.pointer none) ∧ w' = w) : Calls Tryz.prog 11 #[.pointer p, .int .i64 h, .int .i64 k] w fun e w' => e = .returned (.tuple #[.int .u64 0, .int .i64 6]) ∧ w' = w := by
  have HA := Lib.hid hno
  clear hno
  go_enter Tryz.func11, Tryz.ntmps11
  go_wp2_with fail
  refine HA.out.mono ?_
  rintro e w1 ⟨rfl, rfl⟩
  clear HA
  go_wp2
  go_ret2
  exact ⟨rfl, rfl⟩
set_option maxRecDepth 100000 in
theorem noCount (p : Option Addr) (h : Int) (k m : Int) (w : World) (hno : Calls Tryz.prog 36 #[.pointer p, .int .i64 h] w fun e w' => e = .returned (.pointer none) ∧ w' = w) : Calls Tryz.prog 12 #[.pointer p, .int .i64 h, .int .u64 k, .int .u64 m] w fun e w' => e = .returned (.tuple #[.int .i64 0, .int .i64 6]) ∧ w' = w := by
  have HA := Lib.hid hno
  clear hno
  go_enter Tryz.func12, Tryz.ntmps12
  go_wp2_with fail
  refine HA.out.mono ?_
  rintro e w1 ⟨rfl, rfl⟩
  clear HA
  go_wp2
  go_ret2
  exact ⟨rfl, rfl⟩
set_option maxRecDepth 100000 in
theorem noUsed (p : Option Addr) (h : Int)  (w : World) (hno : Calls Tryz.prog 36 #[.pointer p, .int .i64 h] w fun e w' => e = .returned (.pointer none) ∧ w' = w) : Calls Tryz.prog 16 #[.pointer p, .int .i64 h] w fun e w' => e = .returned (.tuple #[.int .i64 0, .int .i64 6]) ∧ w' = w := by
  have HA := Lib.hid hno
  clear hno
  go_enter Tryz.func16, Tryz.ntmps16
  go_wp2_with fail
  refine HA.out.mono ?_
  rintro e w1 ⟨rfl, rfl⟩
  clear HA
  go_wp2
  go_ret2
  exact ⟨rfl, rfl⟩
set_option maxRecDepth 100000 in
theorem noVersion (p : Option Addr) (h : Int)  (w : World) (hno : Calls Tryz.prog 36 #[.pointer p, .int .i64 h] w fun e w' => e = .returned (.pointer none) ∧ w' = w) : Calls Tryz.prog 15 #[.pointer p, .int .i64 h] w fun e w' => e = .returned (.tuple #[.int .u64 0, .int .i64 6]) ∧ w' = w := by
  have HA := Lib.hid hno
  clear hno
  go_enter Tryz.func15, Tryz.ntmps15
  go_wp2_with fail
  refine HA.out.mono ?_
  rintro e w1 ⟨rfl, rfl⟩
  clear HA
  go_wp2
  go_ret2
  exact ⟨rfl, rfl⟩
set_option maxRecDepth 100000 in
theorem noEncode (p : Option Addr) (h : Int)  (w : World) (hno : Calls Tryz.prog 36 #[.pointer p, .int .i64 h] w fun e w' => e = .returned (.pointer none) ∧ w' = w) : Calls Tryz.prog 13 #[.pointer p, .int .i64 h] w fun e w' => e = .returned (.tuple #[.slice none 0 0, .int .i64 6]) ∧ w' = w := by
  have HA := Lib.hid hno
  clear hno
  go_enter Tryz.func13, Tryz.ntmps13
  go_wp2_with fail
  refine HA.out.mono ?_
  rintro e w1 ⟨rfl, rfl⟩
  clear HA
  go_wp2
  go_ret2
  exact ⟨rfl, rfl⟩
set_option maxRecDepth 100000 in
theorem nocursor (p : Option Addr) (h : Int)  (w : World) (hno : Calls Tryz.prog 36 #[.pointer p, .int .i64 h] w fun e w' => e = .returned (.pointer none) ∧ w' = w) : Calls Tryz.prog 45 #[.pointer p, .int .i64 h] w fun e w' => e = .returned (.tuple #[.pointer none, .int .i64 6]) ∧ w' = w := by
  have HA := Lib.hid hno
  clear hno
  go_enter Tryz.func45, Tryz.ntmps45
  go_wp2_with fail
  refine HA.out.mono ?_
  rintro e w1 ⟨rfl, rfl⟩
  clear HA
  go_wp2
  go_ret2
  exact ⟨rfl, rfl⟩
set_option maxRecDepth 100000 in
theorem noCursor (p : Option Addr) (h : Int) (k m : Int) (w : World) (hno : Calls Tryz.prog 36 #[.pointer p, .int .i64 h] w fun e w' => e = .returned (.pointer none) ∧ w' = w) : Calls Tryz.prog 28 #[.pointer p, .int .i64 h, .int .u64 k, .int .u64 m] w fun e w' => e = .returned (.int .i64 6) ∧ w' = w := by
  have HA := Lib.hid hno
  clear hno
  go_enter Tryz.func28, Tryz.ntmps28
  go_wp2_with fail
  refine HA.out.mono ?_
  rintro e w1 ⟨rfl, rfl⟩
  clear HA
  go_wp2
  go_ret
  exact ⟨rfl, rfl⟩
set_option maxRecDepth 100000 in
theorem noDecode (p : Option Addr) (h : Int) (A : Option Addr) (n c : Nat) (w : World) (hno : Calls Tryz.prog 36 #[.pointer p, .int .i64 h] w fun e w' => e = .returned (.pointer none) ∧ w' = w) : Calls Tryz.prog 26 #[.pointer p, .int .i64 h, .slice A n c] w fun e w' => e = .returned (.int .i64 6) ∧ w' = w := by
  have HA := Lib.hid hno
  clear hno
  go_enter Tryz.func26, Tryz.ntmps26
  go_wp2_with fail
  refine HA.out.mono ?_
  rintro e w1 ⟨rfl, rfl⟩
  clear HA
  go_wp2
  go_ret
  exact ⟨rfl, rfl⟩
end Go.Proofs.YtcnaikoloagbdaaGreat
