/-
  package shelf: questions to an open handle; walked.
-/
import Derived.Test.YtcnaikoloagbdaaGreatQShelfA
import Derived.Test.YtcnaikoloagbdaaGreatQFaceB
import Derived.Test.YtcnaikoloagbdaaGreatQSift6
namespace Go.Proofs.YtcnaikoloagbdaaGreat
set_option linter.unusedVariables false
set_option linter.unusedSimpArgs false
open Go.RowKit Go.Shelf
attribute [local go_sem ↓] Go.wp_at_zero Go.wp_at_succ

/-- behind a question: the shelf is as it was -/
def Kp (B : Nat) (w w' : World) (s : Nat) (l : Nat → Option IT) : Prop := SH B w' s l ∧ Chg (fun q => B ≤ q) w w'
theorem SH.kp {B : Nat} {w w' : World} {s : Nat} {l : Nat → Option IT} (H : SH B w s l) {h : Int} {x : IT} (hx : lk l h = some x) (hp : x.s.P w') (hc : Chg x.s.red w w') : Kp B w w' s l :=
  ⟨H.read (lk_some hx).2 hp hc, hc.mono (fun b _ hb => H.lo.2 _ x (lk_some hx).2 b (.inr (.inr (x.s.red_own b hb))))⟩
theorem SH.kp0 {B : Nat} {w : World} {s : Nat} {l : Nat → Option IT} (H : SH B w s l) : Kp B w w s l := ⟨H, Chg.refl _ _⟩
set_option maxRecDepth 100000 in
theorem shFound (y : Int) (b : Bool) (w : World) : Calls Tryz.prog 38 #[.int .u64 y, .bool b] w fun e w' => ∃ (z er : Int), e = .returned (.tuple #[.int .u64 z, .int .i64 er]) ∧ er ≠ 6 ∧ w' = w := by
  cases b
  · go_enter Tryz.func38, Tryz.ntmps38
    go_wp2
    go_ret2
    exact ⟨0, 3, rfl, by decide, rfl⟩
  · go_enter Tryz.func38, Tryz.ntmps38
    go_wp2
    go_ret2
    exact ⟨y, 0, rfl, by decide, rfl⟩
set_option maxRecDepth 100000 in
theorem itKeys (x : IT) (w : World) (hok : ITok w x) : Calls Tryz.prog 40 #[.pointer (some ⟨x.i, 0, none⟩)] w fun e w' => e = .returned x.s.v ∧ w' = w := by
  have i4 := blk_cell hok.item 4 (v := .pointer (some ⟨x.k, 0, none⟩)) rfl
  have i5 := blk_cell hok.item 5 (v := .pointer none) rfl
  have k0 := blk_cell hok.kept 0 (v := x.s.v) rfl
  obtain ⟨t, v, hsv⟩ := x.s.iface
  rw [hsv] at k0 ⊢
  clear hok hsv
  go_enter Tryz.func40, Tryz.ntmps40
  go_wp2
  go_ret
  exact ⟨rfl, rfl⟩
set_option maxRecDepth 100000 in
set_option maxHeartbeats 1000000 in
theorem isNext {B : Nat} {w : World} {s : Nat} {l : Nat → Option IT} (H : SH B w s l) (h k : Int) {x : IT} (hx : lk l h = some x) (hb : x.s.bare) : Calls Tryz.prog 8 #[.pointer (some ⟨s, 0, none⟩), .int .i64 h, .int .u64 k] w fun e w' => ∃ (y er : Int), e = .returned (.tuple #[.int .u64 y, .int .i64 er]) ∧ er ≠ 6 ∧ Hid (Kp B w w' s l) := by
  have HA := Lib.hid (shAtIs H h hx)
  have HOK := Lib.hid (H.ok _ _ (lk_some hx).2)
  have HH := Lib.hid H
  have HX := Lib.hid hx
  have i4 := blk_cell HOK.out.item 4 (v := .pointer (some ⟨x.k, 0, none⟩)) rfl
  have i5 := blk_cell HOK.out.item 5 (v := .pointer none) rfl
  have i6 := blk_cell HOK.out.item 6 (v := .pointer none) rfl
  have i7 := blk_cell HOK.out.item 7 (v := .int .u64 0) rfl
  have k0 := blk_cell HOK.out.kept 0 (v := x.s.v) rfl
  clear H hx
  rcases SK.bare_cases hb with ⟨d, hd⟩ | ⟨d, hd⟩
  · have HP := Lib.hid (show XF w d from by have := HOK.out.p; rw [hd] at this; exact this)
    have HD := Lib.hid hd
    rw [hd] at k0
    simp only [SK.v] at k0
    clear hd hb
    go_enter Tryz.func8, Tryz.ntmps8
    go_wp2_with fail
    refine HA.out.mono ?_
    rintro e w1 ⟨rfl, rfl⟩
    clear HA
    go_wp2_with fail
    refine (xNext d k _ HP.out).mono ?_
    rintro e w2 ⟨y, b, rfl, HX2, HC2⟩
    have HKP := Lib.hid (HH.out.kp HX.out (by rw [HD.out]; exact HX2.out) (by rw [HD.out]; exact HC2.out))
    clear i4 i5 i6 i7 k0
    go_wp2_with fail
    refine (shFound y b w2).mono ?_
    rintro e w3 ⟨z, er, rfl, he, rfl⟩
    go_wp2
    go_ret2
    exact ⟨z, er, rfl, he, HKP.out⟩
  · have HP := Lib.hid (show YF w d from by have := HOK.out.p; rw [hd] at this; exact this)
    have HD := Lib.hid hd
    rw [hd] at k0
    simp only [SK.v] at k0
    clear hd hb
    go_enter Tryz.func8, Tryz.ntmps8
    go_wp2_with fail
    refine HA.out.mono ?_
    rintro e w1 ⟨rfl, rfl⟩
    clear HA
    go_wp2_with fail
    refine (yNext d k _ HP.out).mono ?_
    rintro e w2 ⟨y, b, rfl, HX2, HC2⟩
    have HKP := Lib.hid (HH.out.kp HX.out (by rw [HD.out]; exact ⟨HX2.out, HP.out.2⟩) (by rw [HD.out]; exact HC2.out))
    clear i4 i5 i6 i7 k0
    go_wp2_with fail
    refine (shFound y b w2).mono ?_
    rintro e w3 ⟨z, er, rfl, he, rfl⟩
    go_wp2
    go_ret2
    exact ⟨z, er, rfl, he, HKP.out⟩
set_option maxRecDepth 100000 in
set_option maxHeartbeats 1000000 in
theorem isPrev {B : Nat} {w : World} {s : Nat} {l : Nat → Option IT} (H : SH B w s l) (h k : Int) {x : IT} (hx : lk l h = some x) (hb : x.s.bare) : Calls Tryz.prog 9 #[.pointer (some ⟨s, 0, none⟩), .int .i64 h, .int .u64 k] w fun e w' => ∃ (y er : Int), e = .returned (.tuple #[.int .u64 y, .int .i64 er]) ∧ er ≠ 6 ∧ Hid (Kp B w w' s l) := by
  have HA := Lib.hid (shAtIs H h hx)
  have HOK := Lib.hid (H.ok _ _ (lk_some hx).2)
  have HH := Lib.hid H
  have HX := Lib.hid hx
  have i4 := blk_cell HOK.out.item 4 (v := .pointer (some ⟨x.k, 0, none⟩)) rfl
  have i5 := blk_cell HOK.out.item 5 (v := .pointer none) rfl
  have i6 := blk_cell HOK.out.item 6 (v := .pointer none) rfl
  have i7 := blk_cell HOK.out.item 7 (v := .int .u64 0) rfl
  have k0 := blk_cell HOK.out.kept 0 (v := x.s.v) rfl
  clear H hx
  rcases SK.bare_cases hb with ⟨d, hd⟩ | ⟨d, hd⟩
  · have HP := Lib.hid (show XF w d from by have := HOK.out.p; rw [hd] at this; exact this)
    have HD := Lib.hid hd
    rw [hd] at k0
    simp only [SK.v] at k0
    clear hd hb
    go_enter Tryz.func9, Tryz.ntmps9
    go_wp2_with fail
    refine HA.out.mono ?_
    rintro e w1 ⟨rfl, rfl⟩
    clear HA
    go_wp2_with fail
    refine (xPrev d k _ HP.out).mono ?_
    rintro e w2 ⟨y, b, rfl, HX2, HC2⟩
    have HKP := Lib.hid (HH.out.kp HX.out (by rw [HD.out]; exact HX2.out) (by rw [HD.out]; exact HC2.out))
    clear i4 i5 i6 i7 k0
    go_wp2_with fail
    refine (shFound y b w2).mono ?_
    rintro e w3 ⟨z, er, rfl, he, rfl⟩
    go_wp2
    go_ret2
    exact ⟨z, er, rfl, he, HKP.out⟩
  · have HP := Lib.hid (show YF w d from by have := HOK.out.p; rw [hd] at this; exact this)
    have HD := Lib.hid hd
    rw [hd] at k0
    simp only [SK.v] at k0
    clear hd hb
    go_enter Tryz.func9, Tryz.ntmps9
    go_wp2_with fail
    refine HA.out.mono ?_
    rintro e w1 ⟨rfl, rfl⟩
    clear HA
    go_wp2_with fail
    refine (yPrev d k _ HP.out).mono ?_
    rintro e w2 ⟨y, b, rfl, HX2, HC2⟩
    have HKP := Lib.hid (HH.out.kp HX.out (by rw [HD.out]; exact ⟨HX2.out, HP.out.2⟩) (by rw [HD.out]; exact HC2.out))
    clear i4 i5 i6 i7 k0
    go_wp2_with fail
    refine (shFound y b w2).mono ?_
    rintro e w3 ⟨z, er, rfl, he, rfl⟩
    go_wp2
    go_ret2
    exact ⟨z, er, rfl, he, HKP.out⟩
set_option maxRecDepth 100000 in
set_option maxHeartbeats 1000000 in
theorem isHas {B : Nat} {w : World} {s : Nat} {l : Nat → Option IT} (H : SH B w s l) (h k : Int) {x : IT} (hx : lk l h = some x) (hb : x.s.bare) : Calls Tryz.prog 7 #[.pointer (some ⟨s, 0, none⟩), .int .i64 h, .int .u64 k] w fun e w' => ∃ (y : Bool) (er : Int), e = .returned (.tuple #[.bool y, .int .i64 er]) ∧ er ≠ 6 ∧ Hid (Kp B w w' s l) := by
  have HA := Lib.hid (shAtIs H h hx)
  have HOK := Lib.hid (H.ok _ _ (lk_some hx).2)
  have HH := Lib.hid H
  have HX := Lib.hid hx
  have i4 := blk_cell HOK.out.item 4 (v := .pointer (some ⟨x.k, 0, none⟩)) rfl
  have i5 := blk_cell HOK.out.item 5 (v := .pointer none) rfl
  have i6 := blk_cell HOK.out.item 6 (v := .pointer none) rfl
  have i7 := blk_cell HOK.out.item 7 (v := .int .u64 0) rfl
  have k0 := blk_cell HOK.out.kept 0 (v := x.s.v) rfl
  clear H hx
  rcases SK.bare_cases hb with ⟨d, hd⟩ | ⟨d, hd⟩
  · have HP := Lib.hid (show XF w d from by have := HOK.out.p; rw [hd] at this; exact this)
    have HD := Lib.hid hd
    rw [hd] at k0
    simp only [SK.v] at k0
    clear hd hb
    go_enter Tryz.func7, Tryz.ntmps7
    go_wp2_with fail
    refine HA.out.mono ?_
    rintro e w1 ⟨rfl, rfl⟩
    clear HA
    go_wp2_with fail
    refine (xHas d k _ HP.out).mono ?_
    rintro e w2 ⟨y, rfl, _, HX2, HC2⟩
    have HKP := Lib.hid (HH.out.kp HX.out (by rw [HD.out]; exact HX2.out) (by rw [HD.out]; exact HC2.out))
    clear i4 i5 i6 i7 k0
    go_wp2
    go_ret2
    exact ⟨y, 0, rfl, by decide, HKP.out⟩
  · have HP := Lib.hid (show YF w d from by have := HOK.out.p; rw [hd] at this; exact this)
    have HD := Lib.hid hd
    rw [hd] at k0
    simp only [SK.v] at k0
    clear hd hb
    go_enter Tryz.func7, Tryz.ntmps7
    go_wp2_with fail
    refine HA.out.mono ?_
    rintro e w1 ⟨rfl, rfl⟩
    clear HA
    go_wp2_with fail
    refine (yHas d k _ HP.out).mono ?_
    rintro e w2 ⟨y, _, rfl, HX2, HC2⟩
    have HKP := Lib.hid (HH.out.kp HX.out (by rw [HD.out]; exact ⟨HX2.out, HP.out.2⟩) (by rw [HD.out]; exact HC2.out))
    clear i4 i5 i6 i7 k0
    go_wp2
    go_ret2
    exact ⟨y, 0, rfl, by decide, HKP.out⟩
set_option maxRecDepth 100000 in
set_option maxHeartbeats 1000000 in
/-- the trie of the key 5 has it -/
theorem isHas5 {B : Nat} {w : World} {s : Nat} {l : Nat → Option IT} (H : SH B w s l) (h : Int) {x : IT} (hx : lk l h = some x) (d : TD) (hd : x.s = .t d) : Calls Tryz.prog 7 #[.pointer (some ⟨s, 0, none⟩), .int .i64 h, .int .u64 5] w fun e w' => e = .returned (.tuple #[.bool true, .int .i64 0]) ∧ Hid (Kp B w w' s l) := by
  have HA := Lib.hid (shAtIs H h hx)
  have HOK := Lib.hid (H.ok _ _ (lk_some hx).2)
  have HH := Lib.hid H
  have HX := Lib.hid hx
  have i4 := blk_cell HOK.out.item 4 (v := .pointer (some ⟨x.k, 0, none⟩)) rfl
  have i5 := blk_cell HOK.out.item 5 (v := .pointer none) rfl
  have i6 := blk_cell HOK.out.item 6 (v := .pointer none) rfl
  have i7 := blk_cell HOK.out.item 7 (v := .int .u64 0) rfl
  have k0 := blk_cell HOK.out.kept 0 (v := x.s.v) rfl
  clear H hx
  have HP := Lib.hid (show T5 w d from by have := HOK.out.p; rw [hd] at this; exact this)
  have HD := Lib.hid hd
  rw [hd] at k0
  simp only [SK.v] at k0
  clear hd
  go_enter Tryz.func7, Tryz.ntmps7
  go_wp2_with fail
  refine HA.out.mono ?_
  rintro e w1 ⟨rfl, rfl⟩
  clear HA
  go_wp2_with fail
  refine (t5Has d _ HP.out).mono ?_
  rintro e w2 ⟨rfl, HX2, HC2⟩
  have HKP := Lib.hid (HH.out.kp HX.out (by rw [HD.out]; exact HX2.out) (by rw [HD.out]; exact HC2.out))
  clear i4 i5 i6 i7 k0
  go_wp2
  go_ret2
  exact ⟨rfl, HKP.out⟩
set_option maxRecDepth 100000 in
theorem isLen {B : Nat} {w : World} {s : Nat} {l : Nat → Option IT} (H : SH B w s l) (h : Int) {x : IT} (hx : lk l h = some x) (d : XD) (hd : x.s = .x d) : Calls Tryz.prog 68 #[.pointer (some ⟨s, 0, none⟩), .int .i64 h] w fun e w' => e = .returned (.tuple #[.int .i64 (d.ls.length : Nat), .int .i64 0]) ∧ w' = w := by
  have HA := Lib.hid (shAtIs H h hx)
  have HOK := Lib.hid (H.ok _ _ (lk_some hx).2)
  have HH := Lib.hid H
  have HX := Lib.hid hx
  have i4 := blk_cell HOK.out.item 4 (v := .pointer (some ⟨x.k, 0, none⟩)) rfl
  have i5 := blk_cell HOK.out.item 5 (v := .pointer none) rfl
  have i6 := blk_cell HOK.out.item 6 (v := .pointer none) rfl
  have i7 := blk_cell HOK.out.item 7 (v := .int .u64 0) rfl
  have k0 := blk_cell HOK.out.kept 0 (v := x.s.v) rfl
  clear H hx
  have HP := Lib.hid (show XF w d from by have := HOK.out.p; rw [hd] at this; exact this)
  rw [hd] at k0
  simp only [SK.v] at k0
  clear hd
  go_enter Tryz.func68, Tryz.ntmps68
  go_wp2_with fail
  refine HA.out.mono ?_
  rintro e w1 ⟨rfl, rfl⟩
  clear HA
  go_wp2_with fail
  refine (xLen d _ HP.out).mono ?_
  rintro e w2 ⟨rfl, rfl⟩
  clear i4 i5 i6 i7 k0
  go_wp2
  go_ret2
  exact ⟨rfl, rfl⟩
set_option maxRecDepth 100000 in
theorem isGet {B : Nat} {w : World} {s : Nat} {l : Nat → Option IT} (H : SH B w s l) (h k : Int) {x : IT} (hx : lk l h = some x) : Calls Tryz.prog 6 #[.pointer (some ⟨s, 0, none⟩), .int .i64 h, .int .u64 k] w fun e w' => e = .returned (.tuple #[.int .u64 0, .int .i64 11]) ∧ w' = w := by
  have HA := Lib.hid (shAtIs H h hx)
  have HOK := Lib.hid (H.ok _ _ (lk_some hx).2)
  have HH := Lib.hid H
  have HX := Lib.hid hx
  have i4 := blk_cell HOK.out.item 4 (v := .pointer (some ⟨x.k, 0, none⟩)) rfl
  have i5 := blk_cell HOK.out.item 5 (v := .pointer none) rfl
  have i6 := blk_cell HOK.out.item 6 (v := .pointer none) rfl
  have i7 := blk_cell HOK.out.item 7 (v := .int .u64 0) rfl
  have k0 := blk_cell HOK.out.kept 0 (v := x.s.v) rfl
  clear H hx
  go_enter Tryz.func6, Tryz.ntmps6
  go_wp2_with fail
  refine HA.out.mono ?_
  rintro e w1 ⟨rfl, rfl⟩
  clear HA
  go_wp2
  go_ret2
  exact ⟨rfl, rfl⟩
set_option maxRecDepth 100000 in
theorem isVersion {B : Nat} {w : World} {s : Nat} {l : Nat → Option IT} (H : SH B w s l) (h : Int) {x : IT} (hx : lk l h = some x) : Calls Tryz.prog 15 #[.pointer (some ⟨s, 0, none⟩), .int .i64 h] w fun e w' => ∃ y : Int, e = .returned (.tuple #[.int .u64 y, .int .i64 0]) ∧ Hid (Kp B w w' s l) := by
  have HA := Lib.hid (shAtIs H h hx)
  have HOK := Lib.hid (H.ok _ _ (lk_some hx).2)
  have HH := Lib.hid H
  have HX := Lib.hid hx
  have i4 := blk_cell HOK.out.item 4 (v := .pointer (some ⟨x.k, 0, none⟩)) rfl
  have i5 := blk_cell HOK.out.item 5 (v := .pointer none) rfl
  have i6 := blk_cell HOK.out.item 6 (v := .pointer none) rfl
  have i7 := blk_cell HOK.out.item 7 (v := .int .u64 0) rfl
  have k0 := blk_cell HOK.out.kept 0 (v := x.s.v) rfl
  clear H hx
  go_enter Tryz.func15, Tryz.ntmps15
  go_wp2_with fail
  refine HA.out.mono ?_
  rintro e w1 ⟨rfl, rfl⟩
  clear HA
  go_wp2
  go_quiet (first | (go_at_call 48; refine Calls.quiet_of_same (lookVersion x.k x.s.v x.ver _ HOK.out.kept)))
  go_wp2
  go_ret2
  exact ⟨_, rfl, HH.out.stay rfl (fun _ _ _ _ _ => rfl), (Chg.refl _ _).drewN nq⟩
set_option maxRecDepth 100000 in
theorem isCur {B : Nat} {w : World} {s : Nat} {l : Nat → Option IT} (H : SH B w s l) (h : Int) {x : IT} (hx : lk l h = some x) : Calls Tryz.prog 45 #[.pointer (some ⟨s, 0, none⟩), .int .i64 h] w fun e w' => e = .returned (.tuple #[.pointer none, .int .i64 3]) ∧ w' = w := by
  have HA := Lib.hid (shAtIs H h hx)
  have HOK := Lib.hid (H.ok _ _ (lk_some hx).2)
  have HH := Lib.hid H
  have HX := Lib.hid hx
  have i4 := blk_cell HOK.out.item 4 (v := .pointer (some ⟨x.k, 0, none⟩)) rfl
  have i5 := blk_cell HOK.out.item 5 (v := .pointer none) rfl
  have i6 := blk_cell HOK.out.item 6 (v := .pointer none) rfl
  have i7 := blk_cell HOK.out.item 7 (v := .int .u64 0) rfl
  have k0 := blk_cell HOK.out.kept 0 (v := x.s.v) rfl
  clear H hx
  go_enter Tryz.func45, Tryz.ntmps45
  go_wp2_with fail
  refine HA.out.mono ?_
  rintro e w1 ⟨rfl, rfl⟩
  clear HA
  go_wp2
  go_ret2
  exact ⟨rfl, rfl⟩
/-- what cursor answers: no cursor, and why -/
theorem shCursor {B : Nat} {w : World} {s : Nat} {l : Nat → Option IT} (H : SH B w s l) (h : Int) : Calls Tryz.prog 45 #[.pointer (some ⟨s, 0, none⟩), .int .i64 h] w fun e w' => e = .returned (.tuple #[.pointer none, .int .i64 (if (lk l h).isSome then 3 else 6)]) ∧ w' = w := by
  rcases hx : lk l h with _ | x
  · exact nocursor _ h w (shAtNo H h hx)
  · exact isCur H h hx
set_option maxRecDepth 100000 in
theorem shStep {B : Nat} {w : World} {s : Nat} {l : Nat → Option IT} (H : SH B w s l) (h : Int) (b : Bool) : Calls Tryz.prog 14 #[.pointer (some ⟨s, 0, none⟩), .int .i64 h, .bool b] w fun e w' => ∃ er : Int, e = .returned (.tuple #[.int .u64 0, .int .i64 er]) ∧ (er = 6 ↔ lk l h = none) ∧ w' = w := by
  have HC := Lib.hid (shCursor H h)
  clear H
  cases hx : lk l h with
  | none =>
    simp only [hx, Option.isSome_none, Bool.false_eq_true, if_false] at HC
    go_enter Tryz.func14, Tryz.ntmps14
    go_wp2_with fail
    refine HC.out.mono ?_
    rintro e w1 ⟨rfl, rfl⟩
    clear HC
    go_wp2
    go_ret2
    exact ⟨6, rfl, by simp, rfl⟩
  | some x =>
    simp only [hx, Option.isSome_some, if_true] at HC
    go_enter Tryz.func14, Tryz.ntmps14
    go_wp2_with fail
    refine HC.out.mono ?_
    rintro e w1 ⟨rfl, rfl⟩
    clear HC
    go_wp2
    go_ret2
    exact ⟨3, rfl, by simp, rfl⟩
set_option maxRecDepth 100000 in
theorem shSeek {B : Nat} {w : World} {s : Nat} {l : Nat → Option IT} (H : SH B w s l) (h k : Int) : Calls Tryz.prog 17 #[.pointer (some ⟨s, 0, none⟩), .int .i64 h, .int .u64 k] w fun e w' => ∃ er : Int, e = .returned (.tuple #[.int .u64 0, .int .i64 er]) ∧ (er = 6 ↔ lk l h = none) ∧ w' = w := by
  have HC := Lib.hid (shCursor H h)
  clear H
  cases hx : lk l h with
  | none =>
    simp only [hx, Option.isSome_none, Bool.false_eq_true, if_false] at HC
    go_enter Tryz.func17, Tryz.ntmps17
    go_wp2_with fail
    refine HC.out.mono ?_
    rintro e w1 ⟨rfl, rfl⟩
    clear HC
    go_wp2
    go_ret2
    exact ⟨6, rfl, by simp, rfl⟩
  | some x =>
    simp only [hx, Option.isSome_some, if_true] at HC
    go_enter Tryz.func17, Tryz.ntmps17
    go_wp2_with fail
    refine HC.out.mono ?_
    rintro e w1 ⟨rfl, rfl⟩
    clear HC
    go_wp2
    go_ret2
    exact ⟨3, rfl, by simp, rfl⟩
end Go.Proofs.YtcnaikoloagbdaaGreat
