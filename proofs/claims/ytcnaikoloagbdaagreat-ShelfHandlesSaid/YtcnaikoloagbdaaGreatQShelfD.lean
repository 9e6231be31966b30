/-
  package shelf: Rank, Select, Count, Encode, Used of an open handle; walked.
  package shelf: two handles' sets; Equal, Within; walked.
-/
import Derived.Test.YtcnaikoloagbdaaGreatQShelf2
namespace Go.Proofs.YtcnaikoloagbdaaGreat
set_option linter.unusedVariables false
set_option linter.unusedSimpArgs false
open Go.RowKit Go.Shelf
attribute [local go_sem ↓] Go.wp_at_zero Go.wp_at_succ

set_option maxRecDepth 100000 in
set_option maxHeartbeats 1000000 in
theorem isRank {B : Nat} {w : World} {s : Nat} {l : Nat → Option IT} (H : SH B w s l) (h k : Int) {x : IT} (hx : lk l h = some x) (hb : x.s.bare) : Calls Tryz.prog 10 #[.pointer (some ⟨s, 0, none⟩), .int .i64 h, .int .u64 k] w fun e w' => ∃ (y er : Int), e = .returned (.tuple #[.int .i64 y, .int .i64 er]) ∧ er ≠ 6 ∧ Hid (Kp B w w' s l) := by
  have HA := Lib.hid (shAtIs H h hx)
  have HOK := Lib.hid (H.ok _ _ (lk_some hx).2)
  have HH := Lib.hid H
  have HX := Lib.hid hx
  have i4 := blk_cell HOK.out.item 4 (v := .pointer (some ⟨x.k, 0, none⟩)) rfl
  have i5 := blk_cell HOK.out.item 5 (v := .pointer none) rfl
  have i6 := blk_cell HOK.out.item 6 (v := .pointer none) rfl
  have i7 := blk_cell HOK.out.item 7 (v := .int .u64 0) rfl
  have k0 := blk_cell HOK.out.kept 0 (v := x.s.v) rfl
  clear H hx
  have HF := Lib.hid (faceRank x.s hb x.s.env x.s.in_self k w HOK.out.p)
  go_enter Tryz.func10, Tryz.ntmps10
  go_wp2_with fail
  refine HA.out.mono ?_
  rintro e w1 ⟨rfl, rfl⟩
  clear HA
  go_wp2_with fail
  refine (itKeys x _ HOK.out).mono ?_
  rintro e w2 ⟨rfl, rfl⟩
  clear i4 i5 i6 i7 k0
  go_wp2_with fail
  refine HF.out.mono ?_
  rintro e w3 ⟨n, rfl, HP, HC⟩
  have HKP := Lib.hid (HH.out.kp HX.out HP.out HC.out)
  clear HF
  go_wp2
  go_ret2
  exact ⟨n, 0, rfl, by decide, HKP.out⟩
set_option maxRecDepth 100000 in
set_option maxHeartbeats 1000000 in
theorem isSelect {B : Nat} {w : World} {s : Nat} {l : Nat → Option IT} (H : SH B w s l) (h k : Int) {x : IT} (hx : lk l h = some x) (hb : x.s.bare) : Calls Tryz.prog 11 #[.pointer (some ⟨s, 0, none⟩), .int .i64 h, .int .i64 k] w fun e w' => ∃ (y er : Int), e = .returned (.tuple #[.int .u64 y, .int .i64 er]) ∧ er ≠ 6 ∧ Hid (Kp B w w' s l) := by
  have HA := Lib.hid (shAtIs H h hx)
  have HOK := Lib.hid (H.ok _ _ (lk_some hx).2)
  have HH := Lib.hid H
  have HX := Lib.hid hx
  have i4 := blk_cell HOK.out.item 4 (v := .pointer (some ⟨x.k, 0, none⟩)) rfl
  have i5 := blk_cell HOK.out.item 5 (v := .pointer none) rfl
  have i6 := blk_cell HOK.out.item 6 (v := .pointer none) rfl
  have i7 := blk_cell HOK.out.item 7 (v := .int .u64 0) rfl
  have k0 := blk_cell HOK.out.kept 0 (v := x.s.v) rfl
  clear H hx
  have HF := Lib.hid (faceSelect x.s hb x.s.env x.s.in_self k w HOK.out.p)
  go_enter Tryz.func11, Tryz.ntmps11
  go_wp2_with fail
  refine HA.out.mono ?_
  rintro e w1 ⟨rfl, rfl⟩
  clear HA
  go_wp2_with fail
  refine (itKeys x _ HOK.out).mono ?_
  rintro e w2 ⟨rfl, rfl⟩
  clear i4 i5 i6 i7 k0
  go_wp2_with fail
  refine HF.out.mono ?_
  rintro e w3 ⟨n, b, rfl, HP, HC⟩
  have HKP := Lib.hid (HH.out.kp HX.out HP.out HC.out)
  clear HF
  cases b
  · go_wp2
    go_ret2
    exact ⟨0, 7, rfl, by decide, HKP.out⟩
  · go_wp2
    go_ret2
    exact ⟨n, 0, rfl, by decide, HKP.out⟩
set_option maxRecDepth 100000 in
set_option maxHeartbeats 1000000 in
theorem isCount {B : Nat} {w : World} {s : Nat} {l : Nat → Option IT} (H : SH B w s l) (h k m : Int) {x : IT} (hx : lk l h = some x) (hb : x.s.bare) : Calls Tryz.prog 12 #[.pointer (some ⟨s, 0, none⟩), .int .i64 h, .int .u64 k, .int .u64 m] w fun e w' => ∃ (y er : Int), e = .returned (.tuple #[.int .i64 y, .int .i64 er]) ∧ er ≠ 6 ∧ Hid (Kp B w w' s l) := by
  have HA := Lib.hid (shAtIs H h hx)
  have HOK := Lib.hid (H.ok _ _ (lk_some hx).2)
  have HH := Lib.hid H
  have HX := Lib.hid hx
  have i4 := blk_cell HOK.out.item 4 (v := .pointer (some ⟨x.k, 0, none⟩)) rfl
  have i5 := blk_cell HOK.out.item 5 (v := .pointer none) rfl
  have i6 := blk_cell HOK.out.item 6 (v := .pointer none) rfl
  have i7 := blk_cell HOK.out.item 7 (v := .int .u64 0) rfl
  have k0 := blk_cell HOK.out.kept 0 (v := x.s.v) rfl
  clear H hx
  have HF := Lib.hid (faceCount x.s hb x.s.env x.s.in_self k m w HOK.out.p)
  go_enter Tryz.func12, Tryz.ntmps12
  go_wp2_with fail
  refine HA.out.mono ?_
  rintro e w1 ⟨rfl, rfl⟩
  clear HA
  go_wp2_with fail
  refine (itKeys x _ HOK.out).mono ?_
  rintro e w2 ⟨rfl, rfl⟩
  clear i4 i5 i6 i7 k0
  go_wp2_with fail
  refine HF.out.mono ?_
  rintro e w3 ⟨n, er, rfl, he, HP, HC⟩
  have HKP := Lib.hid (HH.out.kp HX.out HP.out HC.out)
  clear HF
  go_wp2
  go_ret2
  exact ⟨n, er, rfl, he, HKP.out⟩
set_option maxRecDepth 100000 in
set_option maxHeartbeats 1000000 in
theorem isEncode {B : Nat} {w : World} {s : Nat} {l : Nat → Option IT} (H : SH B w s l) (h : Int) {x : IT} (hx : lk l h = some x) (hN : x.s.N ≤ 100000) : Calls Tryz.prog 13 #[.pointer (some ⟨s, 0, none⟩), .int .i64 h] w fun e w' => ∃ (v : Value) (er : Int), e = .returned (.tuple #[v, .int .i64 er]) ∧ er ≠ 6 ∧ Hid (Kp B w w' s l) := by
  have HA := Lib.hid (shAtIs H h hx)
  have HOK := Lib.hid (H.ok _ _ (lk_some hx).2)
  have HH := Lib.hid H
  have HX := Lib.hid hx
  have i4 := blk_cell HOK.out.item 4 (v := .pointer (some ⟨x.k, 0, none⟩)) rfl
  have i5 := blk_cell HOK.out.item 5 (v := .pointer none) rfl
  have i6 := blk_cell HOK.out.item 6 (v := .pointer none) rfl
  have i7 := blk_cell HOK.out.item 7 (v := .int .u64 0) rfl
  have k0 := blk_cell HOK.out.kept 0 (v := x.s.v) rfl
  clear H hx
  have HF := Lib.hid (faceEncode x.s x.s.env x.s.in_self hN w HOK.out.p)
  go_enter Tryz.func13, Tryz.ntmps13
  go_wp2_with fail
  refine HA.out.mono ?_
  rintro e w1 ⟨rfl, rfl⟩
  clear HA
  go_wp2_with fail
  refine (itKeys x _ HOK.out).mono ?_
  rintro e w2 ⟨rfl, rfl⟩
  clear i4 i5 i6 i7 k0
  go_wp2_with fail
  refine HF.out.mono ?_
  rintro e w3 ⟨v, er, rfl, he, HP, HC⟩
  have HKP := Lib.hid (HH.out.kp HX.out HP.out HC.out)
  clear HF
  go_wp2
  go_ret2
  exact ⟨v, er, rfl, he, HKP.out⟩
set_option maxRecDepth 100000 in
set_option maxHeartbeats 1000000 in
theorem isUsed {B : Nat} {w : World} {s : Nat} {l : Nat → Option IT} (H : SH B w s l) (h : Int) {x : IT} (hx : lk l h = some x) (hb : x.s.bare) : Calls Tryz.prog 16 #[.pointer (some ⟨s, 0, none⟩), .int .i64 h] w fun e w' => ∃ (y er : Int), e = .returned (.tuple #[.int .i64 y, .int .i64 er]) ∧ er ≠ 6 ∧ Hid (Kp B w w' s l) := by
  have HA := Lib.hid (shAtIs H h hx)
  have HOK := Lib.hid (H.ok _ _ (lk_some hx).2)
  have HH := Lib.hid H
  have HX := Lib.hid hx
  have i4 := blk_cell HOK.out.item 4 (v := .pointer (some ⟨x.k, 0, none⟩)) rfl
  have i5 := blk_cell HOK.out.item 5 (v := .pointer none) rfl
  have i6 := blk_cell HOK.out.item 6 (v := .pointer none) rfl
  have i7 := blk_cell HOK.out.item 7 (v := .int .u64 0) rfl
  have k0 := blk_cell HOK.out.kept 0 (v := x.s.v) rfl
  clear H hx
  have HK := Lib.hid (itKeys x w HOK.out)
  rcases SK.bare_cases hb with ⟨d, hd⟩ | ⟨d, hd⟩
  · have HP := Lib.hid (show XF w d from by have := HOK.out.p; rw [hd] at this; exact this)
    have HD := Lib.hid hd
    rw [hd] at HK
    simp only [SK.v] at HK
    clear hd hb i4 i5 i6 i7 k0
    go_enter Tryz.func16, Tryz.ntmps16
    go_wp2_with fail
    refine HA.out.mono ?_
    rintro e w1 ⟨rfl, rfl⟩
    clear HA
    go_wp2_with fail
    refine HK.out.mono ?_
    rintro e w2 ⟨rfl, rfl⟩
    clear HK
    go_wp2_with fail
    refine (xUsed d _ HP.out).mono ?_
    rintro e w3 ⟨rfl, HB⟩
    have HKP := Lib.hid (show Kp B w2 w3 s l from ⟨HH.out.below HB.out, Chg.of_below HB.out⟩)
    go_wp2
    go_ret2
    exact ⟨_, 0, rfl, by decide, HKP.out⟩
  · have HP := Lib.hid (show YF w d from by have := HOK.out.p; rw [hd] at this; exact this)
    have HD := Lib.hid hd
    have hl : d.ls.length ≤ 2 := by
      rcases HP.out.2.shape with ⟨_, h, _⟩ | ⟨h, _⟩ <;> rw [h] <;> simp
    have hn0 := HP.out.2.cnt.1
    have hn : d.n ≤ 200 := by have := HP.out.2.nb; omega
    rw [hd] at HK
    simp only [SK.v] at HK
    clear hd hb i4 i5 i6 i7 k0
    go_enter Tryz.func16, Tryz.ntmps16
    go_wp2_with fail
    refine HA.out.mono ?_
    rintro e w1 ⟨rfl, rfl⟩
    clear HA
    go_wp2_with fail
    refine HK.out.mono ?_
    rintro e w2 ⟨rfl, rfl⟩
    clear HK
    go_wp2_with fail
    refine (yUsed d _ HP.out.1 hl hn0 hn).mono ?_
    rintro e w3 ⟨u, rfl, _, _, HB⟩
    have HKP := Lib.hid (show Kp B w2 w3 s l from ⟨HH.out.below HB.out, Chg.of_below HB.out⟩)
    go_wp2
    go_ret2
    exact ⟨_, 0, rfl, by decide, HKP.out⟩
end Go.Proofs.YtcnaikoloagbdaaGreat
namespace Go.Proofs.YtcnaikoloagbdaaGreat
set_option linter.unusedVariables false
set_option linter.unusedSimpArgs false
open Go.RowKit Go.Shelf
attribute [local go_sem ↓] Go.wp_at_zero Go.wp_at_succ

set_option maxRecDepth 100000 in
set_option maxHeartbeats 1000000 in
theorem twoNo {B : Nat} {w : World} {s : Nat} {l : Nat → Option IT} (H : SH B w s l) (h g : Int) (hno : lk l h = none ∨ lk l g = none) : Calls Tryz.prog 50 #[.pointer (some ⟨s, 0, none⟩), .int .i64 h, .int .i64 g] w fun e w' => e = .returned (.tuple #[.nilIface, .nilIface, .int .i64 6]) ∧ w' = w := by
  have H1 := Lib.hid (shTaken H h)
  have H2 := Lib.hid (shTaken H g)
  clear H
  generalize lk l h = o1 at *
  generalize lk l g = o2 at *
  cases o1 with
  | none =>
    simp only [Option.isSome_none] at H1
    clear H2 hno
    go_enter Tryz.func50, Tryz.ntmps50
    go_wp2_with fail
    refine H1.out.mono ?_
    rintro e w1 ⟨rfl, rfl⟩
    clear H1
    go_wp2
    go_ret3
    exact ⟨rfl, rfl⟩
  | some x =>
    cases o2 with
    | some y => rcases hno with h | h <;> cases h
    | none =>
      simp only [Option.isSome_some, Option.isSome_none] at H1 H2
      clear hno
      go_enter Tryz.func50, Tryz.ntmps50
      go_wp2_with fail
      refine H1.out.mono ?_
      rintro e w1 ⟨rfl, rfl⟩
      clear H1
      go_wp2_with fail
      refine H2.out.mono ?_
      rintro e w1 ⟨rfl, rfl⟩
      clear H2
      go_wp2
      go_ret3
      exact ⟨rfl, rfl⟩
set_option maxRecDepth 100000 in
set_option maxHeartbeats 1000000 in
theorem twoIs {B : Nat} {w : World} {s : Nat} {l : Nat → Option IT} (H : SH B w s l) (h g : Int) {x y : IT} (hx : lk l h = some x) (hy : lk l g = some y) : Calls Tryz.prog 50 #[.pointer (some ⟨s, 0, none⟩), .int .i64 h, .int .i64 g] w fun e w' => e = .returned (.tuple #[x.s.v, y.s.v, .int .i64 0]) ∧ w' = w := by
  have H1 := Lib.hid (shTaken H h)
  have H2 := Lib.hid (shTaken H g)
  rw [hx] at H1
  rw [hy] at H2
  simp only [Option.isSome_some] at H1 H2
  have H3 := Lib.hid (shAtIs H h hx)
  have H4 := Lib.hid (shAtIs H g hy)
  have H5 := Lib.hid (itKeys x w (H.ok _ _ (lk_some hx).2))
  have H6 := Lib.hid (itKeys y w (H.ok _ _ (lk_some hy).2))
  clear H hx hy
  go_enter Tryz.func50, Tryz.ntmps50
  go_wp2_with fail
  refine H1.out.mono ?_
  rintro e w1 ⟨rfl, rfl⟩
  clear H1
  go_wp2_with fail
  refine H2.out.mono ?_
  rintro e w1 ⟨rfl, rfl⟩
  clear H2
  go_wp2_with fail
  refine H3.out.mono ?_
  rintro e w1 ⟨rfl, rfl⟩
  clear H3
  go_wp2_with fail
  refine H5.out.mono ?_
  rintro e w1 ⟨rfl, rfl⟩
  clear H5
  go_wp2_with fail
  refine H4.out.mono ?_
  rintro e w1 ⟨rfl, rfl⟩
  clear H4
  go_wp2_with fail
  refine H6.out.mono ?_
  rintro e w1 ⟨rfl, rfl⟩
  clear H6
  go_wp2
  go_ret3
  exact ⟨rfl, rfl⟩
theorem SH.reads2 {B : Nat} {w w' : World} {s : Nat} {l : Nat → Option IT} (H : SH B w s l) {n m : Nat} {x y : IT} (hx : l n = some x) (hy : l m = some y) (hp : x.s.P w') (hq : y.s.P w') (hc : Chg (fun q => x.s.red q ∨ y.s.red q) w w') : SH B w' s l := by
  have rx : ∀ q, x.s.red q → x.own q := fun q h => .inr (.inr (x.s.red_own q h))
  have ry : ∀ q, y.s.red q → y.own q := fun q h => .inr (.inr (y.s.red_own q h))
  refine ⟨hc.blk H.head (fun e => e.elim (fun e => H.hd n x hx (rx _ e)) (fun e => H.hd m y hy (ry _ e))), fun k z hz => ?_, H.dis, H.hd, H.big, H.lo⟩
  have ok := H.ok k z hz
  have hni : ∀ b, (b = z.i ∨ b = z.k) → ¬ (x.s.red b ∨ y.s.red b) := fun b hb e => by
    have hzb : z.own b := hb.elim .inl (fun h => .inr (.inl h))
    rcases e with e | e
    · by_cases ek : k = n
      · subst ek; rw [hx] at hz; cases hz
        rcases hb with rfl | rfl
        · exact ok.nik.1 (x.s.red_own _ e)
        · exact ok.nik.2 (x.s.red_own _ e)
      · exact H.dis k n z x ek hz hx b hzb (rx b e)
    · by_cases ek : k = m
      · subst ek; rw [hy] at hz; cases hz
        rcases hb with rfl | rfl
        · exact ok.nik.1 (y.s.red_own _ e)
        · exact ok.nik.2 (y.s.red_own _ e)
      · exact H.dis k m z y ek hz hy b hzb (ry b e)
  refine ⟨hc.blk ok.item (hni _ (.inl rfl)), hc.blk ok.kept (hni _ (.inr rfl)), ?_, ok.nik⟩
  by_cases ek : k = n
  · subst ek; rw [hx] at hz; cases hz; exact hp
  · by_cases em : k = m
    · subst em; rw [hy] at hz; cases hz; exact hq
    · exact SK.chg ok.p hc (fun b hb e => e.elim (fun e => H.dis k n z x ek hz hx b (.inr (.inr hb)) (rx b e)) (fun e => H.dis k m z y em hz hy b (.inr (.inr hb)) (ry b e)))
/-- what holds of two handles' sets, the same or not -/
theorem SH.pair {B : Nat} {w : World} {s : Nat} {l : Nat → Option IT} (H : SH B w s l) {h g : Int} {x y : IT} (hx : lk l h = some x) (hy : lk l g = some y) :
    ∃ (G : World → Prop) (R F : Nat → Prop), Env G R F ∧ In x.s G R F ∧ In y.s G R F ∧ G w ∧ ∀ w', G w' → Chg F w w' → Kp B w w' s l := by
  have hx2 := (lk_some hx).2
  have hy2 := (lk_some hy).2
  by_cases e : h.toNat = g.toNat
  · rw [e, hy2] at hx2
    cases hx2
    exact ⟨_, _, _, x.s.env, x.s.in_self, x.s.in_self, (H.ok _ _ hy2).p, fun w' hp hc => H.kp hy hp hc⟩
  · have hd : ∀ q, x.s.own q → ¬ y.s.own q := fun q hq hq' => H.dis _ _ x y e hx2 hy2 q (.inr (.inr hq)) (.inr (.inr hq'))
    refine ⟨_, _, _, SK.env2 x.s y.s, SK.in_left x.s y.s hd, SK.in_right x.s y.s hd, ⟨(H.ok _ _ hx2).p, (H.ok _ _ hy2).p⟩, fun w' hp hc => ⟨H.reads2 hx2 hy2 hp.1 hp.2 hc, hc.mono (fun b _ hb => hb.elim (fun hb => H.lo.2 _ x hx2 b (.inr (.inr (x.s.red_own b hb)))) (fun hb => H.lo.2 _ y hy2 b (.inr (.inr (y.s.red_own b hb)))))⟩⟩
set_option maxRecDepth 100000 in
set_option maxHeartbeats 1000000 in
theorem noEqual {B : Nat} {w : World} {s : Nat} {l : Nat → Option IT} (H : SH B w s l) (h g : Int) (hno : lk l h = none ∨ lk l g = none) : Calls Tryz.prog 18 #[.pointer (some ⟨s, 0, none⟩), .int .i64 h, .int .i64 g] w fun e w' => e = .returned (.tuple #[.bool false, .int .i64 6]) ∧ w' = w := by
  have HT := Lib.hid (twoNo H h g hno)
  clear H hno
  go_enter Tryz.func18, Tryz.ntmps18
  go_wp2_with fail
  refine HT.out.mono ?_
  rintro e w1 ⟨rfl, rfl⟩
  clear HT
  go_wp2
  go_ret2
  exact ⟨rfl, rfl⟩
set_option maxRecDepth 100000 in
set_option maxHeartbeats 1000000 in
theorem isEqual {B : Nat} {w : World} {s : Nat} {l : Nat → Option IT} (H : SH B w s l) (h g : Int) {x y : IT} (hx : lk l h = some x) (hy : lk l g = some y) (hN1 : x.s.N ≤ 100000) (hN2 : y.s.N ≤ 100000) : Calls Tryz.prog 18 #[.pointer (some ⟨s, 0, none⟩), .int .i64 h, .int .i64 g] w fun e w' => ∃ (b : Bool) (u : Unit), e = .returned (.tuple #[.bool b, .int .i64 0]) ∧ Hid (Kp B w w' s l) := by
  have HT := Lib.hid (twoIs H h g hx hy)
  obtain ⟨G, R, F, E, I1, I2, hG, hK⟩ := H.pair hx hy
  have HF := Lib.hid (faceEqual x.s y.s E I1 I2 hN1 hN2 w hG)
  have HKK := Lib.hid hK
  clear H hx hy E I1 I2 hG hK
  go_enter Tryz.func18, Tryz.ntmps18
  go_wp2_with fail
  refine HT.out.mono ?_
  rintro e w1 ⟨rfl, rfl⟩
  clear HT
  go_wp2_with fail
  refine HF.out.mono ?_
  rintro e w2 ⟨r, _, rfl, HG, HC⟩
  have HKP := Lib.hid (HKK.out _ HG.out HC.out)
  clear HF
  go_wp2
  go_ret2
  exact ⟨_, (), rfl, HKP.out⟩
set_option maxRecDepth 100000 in
set_option maxHeartbeats 1000000 in
theorem noWithin {B : Nat} {w : World} {s : Nat} {l : Nat → Option IT} (H : SH B w s l) (h g : Int) (hno : lk l h = none ∨ lk l g = none) : Calls Tryz.prog 19 #[.pointer (some ⟨s, 0, none⟩), .int .i64 h, .int .i64 g] w fun e w' => e = .returned (.tuple #[.bool false, .int .i64 6]) ∧ w' = w := by
  have HT := Lib.hid (twoNo H h g hno)
  clear H hno
  go_enter Tryz.func19, Tryz.ntmps19
  go_wp2_with fail
  refine HT.out.mono ?_
  rintro e w1 ⟨rfl, rfl⟩
  clear HT
  go_wp2
  go_ret2
  exact ⟨rfl, rfl⟩
set_option maxRecDepth 100000 in
set_option maxHeartbeats 1000000 in
theorem isWithin {B : Nat} {w : World} {s : Nat} {l : Nat → Option IT} (H : SH B w s l) (h g : Int) {x y : IT} (hx : lk l h = some x) (hy : lk l g = some y) (hN1 : x.s.N ≤ 100000) (hN2 : y.s.N ≤ 100000) : Calls Tryz.prog 19 #[.pointer (some ⟨s, 0, none⟩), .int .i64 h, .int .i64 g] w fun e w' => ∃ (b : Bool) (u : Unit), e = .returned (.tuple #[.bool b, .int .i64 0]) ∧ Hid (Kp B w w' s l) := by
  have HT := Lib.hid (twoIs H h g hx hy)
  obtain ⟨G, R, F, E, I1, I2, hG, hK⟩ := H.pair hx hy
  have HF := Lib.hid (faceWithin x.s y.s E I1 I2 hN1 hN2 w hG)
  have HKK := Lib.hid hK
  clear H hx hy E I1 I2 hG hK
  go_enter Tryz.func19, Tryz.ntmps19
  go_wp2_with fail
  refine HT.out.mono ?_
  rintro e w1 ⟨rfl, rfl⟩
  clear HT
  go_wp2_with fail
  refine HF.out.mono ?_
  rintro e w2 ⟨r, _, rfl, HG, HC⟩
  have HKP := Lib.hid (HKK.out _ HG.out HC.out)
  clear HF
  go_wp2
  go_ret2
  exact ⟨_, (), rfl, HKP.out⟩
end Go.Proofs.YtcnaikoloagbdaaGreat
