/-
  The law's own awake and has; walked.
  Each question to a handle of the law's own shelf: refused just if it isn't open; walked.
  What the law's walk keeps: a shelf whose handles 0 and 1 alone are open; of no code.
-/
import Derived.Test.YtcnaikoloagbdaaGreatQShelf5
import Derived.Test.YtcnaikoloagbdaaGreatQShelfC
import Derived.Test.YtcnaikoloagbdaaGreatQLaw2
import Derived.Test.YtcnaikoloagbdaaGreatQShelfD
namespace Go.Proofs.YtcnaikoloagbdaaGreat
set_option linter.unusedVariables false
set_option linter.unusedSimpArgs false
open Go.RowKit Go.Shelf
attribute [local go_sem ↓] Go.wp_at_zero Go.wp_at_succ

theorem Below.of_chg {B : Nat} {w w' : World} (h : Chg (fun q => B ≤ q) w w') (hB : B ≤ w.heap.size) : Below B w w' := h.below hB (fun b hb hq => by omega)
theorem fresh4 {lim : Int} {s : SK} (h : Fresh 4 lim s) : ∃ d, s = .e d := by
  cases s with
  | e d => exact ⟨d, rfl⟩
  | t d => exact h.elim
  | x d => exact absurd h.1 (by decide)
  | y d => exact absurd h.1 (by decide)
theorem skn_e {er : Int} {d : TD} {s' : SK} (h : SKn er (.e d) s') : er = 0 ∧ ∃ d', s' = .t d' := by
  cases s' with
  | t d' => exact ⟨h, d', rfl⟩
  | e d' => exact h.elim
  | x d' => exact h.elim
  | y d' => exact h.elim
set_option maxRecDepth 100000 in
set_option maxHeartbeats 4000000 in
theorem awakeW (w : World) : Calls Tryz.prog 4 #[] w fun e w' => e = .returned (.bool true) ∧ Hid (Below w.heap.size w w') := by
  go_enter Tryz.func4, Tryz.ntmps4
  go_wp2_with fail
  refine (shNew w.heap.size w (Nat.le_refl _)).mono ?_
  rintro e w1 ⟨rfl, HS1, HB1⟩
  obtain ⟨s, hs⟩ : ∃ s, s = w.heap.size := ⟨_, rfl⟩
  rw [← hs] at HS1 ⊢
  obtain ⟨w2, hw2⟩ : ∃ w2, w2 = w1.alloc (.cells #[.bool false, .int .i64 4, .int .u64 0, .int .i64 1000] 55) := ⟨_, rfl⟩
  have HW2 := Lib.hid hw2
  have HA := Lib.hid (show Below w1.heap.size w1 w2 by rw [hw2]; exact (Below.refl _ _).alloc (Nat.le_refl _) _)
  have HO2 := Lib.hid (show w2.heap[w1.heap.size]? = some (.cells #[.bool false, .int .i64 4, .int .u64 0, .int .i64 1000] 55 (0, 0)) by rw [hw2]; exact blk_new _ _ _)
  have HS2 := Lib.hid (HS1.out.below HA.out)
  have HSB := Lib.hid hs
  have hsl := blk_lt HS1.out.head
  have hs2 : w2.heap.size = w1.heap.size + 1 := by rw [hw2]; simp
  have HOP := Lib.hid (shOpen HS2.out 0 (by omega) rfl 4 0 1000 (.inr (.inr rfl)) (by omega) (by omega) (by omega))
  clear hs hw2
  go_wp2_with fail
  rw [← HW2.out]
  refine HOP.out.mono ?_
  rintro e w3 ⟨x, rfl, HS3, HX3, HC3, HOW3, HCS3⟩
  obtain ⟨d, hd⟩ := fresh4 HX3.out.2.2.2
  have HINS := Lib.hid (isInsert HS3.out 0 5 (x := x) (by unfold lk; rw [if_pos (by omega)]; exact upd_same _ _ _) (by rw [hd]; exact rfl))
  have HD := Lib.hid hd
  have HO3 := Lib.hid (HCS3.out.blk HO2.out (fun e => by have e' : w1.heap.size = s := e; omega))
  have hz3 := HC3.out.size
  clear HOP hd
  go_wp2_with fail
  refine HINS.out.mono ?_
  rintro e w4 ⟨er, s', ver', rfl, _, HSN, HS4, HC4, HO4x, HCX4⟩
  rw [HD.out] at HSN
  obtain ⟨rfl, d', rfl⟩ := skn_e HSN.out
  have hz4 := HC4.out.size
  have HO4 := Lib.hid (HCX4.out.blk HO3.out (fun e => by have := HOW3.out _ e; omega))
  have o0 := blk_cell HO4.out 0 (v := .bool false) rfl
  have o1 := blk_cell HO4.out 1 (v := .int .i64 4) rfl
  have o2 := blk_cell HO4.out 2 (v := .int .u64 0) rfl
  have o3 := blk_cell HO4.out 3 (v := .int .i64 1000) rfl
  have HOP := Lib.hid (shOpen HS4.out 1 (by omega) rfl 4 0 1000 (.inr (.inr rfl)) (by omega) (by omega) (by omega))
  clear HINS
  go_wp2_with fail
  refine HOP.out.mono ?_
  rintro e w5 ⟨x1, rfl, HS5, HX5, HC5, _, _⟩
  have hz5 := HC5.out.size
  obtain ⟨d1, hd1⟩ := fresh4 HX5.out.2.2.2
  have HD1 := Lib.hid hd1
  have hA6 := (Below.refl w5.heap.size w5).alloc (Nat.le_refl _) (.cells #[.int .i64 0, .int .i64 0] 3)
  have HS6 := Lib.hid (HS5.out.below hA6)
  have HJ := Lib.hid (shJoin false HS6.out 1 (x := x1) (by unfold lk; rw [if_pos (by omega)]; exact upd_same _ _ _) 0 (y := { x with s := .t d', ver := ver' }) rfl 2 (.inr rfl) (some ⟨w5.heap.size, 0, none⟩) 2
    (fun i hi => by
      refine ⟨_, rfl, by simp, ?_⟩
      rw [add_mk]
      have hn := blk_new w5 #[.int .i64 0, .int .i64 0] 3
      match i, hi with
      | 0, _ => exact blk_cell hn 0 rfl
      | 1, _ => exact blk_cell hn 1 rfl)
    ⟨HX5.out.1, by rw [HX5.out.2.2.1]; decide, fun xs h => h⟩ (by rw [HX5.out.2.2.1]; decide) (fun _ xs h => h) (by show 1 ≤ 100000; decide) (by rw [HD1.out]; show 0 ≤ 100000; decide) (fun s' h => by obtain ⟨d2, rfl⟩ := h; show 1 ≤ 100000; decide))
  clear HOP o0 o1 o2 o3 hA6 hd1
  go_wp2_with fail
  refine HJ.out.mono ?_
  rintro e w7 ⟨er, rfl, HQ, _, HR, HC7⟩
  obtain rfl : er = 0 := HQ.out
  obtain ⟨x2, HS7', d2, hd2⟩ := HR.out rfl
  have HS7 := Lib.hid HS7'
  have hz7 := HC7.out.size
  have hz6 : (w5.alloc (.cells #[.int .i64 0, .int .i64 0] 3)).heap.size = w5.heap.size + 1 := by simp
  have HH := Lib.hid (isHas5 HS7.out 1 (x := x2) (by unfold lk; rw [if_pos (by omega)]; exact upd_same _ _ _) d2 hd2)
  clear HJ HR HQ HS7' hd2
  go_wp2_with fail
  refine HH.out.mono ?_
  rintro e w8 ⟨rfl, HK⟩
  have HFIN := Lib.hid (show Below w.heap.size w w8 by
    have h := Below.of_chg (B := s) ((((((Chg.of_below (HB1.out)).then (Chg.of_below HA.out)).then HC3.out).then HC4.out).then HC5.out |>.alloc (.cells #[.int .i64 0, .int .i64 0] 3)).then HC7.out |>.then HK.out.2) (by rw [HSB.out]; exact Nat.le_refl _)
    rwa [HSB.out] at h)
  clear HH
  go_wp2
  go_ret
  exact ⟨rfl, HFIN.out⟩
set_option maxRecDepth 100000 in
set_option maxHeartbeats 1000000 in
theorem hasNo {B : Nat} {w : World} {s : Nat} {l : Nat → Option IT} (H : SH B w s l) (h : Int) (hno : lk l h = none) : Calls Tryz.prog 32 #[.pointer (some ⟨s, 0, none⟩), .int .i64 h, .slice none 0 0] w fun e w' => e = .returned (.bool false) ∧ w' = w := by
  have HL := Lib.hid (noLen _ h w (shAtNo H h hno))
  clear H hno
  go_enter Tryz.func32, Tryz.ntmps32
  go_wp2_with fail
  refine HL.out.mono ?_
  rintro e w1 ⟨rfl, rfl⟩
  clear HL
  go_wp2
  go_ret
  exact ⟨rfl, rfl⟩
set_option maxRecDepth 100000 in
set_option maxHeartbeats 1000000 in
theorem hasZero {B : Nat} {w : World} {s : Nat} {l : Nat → Option IT} (H : SH B w s l) (h : Int) {x : IT} (hx : lk l h = some x) (d : XD) (hd : x.s = .x d) (hls : d.ls = []) : Calls Tryz.prog 32 #[.pointer (some ⟨s, 0, none⟩), .int .i64 h, .slice none 0 0] w fun e w' => e = .returned (.bool true) ∧ w' = w := by
  have HL := Lib.hid (isLen H h hx d hd)
  rw [hls] at HL
  simp only [List.length_nil] at HL
  clear H hx hd hls
  go_enter Tryz.func32, Tryz.ntmps32
  go_wp2_with fail
  refine HL.out.mono ?_
  rintro e w1 ⟨rfl, rfl⟩
  clear HL
  go_wp2
  go_loopw [9, 10, 29] (fun _ _ v29 wr => v29 = .int .i64 0 ∧ wr = w1) (fun _ _ _ _ => 0)
  case atStart => exact ⟨rfl, rfl⟩
  case round =>
    obtain ⟨rfl, rfl⟩ := hrel
    go_wp2
    go_ret
    exact ⟨rfl, rfl⟩
end Go.Proofs.YtcnaikoloagbdaaGreat
namespace Go.Proofs.YtcnaikoloagbdaaGreat
set_option linter.unusedVariables false
set_option linter.unusedSimpArgs false
open Go.RowKit Go.Shelf
attribute [local go_sem ↓] Go.wp_at_zero Go.wp_at_succ

/-- the handles that are open have an XFast or a YFast, small -/
def LB (l : Nat → Option IT) : Prop := ∀ h x, lk l h = some x → x.s.bare ∧ x.s.N ≤ 100000
theorem qGet {B : Nat} {w : World} {s : Nat} {l : Nat → Option IT} (H : SH B w s l) (hb : LB l) (h k : Int) : Calls Tryz.prog 6 #[.pointer (some ⟨s, 0, none⟩), .int .i64 h, .int .u64 k] w fun e w' => ∃ (v : Value) (er : Int), e = .returned (.tuple #[v, .int .i64 er]) ∧ (er = 6 ↔ lk l h = none) ∧ Hid (Kp B w w' s l) := by
  rcases hx : lk l h with _ | x
  · refine (noGet _ h k w (shAtNo H h hx)).mono ?_
    rintro e w1 ⟨rfl, rfl⟩
    exact ⟨_, 6, rfl, ⟨fun _ => rfl, fun _ => rfl⟩, H.kp0⟩
  · refine (isGet H h k hx).mono ?_
    rintro e w1 ⟨rfl, rfl⟩
    exact ⟨_, 11, rfl, ⟨fun h => absurd h (by decide), (fun h => by cases h)⟩, H.kp0⟩
theorem qHas {B : Nat} {w : World} {s : Nat} {l : Nat → Option IT} (H : SH B w s l) (hb : LB l) (h k : Int) : Calls Tryz.prog 7 #[.pointer (some ⟨s, 0, none⟩), .int .i64 h, .int .u64 k] w fun e w' => ∃ (v : Value) (er : Int), e = .returned (.tuple #[v, .int .i64 er]) ∧ (er = 6 ↔ lk l h = none) ∧ Hid (Kp B w w' s l) := by
  rcases hx : lk l h with _ | x
  · refine (noHas _ h k w (shAtNo H h hx)).mono ?_
    rintro e w1 ⟨rfl, rfl⟩
    exact ⟨_, 6, rfl, ⟨fun _ => rfl, fun _ => rfl⟩, H.kp0⟩
  · refine (isHas H h k hx (hb h x hx).1).mono ?_
    rintro e w1 ⟨y, er, rfl, he, HK⟩
    exact ⟨_, er, rfl, ⟨fun h => absurd h he, (fun h => by cases h)⟩, HK⟩
theorem qNext {B : Nat} {w : World} {s : Nat} {l : Nat → Option IT} (H : SH B w s l) (hb : LB l) (h k : Int) : Calls Tryz.prog 8 #[.pointer (some ⟨s, 0, none⟩), .int .i64 h, .int .u64 k] w fun e w' => ∃ (v : Value) (er : Int), e = .returned (.tuple #[v, .int .i64 er]) ∧ (er = 6 ↔ lk l h = none) ∧ Hid (Kp B w w' s l) := by
  rcases hx : lk l h with _ | x
  · refine (noNext _ h k w (shAtNo H h hx)).mono ?_
    rintro e w1 ⟨rfl, rfl⟩
    exact ⟨_, 6, rfl, ⟨fun _ => rfl, fun _ => rfl⟩, H.kp0⟩
  · refine (isNext H h k hx (hb h x hx).1).mono ?_
    rintro e w1 ⟨y, er, rfl, he, HK⟩
    exact ⟨_, er, rfl, ⟨fun h => absurd h he, (fun h => by cases h)⟩, HK⟩
theorem qPrev {B : Nat} {w : World} {s : Nat} {l : Nat → Option IT} (H : SH B w s l) (hb : LB l) (h k : Int) : Calls Tryz.prog 9 #[.pointer (some ⟨s, 0, none⟩), .int .i64 h, .int .u64 k] w fun e w' => ∃ (v : Value) (er : Int), e = .returned (.tuple #[v, .int .i64 er]) ∧ (er = 6 ↔ lk l h = none) ∧ Hid (Kp B w w' s l) := by
  rcases hx : lk l h with _ | x
  · refine (noPrev _ h k w (shAtNo H h hx)).mono ?_
    rintro e w1 ⟨rfl, rfl⟩
    exact ⟨_, 6, rfl, ⟨fun _ => rfl, fun _ => rfl⟩, H.kp0⟩
  · refine (isPrev H h k hx (hb h x hx).1).mono ?_
    rintro e w1 ⟨y, er, rfl, he, HK⟩
    exact ⟨_, er, rfl, ⟨fun h => absurd h he, (fun h => by cases h)⟩, HK⟩
theorem qRank {B : Nat} {w : World} {s : Nat} {l : Nat → Option IT} (H : SH B w s l) (hb : LB l) (h k : Int) : Calls Tryz.prog 10 #[.pointer (some ⟨s, 0, none⟩), .int .i64 h, .int .u64 k] w fun e w' => ∃ (v : Value) (er : Int), e = .returned (.tuple #[v, .int .i64 er]) ∧ (er = 6 ↔ lk l h = none) ∧ Hid (Kp B w w' s l) := by
  rcases hx : lk l h with _ | x
  · refine (noRank _ h k w (shAtNo H h hx)).mono ?_
    rintro e w1 ⟨rfl, rfl⟩
    exact ⟨_, 6, rfl, ⟨fun _ => rfl, fun _ => rfl⟩, H.kp0⟩
  · refine (isRank H h k hx (hb h x hx).1).mono ?_
    rintro e w1 ⟨y, er, rfl, he, HK⟩
    exact ⟨_, er, rfl, ⟨fun h => absurd h he, (fun h => by cases h)⟩, HK⟩
theorem qSelect {B : Nat} {w : World} {s : Nat} {l : Nat → Option IT} (H : SH B w s l) (hb : LB l) (h k : Int) : Calls Tryz.prog 11 #[.pointer (some ⟨s, 0, none⟩), .int .i64 h, .int .i64 k] w fun e w' => ∃ (v : Value) (er : Int), e = .returned (.tuple #[v, .int .i64 er]) ∧ (er = 6 ↔ lk l h = none) ∧ Hid (Kp B w w' s l) := by
  rcases hx : lk l h with _ | x
  · refine (noSelect _ h k w (shAtNo H h hx)).mono ?_
    rintro e w1 ⟨rfl, rfl⟩
    exact ⟨_, 6, rfl, ⟨fun _ => rfl, fun _ => rfl⟩, H.kp0⟩
  · refine (isSelect H h k hx (hb h x hx).1).mono ?_
    rintro e w1 ⟨y, er, rfl, he, HK⟩
    exact ⟨_, er, rfl, ⟨fun h => absurd h he, (fun h => by cases h)⟩, HK⟩
theorem qCount {B : Nat} {w : World} {s : Nat} {l : Nat → Option IT} (H : SH B w s l) (hb : LB l) (h k m : Int) : Calls Tryz.prog 12 #[.pointer (some ⟨s, 0, none⟩), .int .i64 h, .int .u64 k, .int .u64 m] w fun e w' => ∃ (v : Value) (er : Int), e = .returned (.tuple #[v, .int .i64 er]) ∧ (er = 6 ↔ lk l h = none) ∧ Hid (Kp B w w' s l) := by
  rcases hx : lk l h with _ | x
  · refine (noCount _ h k m w (shAtNo H h hx)).mono ?_
    rintro e w1 ⟨rfl, rfl⟩
    exact ⟨_, 6, rfl, ⟨fun _ => rfl, fun _ => rfl⟩, H.kp0⟩
  · refine (isCount H h k m hx (hb h x hx).1).mono ?_
    rintro e w1 ⟨y, er, rfl, he, HK⟩
    exact ⟨_, er, rfl, ⟨fun h => absurd h he, (fun h => by cases h)⟩, HK⟩
theorem qEncode {B : Nat} {w : World} {s : Nat} {l : Nat → Option IT} (H : SH B w s l) (hb : LB l) (h : Int) : Calls Tryz.prog 13 #[.pointer (some ⟨s, 0, none⟩), .int .i64 h] w fun e w' => ∃ (v : Value) (er : Int), e = .returned (.tuple #[v, .int .i64 er]) ∧ (er = 6 ↔ lk l h = none) ∧ Hid (Kp B w w' s l) := by
  rcases hx : lk l h with _ | x
  · refine (noEncode _ h w (shAtNo H h hx)).mono ?_
    rintro e w1 ⟨rfl, rfl⟩
    exact ⟨_, 6, rfl, ⟨fun _ => rfl, fun _ => rfl⟩, H.kp0⟩
  · refine (isEncode H h hx (hb h x hx).2).mono ?_
    rintro e w1 ⟨y, er, rfl, he, HK⟩
    exact ⟨_, er, rfl, ⟨fun h => absurd h he, (fun h => by cases h)⟩, HK⟩
theorem qUsed {B : Nat} {w : World} {s : Nat} {l : Nat → Option IT} (H : SH B w s l) (hb : LB l) (h : Int) : Calls Tryz.prog 16 #[.pointer (some ⟨s, 0, none⟩), .int .i64 h] w fun e w' => ∃ (v : Value) (er : Int), e = .returned (.tuple #[v, .int .i64 er]) ∧ (er = 6 ↔ lk l h = none) ∧ Hid (Kp B w w' s l) := by
  rcases hx : lk l h with _ | x
  · refine (noUsed _ h w (shAtNo H h hx)).mono ?_
    rintro e w1 ⟨rfl, rfl⟩
    exact ⟨_, 6, rfl, ⟨fun _ => rfl, fun _ => rfl⟩, H.kp0⟩
  · refine (isUsed H h hx (hb h x hx).1).mono ?_
    rintro e w1 ⟨y, er, rfl, he, HK⟩
    exact ⟨_, er, rfl, ⟨fun h => absurd h he, (fun h => by cases h)⟩, HK⟩
theorem qVersion {B : Nat} {w : World} {s : Nat} {l : Nat → Option IT} (H : SH B w s l) (hb : LB l) (h : Int) : Calls Tryz.prog 15 #[.pointer (some ⟨s, 0, none⟩), .int .i64 h] w fun e w' => ∃ (v : Value) (er : Int), e = .returned (.tuple #[v, .int .i64 er]) ∧ (er = 6 ↔ lk l h = none) ∧ Hid (Kp B w w' s l) := by
  rcases hx : lk l h with _ | x
  · refine (noVersion _ h w (shAtNo H h hx)).mono ?_
    rintro e w1 ⟨rfl, rfl⟩
    exact ⟨_, 6, rfl, ⟨fun _ => rfl, fun _ => rfl⟩, H.kp0⟩
  · refine (isVersion H h hx).mono ?_
    rintro e w1 ⟨y, rfl, HK⟩
    exact ⟨_, 0, rfl, ⟨fun h => absurd h (by decide), (fun h => by cases h)⟩, HK⟩
theorem qEqual {B : Nat} {w : World} {s : Nat} {l : Nat → Option IT} (H : SH B w s l) (hb : LB l) (h g : Int) : Calls Tryz.prog 18 #[.pointer (some ⟨s, 0, none⟩), .int .i64 h, .int .i64 g] w fun e w' => ∃ (v : Value) (er : Int), e = .returned (.tuple #[v, .int .i64 er]) ∧ (er = 6 ↔ (lk l h = none ∨ lk l g = none)) ∧ Hid (Kp B w w' s l) := by
  by_cases hno : lk l h = none ∨ lk l g = none
  · refine (noEqual H h g hno).mono ?_
    rintro e w1 ⟨rfl, rfl⟩
    exact ⟨_, 6, rfl, ⟨fun _ => hno, fun _ => rfl⟩, H.kp0⟩
  · obtain ⟨x, hx⟩ := Option.ne_none_iff_exists'.1 (fun e => hno (.inl e))
    obtain ⟨y, hy⟩ := Option.ne_none_iff_exists'.1 (fun e => hno (.inr e))
    refine (isEqual H h g hx hy (hb h x hx).2 (hb g y hy).2).mono ?_
    rintro e w1 ⟨b, _, rfl, HK⟩
    exact ⟨_, 0, rfl, ⟨fun h => absurd h (by decide), fun h => absurd h hno⟩, HK⟩
theorem qWithin {B : Nat} {w : World} {s : Nat} {l : Nat → Option IT} (H : SH B w s l) (hb : LB l) (h g : Int) : Calls Tryz.prog 19 #[.pointer (some ⟨s, 0, none⟩), .int .i64 h, .int .i64 g] w fun e w' => ∃ (v : Value) (er : Int), e = .returned (.tuple #[v, .int .i64 er]) ∧ (er = 6 ↔ (lk l h = none ∨ lk l g = none)) ∧ Hid (Kp B w w' s l) := by
  by_cases hno : lk l h = none ∨ lk l g = none
  · refine (noWithin H h g hno).mono ?_
    rintro e w1 ⟨rfl, rfl⟩
    exact ⟨_, 6, rfl, ⟨fun _ => hno, fun _ => rfl⟩, H.kp0⟩
  · obtain ⟨x, hx⟩ := Option.ne_none_iff_exists'.1 (fun e => hno (.inl e))
    obtain ⟨y, hy⟩ := Option.ne_none_iff_exists'.1 (fun e => hno (.inr e))
    refine (isWithin H h g hx hy (hb h x hx).2 (hb g y hy).2).mono ?_
    rintro e w1 ⟨b, _, rfl, HK⟩
    exact ⟨_, 0, rfl, ⟨fun h => absurd h (by decide), fun h => absurd h hno⟩, HK⟩
set_option maxRecDepth 100000 in
set_option maxHeartbeats 1000000 in
/-- to join with a handle that isn't open is refused -/
theorem noJoinOf {B : Nat} {w : World} {s : Nat} {l : Nat → Option IT} (H : SH B w s l) (n : Nat) {x : IT} (hx : lk l n = some x) (g : Int) (hg : lk l g = none) (b : Nat) (hb : w.heap[b]? = some (.cells #[.int .i64 g] 3 (0, 0))) : Calls Tryz.prog 25 #[.pointer (some ⟨s, 0, none⟩), .int .i64 0, .int .i64 n, .slice (some ⟨b, 0, none⟩) 1 1] w fun e w' => e = .returned (.int .i64 6) ∧ Hid (Kp B w w' s l) := by
  have HH := Lib.hid H
  have HA := Lib.hid (shAtIs H n hx)
  have HC := Lib.hid (shContains H (some ⟨b, 0, none⟩) 1 [g] (Rd.one hb) (by simp))
  have HG := Lib.hid hg
  clear H hx hg hb
  go_enter Tryz.func25, Tryz.ntmps25
  go_wp2_with fail
  refine HA.out.mono ?_
  rintro e w1 ⟨rfl, hw1⟩
  rw [hw1]
  clear HA hw1 w1
  go_wp2_with fail
  refine HC.out.mono ?_
  rintro e w2 ⟨r, rfl, HB, HB2⟩
  obtain rfl : r = true := HB.out.2 ⟨g, by simp, HG.out⟩
  clear HC
  go_wp2
  go_ret
  exact ⟨rfl, HH.out.below HB2.out, Chg.of_below HB2.out⟩
set_option maxRecDepth 100000 in
/-- to join nothing into a handle that isn't open is refused -/
theorem noJoin (p : Option Addr) (h : Int) (w : World) (hno : Calls Tryz.prog 36 #[.pointer p, .int .i64 h] w fun e w' => e = .returned (.pointer none) ∧ w' = w) : Calls Tryz.prog 25 #[.pointer p, .int .i64 0, .int .i64 h, .slice none 0 0] w fun e w' => e = .returned (.int .i64 6) ∧ w' = w := by
  have HA := Lib.hid hno
  clear hno
  go_enter Tryz.func25, Tryz.ntmps25
  go_wp2_with fail
  refine HA.out.mono ?_
  rintro e w1 ⟨rfl, rfl⟩
  clear HA
  go_wp2
  go_ret
  exact ⟨rfl, rfl⟩
theorem rd_block {k : IntKind} {w : World} {b : Nat} {e : TypeId} (es : List Int) (h : w.heap[b]? = some (.cells (es.map (Value.int k)).toArray e (0, 0))) : Rd k w (some ⟨b, 0, none⟩) es := fun i hi => by
  refine ⟨_, rfl, blk_lt h, ?_⟩
  rw [add_mk]
  simp only [World.cell?, h]
  simp [List.getD_eq_getElem?_getD, hi]
end Go.Proofs.YtcnaikoloagbdaaGreat
namespace Go.Proofs.YtcnaikoloagbdaaGreat
set_option linter.unusedVariables false
set_option linter.unusedSimpArgs false
open Go.RowKit Go.Shelf

theorem SH.mono {B B' : Nat} {w : World} {s : Nat} {l : Nat → Option IT} (H : SH B w s l) (h : B' ≤ B) : SH B' w s l :=
  ⟨H.head, H.ok, H.dis, H.hd, H.big, Nat.le_trans h H.lo.1, fun k x e b hb => Nat.le_trans h (H.lo.2 k x e b hb)⟩
/-- the shelf, and the blocks of the call's start as they were -/
def LS (W w : World) (s : Nat) (l : Nat → Option IT) : Prop := SH W.heap.size w s l ∧ Chg (fun q => W.heap.size ≤ q) W w
theorem LS.k {W w w' : World} {s : Nat} {l : Nat → Option IT} (H : LS W w s l) (h : Kp W.heap.size w w' s l) : LS W w' s l := ⟨h.1, H.2.then h.2⟩
theorem LS.below {W w w' : World} {s : Nat} {l : Nat → Option IT} (H : LS W w s l) (h : Below w.heap.size w w') : LS W w' s l := ⟨H.1.below h, H.2.then (Chg.of_below h)⟩
theorem LS.alloc {W w : World} {s : Nat} {l : Nat → Option IT} (H : LS W w s l) (o : Obj) : LS W (w.alloc o) s l := H.below ((Below.refl _ _).alloc (Nat.le_refl _) o)
theorem LS.grown {W w w' : World} {s : Nat} {l : Nat → Option IT} {g : Nat} (H : LS W w s l) (hg : w.grownBy w' (some g)) (hs : s ≠ g) (ho : ∀ h x, l h = some x → ¬ x.own g) (hW : W.heap.size ≤ g) : LS W w' s l :=
  have hc : Chg (· = g) w w' := Chg.of_grown hg (fun b e => by cases e; rfl)
  ⟨H.1.stay (hc.block s (blk_lt H.1.head) hs) (fun h x e b hb => hc.block b ((H.1.ok h x e).lt b hb) (fun eq => ho h x e (by have eq' : b = g := eq; rw [← eq']; exact hb))), H.2.then (hc.mono (fun b _ e => by have e' : b = g := e; rw [e']; exact hW))⟩
theorem fresh2 {s : SK} (h : Fresh 2 9 s) : ∃ d, s = .x d ∧ d.ls = [] := by
  cases s with
  | e d => exact absurd h.1 (by decide)
  | t d => exact h.elim
  | x d => exact ⟨d, rfl, h.2.1⟩
  | y d => exact absurd h.1 (by decide)
theorem LS.bel {W w : World} {s : Nat} {l : Nat → Option IT} (H : LS W w s l) : Below W.heap.size W w := Below.of_chg H.2 (Nat.le_refl _)
theorem lk0 {l : Nat → Option IT} {x : IT} (h : l 0 = some x) : lk l 0 = some x := by unfold lk; rw [if_pos (by omega)]; exact h
theorem lk1 {l : Nat → Option IT} {x : IT} (h : l 1 = some x) : lk l 1 = some x := by unfold lk; rw [if_pos (by omega)]; exact h
theorem lkN {l : Nat → Option IT} (hn : ∀ n, 2 ≤ n → l n = none) {h : Int} (h0 : h ≠ 0) (h1 : h ≠ 1) : lk l h = none := by
  unfold lk
  split
  · exact hn _ (by omega)
  · rfl
theorem LI.small {tag : Int} {j : Nat} {x : IT} (h : LI tag j x) (hj : j ≤ 2) : (x.s.bare ∧ x.s.N ≤ 100000) ∧ ∀ xs, x.s.S xs → xs.length ≤ 80 ∧ U64 xs := by
  have hk := h.lk
  revert hk
  cases x.s with
  | e d => exact fun h => h.elim
  | t d => exact fun h => h.elim
  | x d =>
    rintro ⟨_, _, hr⟩
    have : 2 ^ j ≤ 2 ^ 2 := Nat.pow_le_pow_right (by omega) hj
    exact ⟨⟨trivial, by show d.R ≤ 100000; omega⟩, fun xs h => ⟨by have := h.1; omega, h.2⟩⟩
  | y d =>
    rintro ⟨_, _, hr, _⟩
    exact ⟨⟨trivial, by show d.ks.length ≤ 100000; omega⟩, fun xs h => ⟨by have := h.1; omega, h.2⟩⟩
theorem LB.of {l : Nat → Option IT} {a b : IT} (h0 : l 0 = some a) (ha : LI 2 2 a) (h1 : l 1 = some b) (hb : LI 3 1 b) (hn : ∀ n, 2 ≤ n → l n = none) : LB l := fun h x hx => by
  obtain ⟨_, e⟩ := lk_some hx
  rcases Nat.lt_or_ge h.toNat 1 with h2 | h2
  · rw [show h.toNat = 0 by omega, h0] at e; cases e; exact (ha.small (by omega)).1
  · rcases Nat.lt_or_ge h.toNat 2 with h3 | h3
    · rw [show h.toNat = 1 by omega, h1] at e; cases e; exact (hb.small (by omega)).1
    · rw [hn _ h3] at e; cases e
theorem errno_info : (Tryz.prog.info? 30).map (fun i => (i.zero, i.size, i.bytes)) = some (some (.int .i64 0), 1, 8) := by kernel_rfl
end Go.Proofs.YtcnaikoloagbdaaGreat
