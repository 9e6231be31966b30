/-
  The walk of the law RoomRises, over the contracts of package room.
-/
import Derived.Test.YtnlflpcioiieaaaDoorB
namespace Go.Proofs.YtnlflpcioiieaaaDoor
set_option linter.unusedVariables false
set_option linter.unusedSimpArgs false
open Go.RowKit

attribute [local go_sem] gmax2_int gmin2_int gmax_two gmin_two
theorem need_gen (t n : Int) (w : World) (hT : Tabled w) :
    Calls Tryd.prog 7 #[.int .i64 t, .int .i64 n] w fun e w' => ∃ v er : Int, e = .returned (.tuple #[.int .i64 v, .int .i64 er]) ∧ Hid (v = needV t n ∧ er = needE t n) ∧ Below w.heap.size w w' :=
  (need_any t n w hT).mono fun _ _ ⟨he, hb⟩ => ⟨_, _, he, ⟨rfl, rfl⟩, hb⟩
theorem most_gen (t l : Int) (w : World) (hT : Tabled w) (hl : l ≤ 9223372036854775807) :
    Calls Tryd.prog 8 #[.int .i64 t, .int .i64 l] w fun e w' => ∃ v er : Int, e = .returned (.tuple #[.int .i64 v, .int .i64 er]) ∧ Hid (v = mostV t l ∧ er = mostE t l) ∧ Below w.heap.size w w' :=
  (most_any t l w hT hl).mono fun _ _ ⟨he, hb⟩ => ⟨_, _, he, ⟨rfl, rfl⟩, hb⟩
theorem fits_gen (limit : Int) (A : Option Addr) (c : Nat) (l : List Int) (w : World) (hT : Tabled w) (hl : limit ≤ 9223372036854775807) (hlen : l.length ≤ 140737488351232) (hcap : l.length ≤ c) (hr : RdI w A l) :
    Calls Tryd.prog 9 #[.int .i64 limit, .slice A l.length c] w fun e w' => ∃ v : Int, e = .returned (.int .i64 v) ∧ Hid (v = fitsV limit l) ∧ Below w.heap.size w w' :=
  (fits_any limit A c l w hT hl hlen hcap hr).mono fun _ _ ⟨he, hb⟩ => ⟨_, he, rfl, hb⟩
theorem clamp_gen (n m : Int) (w : World) (hm : 0 ≤ m) : Calls Tryd.prog 6 #[.int .i64 n, .int .i64 m] w fun e w' => ∃ v : Int, e = .returned (.int .i64 v) ∧ (0 ≤ v ∧ v ≤ m) ∧ w = w' :=
  (clamp_any n m w).mono fun _ _ ⟨he, hb⟩ => ⟨_, he, by omega, hb⟩

theorem need_mono {t x y : Int} (h0 : 0 ≤ x) (h : x ≤ y) (hy : y ≤ 262144) : needV t x ≤ needV t y := by
  obtain ⟨g1, g2, g3, g4⟩ := bnd_bd t
  have m0 := Int.mul_nonneg g1 (show 0 ≤ y by omega)
  have m1 := Int.mul_le_mul_of_nonneg_left h g1
  unfold needV
  by_cases hk : okTag t = true
  · by_cases hx : 0 < x
    · rw [if_pos ⟨hk, hx, by omega⟩, if_pos ⟨hk, by omega, hy⟩]; omega
    · rw [if_neg (by omega)]
      by_cases hy0 : 0 < y
      · rw [if_pos ⟨hk, hy0, hy⟩]; omega
      · rw [if_neg (by omega)]; omega
  · rw [if_neg (fun h => hk h.1), if_neg (fun h => hk h.1)]; omega
theorem most_mono {t x y : Int} (h : x ≤ y) : mostV t x ≤ mostV t y := by
  by_cases hk : okTag t = true ∧ (bnd t).each + (bnd t).more ≤ x
  · have hk2 : okTag t = true ∧ (bnd t).each + (bnd t).more ≤ y := ⟨hk.1, by omega⟩
    obtain ⟨g1, g2, g3, g4⟩ := bnd_bd t
    have gp := bnd_pos t (by have := hk.1; simp [okTag] at this; omega) (by have := hk.1; simp [okTag] at this; omega)
    unfold mostV
    rw [if_pos hk, if_pos hk2]
    have : (x - (bnd t).more) / (bnd t).each ≤ (y - (bnd t).more) / (bnd t).each := Int.ediv_le_ediv (by omega) (by omega)
    omega
  · have := (mostV_bd t y).1
    unfold mostV at this ⊢
    rw [if_neg hk]
    exact this
theorem fits_le {limit t : Int} (h1 : 1 ≤ t) (h5 : t ≤ 5) : fitsV limit [1, 2, 3, 4, 5] ≤ mostV t limit := by
  unfold fitsV
  simp only [List.foldl_cons, List.foldl_nil]
  have : t = 1 ∨ t = 2 ∨ t = 3 ∨ t = 4 ∨ t = 5 := by omega
  rcases this with rfl | rfl | rfl | rfl | rfl <;> omega
/-- what a limit is enough for needs no more than it -/
theorem need_most {t l : Int} (h0 : 0 ≤ l) : needV t (mostV t l) ≤ l := by
  unfold needV
  split
  · rename_i h
    obtain ⟨hk, hp, _⟩ := h
    obtain ⟨g1, g2, g3, g4⟩ := bnd_bd t
    have gp := bnd_pos t (by simp [okTag] at hk; omega) (by simp [okTag] at hk; omega)
    by_cases hl : okTag t = true ∧ (bnd t).each + (bnd t).more ≤ l
    · have e : mostV t l ≤ (l - (bnd t).more) / (bnd t).each := by rw [mostV, if_pos hl]; omega
      have m := Int.mul_le_mul_of_nonneg_left e g1
      have d := Int.mul_ediv_self_le (x := l - (bnd t).more) (k := (bnd t).each) (by omega)
      omega
    · rw [mostV, if_neg hl] at hp; omega
  · exact h0

/-- five numbers laid down by the call -/
theorem rd5 (w : World) (a b c d e : Int) (t : TypeId) : RdI (w.alloc (.cells #[.int .i64 a, .int .i64 b, .int .i64 c, .int .i64 d, .int .i64 e] t)) (some ⟨w.heap.size, 0, none⟩) [a, b, c, d, e] := by
  intro i hi
  refine ⟨_, rfl, by simp, ?_⟩
  have : i = 0 ∨ i = 1 ∨ i = 2 ∨ i = 3 ∨ i = 4 := by simp at hi; omega
  rcases this with rfl | rfl | rfl | rfl | rfl <;> simp [Addr.add]

set_option maxHeartbeats 1000000 in
theorem rises (tag n m l : Int) (w : World) (hT : Tabled w) (ht0 : 0 ≤ tag) (ht1 : tag ≤ 255) :
    Calls Tryd.prog 3 #[.int .u8 tag, .int .i64 n, .int .i64 m, .int .i64 l] w fun e w' => e = .returned (.bool true) ∧ Below w.heap.size w w' := by
  have q1 : 1 ≤ 1 + tag % 5 := by omega
  have q2 : 1 + tag % 5 ≤ 5 := by omega
  go_enter Tryd.func3, Tryd.ntmps3
  go_wp2_with fail
  refine (awake_any _ hT).mono ?_
  rintro e w1 ⟨rfl, hb1⟩
  have hT1 := hT.below hb1
  go_wp2_with fail
  refine (clamp_gen _ _ _ (by omega)).mono ?_
  rintro e w1' ⟨n, rfl, ⟨hn0, hn1⟩, rfl⟩
  go_wp2_with fail
  refine (clamp_gen _ _ _ (by omega)).mono ?_
  rintro e w1' ⟨m, rfl, ⟨hm0, hm1⟩, rfl⟩
  go_wp2_with fail
  refine (clamp_gen _ _ _ (by omega)).mono ?_
  rintro e w1' ⟨l, rfl, ⟨hl0, hl1⟩, rfl⟩
  rcases Int.lt_trichotomy n m with hnm | rfl | hnm
  all_goals
    go_wp2_with fail
    refine (need_gen _ _ _ hT1).mono ?_
    rintro e w2 ⟨va, ea, rfl, Ha, hb2⟩
    have hT2 := hT1.below hb2
    have hb2' := hb1.trans (hb2.mono hb1.size)
    go_wp2_with fail
    refine (need_gen _ _ _ hT2).mono ?_
    rintro e w3 ⟨vb, eb, rfl, Hb, hb3⟩
    have hT3 := hT2.below hb3
    have hb3' := hb2'.trans (hb3.mono hb2'.size)
    have fab : va ≤ vb := by rw [Ha.out.1, Hb.out.1]; exact need_mono (by omega) (by omega) (by omega)
    go_wp2_with fail
    refine (most_gen _ _ _ hT3 (by omega)).mono ?_
    rintro e w4 ⟨vc, ec, rfl, Hc, hb4⟩
    have hT4 := hT3.below hb4
    have hb4' := hb3'.trans (hb4.mono hb3'.size)
    go_wp2_with fail
    refine (most_gen _ _ _ hT4 (by omega)).mono ?_
    rintro e w5 ⟨vd, ed, rfl, Hd, hb5⟩
    have hT5 := hT4.below hb5
    have hb5' := hb4'.trans (hb5.mono hb4'.size)
    have fcd : vc ≤ vd := by rw [Hc.out.1, Hd.out.1]; exact most_mono (by omega)
    go_wp2_with fail
    refine (fits_gen _ _ _ [1, 2, 3, 4, 5] _ (hT5.below ((Below.refl _ _).alloc (by simp) _)) (by omega) (by simp) (by simp) (rd5 _ _ _ _ _ _ _)).mono ?_
    rintro e w6 ⟨ve, rfl, He, hb6⟩
    have hb6' := hb5'.trans ((((Below.refl _ _).alloc (by simp) _).trans (hb6.mono (by simp))).mono hb5'.size)
    have hT6 := hT.below hb6'
    have fec : ve ≤ vc := by rw [Hc.out.1, He.out]; exact fits_le (by omega) (by omega)
    go_wp2_with fail
    refine (need_gen _ _ _ hT6).mono ?_
    rintro e w7 ⟨vf, ef, rfl, Hf, hb7⟩
    have ff : vf ≤ l := by
      have h0 := (fitsV_bd l [1, 2, 3, 4, 5]).1
      rw [Hf.out.1]
      exact Int.le_trans (need_mono (by rw [He.out]; exact h0) (show ve ≤ _ from fec) (by rw [Hc.out.1]; exact (mostV_bd _ _).2)) (by rw [Hc.out.1]; exact need_most (by omega))
    go_wp2
    go_ret
    exact ⟨rfl, hb6'.trans (hb7.mono hb6'.size)⟩
end Go.Proofs.YtnlflpcioiieaaaDoor
