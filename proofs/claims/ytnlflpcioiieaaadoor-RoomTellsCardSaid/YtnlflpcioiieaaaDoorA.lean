/-
  The functions of package room, walked: what each answers, for every argument, over the table's cells.
-/
import Derived.Test.YtnlflpcioiieaaaDoorRows
import Derived.Test.YtnlflpcioiieaaaDoorKit
namespace Go.Proofs.YtnlflpcioiieaaaDoor
set_option linter.unusedVariables false
set_option linter.unusedSimpArgs false
open Go.RowKit

/-- the table's row of a tag: six numbers -/
structure Bnd where
  each : Int
  more : Int
  has : Int
  near : Int
  end_ : Int
  depth : Int
def Bnd.zero : Bnd := ⟨0, 0, 0, 0, 0, 0⟩
def bnd (t : Int) : Bnd :=
  if t = 1 then ⟨5, 1, 9, 21, 1, 5⟩ else if t = 2 then ⟨66, 0, 1, 9, 1, 65⟩ else if t = 3 then ⟨4, 68, 11, 12, 12, 66⟩ else if t = 4 then ⟨11, 0, 11, 12, 1, 11⟩ else if t = 5 then ⟨2, 0, 66, 66, 1, 2⟩ else Bnd.zero

/-- the table lies in block 0 -/
structure Tabled (w : World) : Prop where
  size : 0 < w.heap.size
  c0 : ∀ t : Nat, 1 ≤ t → t ≤ 5 → w.cell? ⟨0, t * 6, none⟩ = some (.int .i64 (bnd t).each)
  c1 : ∀ t : Nat, 1 ≤ t → t ≤ 5 → w.cell? ⟨0, t * 6 + 1, none⟩ = some (.int .i64 (bnd t).more)
  c2 : ∀ t : Nat, 1 ≤ t → t ≤ 5 → w.cell? ⟨0, t * 6 + 2, none⟩ = some (.int .i64 (bnd t).has)
  c3 : ∀ t : Nat, 1 ≤ t → t ≤ 5 → w.cell? ⟨0, t * 6 + 3, none⟩ = some (.int .i64 (bnd t).near)
  c4 : ∀ t : Nat, 1 ≤ t → t ≤ 5 → w.cell? ⟨0, t * 6 + 4, none⟩ = some (.int .i64 (bnd t).end_)
  c5 : ∀ t : Nat, 1 ≤ t → t ≤ 5 → w.cell? ⟨0, t * 6 + 5, none⟩ = some (.int .i64 (bnd t).depth)
theorem Tabled.below {w w' : World} (h : Tabled w) (hb : Below w.heap.size w w') : Tabled w' :=
  ⟨by have := hb.size; have := h.size; omega,
   fun t a b => (hb.cell (p := ⟨0, _, none⟩) h.size).trans (h.c0 t a b), fun t a b => (hb.cell (p := ⟨0, _, none⟩) h.size).trans (h.c1 t a b), fun t a b => (hb.cell (p := ⟨0, _, none⟩) h.size).trans (h.c2 t a b),
   fun t a b => (hb.cell (p := ⟨0, _, none⟩) h.size).trans (h.c3 t a b), fun t a b => (hb.cell (p := ⟨0, _, none⟩) h.size).trans (h.c4 t a b), fun t a b => (hb.cell (p := ⟨0, _, none⟩) h.size).trans (h.c5 t a b)⟩

def Bnd.val (b : Bnd) : Value := .agg #[.int .i64 b.each, .int .i64 b.more, .int .i64 b.has, .int .i64 b.near, .int .i64 b.end_, .int .i64 b.depth]

set_option maxHeartbeats 400000 in
theorem of_no (t : Int) (w : World) (h : t < 1 ∨ 5 < t) :
    Calls Tryd.prog 14 #[.int .i64 t] w fun e w' => e = .returned (.tuple #[.agg #[.int .i64 0, .int .i64 0, .int .i64 0, .int .i64 0, .int .i64 0, .int .i64 0], .bool false]) ∧ Below w.heap.size w w' := by
  rcases h with h | h
  · go_enter Tryd.func14, Tryd.ntmps14
    go_wp2
    exact bodyPost_ret (v := .tuple #[.agg #[.int .i64 0, .int .i64 0, .int .i64 0, .int .i64 0, .int .i64 0, .int .i64 0], .bool false]) (by simp [results, Tryd.results14, go_sem]) rfl
      ⟨rfl, (by repeat (first | exact Below.refl _ _ | refine Below.setCell ?_ (by simp) _ | refine Below.alloc ?_ (by simp) _))⟩
  · have h' : ¬ t < 1 := by omega
    go_enter Tryd.func14, Tryd.ntmps14
    go_wp2
    exact bodyPost_ret (v := .tuple #[.agg #[.int .i64 0, .int .i64 0, .int .i64 0, .int .i64 0, .int .i64 0, .int .i64 0], .bool false]) (by simp [results, Tryd.results14, go_sem]) rfl
      ⟨rfl, (by repeat (first | exact Below.refl _ _ | refine Below.setCell ?_ (by simp) _ | refine Below.alloc ?_ (by simp) _))⟩

set_option maxHeartbeats 400000 in
theorem of_ok (t : Nat) (a b c d e f : Int) (w : World) (h1 : 1 ≤ t) (h5 : t ≤ 5) (hz : 0 < w.heap.size)
    (hc0 : w.cell? ⟨0, t * 6, none⟩ = some (.int .i64 a)) (hc1 : w.cell? ⟨0, t * 6 + 1, none⟩ = some (.int .i64 b)) (hc2 : w.cell? ⟨0, t * 6 + 2, none⟩ = some (.int .i64 c))
    (hc3 : w.cell? ⟨0, t * 6 + 3, none⟩ = some (.int .i64 d)) (hc4 : w.cell? ⟨0, t * 6 + 4, none⟩ = some (.int .i64 e)) (hc5 : w.cell? ⟨0, t * 6 + 5, none⟩ = some (.int .i64 f)) :
    Calls Tryd.prog 14 #[.int .i64 t] w fun r w' => r = .returned (.tuple #[.agg #[.int .i64 a, .int .i64 b, .int .i64 c, .int .i64 d, .int .i64 e, .int .i64 f], .bool true]) ∧ Below w.heap.size w w' := by
  have n0 := World.new_ne w _ hc0
  have n1 := World.new_ne w _ hc1
  have n2 := World.new_ne w _ hc2
  have n3 := World.new_ne w _ hc3
  have n4 := World.new_ne w _ hc4
  have n5 := World.new_ne w _ hc5
  go_enter Tryd.func14, Tryd.ntmps14
  go_wp2
  exact bodyPost_ret (v := .tuple #[.agg #[.int .i64 a, .int .i64 b, .int .i64 c, .int .i64 d, .int .i64 e, .int .i64 f], .bool true]) (by simp [results, Tryd.results14, go_sem]) rfl
      ⟨rfl, (by repeat (first | exact Below.refl _ _ | refine Below.setCell ?_ (by simp) _ | refine Below.alloc ?_ (by simp) _))⟩

theorem of_t (t : Int) (w : World) (h1 : 1 ≤ t) (h5 : t ≤ 5) (hT : Tabled w) :
    Calls Tryd.prog 14 #[.int .i64 t] w fun r w' => r = .returned (.tuple #[.agg #[.int .i64 (bnd t).each, .int .i64 (bnd t).more, .int .i64 (bnd t).has, .int .i64 (bnd t).near, .int .i64 (bnd t).end_, .int .i64 (bnd t).depth], .bool true]) ∧ Below w.heap.size w w' := by
  obtain ⟨n, rfl⟩ := Int.eq_ofNat_of_zero_le (show 0 ≤ t by omega)
  exact of_ok n _ _ _ _ _ _ w (by omega) (by omega) hT.size (hT.c0 n (by omega) (by omega)) (hT.c1 n (by omega) (by omega)) (hT.c2 n (by omega) (by omega)) (hT.c3 n (by omega) (by omega)) (hT.c4 n (by omega) (by omega)) (hT.c5 n (by omega) (by omega))

theorem bnd_bd (t : Int) : 0 ≤ (bnd t).each ∧ (bnd t).each ≤ 66 ∧ 0 ≤ (bnd t).more ∧ (bnd t).more ≤ 68 := by
  unfold bnd; repeat' split
  all_goals simp [Bnd.zero]
theorem bnd_pos (t : Int) (h1 : 1 ≤ t) (h5 : t ≤ 5) : 1 ≤ (bnd t).each := by
  unfold bnd; repeat' split
  all_goals first | (simp; done) | omega

def okTag (t : Int) : Bool := decide (1 ≤ t ∧ t ≤ 5)

/-- Need: what is answered -/
def needV (t n : Int) : Int := if okTag t = true ∧ 0 < n ∧ n ≤ 262144 then (bnd t).each * n + (bnd t).more else 0
def needE (t n : Int) : Int := if okTag t = true ∧ 0 ≤ n ∧ n ≤ 262144 then 0 else 1

theorem ret2_eq {a b a' b' : Int} (h : a = a') (k : b = b') : Ending.returned (.tuple #[.int .i64 a, .int .i64 b]) = Ending.returned (.tuple #[.int .i64 a', .int .i64 b']) := by rw [h, k]

set_option maxHeartbeats 400000 in
theorem need_any (t n : Int) (w : World) (hT : Tabled w) :
    Calls Tryd.prog 7 #[.int .i64 t, .int .i64 n] w fun e w' => e = .returned (.tuple #[.int .i64 (needV t n), .int .i64 (needE t n)]) ∧ Below w.heap.size w w' := by
  by_cases ht : t < 1 ∨ 5 < t
  · have hk : okTag t = false := by simp [okTag]; omega
    go_enter Tryd.func7, Tryd.ntmps7
    go_wp2_with (go_at_call 14; refine (of_no t _ ht).mono ?_; rintro e w1 ⟨rfl, hb⟩; have ⟨hc, hf⟩ := bcell hb; have hz := hb.size)
    go_ret2
    exact ⟨ret2_eq (by simp [needV, hk]) (by simp [needE, hk]), by repeat (first | exact hb | exact Below.refl _ _ | refine below_drewN ?_ _ | refine Below.drew ?_ | refine Below.setCell ?_ (by first | omega | (simp; done) | (simp; omega)) _ | refine Below.alloc ?_ (by first | omega | (simp; done) | (simp; omega)) _)⟩
  · have hk : okTag t = true := by simp [okTag]; omega
    obtain ⟨g1, g2, g3, g4⟩ := bnd_bd t
    by_cases hn : n < 0
    · go_enter Tryd.func7, Tryd.ntmps7
      go_wp2_with (go_at_call 14; refine (of_t t _ (by omega) (by omega) hT).mono ?_; rintro e w1 ⟨rfl, hb⟩; have ⟨hc, hf⟩ := bcell hb; have hz := hb.size)
      go_ret2
      exact ⟨ret2_eq (by rw [needV, if_neg (by omega)]) (by rw [needE, if_neg (by omega)]), by repeat (first | exact hb | exact Below.refl _ _ | refine below_drewN ?_ _ | refine Below.drew ?_ | refine Below.setCell ?_ (by first | omega | (simp; done) | (simp; omega)) _ | refine Below.alloc ?_ (by first | omega | (simp; done) | (simp; omega)) _)⟩
    · by_cases hn2 : 262144 < n
      · go_enter Tryd.func7, Tryd.ntmps7
        go_wp2_with (go_at_call 14; refine (of_t t _ (by omega) (by omega) hT).mono ?_; rintro e w1 ⟨rfl, hb⟩; have ⟨hc, hf⟩ := bcell hb; have hz := hb.size)
        go_ret2
        exact ⟨ret2_eq (by rw [needV, if_neg (by omega)]) (by rw [needE, if_neg (by omega)]), by repeat (first | exact hb | exact Below.refl _ _ | refine below_drewN ?_ _ | refine Below.drew ?_ | refine Below.setCell ?_ (by first | omega | (simp; done) | (simp; omega)) _ | refine Below.alloc ?_ (by first | omega | (simp; done) | (simp; omega)) _)⟩
      · by_cases h0 : n = 0
        · subst h0
          go_enter Tryd.func7, Tryd.ntmps7
          go_wp2_with (go_at_call 14; refine (of_t t _ (by omega) (by omega) hT).mono ?_; rintro e w1 ⟨rfl, hb⟩; have ⟨hc, hf⟩ := bcell hb; have hz := hb.size)
          go_ret2
          exact ⟨ret2_eq (by rw [needV, if_neg (by omega)]) (by rw [needE, if_pos ⟨hk, by omega, by omega⟩]), by repeat (first | exact hb | exact Below.refl _ _ | refine below_drewN ?_ _ | refine Below.drew ?_ | refine Below.setCell ?_ (by first | omega | (simp; done) | (simp; omega)) _ | refine Below.alloc ?_ (by first | omega | (simp; done) | (simp; omega)) _)⟩
        · have h0b : (n == 0) = false := by simpa using h0
          have m1 : 0 ≤ (bnd t).each * n := Int.mul_nonneg g1 (by omega)
          have m2 : (bnd t).each * n ≤ 66 * 262144 := Int.mul_le_mul g2 (by omega) (by omega) (by omega)
          generalize hE : (bnd t).each * n = en at m1 m2
          have HE := Lib.hid hE
          clear hE
          go_enter Tryd.func7, Tryd.ntmps7
          go_wp2_with (go_at_call 14; refine (of_t t _ (by omega) (by omega) hT).mono ?_; rintro e w1 ⟨rfl, hb⟩; have ⟨hc, hf⟩ := bcell hb; have hz := hb.size)
          go_ret2
          exact ⟨ret2_eq (by rw [needV, if_pos ⟨hk, by omega, by omega⟩, HE.out]; unfold wrap64; omega) (by rw [needE, if_pos ⟨hk, by omega, by omega⟩]), by repeat (first | exact hb | exact Below.refl _ _ | refine below_drewN ?_ _ | refine Below.drew ?_ | refine Below.setCell ?_ (by first | omega | (simp; done) | (simp; omega)) _ | refine Below.alloc ?_ (by first | omega | (simp; done) | (simp; omega)) _)⟩

/-- Most: what is answered -/
def mostV (t l : Int) : Int := if okTag t = true ∧ (bnd t).each + (bnd t).more ≤ l then min ((l - (bnd t).more) / (bnd t).each) 262144 else 0
def mostE (t l : Int) : Int := if okTag t = true ∧ 0 ≤ l then 0 else 1

set_option maxHeartbeats 400000 in
theorem most_any (t l : Int) (w : World) (hT : Tabled w) (hl : l ≤ 9223372036854775807) :
    Calls Tryd.prog 8 #[.int .i64 t, .int .i64 l] w fun e w' => e = .returned (.tuple #[.int .i64 (mostV t l), .int .i64 (mostE t l)]) ∧ Below w.heap.size w w' := by
  obtain ⟨g1, g2, g3, g4⟩ := bnd_bd t
  by_cases ht : t < 1 ∨ 5 < t
  · have hk : okTag t = false := by simp [okTag]; omega
    go_enter Tryd.func8, Tryd.ntmps8
    go_wp2_with (go_at_call 14; refine (of_no t _ ht).mono ?_; rintro e w1 ⟨rfl, hb⟩; have ⟨hc, hf⟩ := bcell hb; have hz := hb.size)
    go_ret2
    exact ⟨ret2_eq (by simp [mostV, hk]) (by simp [mostE, hk]), by repeat (first | exact hb | exact Below.refl _ _ | refine below_drewN ?_ _ | refine Below.drew ?_ | refine Below.setCell ?_ (by first | omega | (simp; done) | (simp; omega)) _ | refine Below.alloc ?_ (by first | omega | (simp; done) | (simp; omega)) _)⟩
  · have hk : okTag t = true := by simp [okTag]; omega
    have gp := bnd_pos t (by omega) (by omega)
    by_cases hn : l < 0
    · go_enter Tryd.func8, Tryd.ntmps8
      go_wp2_with (go_at_call 14; refine (of_t t _ (by omega) (by omega) hT).mono ?_; rintro e w1 ⟨rfl, hb⟩; have ⟨hc, hf⟩ := bcell hb; have hz := hb.size)
      go_ret2
      exact ⟨ret2_eq (by rw [mostV, if_neg (by omega)]) (by rw [mostE, if_neg (by omega)]), by repeat (first | exact hb | exact Below.refl _ _ | refine below_drewN ?_ _ | refine Below.drew ?_ | refine Below.setCell ?_ (by first | omega | (simp; done) | (simp; omega)) _ | refine Below.alloc ?_ (by first | omega | (simp; done) | (simp; omega)) _)⟩
    · by_cases h0 : l < (bnd t).each + (bnd t).more
      · go_enter Tryd.func8, Tryd.ntmps8
        go_wp2_with (go_at_call 14; refine (of_t t _ (by omega) (by omega) hT).mono ?_; rintro e w1 ⟨rfl, hb⟩; have ⟨hc, hf⟩ := bcell hb; have hz := hb.size)
        go_ret2
        exact ⟨ret2_eq (by rw [mostV, if_neg (by omega)]) (by rw [mostE, if_pos ⟨hk, by omega⟩]), by repeat (first | exact hb | exact Below.refl _ _ | refine below_drewN ?_ _ | refine Below.drew ?_ | refine Below.setCell ?_ (by first | omega | (simp; done) | (simp; omega)) _ | refine Below.alloc ?_ (by first | omega | (simp; done) | (simp; omega)) _)⟩
      · go_enter Tryd.func8, Tryd.ntmps8
        go_wp2_with (go_at_call 14; refine (of_t t _ (by omega) (by omega) hT).mono ?_; rintro e w1 ⟨rfl, hb⟩; have ⟨hc, hf⟩ := bcell hb; have hz := hb.size)
        all_goals go_ret2
        all_goals exact ⟨ret2_eq (by rw [mostV, if_pos ⟨hk, by omega⟩]; omega) (by rw [mostE, if_pos ⟨hk, by omega⟩]), by repeat (first | exact hb | exact Below.refl _ _ | refine below_drewN ?_ _ | refine Below.drew ?_ | refine Below.setCell ?_ (by first | omega | (simp; done) | (simp; omega)) _ | refine Below.alloc ?_ (by first | omega | (simp; done) | (simp; omega)) _)⟩
end Go.Proofs.YtnlflpcioiieaaaDoor
