/-
  The functions of package room, walked on: steps, depth, the least of all, and what the law itself calls.
-/
import Derived.Test.YtnlflpcioiieaaaDoorA
import Derived.LoopTactic
import Derived.Lib.Hide
namespace Go.Proofs.YtnlflpcioiieaaaDoor
set_option linter.unusedVariables false
set_option linter.unusedSimpArgs false
open Go.RowKit

def bndOf (t : Int) : Bnd := if okTag t = true then bnd t else Bnd.zero

set_option maxHeartbeats 400000 in
theorem depth_any (t : Int) (w : World) (hT : Tabled w) :
    Calls Tryd.prog 13 #[.int .i64 t] w fun e w' => e = .returned (.int .i64 (bndOf t).depth) ∧ Below w.heap.size w w' := by
  by_cases ht : t < 1 ∨ 5 < t
  · have hk : okTag t = false := by simp [okTag]; omega
    go_enter Tryd.func13, Tryd.ntmps13
    go_wp2_with (go_at_call 14; refine (of_no t _ ht).mono ?_; rintro e w1 ⟨rfl, hb⟩; have ⟨hc, hf⟩ := bcell hb; have hz := hb.size)
    go_ret
    exact ⟨ret_int (by simp [bndOf, hk, Bnd.zero]), by repeat (first | exact hb | exact Below.refl _ _ | refine below_drewN ?_ _ | refine Below.drew ?_ | refine Below.setCell ?_ (by first | omega | (simp; done) | (simp; omega)) _ | refine Below.alloc ?_ (by first | omega | (simp; done) | (simp; omega)) _)⟩
  · have hk : okTag t = true := by simp [okTag]; omega
    go_enter Tryd.func13, Tryd.ntmps13
    go_wp2_with (go_at_call 14; refine (of_t t _ (by omega) (by omega) hT).mono ?_; rintro e w1 ⟨rfl, hb⟩; have ⟨hc, hf⟩ := bcell hb; have hz := hb.size)
    go_ret
    exact ⟨ret_int (by simp [bndOf, hk]), by repeat (first | exact hb | exact Below.refl _ _ | refine below_drewN ?_ _ | refine Below.drew ?_ | refine Below.setCell ?_ (by first | omega | (simp; done) | (simp; omega)) _ | refine Below.alloc ?_ (by first | omega | (simp; done) | (simp; omega)) _)⟩

theorem ret3_eq {a b c a' b' c' : Int} (h : a = a') (k : b = b') (l : c = c') : Ending.returned (.tuple #[.int .i64 a, .int .i64 b, .int .i64 c]) = Ending.returned (.tuple #[.int .i64 a', .int .i64 b', .int .i64 c']) := by rw [h, k, l]
set_option maxHeartbeats 400000 in
theorem steps_any (t : Int) (w : World) (hT : Tabled w) :
    Calls Tryd.prog 12 #[.int .i64 t] w fun e w' => e = .returned (.tuple #[.int .i64 (bndOf t).has, .int .i64 (bndOf t).near, .int .i64 (bndOf t).end_]) ∧ Below w.heap.size w w' := by
  by_cases ht : t < 1 ∨ 5 < t
  · have hk : okTag t = false := by simp [okTag]; omega
    go_enter Tryd.func12, Tryd.ntmps12
    go_wp2_with (go_at_call 14; refine (of_no t _ ht).mono ?_; rintro e w1 ⟨rfl, hb⟩; have ⟨hc, hf⟩ := bcell hb; have hz := hb.size)
    go_quiet (fail)
    go_wp2
    go_ret3
    exact ⟨ret3_eq (by simp [bndOf, hk, Bnd.zero]) (by simp [bndOf, hk, Bnd.zero]) (by simp [bndOf, hk, Bnd.zero]), by repeat (first | exact hb | exact Below.refl _ _ | refine below_drewN ?_ _ | refine Below.drew ?_ | refine Below.setCell ?_ (by first | omega | (simp; done) | (simp; omega)) _ | refine Below.alloc ?_ (by first | omega | (simp; done) | (simp; omega)) _)⟩
  · have hk : okTag t = true := by simp [okTag]; omega
    go_enter Tryd.func12, Tryd.ntmps12
    go_wp2_with (go_at_call 14; refine (of_t t _ (by omega) (by omega) hT).mono ?_; rintro e w1 ⟨rfl, hb⟩; have ⟨hc, hf⟩ := bcell hb; have hz := hb.size)
    go_quiet (fail)
    go_wp2
    go_ret3
    exact ⟨ret3_eq (by simp [bndOf, hk]) (by simp [bndOf, hk]) (by simp [bndOf, hk]), by repeat (first | exact hb | exact Below.refl _ _ | refine below_drewN ?_ _ | refine Below.drew ?_ | refine Below.setCell ?_ (by first | omega | (simp; done) | (simp; omega)) _ | refine Below.alloc ?_ (by first | omega | (simp; done) | (simp; omega)) _)⟩

/-- a slice of ints that reads so -/
def RdI (w : World) (A : Option Addr) (l : List Int) : Prop := ∀ i : Nat, i < l.length → ∃ ad, A = some ad ∧ ad.block < w.heap.size ∧ w.cell? (ad.add i) = some (.int .i64 (l.getD i 0))
def fitsV (limit : Int) (l : List Int) : Int := l.foldl (fun a t => min a (mostV t limit)) 262144
theorem RdI.below {w w' : World} {A : Option Addr} {l : List Int} (h : RdI w A l) (hb : Below w.heap.size w w') : RdI w' A l := fun i hi => by
  obtain ⟨ad, e, h1, h2⟩ := h i hi
  have hblk : (ad.add i).block = ad.block := by unfold Addr.add; split <;> rfl
  exact ⟨ad, e, by have := hb.size; omega, (hb.cell (p := ad.add i) (by rw [hblk]; exact h1)).trans h2⟩
theorem fits_snoc (limit : Int) (l : List Int) (k : Nat) (h : k < l.length) : fitsV limit (l.take (k + 1)) = min (fitsV limit (l.take k)) (mostV (l.getD k 0) limit) := by
  unfold fitsV
  rw [List.take_succ_eq_append_getElem h, List.foldl_append]
  simp [List.getD_eq_getElem?_getD, List.getElem?_eq_getElem h]
theorem mostV_bd (t l : Int) : 0 ≤ mostV t l ∧ mostV t l ≤ 262144 := by
  unfold mostV
  split
  · rename_i h
    obtain ⟨g1, g2, g3, g4⟩ := bnd_bd t
    have gp := bnd_pos t (by have := h.1; simp [okTag] at this; omega) (by have := h.1; simp [okTag] at this; omega)
    have : 0 ≤ (l - (bnd t).more) / (bnd t).each := Int.ediv_nonneg (by omega) (by omega)
    omega
  · omega
theorem fitsV_bd (limit : Int) (l : List Int) : 0 ≤ fitsV limit l ∧ fitsV limit l ≤ 262144 := by
  unfold fitsV
  suffices ∀ a : Int, 0 ≤ a → a ≤ 262144 → 0 ≤ l.foldl (fun a t => min a (mostV t limit)) a ∧ l.foldl (fun a t => min a (mostV t limit)) a ≤ 262144 from this _ (by omega) (by omega)
  induction l with
  | nil => intro a h1 h2; exact ⟨h1, h2⟩
  | cons x l ih =>
    intro a h1 h2
    have := mostV_bd x limit
    exact ih _ (by show 0 ≤ min a (mostV x limit); omega) (by show min a (mostV x limit) ≤ 262144; omega)

set_option maxHeartbeats 400000 in
theorem fits_any (limit : Int) (A : Option Addr) (c : Nat) (l : List Int) (w : World) (hT : Tabled w) (hl : limit ≤ 9223372036854775807) (hlen : l.length ≤ 140737488351232) (hcap : l.length ≤ c) (hr : RdI w A l) :
    Calls Tryd.prog 9 #[.int .i64 limit, .slice A l.length c] w fun e w' => e = .returned (.int .i64 (fitsV limit l)) ∧ Below w.heap.size w w' := by
  have HR : Hid (RdI w A l) := hr
  clear hr
  go_enter Tryd.func9, Tryd.ntmps9
  go_wp2
  go_loopw [5, 7, 8, 9, 12] (fun v5 v7 v8 v9 v12 wr => ∃ k : Nat, k ≤ l.length ∧ v12 = .int .i64 k ∧ v5 = .int .i64 (fitsV limit (l.take k)) ∧ Below w.heap.size w wr) (fun _ _ _ _ v12 _ => l.length - (intOf v12).toNat)
  case atStart => exact ⟨0, Nat.zero_le _, rfl, rfl, Below.refl _ _⟩
  case round =>
    obtain ⟨k, hk, rfl, rfl, hb⟩ := hrel
    have hTr := hT.below hb
    by_cases hlt : k < l.length
    · obtain ⟨ad, rfl, had, hcl⟩ := HR.out k hlt
      have hblk : (ad.add k).block = ad.block := by unfold Addr.add; split <;> rfl
      have hcl' := (hb.cell (p := ad.add k) (by rw [hblk]; exact had)).trans hcl
      have hbd := mostV_bd (l.getD k 0) limit
      have hsn := Lib.hid (fits_snoc limit l k hlt)
      clear hcl hblk
      generalize l.getD k 0 = tg at *
      go_wp2_with (go_at_call 8; refine (most_any tg limit _ hTr hl).mono ?_; rintro e w1 ⟨rfl, hb1⟩)
      all_goals
        go_roundw
        case rel => exact ⟨k + 1, by omega, by go_num, by rw [hsn.out]; first | rfl | (congr 1; omega), hb.trans (hb1.mono hb.size)⟩
        case measure => simp [intOf]; omega
    · obtain rfl : k = l.length := by omega
      go_wp2
      go_ret
      exact ⟨ret_int (by rw [List.take_length]), hb⟩

theorem clamp_any (n m : Int) (w : World) : Calls Tryd.prog 6 #[.int .i64 n, .int .i64 m] w fun e w' => e = .returned (.int .i64 (max (min n m) 0)) ∧ w = w' := by
  by_cases h1 : n ≤ m <;> by_cases h2 : 0 ≤ min n m
  all_goals
    go_enter Tryd.func6, Tryd.ntmps6
    go_wp2
    all_goals go_ret
    all_goals exact ⟨ret_int (by omega), rfl⟩

set_option maxHeartbeats 400000 in
theorem awake_any (w : World) (hT : Tabled w) : Calls Tryd.prog 5 #[] w fun e w' => e = .returned (.bool true) ∧ Below w.heap.size w w' := by
  have e1 : needV 4 10 = 110 := by decide
  have e2 : needE 4 10 = 0 := by decide
  have e3 : mostV 4 120 = 10 := by decide
  have e4 : mostE 4 120 = 0 := by decide
  have h1 : ∀ w, Tabled w → Calls Tryd.prog 7 #[.int .i64 4, .int .i64 10] w fun e w' => e = .returned (.tuple #[.int .i64 110, .int .i64 0]) ∧ Below w.heap.size w w' := by
    intro w hT
    have := need_any 4 10 w hT
    rw [e1, e2] at this; exact this
  have h2 : ∀ w, Tabled w → Calls Tryd.prog 8 #[.int .i64 4, .int .i64 120] w fun e w' => e = .returned (.tuple #[.int .i64 10, .int .i64 0]) ∧ Below w.heap.size w w' := by
    intro w hT
    have := most_any 4 120 w hT (by omega)
    rw [e3, e4] at this; exact this
  clear e1 e2 e3 e4
  have H1 := Lib.hid h1
  have H2 := Lib.hid h2
  clear h1 h2
  go_enter Tryd.func5, Tryd.ntmps5
  go_wp2_with (first | (go_at_call 7; refine (H1.out _ hT).mono ?_; rintro e w1 ⟨rfl, hb1⟩; have hT1 := hT.below hb1) | (go_at_call 8; refine (H2.out _ hT1).mono ?_; rintro e w2 ⟨rfl, hb2⟩))
  go_ret
  exact ⟨rfl, hb1.trans (hb2.mono hb1.size)⟩
end Go.Proofs.YtnlflpcioiieaaaDoor
