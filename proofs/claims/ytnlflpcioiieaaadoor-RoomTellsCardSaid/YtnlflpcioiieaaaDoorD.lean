/-
  The walk of the law RoomTells, over the contracts of package room.
-/
import Derived.Test.YtnlflpcioiieaaaDoorC
import Derived.Test.YtnlflpcioiieaaaDoorTake
import Derived.Test.YtnlflpcioiieaaaDoorT
import Derived.Test.YtnlflpcioiieaaaDoorOpen
namespace Go.Proofs.YtnlflpcioiieaaaDoor
set_option linter.unusedVariables false
set_option linter.unusedSimpArgs false
open Go.RowKit
attribute [local go_sem] gmax2_int gmin2_int gmax_two gmin_two

/-- the document's need -/
def rneedV (t n : Int) : Int := if 0 ≤ n ∧ n ≤ 262144 ∧ okTag t = true then needV t n else -1

set_option maxHeartbeats 400000 in
theorem rneed_any (t n : Int) (w : World) :
    Calls Tryd.prog 10 #[.int .i64 t, .int .i64 n] w fun e w' => e = .returned (.int .i64 (rneedV t n)) ∧ w = w' := by
  by_cases h1 : n < 0 ∨ 262144 < n
  · have hv : rneedV t n = -1 := by rw [rneedV, if_neg (by omega)]
    have HV := Lib.hid hv
    clear hv
    rcases h1 with h1 | h1
    · go_enter Tryd.func10, Tryd.ntmps10
      go_wp2
      go_ret
      exact ⟨ret_int (by rw [HV.out]), rfl⟩
    · have h1' : ¬ n < 0 := by omega
      go_enter Tryd.func10, Tryd.ntmps10
      go_wp2
      go_ret
      exact ⟨ret_int (by rw [HV.out]), rfl⟩
  · have n0 : 0 ≤ n := by omega
    have n1 : n ≤ 262144 := by omega
    by_cases ht : t < 1 ∨ 5 < t
    · have hk : okTag t = false := by simp [okTag]; omega
      have hv : rneedV t n = -1 := by rw [rneedV, hk, if_neg (by simp)]
      have HV := Lib.hid hv
      clear hv hk
      have b1 : (t == 1) = false := by simp; omega
      have b2 : (t == 2) = false := by simp; omega
      have b3 : (t == 3) = false := by simp; omega
      have b4 : (t == 4) = false := by simp; omega
      have b5 : (t == 5) = false := by simp; omega
      rcases ht with ht | ht
      · by_cases hz : n = 0
        · subst hz
          go_enter Tryd.func10, Tryd.ntmps10
          go_wp2
          go_ret
          exact ⟨ret_int (by rw [HV.out]), rfl⟩
        · have hz0 : (n == 0) = false := by simpa using hz
          go_enter Tryd.func10, Tryd.ntmps10
          go_wp2
          go_ret
          exact ⟨ret_int (by rw [HV.out]), rfl⟩
      · by_cases hz : n = 0
        · subst hz
          have ht1 : 1 ≤ t := by omega
          go_enter Tryd.func10, Tryd.ntmps10
          go_wp2
          go_ret
          exact ⟨ret_int (by rw [HV.out]), rfl⟩
        · have hz0 : (n == 0) = false := by simpa using hz
          go_enter Tryd.func10, Tryd.ntmps10
          go_wp2
          go_ret
          exact ⟨ret_int (by rw [HV.out]), rfl⟩
    · have hk : okTag t = true := by simp [okTag]; omega
      have hv : rneedV t n = needV t n := by rw [rneedV, if_pos ⟨n0, n1, hk⟩]
      have h5 : t = 1 ∨ t = 2 ∨ t = 3 ∨ t = 4 ∨ t = 5 := by omega
      by_cases hz : n = 0
      · subst hz
        have hv0 : rneedV t 0 = 0 := by rw [hv, needV, if_neg (by omega)]
        have HV := Lib.hid hv0
        clear hv hv0 hk h5
        have q1 : 1 ≤ t := by omega
        have q2 : t ≤ 5 := by omega
        go_enter Tryd.func10, Tryd.ntmps10
        go_wp2
        go_ret
        exact ⟨ret_int (by rw [HV.out]), rfl⟩
      · have hz0 : (n == 0) = false := by simpa using hz
        have HV : Hid (rneedV t n = (bnd t).each * n + (bnd t).more) := by show _ = _; rw [hv, needV, if_pos ⟨hk, by omega, n1⟩]
        clear hv hk ht
        rcases h5 with rfl | rfl | rfl | rfl | rfl
        all_goals
          go_enter Tryd.func10, Tryd.ntmps10
          go_wp2
          go_ret
          exact ⟨ret_int (by rw [HV.out]; simp [bnd]), rfl⟩

theorem rneed_gen (t n : Int) (w : World) :
    Calls Tryd.prog 10 #[.int .i64 t, .int .i64 n] w fun e w' => ∃ v : Int, e = .returned (.int .i64 v) ∧ Hid (v = rneedV t n) ∧ w = w' :=
  (rneed_any t n w).mono fun _ _ ⟨he, hw⟩ => ⟨_, he, rfl, hw⟩
theorem steps_gen (t : Int) (w : World) (hT : Tabled w) :
    Calls Tryd.prog 12 #[.int .i64 t] w fun e w' => ∃ p q s : Int, e = .returned (.tuple #[.int .i64 p, .int .i64 q, .int .i64 s]) ∧ Hid (p = (bndOf t).has ∧ q = (bndOf t).near ∧ s = (bndOf t).end_) ∧ Below w.heap.size w w' :=
  (steps_any t w hT).mono fun _ _ ⟨he, hw⟩ => ⟨_, _, _, he, ⟨rfl, rfl, rfl⟩, hw⟩
theorem depth_gen (t : Int) (w : World) (hT : Tabled w) :
    Calls Tryd.prog 13 #[.int .i64 t] w fun e w' => ∃ p : Int, e = .returned (.int .i64 p) ∧ Hid (p = (bndOf t).depth) ∧ Below w.heap.size w w' :=
  (depth_any t w hT).mono fun _ _ ⟨he, hw⟩ => ⟨_, he, rfl, hw⟩
theorem rdI_of (w : World) (A : Option Addr) (l : List Int) (h : Rd .i64 w A l) : RdI w A l := h
theorem bndOf_pos {t : Int} (h1 : 1 ≤ t) (h5 : t ≤ 5) : 0 < (bndOf t).has ∧ 0 < (bndOf t).near ∧ 0 < (bndOf t).end_ ∧ 0 < (bndOf t).depth := by
  have h : t = 1 ∨ t = 2 ∨ t = 3 ∨ t = 4 ∨ t = 5 := by omega
  rcases h with rfl | rfl | rfl | rfl | rfl <;> decide
theorem bndOf_zero {t : Int} (h : t < 1 ∨ 5 < t) : bndOf t = Bnd.zero := by
  rw [bndOf, if_neg]; simp [okTag]; omega
/-- the document's and the program's need are the same -/
theorem need_rneed {t n : Int} (hk : okTag t = true) (h0 : 0 ≤ n) (h1 : n ≤ 262144) : needE t n = 0 ∧ rneedV t n = needV t n ∧ 0 ≤ needV t n := by
  refine ⟨by rw [needE, if_pos ⟨hk, h0, h1⟩], by rw [rneedV, if_pos ⟨h0, h1, hk⟩], ?_⟩
  have := need_mono (t := t) (x := 0) (y := n) (by omega) h0 h1
  rw [show needV t 0 = 0 from by rw [needV, if_neg (by omega)]] at this
  exact this
theorem need_bad {t n : Int} (h : ¬ (okTag t = true ∧ 0 ≤ n ∧ n ≤ 262144)) : needE t n = 1 ∧ needV t n = 0 ∧ rneedV t n = -1 := by
  refine ⟨by rw [needE, if_neg h], by rw [needV, if_neg (fun g => h ⟨g.1, by omega, g.2.2⟩)], by rw [rneedV, if_neg (fun g => h ⟨g.2.2, g.1, g.2.1⟩)]⟩
/-- one key more than a limit is enough for needs more -/
theorem most_next {t l : Int} (hk : okTag t = true) (h0 : 0 ≤ l) (h : mostV t l < 262144) : l < needV t (mostV t l + 1) := by
  obtain ⟨g1, g2, g3, g4⟩ := bnd_bd t
  have gp := bnd_pos t (by simp [okTag] at hk; omega) (by simp [okTag] at hk; omega)
  have hm := (mostV_bd t l).1
  rw [needV, if_pos ⟨hk, by omega, by omega⟩]
  by_cases hl : okTag t = true ∧ (bnd t).each + (bnd t).more ≤ l
  · have e : mostV t l = (l - (bnd t).more) / (bnd t).each := by
      rw [mostV, if_pos hl] at h ⊢; omega
    have d := Int.lt_mul_ediv_self_add (x := l - (bnd t).more) (k := (bnd t).each) (by omega)
    rw [e, Int.mul_add]
    omega
  · have : mostV t l = 0 := by rw [mostV, if_neg hl]
    have hl' : ¬ (bnd t).each + (bnd t).more ≤ l := fun g => hl ⟨hk, g⟩
    rw [this]
    omega

set_option maxHeartbeats 4000000 in
set_option maxRecDepth 100000 in
theorem tells (t n l : Int) (A : Option Addr) (c : Nat) (tags : List Int) (w : World) (hT : Tabled w) (hl : l ≤ 9223372036854775807) (hlen : tags.length * 8 ≤ 140737488351232) (hr : Rd .i64 w A tags) :
    Calls Tryd.prog 4 #[.int .i64 t, .int .i64 n, .int .i64 l, .slice A tags.length c] w fun e w' => e = .returned (.bool true) ∧ Below w.heap.size w w' := by
  have HR := Lib.hid hr
  clear hr
  go_enter Tryd.func4, Tryd.ntmps4
  go_wp2_with fail
  refine (awake_any _ hT).mono ?_
  rintro e w1 ⟨rfl, hb1⟩
  have hT1 := hT.below hb1
  go_wp2_with fail
  refine (need_gen _ _ _ hT1).mono ?_
  rintro e w2 ⟨va, ea, rfl, Ha, hb2⟩
  have hT2 := hT1.below hb2
  have hb2' := hb1.trans (hb2.mono hb1.size)
  go_wp2_with fail
  refine (rneed_gen _ _ _).mono ?_
  rintro e w3 ⟨vw, rfl, Hw, rfl⟩
  have cases5 : (t < 1 ∨ 5 < t) ∨ (1 ≤ t ∧ t ≤ 5) := by omega
  -- the first test: needs are the document's
  have first : (ea = 0 ∧ vw = va ∧ 0 ≤ va) ∨ (ea = 1 ∧ va = 0 ∧ vw = -1) := by
    by_cases h : okTag t = true ∧ 0 ≤ n ∧ n ≤ 262144
    · obtain ⟨x1, x2, x3⟩ := need_rneed h.1 h.2.1 h.2.2
      exact .inl ⟨by rw [Ha.out.2, x1], by rw [Hw.out, Ha.out.1, x2], by rw [Ha.out.1]; exact x3⟩
    · obtain ⟨x1, x2, x3⟩ := need_bad h
      exact .inr ⟨by rw [Ha.out.2, x1], by rw [Ha.out.1, x2], by rw [Hw.out, x3]⟩
  clear Ha Hw
  rcases first with ⟨rfl, rfl, hva⟩ | ⟨rfl, rfl, rfl⟩
  all_goals
    go_wp2_with fail
    refine (most_gen _ _ _ hT2 hl).mono ?_
    rintro e w4 ⟨vb, fb, rfl, Hb, hb4⟩
    have hT4 := hT2.below hb4
    have hb4' := hb2'.trans (hb4.mono hb2'.size)
    rcases cases5 with ht | ⟨ht1, ht5⟩
    · have hk : okTag t = false := by simp [okTag]; omega
      obtain rfl : fb = 1 := by rw [Hb.out.2, mostE, if_neg (by rw [hk]; simp)]
      obtain rfl : vb = 0 := by rw [Hb.out.1, mostV, if_neg (by rw [hk]; simp)]
      clear hk Hb
      rcases ht with ht | ht
      · go_wp2_with fail
        refine (ints_any A c tags 9 _ hlen (HR.out.below (Below.mono hb4' (Nat.le_refl _))) (by omega)).mono ?_
        rintro e w5 ⟨v, rfl, ho, hb5⟩
        have hT5 := hT4.below hb5
        have hb5' := hb4'.trans (hb5.mono hb4'.size)
        have htl : (tags.take (9 : Int).toNat).length ≤ 9 := by simp; omega
        obtain ⟨A', c', rfl, hc', hm', hr'⟩ := ho.form
        generalize tags.take (9 : Int).toNat = tl at *
        have HR' := Lib.hid (rdI_of _ _ _ hr')
        clear hr' ho
        go_wp2_with fail
        go_loopw [15, 17, 18, 19, 121] (fun v15 v17 v18 v19 v121 wr => ∃ k : Nat, k ≤ tl.length ∧ v121 = .int .i64 k ∧ v15 = .int .i64 (fitsV l (tl.take k)) ∧ Below w5.heap.size w5 wr) (fun _ _ _ _ v121 _ => tl.length - (intOf v121).toNat)
        case atStart => exact ⟨0, Nat.zero_le _, rfl, rfl, Below.refl _ _⟩
        case round =>
          obtain ⟨k, hk, rfl, rfl, hb⟩ := hrel
          have hTr := hT5.below hb
          by_cases hlt : k < tl.length
          · obtain ⟨ad, rfl, had, hcl⟩ := HR'.out k hlt
            have hblk : (ad.add k).block = ad.block := block_of_add _ _
            have hcl' := (hb.cell (p := ad.add k) (by rw [hblk]; exact had)).trans hcl
            have hbd := mostV_bd (tl.getD k 0) l
            have hsn := Lib.hid (fits_snoc l tl k hlt)
            clear hcl hblk
            generalize tl.getD k 0 = tg at *
            go_wp2_with (go_at_call 8; refine (most_any tg l _ hTr hl).mono ?_; rintro e w6 ⟨rfl, hb6⟩)
            all_goals
              go_roundw
              case rel => exact ⟨k + 1, by omega, by go_num, by rw [hsn.out]; first | rfl | (congr 1; omega), hb.trans (hb6.mono hb.size)⟩
              case measure => simp [intOf]; omega
          · obtain rfl : k = tl.length := by omega
            have hbr := hb5'.trans (hb.mono hb5'.size)
            go_wp2_with fail
            refine (steps_gen _ _ hTr).mono ?_
            rintro e w6 ⟨p, q, s, rfl, Hs, hb6⟩
            have hT6 := hTr.below hb6
            have hb6' := hbr.trans (hb6.mono hbr.size)
            have bz := bndOf_zero (t := t) (by omega)
            obtain rfl : p = 0 := by rw [Hs.out.1, bz]; rfl
            obtain rfl : q = 0 := by rw [Hs.out.2.1, bz]; rfl
            obtain rfl : s = 0 := by rw [Hs.out.2.2, bz]; rfl
            clear bz
            go_wp2_with fail
            refine (fits_gen _ _ _ tl _ hT6 hl (by omega) hc' (HR'.out.below ((hb.trans (hb6.mono hb.size)).mono (Nat.le_refl _)))).mono ?_
            rintro e w7 ⟨vf, rfl, Hf, hb7⟩
            have hT7 := hT6.below hb7
            have hb7' := hb6'.trans (hb7.mono hb6'.size)
            have hff := Hf.out
            rw [← List.take_length (l := tl)] at hff
            generalize fitsV l (tl.take tl.length) = fv at *
            subst hff
            go_wp2_with fail
            refine (depth_gen _ _ hT7).mono ?_
            rintro e w8 ⟨dp, rfl, Hd, hb8⟩
            obtain rfl : dp = 0 := by rw [Hd.out, bndOf_zero (t := t) (by omega)]; rfl
            go_wp2
            go_ret
            exact ⟨by first | rfl | exact ret_bool (by simp; omega), hb7'.trans (hb8.mono hb7'.size)⟩
      · have ht1 : 1 ≤ t := by omega
        go_wp2_with fail
        refine (ints_any A c tags 9 _ hlen (HR.out.below (Below.mono hb4' (Nat.le_refl _))) (by omega)).mono ?_
        rintro e w5 ⟨v, rfl, ho, hb5⟩
        have hT5 := hT4.below hb5
        have hb5' := hb4'.trans (hb5.mono hb4'.size)
        have htl : (tags.take (9 : Int).toNat).length ≤ 9 := by simp; omega
        obtain ⟨A', c', rfl, hc', hm', hr'⟩ := ho.form
        generalize tags.take (9 : Int).toNat = tl at *
        have HR' := Lib.hid (rdI_of _ _ _ hr')
        clear hr' ho
        go_wp2_with fail
        go_loopw [15, 17, 18, 19, 121] (fun v15 v17 v18 v19 v121 wr => ∃ k : Nat, k ≤ tl.length ∧ v121 = .int .i64 k ∧ v15 = .int .i64 (fitsV l (tl.take k)) ∧ Below w5.heap.size w5 wr) (fun _ _ _ _ v121 _ => tl.length - (intOf v121).toNat)
        case atStart => exact ⟨0, Nat.zero_le _, rfl, rfl, Below.refl _ _⟩
        case round =>
          obtain ⟨k, hk, rfl, rfl, hb⟩ := hrel
          have hTr := hT5.below hb
          by_cases hlt : k < tl.length
          · obtain ⟨ad, rfl, had, hcl⟩ := HR'.out k hlt
            have hblk : (ad.add k).block = ad.block := block_of_add _ _
            have hcl' := (hb.cell (p := ad.add k) (by rw [hblk]; exact had)).trans hcl
            have hbd := mostV_bd (tl.getD k 0) l
            have hsn := Lib.hid (fits_snoc l tl k hlt)
            clear hcl hblk
            generalize tl.getD k 0 = tg at *
            go_wp2_with (go_at_call 8; refine (most_any tg l _ hTr hl).mono ?_; rintro e w6 ⟨rfl, hb6⟩)
            all_goals
              go_roundw
              case rel => exact ⟨k + 1, by omega, by go_num, by rw [hsn.out]; first | rfl | (congr 1; omega), hb.trans (hb6.mono hb.size)⟩
              case measure => simp [intOf]; omega
          · obtain rfl : k = tl.length := by omega
            have hbr := hb5'.trans (hb.mono hb5'.size)
            go_wp2_with fail
            refine (steps_gen _ _ hTr).mono ?_
            rintro e w6 ⟨p, q, s, rfl, Hs, hb6⟩
            have hT6 := hTr.below hb6
            have hb6' := hbr.trans (hb6.mono hbr.size)
            have bz := bndOf_zero (t := t) (by omega)
            obtain rfl : p = 0 := by rw [Hs.out.1, bz]; rfl
            obtain rfl : q = 0 := by rw [Hs.out.2.1, bz]; rfl
            obtain rfl : s = 0 := by rw [Hs.out.2.2, bz]; rfl
            clear bz
            go_wp2_with fail
            refine (fits_gen _ _ _ tl _ hT6 hl (by omega) hc' (HR'.out.below ((hb.trans (hb6.mono hb.size)).mono (Nat.le_refl _)))).mono ?_
            rintro e w7 ⟨vf, rfl, Hf, hb7⟩
            have hT7 := hT6.below hb7
            have hb7' := hb6'.trans (hb7.mono hb6'.size)
            have hff := Hf.out
            rw [← List.take_length (l := tl)] at hff
            generalize fitsV l (tl.take tl.length) = fv at *
            subst hff
            go_wp2_with fail
            refine (depth_gen _ _ hT7).mono ?_
            rintro e w8 ⟨dp, rfl, Hd, hb8⟩
            obtain rfl : dp = 0 := by rw [Hd.out, bndOf_zero (t := t) (by omega)]; rfl
            go_wp2
            go_ret
            exact ⟨by first | rfl | exact ret_bool (by simp; omega), hb7'.trans (hb8.mono hb7'.size)⟩
    · have hk : okTag t = true := by simp [okTag]; omega
      by_cases hl0 : l < 0
      · obtain rfl : fb = 1 := by rw [Hb.out.2, mostE, if_neg (by omega)]
        obtain rfl : vb = 0 := by
          rw [Hb.out.1, mostV, if_neg]
          have := bnd_bd t
          omega
        clear hk Hb
        go_wp2_with fail
        refine (ints_any A c tags 9 _ hlen (HR.out.below (Below.mono hb4' (Nat.le_refl _))) (by omega)).mono ?_
        rintro e w5 ⟨v, rfl, ho, hb5⟩
        have hT5 := hT4.below hb5
        have hb5' := hb4'.trans (hb5.mono hb4'.size)
        have htl : (tags.take (9 : Int).toNat).length ≤ 9 := by simp; omega
        obtain ⟨A', c', rfl, hc', hm', hr'⟩ := ho.form
        generalize tags.take (9 : Int).toNat = tl at *
        have HR' := Lib.hid (rdI_of _ _ _ hr')
        clear hr' ho
        go_wp2_with fail
        go_loopw [15, 17, 18, 19, 121] (fun v15 v17 v18 v19 v121 wr => ∃ k : Nat, k ≤ tl.length ∧ v121 = .int .i64 k ∧ v15 = .int .i64 (fitsV l (tl.take k)) ∧ Below w5.heap.size w5 wr) (fun _ _ _ _ v121 _ => tl.length - (intOf v121).toNat)
        case atStart => exact ⟨0, Nat.zero_le _, rfl, rfl, Below.refl _ _⟩
        case round =>
          obtain ⟨k, hk, rfl, rfl, hb⟩ := hrel
          have hTr := hT5.below hb
          by_cases hlt : k < tl.length
          · obtain ⟨ad, rfl, had, hcl⟩ := HR'.out k hlt
            have hblk : (ad.add k).block = ad.block := block_of_add _ _
            have hcl' := (hb.cell (p := ad.add k) (by rw [hblk]; exact had)).trans hcl
            have hbd := mostV_bd (tl.getD k 0) l
            have hsn := Lib.hid (fits_snoc l tl k hlt)
            clear hcl hblk
            generalize tl.getD k 0 = tg at *
            go_wp2_with (go_at_call 8; refine (most_any tg l _ hTr hl).mono ?_; rintro e w6 ⟨rfl, hb6⟩)
            all_goals
              go_roundw
              case rel => exact ⟨k + 1, by omega, by go_num, by rw [hsn.out]; first | rfl | (congr 1; omega), hb.trans (hb6.mono hb.size)⟩
              case measure => simp [intOf]; omega
          · obtain rfl : k = tl.length := by omega
            have hbr := hb5'.trans (hb.mono hb5'.size)
            go_wp2_with fail
            refine (steps_gen _ _ hTr).mono ?_
            rintro e w6 ⟨p, q, s, rfl, Hs, hb6⟩
            have hT6 := hTr.below hb6
            have hb6' := hbr.trans (hb6.mono hbr.size)
            obtain ⟨bp1, bp2, bp3, bp4⟩ := bndOf_pos ht1 ht5
            have fp : 0 < p := by rw [Hs.out.1]; exact bp1
            have fq : 0 < q := by rw [Hs.out.2.1]; exact bp2
            have fs : 0 < s := by rw [Hs.out.2.2]; exact bp3
            clear bp1 bp2 bp3
            go_wp2_with fail
            refine (fits_gen _ _ _ tl _ hT6 hl (by omega) hc' (HR'.out.below ((hb.trans (hb6.mono hb.size)).mono (Nat.le_refl _)))).mono ?_
            rintro e w7 ⟨vf, rfl, Hf, hb7⟩
            have hT7 := hT6.below hb7
            have hb7' := hb6'.trans (hb7.mono hb6'.size)
            have hff := Hf.out
            rw [← List.take_length (l := tl)] at hff
            generalize fitsV l (tl.take tl.length) = fv at *
            subst hff
            go_wp2_with fail
            refine (depth_gen _ _ hT7).mono ?_
            rintro e w8 ⟨dp, rfl, Hd, hb8⟩
            have fd : 0 < dp := by rw [Hd.out]; exact bp4
            go_wp2
            go_ret
            exact ⟨by first | rfl | exact ret_bool (by simp; omega), hb7'.trans (hb8.mono hb7'.size)⟩
      · obtain rfl : fb = 0 := by rw [Hb.out.2, mostE, if_pos ⟨hk, by omega⟩]
        have hbd := mostV_bd t l
        rw [← Hb.out.1] at hbd
        obtain ⟨hvb0, hvb1⟩ := hbd
        have hmost : needV t vb ≤ l := by rw [Hb.out.1]; exact need_most (by omega)
        have hmost' : rneedV t vb = needV t vb := by rw [rneedV, if_pos ⟨hvb0, hvb1, hk⟩]
        have HM := Lib.hid (show rneedV t vb ≤ l by rw [hmost']; exact hmost)
        clear hmost hmost'
        by_cases hmx : vb < 262144
        · have hnext := most_next hk (show 0 ≤ l by omega) (by rw [← Hb.out.1]; exact hmx)
          rw [← Hb.out.1] at hnext
          have hnext' : rneedV t (vb + 1) = needV t (vb + 1) := by rw [rneedV, if_pos ⟨by omega, by omega, hk⟩]
          have HN := Lib.hid (show l < rneedV t (vb + 1) by rw [hnext']; exact hnext)
          clear hnext hnext' hk Hb
          go_wp2_with fail
          refine (rneed_gen _ _ _).mono ?_
          rintro e w3 ⟨vx, rfl, Hx, rfl⟩
          have fx : vx ≤ l := by rw [Hx.out]; exact HM.out
          go_wp2_with fail
          refine (rneed_gen _ _ _).mono ?_
          rintro e w3 ⟨vy, rfl, Hy, rfl⟩
          have fy : l < vy := by rw [Hy.out]; exact HN.out
          go_wp2_with fail
          refine (ints_any A c tags 9 _ hlen (HR.out.below (Below.mono hb4' (Nat.le_refl _))) (by omega)).mono ?_
          rintro e w5 ⟨v, rfl, ho, hb5⟩
          have hT5 := hT4.below hb5
          have hb5' := hb4'.trans (hb5.mono hb4'.size)
          have htl : (tags.take (9 : Int).toNat).length ≤ 9 := by simp; omega
          obtain ⟨A', c', rfl, hc', hm', hr'⟩ := ho.form
          generalize tags.take (9 : Int).toNat = tl at *
          have HR' := Lib.hid (rdI_of _ _ _ hr')
          clear hr' ho
          go_wp2_with fail
          go_loopw [15, 17, 18, 19, 121] (fun v15 v17 v18 v19 v121 wr => ∃ k : Nat, k ≤ tl.length ∧ v121 = .int .i64 k ∧ v15 = .int .i64 (fitsV l (tl.take k)) ∧ Below w5.heap.size w5 wr) (fun _ _ _ _ v121 _ => tl.length - (intOf v121).toNat)
          case atStart => exact ⟨0, Nat.zero_le _, rfl, rfl, Below.refl _ _⟩
          case round =>
            obtain ⟨k, hk, rfl, rfl, hb⟩ := hrel
            have hTr := hT5.below hb
            by_cases hlt : k < tl.length
            · obtain ⟨ad, rfl, had, hcl⟩ := HR'.out k hlt
              have hblk : (ad.add k).block = ad.block := block_of_add _ _
              have hcl' := (hb.cell (p := ad.add k) (by rw [hblk]; exact had)).trans hcl
              have hbd := mostV_bd (tl.getD k 0) l
              have hsn := Lib.hid (fits_snoc l tl k hlt)
              clear hcl hblk
              generalize tl.getD k 0 = tg at *
              go_wp2_with (go_at_call 8; refine (most_any tg l _ hTr hl).mono ?_; rintro e w6 ⟨rfl, hb6⟩)
              all_goals
                go_roundw
                case rel => exact ⟨k + 1, by omega, by go_num, by rw [hsn.out]; first | rfl | (congr 1; omega), hb.trans (hb6.mono hb.size)⟩
                case measure => simp [intOf]; omega
            · obtain rfl : k = tl.length := by omega
              have hbr := hb5'.trans (hb.mono hb5'.size)
              go_wp2_with fail
              refine (steps_gen _ _ hTr).mono ?_
              rintro e w6 ⟨p, q, s, rfl, Hs, hb6⟩
              have hT6 := hTr.below hb6
              have hb6' := hbr.trans (hb6.mono hbr.size)
              obtain ⟨bp1, bp2, bp3, bp4⟩ := bndOf_pos ht1 ht5
              have fp : 0 < p := by rw [Hs.out.1]; exact bp1
              have fq : 0 < q := by rw [Hs.out.2.1]; exact bp2
              have fs : 0 < s := by rw [Hs.out.2.2]; exact bp3
              clear bp1 bp2 bp3
              go_wp2_with fail
              refine (fits_gen _ _ _ tl _ hT6 hl (by omega) hc' (HR'.out.below ((hb.trans (hb6.mono hb.size)).mono (Nat.le_refl _)))).mono ?_
              rintro e w7 ⟨vf, rfl, Hf, hb7⟩
              have hT7 := hT6.below hb7
              have hb7' := hb6'.trans (hb7.mono hb6'.size)
              have hff := Hf.out
              rw [← List.take_length (l := tl)] at hff
              generalize fitsV l (tl.take tl.length) = fv at *
              subst hff
              go_wp2_with fail
              refine (depth_gen _ _ hT7).mono ?_
              rintro e w8 ⟨dp, rfl, Hd, hb8⟩
              have fd : 0 < dp := by rw [Hd.out]; exact bp4
              go_wp2
              go_ret
              exact ⟨by first | rfl | exact ret_bool (by simp; omega), hb7'.trans (hb8.mono hb7'.size)⟩
        · clear hk Hb
          go_wp2_with fail
          refine (rneed_gen _ _ _).mono ?_
          rintro e w3 ⟨vx, rfl, Hx, rfl⟩
          have fx : vx ≤ l := by rw [Hx.out]; exact HM.out
          go_wp2_with fail
          refine (ints_any A c tags 9 _ hlen (HR.out.below (Below.mono hb4' (Nat.le_refl _))) (by omega)).mono ?_
          rintro e w5 ⟨v, rfl, ho, hb5⟩
          have hT5 := hT4.below hb5
          have hb5' := hb4'.trans (hb5.mono hb4'.size)
          have htl : (tags.take (9 : Int).toNat).length ≤ 9 := by simp; omega
          obtain ⟨A', c', rfl, hc', hm', hr'⟩ := ho.form
          generalize tags.take (9 : Int).toNat = tl at *
          have HR' := Lib.hid (rdI_of _ _ _ hr')
          clear hr' ho
          go_wp2_with fail
          go_loopw [15, 17, 18, 19, 121] (fun v15 v17 v18 v19 v121 wr => ∃ k : Nat, k ≤ tl.length ∧ v121 = .int .i64 k ∧ v15 = .int .i64 (fitsV l (tl.take k)) ∧ Below w5.heap.size w5 wr) (fun _ _ _ _ v121 _ => tl.length - (intOf v121).toNat)
          case atStart => exact ⟨0, Nat.zero_le _, rfl, rfl, Below.refl _ _⟩
          case round =>
            obtain ⟨k, hk, rfl, rfl, hb⟩ := hrel
            have hTr := hT5.below hb
            by_cases hlt : k < tl.length
            · obtain ⟨ad, rfl, had, hcl⟩ := HR'.out k hlt
              have hblk : (ad.add k).block = ad.block := block_of_add _ _
              have hcl' := (hb.cell (p := ad.add k) (by rw [hblk]; exact had)).trans hcl
              have hbd := mostV_bd (tl.getD k 0) l
              have hsn := Lib.hid (fits_snoc l tl k hlt)
              clear hcl hblk
              generalize tl.getD k 0 = tg at *
              go_wp2_with (go_at_call 8; refine (most_any tg l _ hTr hl).mono ?_; rintro e w6 ⟨rfl, hb6⟩)
              all_goals
                go_roundw
                case rel => exact ⟨k + 1, by omega, by go_num, by rw [hsn.out]; first | rfl | (congr 1; omega), hb.trans (hb6.mono hb.size)⟩
                case measure => simp [intOf]; omega
            · obtain rfl : k = tl.length := by omega
              have hbr := hb5'.trans (hb.mono hb5'.size)
              go_wp2_with fail
              refine (steps_gen _ _ hTr).mono ?_
              rintro e w6 ⟨p, q, s, rfl, Hs, hb6⟩
              have hT6 := hTr.below hb6
              have hb6' := hbr.trans (hb6.mono hbr.size)
              obtain ⟨bp1, bp2, bp3, bp4⟩ := bndOf_pos ht1 ht5
              have fp : 0 < p := by rw [Hs.out.1]; exact bp1
              have fq : 0 < q := by rw [Hs.out.2.1]; exact bp2
              have fs : 0 < s := by rw [Hs.out.2.2]; exact bp3
              clear bp1 bp2 bp3
              go_wp2_with fail
              refine (fits_gen _ _ _ tl _ hT6 hl (by omega) hc' (HR'.out.below ((hb.trans (hb6.mono hb.size)).mono (Nat.le_refl _)))).mono ?_
              rintro e w7 ⟨vf, rfl, Hf, hb7⟩
              have hT7 := hT6.below hb7
              have hb7' := hb6'.trans (hb7.mono hb6'.size)
              have hff := Hf.out
              rw [← List.take_length (l := tl)] at hff
              generalize fitsV l (tl.take tl.length) = fv at *
              subst hff
              go_wp2_with fail
              refine (depth_gen _ _ hT7).mono ?_
              rintro e w8 ⟨dp, rfl, Hd, hb8⟩
              have fd : 0 < dp := by rw [Hd.out]; exact bp4
              go_wp2
              go_ret
              exact ⟨by first | rfl | exact ret_bool (by simp; omega), hb7'.trans (hb8.mono hb7'.size)⟩
theorem walk_roomTells (t n l : Int) (A : Option Addr) (c : Nat) (tags : List Int) (W : World) (w0 : (Lit.int .i64 t).wf = true) (w1 : (Lit.int .i64 n).wf = true) (w2 : (Lit.int .i64 l).wf = true)
    (hs : tags.length * 8 ≤ 140737488351232) (hc : tags.length ≤ c) (hr : Rd .i64 W A tags) (hw : ∀ x ∈ tags, (Lit.int .i64 x).wf = true) (hL : laidMetH Tryd.prog Rows.roomRisesRow.laid W) :
    Calls Tryd.prog 4 #[.int .i64 t, .int .i64 n, .int .i64 l, .slice A tags.length c] W fun e w' => e = .returned (.bool true) ∧ Below W.heap.size W w' :=
  tells t n l A c tags W (tabled hL) (wf_i64 w2).2 hs hr
end Go.Proofs.YtnlflpcioiieaaaDoor
