/-
  The walk of the law CodePrefixes.
-/
import Derived.Test.YtnlflpcioiieaaaAwake19
import Derived.Test.YtnlflpcioiieaaaCanon
import Derived.Test.YtnlflpcioiieaaaPrefLaw
import Derived.Test.YtnlflpcioiieaaaOpenP
namespace Go.Proofs.Ytnlflpcioiieaaa
set_option linter.unusedVariables false
set_option linter.unusedSimpArgs false
open Go.RowKit

set_option maxHeartbeats 4000000 in
set_option maxRecDepth 100000 in
theorem pref_walk (A1 : Option Addr) (c1 : Nat) (l : List (Int × Int)) (values : Bool) (cut : Nat) (more : Int) (W : World) (hs1 : l.length ≤ 8796093022202) (hr1 : RdP W A1 l) (hU1 : U64P l) (hcut : cut < 65536) (hm0 : 0 ≤ more ∧ more < 256) :
    Calls Try.prog 7 #[.slice A1 l.length c1, .bool values, .int .u16 cut, .int .u8 more] W fun e W' => e = .returned (.bool true) ∧ Below W.heap.size W W' := by
  obtain ⟨i0, hi, hz0, hz1, hz2⟩ := info_parts words_info
  obtain ⟨j0, ji, jz0, jz1, jz2⟩ := info_parts u8_info
  obtain ⟨p0, pi, pz0, pz1, pz2⟩ := info_parts pair_info
  have HR1 := Lib.hid hr1
  have HU1 := Lib.hid hU1
  clear hr1 hU1
  go_enter Try.func7, Try.ntmps7
  go_wp2_with fail
  refine (awake19_any _).mono ?_
  rintro e w1 ⟨rfl, hb1⟩
  go_wp2_with fail
  have RP := Lib.hid (HR1.out.below hb1)
  clear HR1
  go_loopw [10, 29] (fun v10 v29 wr => ∃ (k : Nat) (ks : List Int) (RA : Option Addr) (rc : Nat), k ≤ l.length ∧ v29 = .int .i64 k ∧ v10 = .slice RA ks.length rc ∧ Hid (Rd .u64 wr RA ks) ∧ ks.length ≤ rc ∧ Hid (Rise ks) ∧ Hid (U64 ks) ∧ ks.length ≤ k ∧ ks.length ≤ 30 ∧ (30 ≤ k ∨ True) ∧ Hid (k < 30 → ks.length ≤ k) ∧ Below w1.heap.size w1 wr) (fun _ v29 _ => l.length - (intOf v29).toNat)
  case atStart => exact ⟨0, [], none, 0, Nat.zero_le _, rfl, rfl, Rd.nil _ _ _, Nat.zero_le _, trivial, (fun x hx => absurd hx (by simp)), Nat.zero_le _, Nat.zero_le _, .inr trivial, fun _ => Nat.zero_le _, Below.refl _ _⟩
  case round =>
    obtain ⟨k, ks, RA, rc, hk, rfl, rfl, HRK, hkc, HRI, HUK, hkk, hk30, _, _, hb⟩ := hrel
    by_cases hlt : k < l.length
    · obtain ⟨ad, rfl, had, hk0, hv0⟩ := RP.out k hlt
      have hk0' := (hb.cell (p := ad.add (k * 2)) (by rw [block_of_add]; exact had)).trans hk0
      have hv0' := (hb.cell (p := ad.add (k * 2 + 1)) (by rw [block_of_add]; exact had)).trans hv0
      rw [pair_addr] at hv0'
      have hxu := HU1.out.at_ hlt
      have HXU := Lib.hid hxu
      have hsz := hb.size
      clear hk0 hv0 hxu
      generalize l.getD k (0, 0) = x at *
      obtain ⟨x0, x1⟩ := x
      have hba := hb.alloc hsz (.cells #[.int .u64 x0, .int .u64 x1] 43)
      have HRK2 := Lib.hid (HRK.out.below ((Below.refl wr.heap.size wr).alloc (Nat.le_refl _) (.cells #[.int .u64 x0, .int .u64 x1] 43)))
      by_cases h30 : k < 30
      · have h30i : (k : Int) < 30 := by omega
        go_wp2_with fail
        refine (add_any RA rc ks x0 _ HRK2.out (by omega) hkc).mono ?_
        rintro e w2 ⟨B2, m2, d2, rfl, HM, hd2, rr2, hb2⟩
        have hml : m2.length ≤ ks.length + 1 := by rw [HM.out]; exact addR_len _ _
        have HRI2 := Lib.hid (show Rise m2 by rw [HM.out]; exact (addR_rise ks x0 HRI.out).1)
        have HUK2 := Lib.hid (show U64 m2 by rw [HM.out]; exact addR_u64 HUK.out HXU.out.1)
        go_wp2
        go_roundw
        case rel => exact ⟨k + 1, m2, B2, d2, by omega, by go_num, rfl, rr2, hd2, HRI2.out, HUK2.out, by omega, by omega, .inr trivial, fun _ => by omega, hba.trans (hb2.mono hba.size)⟩
        case measure => simp [intOf]; omega
      · have h30i : (30 : Int) ≤ k := by omega
        go_wp2
        go_roundw
        case rel => exact ⟨k + 1, ks, RA, rc, by omega, by go_num, rfl, HRK2.out, hkc, HRI.out, HUK.out, by omega, by omega, .inr trivial, fun _ => by omega, hba⟩
        case measure => simp [intOf]; omega
    · have H2 := below_then hb1 hb
      have RP2 := Lib.hid (RP.out.below hb)
      have hkl : ks.length ≤ l.length := by omega
      clear hb RP hkk
      obtain ⟨pl, hpl⟩ : ∃ pl, pairUp ks l = pl := ⟨_, rfl⟩
      have hpll : pl.length = ks.length := by rw [← hpl]; exact pairUp_len hkl
      have HPA := Lib.hid (show ∀ i, i < ks.length → pl.getD i (0, 0) = (ks.getD i 0, (l.getD i (0, 0)).2) from fun i hi => by rw [← hpl]; exact pairUp_at hkl hi)
      have HPF := Lib.hid (show pl.map (·.1) = ks by rw [← hpl]; exact pairUp_fst hkl)
      have HPU := Lib.hid (show U64P pl by rw [← hpl]; exact pairUp_u64 hkl HUK.out HU1.out)
      have HPLL := Lib.hid hpll
      have hb0 := (Below.refl wr.heap.size wr).alloc (Nat.le_refl _) (.cells #[.int .u64 (ks.length : Int)] 22)
      have HO0 := Lib.hid (Own.made (k := .u64) (e := 22) (w := wr) (base := wr.heap.size) (Nat.le_refl _) [(ks.length : Int)] (by simp [maxLen]))
      obtain ⟨NL, hNL⟩ : ∃ NL : Int, (ks.length : Int) = NL := ⟨_, rfl⟩
      have HNL := Lib.hid hNL
      have AL : ∀ (w : World) (o : Obj), Below w.heap.size w (w.alloc o) := fun w o => (Below.refl _ _).alloc (Nat.le_refl _) o
      have AS : ∀ (w : World) (o : Obj), w.heap.size ≤ (w.alloc o).heap.size := fun w o => by simp
      have hne83 : 22 ≠ 43 := by decide
      have hne38 : 43 ≠ 22 := by decide
      clear hpl hpll hNL
      go_wp2_with fail
      go_loopw [9, 13, 47] (fun v9 v13 v47 w2 => ∃ (i : Nat) (done : List Int), i ≤ ks.length ∧ v47 = .int .i64 i ∧ Hid (Own .u64 22 w2 wr.heap.size v13 (NL :: done)) ∧ Hid (OwnP w2 wr.heap.size v9 (pl.take i)) ∧
        Hid (numsR values none pl = done ++ numsR values (if i = 0 then none else some (ks.getD (i - 1) 0)) (pl.drop i)) ∧ done.length ≤ 2 * i ∧ Below wr.heap.size wr w2) (fun _ _ v47 _ => ks.length - (intOf v47).toNat)
      case atStart => exact ⟨0, [], Nat.zero_le _, rfl, (by rw [← HNL.out]; exact HO0.out), OwnP.nil _ _, (by show _ = _; simp), Nat.zero_le _, hb0⟩
      case round =>
        rename World => w2
        obtain ⟨i, done, hi', rfl, HO, HP, HG, hdl, hb⟩ := hrel
        by_cases hlt : i < ks.length
        · have hsz := hb.size
          obtain ⟨kad, rfl, hkad, hkc1⟩ := HRK.out i hlt
          have hkc' := (hb.cell (p := kad.add i) (by rw [block_of_add]; exact hkad)).trans hkc1
          obtain ⟨ad, rfl, had, _, hv0⟩ := RP2.out i (by omega)
          rw [pair_addr] at hv0
          have CV : ∀ w', Below wr.heap.size wr w' → w'.cell? { block := (ad.add (i * 2)).block, off := (ad.add (i * 2)).off + 1 } = some (.int .u64 (l.getD i (0, 0)).2) := fun w' h => (h.cell (p := { block := (ad.add (i * 2)).block, off := (ad.add (i * 2)).off + 1 }) (by show (ad.add (i * 2)).block < _; rw [block_of_add]; exact had)).trans hv0
          have HDR := Lib.hid (show pl.drop i = (ks.getD i 0, (l.getD i (0, 0)).2) :: pl.drop (i + 1) by rw [drop_getDP (by rw [HPLL.out]; exact hlt), HPA.out i hlt])
          have HTK := Lib.hid (show pl.take (i + 1) = pl.take i ++ [(ks.getD i 0, (l.getD i (0, 0)).2)] by
            rw [List.take_succ_eq_append_getElem (by rw [HPLL.out]; exact hlt), ← HPA.out i hlt]
            simp [List.getD_eq_getElem?_getD, List.getElem?_eq_getElem (show i < pl.length by rw [HPLL.out]; exact hlt)])
          have hxb := HUK.out.at_ hlt
          have HKI := Lib.hid (show i + 1 - 1 = i by omega)
          have HKX := Lib.hid (show ks.getD (i + 1 - 1) 0 = ks.getD i 0 by rw [HKI.out])
          have hlast : ¬ i = 0 → ks.getD (i - 1) 0 < ks.getD i 0 := fun h => by
            have := rise_at HRI.out (i - 1) (by omega)
            rwa [show i - 1 + 1 = i by omega] at this
          have BB : ∀ x : Nat, x ≤ 3000 → (x + 1) * 8 ≤ 140737488355328 ∧ x + 1 ≤ maxLen := fun x h => ⟨by omega, by unfold maxLen; omega⟩
          have BN : (NL :: done).length ≤ 3000 := by simp; omega
          have BN2 : ∀ z : Int, (NL :: done ++ [z]).length ≤ 3000 := fun z => by simp; omega
          have BP : ∀ i, i < ks.length → ((pl.take i).length + 1) * 16 ≤ 140737488355328 ∧ (pl.take i).length + 1 ≤ maxLen := fun i h => by rw [List.length_take, HPLL.out]; exact ⟨by omega, by unfold maxLen; omega⟩
          by_cases h0 : i = 0
          · have H0 := Lib.hid h0
            have h0i : (i : Int) ≤ 0 := by omega
            generalize (l.getD i (0, 0)).2 = x1 at *
            generalize ks.getD i 0 = x0 at *
            clear h0 hlast hv0
            have WO1 := Lib.hid (HO.out.below (AL w2 (.cells #[.int .u64 (x0)] 22)))
            have WP1 := Lib.hid (HP.out.below (AL w2 (.cells #[.int .u64 (x0)] 22)))
            have WB1 := Lib.hid (hb.alloc hsz (.cells #[.int .u64 (x0)] 22))
            have WS1 := WB1.out.size
            cases values
            · go_wp2_with (first | (at_builtin; refine wpList_push wr.heap.size _ (NL :: done) (x0) _ _ _ rfl rfl Try.underlying24 hi hz0 hz1 hz2 rfl rfl rfl (heap_alloc_new _ _) WO1.out WS1 (BB _ BN).1 (BB _ BN).2 ?_; intro v3 w3 ho3 hg3 _; have HO3 := Lib.hid ho3; have HP3 := Lib.hid (WP1.out.push_far WO1.out hg3 hne83); have HB3 := Lib.hid (WB1.out.grown hg3 WS1 (fun g hg => (WO1.out.block g hg).1)); have hcv3 := CV w3 HB3.out; have hs3 := HB3.out.size) | (at_builtin; refine wpList_pushP wr.heap.size _ (pl.take i) (x0, x1) _ _ _ rfl rfl Try.underlying39 pi pz0 pz1 pz2 rfl rfl rfl (heap_alloc_new _ _) (HP3.out.below (AL w3 _)) (Nat.le_trans hs3 (AS w3 _)) (BP i hlt).1 (BP i hlt).2 ?_; intro v5 w5 ho5 hg5 _; have HO5 := Lib.hid ((HO3.out.below (AL w3 (.cells #[.int .u64 x0, .int .u64 x1] 43))).push_farP (HP3.out.below (AL w3 (.cells #[.int .u64 x0, .int .u64 x1] 43))) hg5 hne38); have HB5 := Lib.hid ((HB3.out.alloc hs3 (.cells #[.int .u64 x0, .int .u64 x1] 43)).grown hg5 (Nat.le_trans hs3 (AS w3 _)) (fun g hg => ((HP3.out.below (AL w3 (.cells #[.int .u64 x0, .int .u64 x1] 43))).block g hg).1))))
              try go_wp2
              go_roundw
              case rel => exact ⟨i + 1, done ++ [x0], by omega, by go_num, Lib.hid (by have := HO5.out; simpa using this), (by rw [HTK.out]; exact ho5), by rw [HKX.out]; exact numsR_first _ H0.out HDR.out done _ HG.out, by simp; omega, HB5.out⟩
              case measure => simp [intOf]; omega
            · go_wp2_with (first | (at_builtin; refine wpList_push wr.heap.size _ (NL :: done) (x0) _ _ _ rfl rfl Try.underlying24 hi hz0 hz1 hz2 rfl rfl rfl (heap_alloc_new _ _) WO1.out WS1 (BB _ BN).1 (BB _ BN).2 ?_; intro v3 w3 ho3 hg3 _; have HO3 := Lib.hid ho3; have HP3 := Lib.hid (WP1.out.push_far WO1.out hg3 hne83); have HB3 := Lib.hid (WB1.out.grown hg3 WS1 (fun g hg => (WO1.out.block g hg).1)); have hcv3 := CV w3 HB3.out; have hs3 := HB3.out.size) | (at_builtin; refine wpList_push wr.heap.size _ (NL :: done ++ [x0]) x1 _ _ _ rfl rfl Try.underlying24 hi hz0 hz1 hz2 rfl rfl rfl (heap_alloc_new _ _) (HO3.out.below (AL w3 _)) (Nat.le_trans hs3 (AS w3 _)) (BB _ (BN2 (x0))).1 (BB _ (BN2 (x0))).2 ?_; intro v4 w4 ho4 hg4 _; have HO4 := Lib.hid ho4; have HP4 := Lib.hid ((HP3.out.below (AL w3 (.cells #[.int .u64 x1] 22))).push_far (HO3.out.below (AL w3 (.cells #[.int .u64 x1] 22))) hg4 hne83); have HB4 := Lib.hid ((HB3.out.alloc hs3 (.cells #[.int .u64 x1] 22)).grown hg4 (Nat.le_trans hs3 (AS w3 _)) (fun g hg => ((HO3.out.below (AL w3 (.cells #[.int .u64 x1] 22))).block g hg).1)); have hcv4 := CV w4 HB4.out; have hs4 := HB4.out.size) | (at_builtin; refine wpList_pushP wr.heap.size _ (pl.take i) (x0, x1) _ _ _ rfl rfl Try.underlying39 pi pz0 pz1 pz2 rfl rfl rfl (heap_alloc_new _ _) (HP4.out.below (AL w4 _)) (Nat.le_trans hs4 (AS w4 _)) (BP i hlt).1 (BP i hlt).2 ?_; intro v5 w5 ho5 hg5 _; have HO5 := Lib.hid ((HO4.out.below (AL w4 (.cells #[.int .u64 x0, .int .u64 x1] 43))).push_farP (HP4.out.below (AL w4 (.cells #[.int .u64 x0, .int .u64 x1] 43))) hg5 hne38); have HB5 := Lib.hid ((HB4.out.alloc hs4 (.cells #[.int .u64 x0, .int .u64 x1] 43)).grown hg5 (Nat.le_trans hs4 (AS w4 _)) (fun g hg => ((HP4.out.below (AL w4 (.cells #[.int .u64 x0, .int .u64 x1] 43))).block g hg).1))))
              try go_wp2
              go_roundw
              case rel => exact ⟨i + 1, done ++ [x0, x1], by omega, by go_num, Lib.hid (by have := HO5.out; simpa using this), (by rw [HTK.out]; exact ho5), by rw [HKX.out]; exact numsR_first _ H0.out HDR.out done _ HG.out, by simp; omega, HB5.out⟩
              case measure => simp [intOf]; omega
          · have hla := hlast h0
            obtain ⟨kad', e', hkad2, hkc2⟩ := HRK.out (i - 1) (by omega)
            cases e'
            have hkl2 := (hb.cell (p := kad.add (i - 1)) (by rw [block_of_add]; exact hkad)).trans hkc2
            have hlab := HUK.out.at_ (show i - 1 < ks.length by omega)
            have H0 := Lib.hid h0
            generalize (l.getD i (0, 0)).2 = x1 at *
            generalize ks.getD i 0 = x0 at *
            generalize ks.getD (i - 1) 0 = la at *
            have hx0 : (0 : Int) < i := by omega
            have hx1 : (0 : Int) ≤ (i : Int) - 1 := by omega
            have hx2 : (i : Int) - 1 < ks.length := by omega
            have hx3 : ((i : Int) - 1).toNat = i - 1 := by omega
            have hw1 : IntKind.u64.wrap (x0 - la) = x0 - la := by rw [IntKind.wrap_u64]; omega
            have hw2 : IntKind.u64.wrap (x0 - la - 1) = x0 - la - 1 := by rw [IntKind.wrap_u64]; omega
            clear h0 hlast hv0
            have WO1 := Lib.hid (HO.out.below (AL w2 (.cells #[.int .u64 (x0 - la - 1)] 22)))
            have WP1 := Lib.hid (HP.out.below (AL w2 (.cells #[.int .u64 (x0 - la - 1)] 22)))
            have WB1 := Lib.hid (hb.alloc hsz (.cells #[.int .u64 (x0 - la - 1)] 22))
            have WS1 := WB1.out.size
            cases values
            · go_wp2_with (first | (at_builtin; refine wpList_push wr.heap.size _ (NL :: done) (x0 - la - 1) _ _ _ rfl rfl Try.underlying24 hi hz0 hz1 hz2 rfl rfl rfl (heap_alloc_new _ _) WO1.out WS1 (BB _ BN).1 (BB _ BN).2 ?_; intro v3 w3 ho3 hg3 _; have HO3 := Lib.hid ho3; have HP3 := Lib.hid (WP1.out.push_far WO1.out hg3 hne83); have HB3 := Lib.hid (WB1.out.grown hg3 WS1 (fun g hg => (WO1.out.block g hg).1)); have hcv3 := CV w3 HB3.out; have hs3 := HB3.out.size) | (at_builtin; refine wpList_pushP wr.heap.size _ (pl.take i) (x0, x1) _ _ _ rfl rfl Try.underlying39 pi pz0 pz1 pz2 rfl rfl rfl (heap_alloc_new _ _) (HP3.out.below (AL w3 _)) (Nat.le_trans hs3 (AS w3 _)) (BP i hlt).1 (BP i hlt).2 ?_; intro v5 w5 ho5 hg5 _; have HO5 := Lib.hid ((HO3.out.below (AL w3 (.cells #[.int .u64 x0, .int .u64 x1] 43))).push_farP (HP3.out.below (AL w3 (.cells #[.int .u64 x0, .int .u64 x1] 43))) hg5 hne38); have HB5 := Lib.hid ((HB3.out.alloc hs3 (.cells #[.int .u64 x0, .int .u64 x1] 43)).grown hg5 (Nat.le_trans hs3 (AS w3 _)) (fun g hg => ((HP3.out.below (AL w3 (.cells #[.int .u64 x0, .int .u64 x1] 43))).block g hg).1))))
              try go_wp2
              go_roundw
              case rel => exact ⟨i + 1, done ++ [x0 - la - 1], by omega, by go_num, Lib.hid (by have := HO5.out; simpa using this), (by rw [HTK.out]; exact ho5), by rw [HKX.out]; exact numsR_next _ H0.out HDR.out done _ HG.out, by simp; omega, HB5.out⟩
              case measure => simp [intOf]; omega
            · go_wp2_with (first | (at_builtin; refine wpList_push wr.heap.size _ (NL :: done) (x0 - la - 1) _ _ _ rfl rfl Try.underlying24 hi hz0 hz1 hz2 rfl rfl rfl (heap_alloc_new _ _) WO1.out WS1 (BB _ BN).1 (BB _ BN).2 ?_; intro v3 w3 ho3 hg3 _; have HO3 := Lib.hid ho3; have HP3 := Lib.hid (WP1.out.push_far WO1.out hg3 hne83); have HB3 := Lib.hid (WB1.out.grown hg3 WS1 (fun g hg => (WO1.out.block g hg).1)); have hcv3 := CV w3 HB3.out; have hs3 := HB3.out.size) | (at_builtin; refine wpList_push wr.heap.size _ (NL :: done ++ [x0 - la - 1]) x1 _ _ _ rfl rfl Try.underlying24 hi hz0 hz1 hz2 rfl rfl rfl (heap_alloc_new _ _) (HO3.out.below (AL w3 _)) (Nat.le_trans hs3 (AS w3 _)) (BB _ (BN2 (x0 - la - 1))).1 (BB _ (BN2 (x0 - la - 1))).2 ?_; intro v4 w4 ho4 hg4 _; have HO4 := Lib.hid ho4; have HP4 := Lib.hid ((HP3.out.below (AL w3 (.cells #[.int .u64 x1] 22))).push_far (HO3.out.below (AL w3 (.cells #[.int .u64 x1] 22))) hg4 hne83); have HB4 := Lib.hid ((HB3.out.alloc hs3 (.cells #[.int .u64 x1] 22)).grown hg4 (Nat.le_trans hs3 (AS w3 _)) (fun g hg => ((HO3.out.below (AL w3 (.cells #[.int .u64 x1] 22))).block g hg).1)); have hcv4 := CV w4 HB4.out; have hs4 := HB4.out.size) | (at_builtin; refine wpList_pushP wr.heap.size _ (pl.take i) (x0, x1) _ _ _ rfl rfl Try.underlying39 pi pz0 pz1 pz2 rfl rfl rfl (heap_alloc_new _ _) (HP4.out.below (AL w4 _)) (Nat.le_trans hs4 (AS w4 _)) (BP i hlt).1 (BP i hlt).2 ?_; intro v5 w5 ho5 hg5 _; have HO5 := Lib.hid ((HO4.out.below (AL w4 (.cells #[.int .u64 x0, .int .u64 x1] 43))).push_farP (HP4.out.below (AL w4 (.cells #[.int .u64 x0, .int .u64 x1] 43))) hg5 hne38); have HB5 := Lib.hid ((HB4.out.alloc hs4 (.cells #[.int .u64 x0, .int .u64 x1] 43)).grown hg5 (Nat.le_trans hs4 (AS w4 _)) (fun g hg => ((HP4.out.below (AL w4 (.cells #[.int .u64 x0, .int .u64 x1] 43))).block g hg).1))))
              try go_wp2
              go_roundw
              case rel => exact ⟨i + 1, done ++ [x0 - la - 1, x1], by omega, by go_num, Lib.hid (by have := HO5.out; simpa using this), (by rw [HTK.out]; exact ho5), by rw [HKX.out]; exact numsR_next _ H0.out HDR.out done _ HG.out, by simp; omega, HB5.out⟩
              case measure => simp [intOf]; omega
        · obtain rfl : i = ks.length := by omega
          rw [show pl.take ks.length = pl by rw [← HPLL.out, List.take_length]] at HP
          have HND := Lib.hid (show numsR values none pl = done by
            have := HG.out
            rw [show pl.drop ks.length = [] by rw [← HPLL.out, List.drop_length]] at this
            rw [this]
            split <;> simp [numsR])
          obtain ⟨nums, hnums⟩ : ∃ nums, NL :: done = nums := ⟨_, rfl⟩
          have HNUM := Lib.hid (show nums = NL :: numsR values none pl by rw [HND.out, hnums])
          have hnl : nums.length ≤ 100 := by rw [← hnums]; simp; omega
          have HNU := Lib.hid (show U64 nums by
            rw [HNUM.out]
            intro x hx
            rcases List.mem_cons.1 hx with rfl | hx
            · have := HNL.out; omega
            · exact numsR_u64 values pl none HPU.out (by rw [HPF.out]; exact HRI.out) (fun a e => by cases e) (fun a x e => by cases e) x hx)
          have HKS := Lib.hid (show keysR ks = bytesR false pl by rw [← HPF.out]; exact keysR_bytesR pl)
          rw [hnums] at HO
          obtain ⟨NB, nc, rfl, hnc, _, hrn⟩ := HO.out.form
          obtain ⟨MB, mc, rfl, hmc, _, hrm⟩ := HP.out.form
          have NR := Lib.hid hrn
          have MR := Lib.hid hrm
          have KR := Lib.hid (HRK.out.below hb)
          have HT0 := below_then H2 hb
          clear hnums hrn hrm HO HP HG HO0 hb0 hb
          go_wp2_with fail
          refine (keys_b _ _ _ ks _ (by first | rfl | omega) HUK.out KR.out (by omega)).mono ?_
          rintro e w10 ⟨B10, d10, p, er, rfl, K10, hdp, rr10, hb10⟩
          have HT1 := below_then HT0 hb10
          replace NR := Lib.hid (NR.out.below hb10)
          replace MR := Lib.hid (MR.out.below hb10)
          cases values
          · have HBY := Lib.hid (show bytesR false pl = (p, er) by rw [← HKS.out, K10.out])
            have RPP := Lib.hid rr10
            have HT := HT1
            clear K10 hb10 rr10
            obtain ⟨hq0, hq1, hq2⟩ := bytesR_rise (two := false) (l := pl) (by rw [HPF.out]; exact HRI.out) (by rw [HPLL.out]; omega)
            rw [HBY.out] at hq0 hq1 hq2
            simp only at hq0 hq1 hq2
            subst hq0
            have hplen : p.length = 1 + sizes nums := by rw [hq1, HNUM.out, ← HNL.out, HPLL.out]
            have hsz10 := sizes_le10 HNU.out
            have hpl10 : p.length ≤ 10000 := by omega
            have hppos : 0 < p.length := by omega
            have hPR := parse_bytes (two := false) HPU.out (by rw [HBY.out])
            rw [HBY.out] at hPR
            have HPR := Lib.hid hPR
            have HBP := Lib.hid hq2
            have hyc1 : (0 : Int) ≤ (cut : Int) % (p.length : Int) := Int.emod_nonneg _ (by omega)
            have hyc2 : (cut : Int) % (p.length : Int) ≤ (d10 : Int) := by have := Int.emod_lt_of_pos (cut : Int) (show 0 < (p.length : Int) by omega); omega
            have hyc : cut % p.length < p.length := Nat.mod_lt _ hppos
            have HNZ := Lib.hid (parse_prefix HBP.out HPR.out hyc)
            have HXT := Lib.hid (parse_ext (s := [more]) HBP.out HPR.out (by simp))
            have hp0 : ((p.length : Int) == 0) = false := by rw [beq_eq_false_iff_ne]; omega
            have hytl : (p.take (cut % p.length)).length = cut % p.length := by rw [List.length_take]; omega
            have HYTL := Lib.hid hytl
            have HPLEN := Lib.hid hplen
            clear hq1 hq2 hPR hplen hytl
            go_wp2_with fail
            refine (size_b NB nc nums _ NR.out HNU.out (by omega)).mono ?_
            rintro e w20 ⟨z, rfl, HZ, rfl⟩
            have hz10 : z ≤ 1000 := by rw [HZ.out]; omega
            have hpz : (p.length : Int) = 1 + (z : Int) := by have := HZ.out; have := HPLEN.out; omega
            have hpzb : ((p.length : Int) == 1 + (z : Int)) = true := by simp [hpz]
            have hpzc : ((p.length : Int) != 1 + (z : Int)) = false := by simp [hpz]
            have HPZ := Lib.hid hpz
            clear hpz
            go_wp2_with fail
            refine (parse_b _ d10 _ (p.take (cut % p.length)) _ (by first | exact HYTL.out | (have := HYTL.out; omega)) (fun x hx => HBP.out x (List.mem_of_mem_take hx)) (RPP.out.take _) (by rw [HYTL.out]; omega) (by rw [HYTL.out]; omega)).mono ?_
            rintro e w22 ⟨B22, d22, m22, t22, e22, rfl, K22, _, _, hb22⟩
            obtain ⟨rfl, rfl, rfl⟩ : e22 = 2 ∧ t22 = false ∧ m22 = [] := by
              rcases K22.out with ⟨h1, _⟩ | ⟨_, h2, h3, h4⟩
              · rw [HNZ.out] at h1; cases h1
              · exact ⟨h2, h3, h4⟩
            have H22 := below_then HT hb22
            have RPP2 := Lib.hid (RPP.out.below hb22)
            clear K22 hb22
            go_wp2_with fail
            refine (bytes_b _ _ p 10000 _ (by omega) RPP2.out (by omega)).mono ?_
            rintro e w23 ⟨B23, d23, pp, rfl, K23, _, hd23, ho23, _, hb23⟩
            obtain rfl : pp = p := by rw [K23.out]; exact List.take_of_length_le (by show p.length ≤ 10000; omega)
            have H23 := below_then H22 hb23
            have ho24 := Lib.hid (ho23.below (AL w23 (.cells #[.int .u8 more] 5)))
            have hs24 : w22.heap.size ≤ (w23.alloc (.cells #[.int .u8 more] 5)).heap.size := Nat.le_trans hb23.size (AS _ _)
            have HB24 := Lib.hid (hb23.alloc hb23.size (.cells #[.int .u8 more] 5))
            have BY1 : (pp.length + 1) * 1 ≤ 140737488355328 ∧ pp.length + 1 ≤ maxLen := ⟨by omega, by unfold maxLen; omega⟩
            clear K23 ho23 hb23
            go_wp2_with (at_builtin; refine wpList_push w22.heap.size _ pp more _ _ _ rfl rfl Try.underlying23 ji jz0 jz1 jz2 rfl rfl rfl (heap_alloc_new _ _) ho24.out hs24 BY1.1 BY1.2 ?_; intro v25 w25 ho25 hg25 _; obtain ⟨B25, d25, rfl, hd25, _, hr25⟩ := ho25.form)
            have hb25 := HB24.out.grown hg25 hs24 (fun g hg => (ho24.out.block g hg).1)
            have H25 := below_then H22 hb25
            refine (parse_b B25 d25 _ (pp ++ [more]) _ (by simp) (HBP.out.app (fun x hx => by simp at hx; subst hx; exact hm0)) hr25 (by simp; omega) hd25).mono ?_
            rintro e w26 ⟨B26, d26, m26, t26, e26, rfl, K26, _, _, hb26⟩
            obtain ⟨rfl, rfl, rfl⟩ : e26 = 2 ∧ t26 = false ∧ m26 = [] := by
              rcases K26.out with ⟨h1, _⟩ | ⟨_, h2, h3, h4⟩
              · rw [HXT.out] at h1; cases h1
              · exact ⟨h2, h3, h4⟩
            have H26 := below_then H25 hb26
            clear K26 hb26 hg25
            go_wp2
            go_ret
            exact ⟨rfl, H26⟩
          · go_wp2_with fail
            refine (pairs_b MB mc _ pl _ (by first | rfl | (rw [HPLL.out])) HPU.out MR.out (by rw [HPLL.out]; omega)).mono ?_
            rintro e w11 ⟨B11, d11, p, er, rfl, K11, hdp, rr11, hb11⟩
            have HT := below_then HT1 hb11
            replace NR := Lib.hid (NR.out.below hb11)
            have HBY := Lib.hid (show bytesR true pl = (p, er) by rw [K11.out])
            have RPP := Lib.hid rr11
            clear K10 K11 hb10 hb11 rr10 rr11
            obtain ⟨hq0, hq1, hq2⟩ := bytesR_rise (two := true) (l := pl) (by rw [HPF.out]; exact HRI.out) (by rw [HPLL.out]; omega)
            rw [HBY.out] at hq0 hq1 hq2
            simp only at hq0 hq1 hq2
            subst hq0
            have hplen : p.length = 1 + sizes nums := by rw [hq1, HNUM.out, ← HNL.out, HPLL.out]
            have hsz10 := sizes_le10 HNU.out
            have hpl10 : p.length ≤ 10000 := by omega
            have hppos : 0 < p.length := by omega
            have hPR := parse_bytes (two := true) HPU.out (by rw [HBY.out])
            rw [HBY.out] at hPR
            have HPR := Lib.hid hPR
            have HBP := Lib.hid hq2
            have hyc1 : (0 : Int) ≤ (cut : Int) % (p.length : Int) := Int.emod_nonneg _ (by omega)
            have hyc2 : (cut : Int) % (p.length : Int) ≤ (d11 : Int) := by have := Int.emod_lt_of_pos (cut : Int) (show 0 < (p.length : Int) by omega); omega
            have hyc : cut % p.length < p.length := Nat.mod_lt _ hppos
            have HNZ := Lib.hid (parse_prefix HBP.out HPR.out hyc)
            have HXT := Lib.hid (parse_ext (s := [more]) HBP.out HPR.out (by simp))
            have hp0 : ((p.length : Int) == 0) = false := by rw [beq_eq_false_iff_ne]; omega
            have hytl : (p.take (cut % p.length)).length = cut % p.length := by rw [List.length_take]; omega
            have HYTL := Lib.hid hytl
            have HPLEN := Lib.hid hplen
            clear hq1 hq2 hPR hplen hytl
            go_wp2_with fail
            refine (size_b NB nc nums _ NR.out HNU.out (by omega)).mono ?_
            rintro e w20 ⟨z, rfl, HZ, rfl⟩
            have hz10 : z ≤ 1000 := by rw [HZ.out]; omega
            have hpz : (p.length : Int) = 1 + (z : Int) := by have := HZ.out; have := HPLEN.out; omega
            have hpzb : ((p.length : Int) == 1 + (z : Int)) = true := by simp [hpz]
            have hpzc : ((p.length : Int) != 1 + (z : Int)) = false := by simp [hpz]
            have HPZ := Lib.hid hpz
            clear hpz
            go_wp2_with fail
            refine (parse_b _ d11 _ (p.take (cut % p.length)) _ (by first | exact HYTL.out | (have := HYTL.out; omega)) (fun x hx => HBP.out x (List.mem_of_mem_take hx)) (RPP.out.take _) (by rw [HYTL.out]; omega) (by rw [HYTL.out]; omega)).mono ?_
            rintro e w22 ⟨B22, d22, m22, t22, e22, rfl, K22, _, _, hb22⟩
            obtain ⟨rfl, rfl, rfl⟩ : e22 = 2 ∧ t22 = false ∧ m22 = [] := by
              rcases K22.out with ⟨h1, _⟩ | ⟨_, h2, h3, h4⟩
              · rw [HNZ.out] at h1; cases h1
              · exact ⟨h2, h3, h4⟩
            have H22 := below_then HT hb22
            have RPP2 := Lib.hid (RPP.out.below hb22)
            clear K22 hb22
            go_wp2_with fail
            refine (bytes_b _ _ p 10000 _ (by omega) RPP2.out (by omega)).mono ?_
            rintro e w23 ⟨B23, d23, pp, rfl, K23, _, hd23, ho23, _, hb23⟩
            obtain rfl : pp = p := by rw [K23.out]; exact List.take_of_length_le (by show p.length ≤ 10000; omega)
            have H23 := below_then H22 hb23
            have ho24 := Lib.hid (ho23.below (AL w23 (.cells #[.int .u8 more] 5)))
            have hs24 : w22.heap.size ≤ (w23.alloc (.cells #[.int .u8 more] 5)).heap.size := Nat.le_trans hb23.size (AS _ _)
            have HB24 := Lib.hid (hb23.alloc hb23.size (.cells #[.int .u8 more] 5))
            have BY1 : (pp.length + 1) * 1 ≤ 140737488355328 ∧ pp.length + 1 ≤ maxLen := ⟨by omega, by unfold maxLen; omega⟩
            clear K23 ho23 hb23
            go_wp2_with (at_builtin; refine wpList_push w22.heap.size _ pp more _ _ _ rfl rfl Try.underlying23 ji jz0 jz1 jz2 rfl rfl rfl (heap_alloc_new _ _) ho24.out hs24 BY1.1 BY1.2 ?_; intro v25 w25 ho25 hg25 _; obtain ⟨B25, d25, rfl, hd25, _, hr25⟩ := ho25.form)
            have hb25 := HB24.out.grown hg25 hs24 (fun g hg => (ho24.out.block g hg).1)
            have H25 := below_then H22 hb25
            refine (parse_b B25 d25 _ (pp ++ [more]) _ (by simp) (HBP.out.app (fun x hx => by simp at hx; subst hx; exact hm0)) hr25 (by simp; omega) hd25).mono ?_
            rintro e w26 ⟨B26, d26, m26, t26, e26, rfl, K26, _, _, hb26⟩
            obtain ⟨rfl, rfl, rfl⟩ : e26 = 2 ∧ t26 = false ∧ m26 = [] := by
              rcases K26.out with ⟨h1, _⟩ | ⟨_, h2, h3, h4⟩
              · rw [HXT.out] at h1; cases h1
              · exact ⟨h2, h3, h4⟩
            have H26 := below_then H25 hb26
            clear K26 hb26 hg25
            go_wp2
            go_ret
            exact ⟨rfl, H26⟩
theorem walk_codePrefixes (A1 : Option Addr) (c1 : Nat) (l : List (Int × Int)) (values : Bool) (cut more : Int) (W : World)
    (s1 : l.length * 16 ≤ 140737488351232) (_h1 : l.length ≤ c1) (y1 : RdP W A1 l) (w1 : ∀ x ∈ l, (Lit.int .u64 x.1).wf = true ∧ (Lit.int .u64 x.2).wf = true) (wc : (Lit.int .u16 cut).wf = true) (wm : (Lit.int .u8 more).wf = true) :
    Calls Try.prog 7 #[.slice A1 l.length c1, .bool values, .int .u16 cut, .int .u8 more] W fun e W' => e = .returned (.bool true) ∧ Below W.heap.size W W' := by
  have h1 := wf_u16 wc
  have h2 := wf_u8 wm
  obtain ⟨k, rfl⟩ := Int.eq_ofNat_of_zero_le h1.1
  exact pref_walk A1 c1 l values k more W (by omega) y1 (fun x hx => ⟨wf_u64 (w1 x hx).1, wf_u64 (w1 x hx).2⟩) (by omega) (by omega)
end Go.Proofs.Ytnlflpcioiieaaa
