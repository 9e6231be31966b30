/-
  The walk of the law CodeBack.
-/
import Derived.Test.YtnlflpcioiieaaaAwake19
import Derived.Test.YtnlflpcioiieaaaCanon
import Derived.Test.YtnlflpcioiieaaaPrefLaw
import Derived.Test.YtnlflpcioiieaaaOpenP
import Derived.Test.YtnlflpcioiieaaaPairApp
import Derived.Test.YtnlflpcioiieaaaRefBytes
import Derived.Test.YtnlflpcioiieaaaBackLaw
namespace Go.Proofs.Ytnlflpcioiieaaa
set_option linter.unusedVariables false
set_option linter.unusedSimpArgs false
open Go.RowKit

theorem bare_snoc {m : List (Int × Int)} {k : Nat} (h : k < m.length) : (m.take (k + 1)).map (fun x => (x.1, (0 : Int))) = (m.take k).map (fun x => (x.1, (0 : Int))) ++ [((m.getD k (0, 0)).1, 0)] := by
  rw [List.take_succ_eq_append_getElem h, List.map_append]
  simp [List.getD_eq_getElem?_getD, List.getElem?_eq_getElem h]
set_option maxHeartbeats 16000000 in
set_option maxRecDepth 100000 in
theorem back_walk (A1 : Option Addr) (c1 : Nat) (l0 : List (Int × Int)) (sorted : Bool) (W : World) (hs1 : l0.length ≤ 8796093022202) (hc1 : l0.length ≤ c1) (hr1 : RdP W A1 l0) (hU1 : U64P l0) :
    Calls Try.prog 5 #[.slice A1 l0.length c1, .bool sorted] W fun e W' => e = .returned (.bool true) ∧ Below W.heap.size W W' := by
  obtain ⟨i0, hi, hz0, hz1, hz2⟩ := info_parts words_info
  obtain ⟨p0, pi, pz0, pz1, pz2⟩ := info_parts pair_info
  have HR1 := Lib.hid hr1
  have HU1 := Lib.hid hU1
  clear hr1 hU1
  go_enter Try.func5, Try.ntmps5
  go_wp2_with fail
  refine (awake19_any _).mono ?_
  rintro e w1 ⟨rfl, hb1⟩
  obtain ⟨N, hN⟩ : ∃ N, N = min l0.length 40 := ⟨_, rfl⟩
  have hN40 : N ≤ 40 := by omega
  have hNl : N ≤ l0.length := by omega
  have hNc : N ≤ c1 := by omega
  have hHT : (l0.take N).length = N := by rw [List.length_take]; omega
  have HB1 := Lib.hid (hb1.alloc hb1.size (.cells #[] 43))
  have HOM := Lib.hid (OwnP.made hb1.size)
  have HRT := Lib.hid (RdP.below (RdP.take HR1.out N) HB1.out)
  have hsA := HB1.out.size
  have BB0 : (0 + N) * 16 ≤ 140737488355328 ∧ 0 + N ≤ maxLen := ⟨by omega, by unfold maxLen; omega⟩
  clear hb1
  have HMN := Lib.hid (show min (l0.length : Int) 40 = (N : Int) by omega)
  obtain ⟨l, hl⟩ : ∃ l, l0.take N = l := ⟨_, rfl⟩
  rw [hl] at hHT HRT
  have HLT := Lib.hid hl
  have HLL := Lib.hid hHT
  have HAPP : ∀ x : List (Int × Int), [] ++ x = x := fun x => rfl
  subst hHT
  clear hN hl HLL
  cases sorted
  · go_wp2_with (first
      | (refine wpList_uptoP A1 l0.length c1 l.length _ _ rfl rfl Try.underlying39 pi pz1 rfl rfl HMN.out hNl hc1 ?_)
      | (at_builtin; refine wpList_pushAllP W.heap.size _ [] l A1 c1 _ _ rfl rfl Try.underlying39 pi pz0 pz1 pz2 rfl rfl rfl HRT.out HOM.out hsA BB0.1 BB0.2 ?_; intro v2 w2 ho2 hg2 _; rw [HAPP l] at ho2; have HB2 := Lib.hid (HB1.out.grown hg2 hsA (fun g hg => (HOM.out.block g hg).1)); obtain ⟨LA, lc, rfl, hlc, _, hrl⟩ := ho2.form; have RP := Lib.hid hrl))
    have HU := Lib.hid (show U64P l by rw [← HLT.out]; exact fun x hx => HU1.out x (List.mem_of_mem_take hx))
    clear hg2 ho2 hrl
    have KU0 := Lib.hid (Own.nil .u64 22 w2 w2.heap.size)
    go_loopw [11, 12, 71] (fun v11 v12 v71 wr => ∃ k : Nat, k ≤ l.length ∧ v71 = .int .i64 k ∧ Hid (Own .u64 22 wr w2.heap.size v11 ((l.take k).map (·.1))) ∧ Hid (OwnP wr w2.heap.size v12 ((l.take k).map fun x => (x.1, 0))) ∧ Below w2.heap.size w2 wr) (fun _ _ v71 _ => l.length - (intOf v71).toNat)
    case atStart => exact ⟨0, Nat.zero_le _, rfl, (by show Own _ _ _ _ _ _; simpa using Own.nil _ _ _ _), (by show OwnP _ _ _ _; simpa using OwnP.nil _ _), Below.refl _ _⟩
    case round =>
      rename World => wx
      obtain ⟨k3, hk3, rfl, HO, HP, hb⟩ := hrel
      by_cases hlt3 : k3 < l.length
      · obtain ⟨ad, rfl, had, hk0, hv0⟩ := RP.out k3 hlt3
        have hk0' := (hb.cell (p := ad.add (k3 * 2)) (by rw [block_of_add]; exact had)).trans hk0
        have hv0' := (hb.cell (p := ad.add (k3 * 2 + 1)) (by rw [block_of_add]; exact had)).trans hv0
        rw [pair_addr] at hv0'
        have HSN1 := Lib.hid (show (l.take (k3 + 1)).map (·.1) = (l.take k3).map (·.1) ++ [(l.getD k3 (0, 0)).1] from fst_snoc hlt3)
        have HSN2 := Lib.hid (show ((l.take (k3 + 1)).map fun x => (x.1, (0 : Int))) = ((l.take k3).map fun x => (x.1, (0 : Int))) ++ [((l.getD k3 (0, 0)).1, 0)] from bare_snoc hlt3)
        clear hk0 hv0
        generalize l.getD k3 (0, 0) = x at *
        obtain ⟨x0, x1⟩ := x
        have hsz := hb.size
        have hne83 : 22 ≠ 43 := by decide
        have hne38 : 43 ≠ 22 := by decide
        have OWK : ∀ w', Below wx.heap.size wx w' → Own .u64 22 w' w2.heap.size _ ((l.take k3).map (·.1)) := fun w' h => HO.out.below h
        have OWP : ∀ w', Below wx.heap.size wx w' → OwnP w' w2.heap.size _ ((l.take k3).map fun x => (x.1, (0 : Int))) := fun w' h => HP.out.below h
        have OWB : ∀ w', Below wx.heap.size wx w' → Below w2.heap.size w2 w' := fun w' h => hb.trans (h.mono hsz)
        have BK : (((l.take k3).map (·.1)).length + 1) * 8 ≤ 140737488355328 ∧ ((l.take k3).map (·.1)).length + 1 ≤ maxLen := by rw [List.length_map, List.length_take]; exact ⟨by omega, by unfold maxLen; omega⟩
        have BP : (((l.take k3).map fun x => (x.1, (0 : Int))).length + 1) * 16 ≤ 140737488355328 ∧ ((l.take k3).map fun x => (x.1, (0 : Int))).length + 1 ≤ maxLen := by rw [List.length_map, List.length_take]; exact ⟨by omega, by unfold maxLen; omega⟩
        go_wp2_with fail
        go_region_law (first
          | ((with_reducible refine gate_sbuiltin (b := .append) rfl ?_); refine step_pushK w2.heap.size _ _ x0 _ _ _ rfl rfl Try.underlying24 hi hz0 hz1 hz2 rfl hne83 rfl rfl (by first | exact heap_alloc_new _ _ | exact alloc_at (by simp) | exact blk_alloc (alloc_at (by simp)) _) (OWK _ (by repeat (first | exact Below.refl _ _ | refine Below.drew ?_ | refine Below.alloc ?_ (by first | omega | (simp; done) | (simp; omega)) _))) (by simp; omega) BK.1 BK.2 ?_; intro v8 w8 ho8 hp8 hy8 hb8; have HY8 := Lib.hid (hy8 wx.heap.size #[.int .u64 x0, .int .u64 x1] (by first | exact blk_alloc (alloc_at (by simp)) _ | exact blk_alloc (blk_alloc (alloc_at (by simp)) _) _)); have y80 := blk_cell HY8.out 0 rfl; have HP8 := Lib.hid (hp8 _ _ (OWP _ (by repeat (first | exact Below.refl _ _ | refine Below.drew ?_ | refine Below.alloc ?_ (by first | omega | (simp; done) | (simp; omega)) _)))); have HB8 := Lib.hid (hb8 _ (OWB _ (by repeat (first | exact Below.refl _ _ | refine Below.drew ?_ | refine Below.alloc ?_ (by first | omega | (simp; done) | (simp; omega)) _)))); have HO8 := Lib.hid ho8; clear ho8 hp8 hb8)
          | ((with_reducible refine gate_sbuiltin (b := .append) rfl ?_); refine step_pushQ (e2 := 22) w2.heap.size _ _ (x0, 0) _ _ _ rfl rfl Try.underlying39 pi pz0 pz1 pz2 rfl hne38 rfl rfl ?_ ?_ ?_ BP.1 BP.2 ?_; (next => first | exact heap_alloc_new _ _ | exact hy8 _ _ (by first | exact heap_alloc_new _ _ | exact alloc_at (by simp) | exact blk_alloc (alloc_at (by simp)) _)); (next => first | exact HP8.out | exact HP8.out.below (by repeat (first | exact Below.refl _ _ | refine Below.drew ?_ | refine Below.alloc ?_ (by first | omega | (simp; done) | (simp; omega)) _))); (next => first | exact HB8.out.size | exact Nat.le_trans HB8.out.size (by simp)); intro v9 w9 ho9 hp9 hy9 hb9; have HP9 := Lib.hid ho9; have HO9 := Lib.hid (hp9 _ _ (HO8.out.below (by repeat (first | exact Below.refl _ _ | refine Below.drew ?_ | refine Below.alloc ?_ (by first | omega | (simp; done) | (simp; omega)) _)))); have HB9 := Lib.hid (hb9 _ (HB8.out.trans (Below.mono (by repeat (first | exact Below.refl _ _ | refine Below.drew ?_ | refine Below.alloc ?_ (by first | omega | (simp; done) | (simp; omega)) _)) HB8.out.size))); clear ho9 hp9 hy9 hb9))
        all_goals
          try go_wp2
          go_roundw
          case rel => exact ⟨k3 + 1, by omega, by go_num, (by rw [HSN1.out]; exact HO9), (by rw [HSN2.out]; exact HP9), HB9.out⟩
          case measure => simp [intOf]; omega
      · obtain rfl : k3 = l.length := by omega
        rw [List.take_length] at HO HP
        obtain ⟨ks, hks⟩ : ∃ ks, l.map (·.1) = ks := ⟨_, rfl⟩
        obtain ⟨bl, hbl⟩ : ∃ bl, (l.map fun x => (x.1, (0 : Int))) = bl := ⟨_, rfl⟩
        have HKL := Lib.hid (show ks.length = l.length by rw [← hks]; simp)
        have HBLL := Lib.hid (show bl.length = l.length by rw [← hbl]; simp)
        have HKS := Lib.hid (show keysR ks = bytesR false l by rw [← hks]; exact keysR_bytesR l)
        have HKU := Lib.hid (show U64 ks by
          rw [← hks]
          intro x hx
          obtain ⟨y, hy, rfl⟩ := List.mem_map.1 hx
          exact (HU.out y hy).1)
        have HBL := Lib.hid hbl
        rw [hks] at HO
        rw [hbl] at HP
        obtain ⟨KB, kc, rfl, hkc, _, hrk⟩ := HO.out.form
        obtain ⟨BB, bc, rfl, hbc, _, hrb⟩ := HP.out.form
        have RK := Lib.hid hrk
        have RB := Lib.hid hrb
        have RL := Lib.hid (RP.out.below hb)
        have HT0 := HB2.out.trans (hb.mono HB2.out.size)
        have HLL := Lib.hid (show l.length ≤ 40 by omega)
        have hk40 : ks.length ≤ 1000 := by have := HKL.out; omega
        have hb40 : bl.length ≤ 1000 := by have := HBLL.out; omega
        clear hks hbl hrk hrb HO HP hb
        go_wp2_with fail
        refine (keys_b KB kc _ ks _ (by first | rfl | omega) HKU.out RK.out (by omega)).mono ?_
        rintro e w10 ⟨B10, d10, p, er, rfl, K10, hdp, rr10, hb10⟩
        have HT1 := below_then HT0 hb10
        replace RB := Lib.hid (RB.out.below hb10)
        replace RL := Lib.hid (RL.out.below hb10)
        have R10 := Lib.hid rr10
        have HK10 := Lib.hid (show bytesR false l = (p, er) by rw [← HKS.out, K10.out])
        clear hb10 rr10 K10 HT0 RK
        go_wp2_with fail
        refine (pairs_b _ _ _ l _ (by first | rfl | omega) HU.out RL.out (by omega)).mono ?_
        rintro e w11 ⟨B11, d11, q, fr, rfl, K11, hdq, rr11, hb11⟩
        have HT2 := below_then HT1 hb11
        replace RB := Lib.hid (RB.out.below hb11)
        replace RL := Lib.hid (RL.out.below hb11)
        replace R10 := Lib.hid (R10.out.below hb11)
        have R11 := Lib.hid rr11
        clear hb11 rr11 HT1
        go_wp2_with fail
        refine (refBytes_b _ _ _ l false _ (by first | rfl | omega) HU.out RL.out (by omega)).mono ?_
        rintro e w12 ⟨B12, d12, p2, er2, rfl, K12, hdp2, rr12, hb12⟩
        obtain ⟨rfl, rfl⟩ : p2 = p ∧ er2 = er := by
          have := K12.out
          rw [HK10.out] at this
          exact ⟨(Prod.mk.inj this).1.symm, (Prod.mk.inj this).2.symm⟩
        have HT3 := below_then HT2 hb12
        replace RB := Lib.hid (RB.out.below hb12)
        replace RL := Lib.hid (RL.out.below hb12)
        replace R10 := Lib.hid (R10.out.below hb12)
        replace R11 := Lib.hid (R11.out.below hb12)
        have R12 := Lib.hid rr12
        clear hb12 rr12 HT2 K12
        go_wp2_with fail
        refine (refBytes_b _ _ _ l true _ (by first | rfl | omega) HU.out RL.out (by omega)).mono ?_
        rintro e w13 ⟨B13, d13, q2, fr2, rfl, K13, hdq2, rr13, hb13⟩
        obtain ⟨rfl, rfl⟩ : q2 = q ∧ fr2 = fr := by
          have := K13.out
          rw [K11.out] at this
          exact ⟨(Prod.mk.inj this).1.symm, (Prod.mk.inj this).2.symm⟩
        have HT4 := below_then HT3 hb13
        replace RB := Lib.hid (RB.out.below hb13)
        replace RL := Lib.hid (RL.out.below hb13)
        replace R10 := Lib.hid (R10.out.below hb13)
        replace R11 := Lib.hid (R11.out.below hb13)
        replace R12 := Lib.hid (R12.out.below hb13)
        have R13 := Lib.hid rr13
        obtain ⟨⟨hpl, hql, her⟩, hrd⟩ := back_reads HU.out HLL.out HK10.out K11.out
        have HRD := Lib.hid hrd
        have HER := Lib.hid her
        clear hb13 rr13 HT3 K13 hrd her
        have hff : ((er2 : Int) != er2) = false := by simp
        have hgg : ((fr2 : Int) != fr2) = false := by simp
        go_wp2_with fail
        refine (sameBytes_c _ _ _ _ _ _ p2 p2 _ rfl rfl R10.out R12.out (by omega) (by omega)).mono ?_
        rintro e w14 ⟨sb, rfl, HSB, hb14⟩
        obtain rfl : sb = true := by rw [HSB.out]; simp
        have HT5 := below_then HT4 hb14
        replace RB := Lib.hid (RB.out.below hb14)
        replace RL := Lib.hid (RL.out.below hb14)
        replace R10 := Lib.hid (R10.out.below hb14)
        replace R11 := Lib.hid (R11.out.below hb14)
        replace R13 := Lib.hid (R13.out.below hb14)
        clear hb14 HSB HT4 R12
        go_wp2_with fail
        refine (sameBytes_c _ _ _ _ _ _ q2 q2 _ rfl rfl R11.out R13.out (by omega) (by omega)).mono ?_
        rintro e w15 ⟨sb, rfl, HSB, hb15⟩
        obtain rfl : sb = true := by rw [HSB.out]; simp
        have HT6 := below_then HT5 hb15
        replace RB := Lib.hid (RB.out.below hb15)
        replace RL := Lib.hid (RL.out.below hb15)
        replace R10 := Lib.hid (R10.out.below hb15)
        replace R11 := Lib.hid (R11.out.below hb15)
        clear hb15 HSB HT5 R13
        rcases HER.out with rfl | rfl
        · obtain ⟨rfl, hBp, hBq, hpp, hqq⟩ := HRD.out rfl
          rw [HBL.out] at hpp
          have HPP := Lib.hid hpp
          have HQQ := Lib.hid hqq
          have HBP := Lib.hid hBp
          have HBQ := Lib.hid hBq
          clear hBp hBq hpp hqq HRD HER K11 HK10 HKS
          go_wp2_with fail
          refine (parse_b B10 d10 _ p2 _ (by first | rfl | omega) HBP.out R10.out (by omega) hdp).mono ?_
          rintro e w16 ⟨B16, d16, m16, t16, e16, rfl, K16, _, rr16, hb16⟩
          obtain ⟨rfl, rfl, rfl⟩ : e16 = 0 ∧ t16 = false ∧ m16 = bl := by
            rcases K16.out with ⟨h1, h2⟩ | ⟨h1, _⟩
            · rw [HPP.out] at h1
              simp only [Option.some.injEq, Prod.mk.injEq] at h1
              exact ⟨h2, h1.1.symm, h1.2.symm⟩
            · rw [HPP.out] at h1; cases h1
          have HT7 := below_then HT6 hb16
          replace RB := Lib.hid (RB.out.below hb16)
          replace RL := Lib.hid (RL.out.below hb16)
          replace R11 := Lib.hid (R11.out.below hb16)
          have R16 := Lib.hid rr16
          clear hb16 rr16 K16 HT6
          go_wp2_with fail
          refine (parse_b B11 d11 _ q2 _ (by first | rfl | omega) HBQ.out R11.out (by omega) hdq).mono ?_
          rintro e w17 ⟨B17, d17, m17, t17, e17, rfl, K17, _, rr17, hb17⟩
          obtain ⟨rfl, rfl, rfl⟩ : e17 = 0 ∧ t17 = true ∧ m17 = l := by
            rcases K17.out with ⟨h1, h2⟩ | ⟨h1, _⟩
            · rw [HQQ.out] at h1
              simp only [Option.some.injEq, Prod.mk.injEq] at h1
              exact ⟨h2, h1.1.symm, h1.2.symm⟩
            · rw [HQQ.out] at h1; cases h1
          have HT8 := below_then HT7 hb17
          replace RB := Lib.hid (RB.out.below hb17)
          replace RL := Lib.hid (RL.out.below hb17)
          replace R16 := Lib.hid (R16.out.below hb17)
          have R17 := Lib.hid rr17
          clear hb17 rr17 K17 HT7 HQQ
          go_wp2_with fail
          refine (refSame_any B16 BB _ _ m16 m16 _ R16.out RB.out (by omega)).mono ?_
          rintro e w18 ⟨sa, rfl, HSA, hb18⟩
          obtain rfl : sa = true := by rw [HSA.out]; simp
          have HT9 := below_then HT8 hb18
          replace RL := Lib.hid (RL.out.below hb18)
          replace R17 := Lib.hid (R17.out.below hb18)
          clear hb18 HSA HT8
          go_wp2_with fail
          refine (refSame_any B17 _ _ _ m17 m17 _ R17.out RL.out (by omega)).mono ?_
          rintro e w19 ⟨sa, rfl, HSA, hb19⟩
          obtain rfl : sa = true := by rw [HSA.out]; simp
          go_wp2
          go_ret
          exact ⟨rfl, below_then HT9 hb19⟩
        · (go_wp2; go_ret; exact ⟨rfl, HT6⟩)
  · go_wp2_with (first
      | (refine wpList_uptoP A1 l0.length c1 l.length _ _ rfl rfl Try.underlying39 pi pz1 rfl rfl HMN.out hNl hc1 ?_)
      | (at_builtin; refine wpList_pushAllP W.heap.size _ [] l A1 c1 _ _ rfl rfl Try.underlying39 pi pz0 pz1 pz2 rfl rfl rfl HRT.out HOM.out hsA BB0.1 BB0.2 ?_; intro v2 w2 ho2 hg2 _; rw [HAPP l] at ho2; have HB2 := Lib.hid (HB1.out.grown hg2 hsA (fun g hg => (HOM.out.block g hg).1)); obtain ⟨LA, lc, rfl, hlc, _, hrl⟩ := ho2.form; have RP := Lib.hid hrl))
    have HU := Lib.hid (show U64P l by rw [← HLT.out]; exact fun x hx => HU1.out x (List.mem_of_mem_take hx))
    clear hg2 ho2 hrl
    go_loopw [5, 41] (fun v5 v41 wr => ∃ (k : Nat) (ks : List Int) (RA : Option Addr) (rc : Nat), k ≤ l.length ∧ v41 = .int .i64 k ∧ v5 = .slice RA ks.length rc ∧ Hid (Rd .u64 wr RA ks) ∧ ks.length ≤ rc ∧ Hid (Rise ks) ∧ Hid (U64 ks) ∧ ks.length ≤ k ∧ Below w2.heap.size w2 wr) (fun _ v41 _ => l.length - (intOf v41).toNat)
    case atStart => exact ⟨0, [], none, 0, Nat.zero_le _, rfl, rfl, Rd.nil _ _ _, Nat.zero_le _, trivial, (fun x hx => absurd hx (by simp)), Nat.zero_le _, Below.refl _ _⟩
    case round =>
      obtain ⟨k, ks, RA, rc, hk, rfl, rfl, HRK, hkc, HRI, HUK, hkk, hb⟩ := hrel
      by_cases hlt : k < l.length
      · obtain ⟨ad, rfl, had, hk0, hv0⟩ := RP.out k hlt
        have hk0' := (hb.cell (p := ad.add (k * 2)) (by rw [block_of_add]; exact had)).trans hk0
        have hv0' := (hb.cell (p := ad.add (k * 2 + 1)) (by rw [block_of_add]; exact had)).trans hv0
        rw [pair_addr] at hv0'
        have HXU := Lib.hid (HU.out.at_ hlt)
        have hsz := hb.size
        clear hk0 hv0
        generalize l.getD k (0, 0) = x at *
        obtain ⟨x0, x1⟩ := x
        have hba := hb.alloc hsz (.cells #[.int .u64 x0, .int .u64 x1] 43)
        have HRK2 := Lib.hid (HRK.out.below ((Below.refl wr.heap.size wr).alloc (Nat.le_refl _) (.cells #[.int .u64 x0, .int .u64 x1] 43)))
        go_wp2_with fail
        refine (add_any RA rc ks x0 _ HRK2.out (by omega) hkc).mono ?_
        rintro e w3 ⟨B2, m2, d2, rfl, HM, hd2, rr2, hb2⟩
        have hml : m2.length ≤ ks.length + 1 := by rw [HM.out]; exact addR_len _ _
        have HRI2 := Lib.hid (show Rise m2 by rw [HM.out]; exact (addR_rise ks x0 HRI.out).1)
        have HUK2 := Lib.hid (show U64 m2 by rw [HM.out]; exact addR_u64 HUK.out HXU.out.1)
        go_wp2
        go_roundw
        case rel => exact ⟨k + 1, m2, B2, d2, by omega, by go_num, rfl, rr2, hd2, HRI2.out, HUK2.out, by omega, hba.trans (hb2.mono hba.size)⟩
        case measure => simp [intOf]; omega
      · have HB3 := Lib.hid (HB2.out.trans (hb.mono HB2.out.size))
        have RP3 := Lib.hid (RP.out.below hb)
        have hkl : ks.length ≤ l.length := by omega
        obtain ⟨pl, hpl⟩ : ∃ pl, pairUp ks l = pl := ⟨_, rfl⟩
        have hpll : pl.length = ks.length := by rw [← hpl]; exact pairUp_len hkl
        have HPA := Lib.hid (show ∀ i, i < ks.length → pl.getD i (0, 0) = (ks.getD i 0, (l.getD i (0, 0)).2) from fun i hi => by rw [← hpl]; exact pairUp_at hkl hi)
        have HPR := Lib.hid (show Rise (pl.map (·.1)) by rw [← hpl, pairUp_fst hkl]; exact HRI.out)
        have HPU := Lib.hid (show U64P pl by rw [← hpl]; exact pairUp_u64 hkl HUK.out HU.out)
        have HPLL := Lib.hid hpll
        have RK3 := HRK
        have hks40 : ks.length ≤ 40 := by omega
        clear hpl hpll hb
        go_wp2_with fail
        go_loopw [8, 52] (fun v8 v52 w4 => ∃ i : Nat, i ≤ ks.length ∧ v52 = .int .i64 i ∧ Hid (OwnP w4 wr.heap.size v8 (pl.take i)) ∧ Below wr.heap.size wr w4) (fun _ v52 _ => ks.length - (intOf v52).toNat)
        case atStart => exact ⟨0, Nat.zero_le _, rfl, OwnP.nil _ _, Below.refl _ _⟩
        case round =>
          rename World => w4
          obtain ⟨i, hi', rfl, HP, hb⟩ := hrel
          by_cases hlt2 : i < ks.length
          · have hsz := hb.size
            obtain ⟨kad, rfl, hkad, hkc1⟩ := HRK.out i hlt2
            have hkc' := (hb.cell (p := kad.add i) (by rw [block_of_add]; exact hkad)).trans hkc1
            obtain ⟨ad, rfl, had, _, hv0⟩ := RP3.out i (by omega)
            have hv0' := (hb.cell (p := ad.add (i * 2 + 1)) (by rw [block_of_add]; exact had)).trans hv0
            rw [pair_addr] at hv0'
            have HTK := Lib.hid (show pl.take (i + 1) = pl.take i ++ [(ks.getD i 0, (l.getD i (0, 0)).2)] by
              rw [List.take_succ_eq_append_getElem (by rw [HPLL.out]; exact hlt2), ← HPA.out i hlt2]
              simp [List.getD_eq_getElem?_getD, List.getElem?_eq_getElem (show i < pl.length by rw [HPLL.out]; exact hlt2)])
            have BP : ((pl.take i).length + 1) * 16 ≤ 140737488355328 ∧ (pl.take i).length + 1 ≤ maxLen := by rw [List.length_take, HPLL.out]; exact ⟨by omega, by unfold maxLen; omega⟩
            generalize (l.getD i (0, 0)).2 = x1 at *
            generalize ks.getD i 0 = x0 at *
            have WP := Lib.hid (HP.out.alloc (.cells #[.int .u64 x0, .int .u64 x1] 43))
            have WB := Lib.hid (hb.alloc hsz (.cells #[.int .u64 x0, .int .u64 x1] 43))
            clear hv0
            go_wp2_with (at_builtin; refine wpList_pushP wr.heap.size _ (pl.take i) (x0, x1) _ _ _ rfl rfl Try.underlying39 pi pz0 pz1 pz2 rfl rfl rfl (heap_alloc_new _ _) WP.out WB.out.size BP.1 BP.2 ?_; intro v5 w5 ho5 hg5 _)
            try go_wp2
            go_roundw
            case rel => exact ⟨i + 1, by omega, by go_num, (by rw [HTK.out]; exact ho5), WB.out.grown hg5 WB.out.size (fun g hg => (WP.out.block g hg).1)⟩
            case measure => simp [intOf]; omega
          · obtain rfl : i = ks.length := by omega
            rw [show pl.take ks.length = pl by rw [← HPLL.out, List.take_length]] at HP
            have hpl40 : pl.length ≤ 40 := by rw [HPLL.out]; exact hks40
            obtain ⟨MB, mc, rfl, hmc, _, hrm⟩ := HP.out.form
            have RPM := Lib.hid hrm
            have HB4 := Lib.hid (HB3.out.trans (hb.mono HB3.out.size))
            clear hrm HP hb HRK RK3 RP3 HB3 HRI HUK
            go_wp2_with fail
            have KU0 := Lib.hid (Own.nil .u64 22 w4 w4.heap.size)
            go_loopw [11, 12, 71] (fun v11 v12 v71 wr => ∃ k : Nat, k ≤ pl.length ∧ v71 = .int .i64 k ∧ Hid (Own .u64 22 wr w4.heap.size v11 ((pl.take k).map (·.1))) ∧ Hid (OwnP wr w4.heap.size v12 ((pl.take k).map fun x => (x.1, 0))) ∧ Below w4.heap.size w4 wr) (fun _ _ v71 _ => pl.length - (intOf v71).toNat)
            case atStart => exact ⟨0, Nat.zero_le _, rfl, (by show Own _ _ _ _ _ _; simpa using Own.nil _ _ _ _), (by show OwnP _ _ _ _; simpa using OwnP.nil _ _), Below.refl _ _⟩
            case round =>
              rename World => wx
              obtain ⟨k3, hk3, rfl, HO, HP, hb⟩ := hrel
              by_cases hlt3 : k3 < pl.length
              · obtain ⟨ad, rfl, had, hk0, hv0⟩ := RPM.out k3 hlt3
                have hk0' := (hb.cell (p := ad.add (k3 * 2)) (by rw [block_of_add]; exact had)).trans hk0
                have hv0' := (hb.cell (p := ad.add (k3 * 2 + 1)) (by rw [block_of_add]; exact had)).trans hv0
                rw [pair_addr] at hv0'
                have HSN1 := Lib.hid (show (pl.take (k3 + 1)).map (·.1) = (pl.take k3).map (·.1) ++ [(pl.getD k3 (0, 0)).1] from fst_snoc hlt3)
                have HSN2 := Lib.hid (show ((pl.take (k3 + 1)).map fun x => (x.1, (0 : Int))) = ((pl.take k3).map fun x => (x.1, (0 : Int))) ++ [((pl.getD k3 (0, 0)).1, 0)] from bare_snoc hlt3)
                clear hk0 hv0
                generalize pl.getD k3 (0, 0) = x at *
                obtain ⟨x0, x1⟩ := x
                have hsz := hb.size
                have hne83 : 22 ≠ 43 := by decide
                have hne38 : 43 ≠ 22 := by decide
                have OWK : ∀ w', Below wx.heap.size wx w' → Own .u64 22 w' w4.heap.size _ ((pl.take k3).map (·.1)) := fun w' h => HO.out.below h
                have OWP : ∀ w', Below wx.heap.size wx w' → OwnP w' w4.heap.size _ ((pl.take k3).map fun x => (x.1, (0 : Int))) := fun w' h => HP.out.below h
                have OWB : ∀ w', Below wx.heap.size wx w' → Below w4.heap.size w4 w' := fun w' h => hb.trans (h.mono hsz)
                have BK : (((pl.take k3).map (·.1)).length + 1) * 8 ≤ 140737488355328 ∧ ((pl.take k3).map (·.1)).length + 1 ≤ maxLen := by rw [List.length_map, List.length_take]; exact ⟨by omega, by unfold maxLen; omega⟩
                have BP : (((pl.take k3).map fun x => (x.1, (0 : Int))).length + 1) * 16 ≤ 140737488355328 ∧ ((pl.take k3).map fun x => (x.1, (0 : Int))).length + 1 ≤ maxLen := by rw [List.length_map, List.length_take]; exact ⟨by omega, by unfold maxLen; omega⟩
                go_wp2_with fail
                go_region_law (first
                  | ((with_reducible refine gate_sbuiltin (b := .append) rfl ?_); refine step_pushK w4.heap.size _ _ x0 _ _ _ rfl rfl Try.underlying24 hi hz0 hz1 hz2 rfl hne83 rfl rfl (by first | exact heap_alloc_new _ _ | exact alloc_at (by simp) | exact blk_alloc (alloc_at (by simp)) _) (OWK _ (by repeat (first | exact Below.refl _ _ | refine Below.drew ?_ | refine Below.alloc ?_ (by first | omega | (simp; done) | (simp; omega)) _))) (by simp; omega) BK.1 BK.2 ?_; intro v8 w8 ho8 hp8 hy8 hb8; have HY8 := Lib.hid (hy8 wx.heap.size #[.int .u64 x0, .int .u64 x1] (by first | exact blk_alloc (alloc_at (by simp)) _ | exact blk_alloc (blk_alloc (alloc_at (by simp)) _) _)); have y80 := blk_cell HY8.out 0 rfl; have HP8 := Lib.hid (hp8 _ _ (OWP _ (by repeat (first | exact Below.refl _ _ | refine Below.drew ?_ | refine Below.alloc ?_ (by first | omega | (simp; done) | (simp; omega)) _)))); have HB8 := Lib.hid (hb8 _ (OWB _ (by repeat (first | exact Below.refl _ _ | refine Below.drew ?_ | refine Below.alloc ?_ (by first | omega | (simp; done) | (simp; omega)) _)))); have HO8 := Lib.hid ho8; clear ho8 hp8 hb8)
                  | ((with_reducible refine gate_sbuiltin (b := .append) rfl ?_); refine step_pushQ (e2 := 22) w4.heap.size _ _ (x0, 0) _ _ _ rfl rfl Try.underlying39 pi pz0 pz1 pz2 rfl hne38 rfl rfl ?_ ?_ ?_ BP.1 BP.2 ?_; (next => first | exact heap_alloc_new _ _ | exact hy8 _ _ (by first | exact heap_alloc_new _ _ | exact alloc_at (by simp) | exact blk_alloc (alloc_at (by simp)) _)); (next => first | exact HP8.out | exact HP8.out.below (by repeat (first | exact Below.refl _ _ | refine Below.drew ?_ | refine Below.alloc ?_ (by first | omega | (simp; done) | (simp; omega)) _))); (next => first | exact HB8.out.size | exact Nat.le_trans HB8.out.size (by simp)); intro v9 w9 ho9 hp9 hy9 hb9; have HP9 := Lib.hid ho9; have HO9 := Lib.hid (hp9 _ _ (HO8.out.below (by repeat (first | exact Below.refl _ _ | refine Below.drew ?_ | refine Below.alloc ?_ (by first | omega | (simp; done) | (simp; omega)) _)))); have HB9 := Lib.hid (hb9 _ (HB8.out.trans (Below.mono (by repeat (first | exact Below.refl _ _ | refine Below.drew ?_ | refine Below.alloc ?_ (by first | omega | (simp; done) | (simp; omega)) _)) HB8.out.size))); clear ho9 hp9 hy9 hb9))
                all_goals
                  try go_wp2
                  go_roundw
                  case rel => exact ⟨k3 + 1, by omega, by go_num, (by rw [HSN1.out]; exact HO9), (by rw [HSN2.out]; exact HP9), HB9.out⟩
                  case measure => simp [intOf]; omega
              · obtain rfl : k3 = pl.length := by omega
                rw [List.take_length] at HO HP
                obtain ⟨ks, hks⟩ : ∃ ks, pl.map (·.1) = ks := ⟨_, rfl⟩
                obtain ⟨bl, hbl⟩ : ∃ bl, (pl.map fun x => (x.1, (0 : Int))) = bl := ⟨_, rfl⟩
                have HKL := Lib.hid (show ks.length = pl.length by rw [← hks]; simp)
                have HBLL := Lib.hid (show bl.length = pl.length by rw [← hbl]; simp)
                have HKS := Lib.hid (show keysR ks = bytesR false pl by rw [← hks]; exact keysR_bytesR pl)
                have HKU := Lib.hid (show U64 ks by
                  rw [← hks]
                  intro x hx
                  obtain ⟨y, hy, rfl⟩ := List.mem_map.1 hx
                  exact (HPU.out y hy).1)
                have HBL := Lib.hid hbl
                rw [hks] at HO
                rw [hbl] at HP
                obtain ⟨KB, kc, rfl, hkc, _, hrk⟩ := HO.out.form
                obtain ⟨BB, bc, rfl, hbc, _, hrb⟩ := HP.out.form
                have RK := Lib.hid hrk
                have RB := Lib.hid hrb
                have RL := Lib.hid (RPM.out.below hb)
                have HT0 := HB4.out.trans (hb.mono HB4.out.size)
                have HLL := Lib.hid (show pl.length ≤ 40 by omega)
                have hk40 : ks.length ≤ 1000 := by have := HKL.out; omega
                have hb40 : bl.length ≤ 1000 := by have := HBLL.out; omega
                clear hks hbl hrk hrb HO HP hb
                go_wp2_with fail
                refine (keys_b KB kc _ ks _ (by first | rfl | omega) HKU.out RK.out (by omega)).mono ?_
                rintro e w10 ⟨B10, d10, p, er, rfl, K10, hdp, rr10, hb10⟩
                have HT1 := below_then HT0 hb10
                replace RB := Lib.hid (RB.out.below hb10)
                replace RL := Lib.hid (RL.out.below hb10)
                have R10 := Lib.hid rr10
                have HK10 := Lib.hid (show bytesR false pl = (p, er) by rw [← HKS.out, K10.out])
                clear hb10 rr10 K10 HT0 RK
                go_wp2_with fail
                refine (pairs_b _ _ _ pl _ (by first | rfl | omega) HPU.out RL.out (by omega)).mono ?_
                rintro e w11 ⟨B11, d11, q, fr, rfl, K11, hdq, rr11, hb11⟩
                have HT2 := below_then HT1 hb11
                replace RB := Lib.hid (RB.out.below hb11)
                replace RL := Lib.hid (RL.out.below hb11)
                replace R10 := Lib.hid (R10.out.below hb11)
                have R11 := Lib.hid rr11
                clear hb11 rr11 HT1
                go_wp2_with fail
                refine (refBytes_b _ _ _ pl false _ (by first | rfl | omega) HPU.out RL.out (by omega)).mono ?_
                rintro e w12 ⟨B12, d12, p2, er2, rfl, K12, hdp2, rr12, hb12⟩
                obtain ⟨rfl, rfl⟩ : p2 = p ∧ er2 = er := by
                  have := K12.out
                  rw [HK10.out] at this
                  exact ⟨(Prod.mk.inj this).1.symm, (Prod.mk.inj this).2.symm⟩
                have HT3 := below_then HT2 hb12
                replace RB := Lib.hid (RB.out.below hb12)
                replace RL := Lib.hid (RL.out.below hb12)
                replace R10 := Lib.hid (R10.out.below hb12)
                replace R11 := Lib.hid (R11.out.below hb12)
                have R12 := Lib.hid rr12
                clear hb12 rr12 HT2 K12
                go_wp2_with fail
                refine (refBytes_b _ _ _ pl true _ (by first | rfl | omega) HPU.out RL.out (by omega)).mono ?_
                rintro e w13 ⟨B13, d13, q2, fr2, rfl, K13, hdq2, rr13, hb13⟩
                obtain ⟨rfl, rfl⟩ : q2 = q ∧ fr2 = fr := by
                  have := K13.out
                  rw [K11.out] at this
                  exact ⟨(Prod.mk.inj this).1.symm, (Prod.mk.inj this).2.symm⟩
                have HT4 := below_then HT3 hb13
                replace RB := Lib.hid (RB.out.below hb13)
                replace RL := Lib.hid (RL.out.below hb13)
                replace R10 := Lib.hid (R10.out.below hb13)
                replace R11 := Lib.hid (R11.out.below hb13)
                replace R12 := Lib.hid (R12.out.below hb13)
                have R13 := Lib.hid rr13
                obtain ⟨⟨hpl, hql, her⟩, hrd⟩ := back_reads HPU.out HLL.out HK10.out K11.out
                have HRD := Lib.hid hrd
                have HER := Lib.hid her
                clear hb13 rr13 HT3 K13 hrd her
                have hff : ((er2 : Int) != er2) = false := by simp
                have hgg : ((fr2 : Int) != fr2) = false := by simp
                go_wp2_with fail
                refine (sameBytes_c _ _ _ _ _ _ p2 p2 _ rfl rfl R10.out R12.out (by omega) (by omega)).mono ?_
                rintro e w14 ⟨sb, rfl, HSB, hb14⟩
                obtain rfl : sb = true := by rw [HSB.out]; simp
                have HT5 := below_then HT4 hb14
                replace RB := Lib.hid (RB.out.below hb14)
                replace RL := Lib.hid (RL.out.below hb14)
                replace R10 := Lib.hid (R10.out.below hb14)
                replace R11 := Lib.hid (R11.out.below hb14)
                replace R13 := Lib.hid (R13.out.below hb14)
                clear hb14 HSB HT4 R12
                go_wp2_with fail
                refine (sameBytes_c _ _ _ _ _ _ q2 q2 _ rfl rfl R11.out R13.out (by omega) (by omega)).mono ?_
                rintro e w15 ⟨sb, rfl, HSB, hb15⟩
                obtain rfl : sb = true := by rw [HSB.out]; simp
                have HT6 := below_then HT5 hb15
                replace RB := Lib.hid (RB.out.below hb15)
                replace RL := Lib.hid (RL.out.below hb15)
                replace R10 := Lib.hid (R10.out.below hb15)
                replace R11 := Lib.hid (R11.out.below hb15)
                clear hb15 HSB HT5 R13
                rcases HER.out with rfl | rfl
                · obtain ⟨rfl, hBp, hBq, hpp, hqq⟩ := HRD.out rfl
                  rw [HBL.out] at hpp
                  have HPP := Lib.hid hpp
                  have HQQ := Lib.hid hqq
                  have HBP := Lib.hid hBp
                  have HBQ := Lib.hid hBq
                  clear hBp hBq hpp hqq HRD HER K11 HK10 HKS
                  go_wp2_with fail
                  refine (parse_b B10 d10 _ p2 _ (by first | rfl | omega) HBP.out R10.out (by omega) hdp).mono ?_
                  rintro e w16 ⟨B16, d16, m16, t16, e16, rfl, K16, _, rr16, hb16⟩
                  obtain ⟨rfl, rfl, rfl⟩ : e16 = 0 ∧ t16 = false ∧ m16 = bl := by
                    rcases K16.out with ⟨h1, h2⟩ | ⟨h1, _⟩
                    · rw [HPP.out] at h1
                      simp only [Option.some.injEq, Prod.mk.injEq] at h1
                      exact ⟨h2, h1.1.symm, h1.2.symm⟩
                    · rw [HPP.out] at h1; cases h1
                  have HT7 := below_then HT6 hb16
                  replace RB := Lib.hid (RB.out.below hb16)
                  replace RL := Lib.hid (RL.out.below hb16)
                  replace R11 := Lib.hid (R11.out.below hb16)
                  have R16 := Lib.hid rr16
                  clear hb16 rr16 K16 HT6
                  go_wp2_with fail
                  refine (parse_b B11 d11 _ q2 _ (by first | rfl | omega) HBQ.out R11.out (by omega) hdq).mono ?_
                  rintro e w17 ⟨B17, d17, m17, t17, e17, rfl, K17, _, rr17, hb17⟩
                  obtain ⟨rfl, rfl, rfl⟩ : e17 = 0 ∧ t17 = true ∧ m17 = pl := by
                    rcases K17.out with ⟨h1, h2⟩ | ⟨h1, _⟩
                    · rw [HQQ.out] at h1
                      simp only [Option.some.injEq, Prod.mk.injEq] at h1
                      exact ⟨h2, h1.1.symm, h1.2.symm⟩
                    · rw [HQQ.out] at h1; cases h1
                  have HT8 := below_then HT7 hb17
                  replace RB := Lib.hid (RB.out.below hb17)
                  replace RL := Lib.hid (RL.out.below hb17)
                  replace R16 := Lib.hid (R16.out.below hb17)
                  have R17 := Lib.hid rr17
                  clear hb17 rr17 K17 HT7 HQQ
                  go_wp2_with fail
                  refine (refSame_any B16 BB _ _ m16 m16 _ R16.out RB.out (by omega)).mono ?_
                  rintro e w18 ⟨sa, rfl, HSA, hb18⟩
                  obtain rfl : sa = true := by rw [HSA.out]; simp
                  have HT9 := below_then HT8 hb18
                  replace RL := Lib.hid (RL.out.below hb18)
                  replace R17 := Lib.hid (R17.out.below hb18)
                  clear hb18 HSA HT8
                  go_wp2_with fail
                  refine (refSame_any B17 _ _ _ m17 m17 _ R17.out RL.out (by omega)).mono ?_
                  rintro e w19 ⟨sa, rfl, HSA, hb19⟩
                  obtain rfl : sa = true := by rw [HSA.out]; simp
                  go_wp2
                  go_ret
                  exact ⟨rfl, below_then HT9 hb19⟩
                · (exact absurd (rise_zero HPR.out HLL.out HK10.out) (by decide))
theorem walk_codeBack (A1 : Option Addr) (c1 : Nat) (l : List (Int × Int)) (sorted : Bool) (W : World)
    (s1 : l.length * 16 ≤ 140737488351232) (h1 : l.length ≤ c1) (y1 : RdP W A1 l) (w1 : ∀ x ∈ l, (Lit.int .u64 x.1).wf = true ∧ (Lit.int .u64 x.2).wf = true) :
    Calls Try.prog 5 #[.slice A1 l.length c1, .bool sorted] W fun e W' => e = .returned (.bool true) ∧ Below W.heap.size W W' :=
  back_walk A1 c1 l sorted W (by omega) h1 y1 (fun x hx => ⟨wf_u64 (w1 x hx).1, wf_u64 (w1 x hx).2⟩)
end Go.Proofs.Ytnlflpcioiieaaa
