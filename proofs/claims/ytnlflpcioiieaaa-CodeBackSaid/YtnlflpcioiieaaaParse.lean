/-
  code.Parse walked.
-/
import Derived.Test.YtnlflpcioiieaaaDec
import Derived.Test.YtnlflpcioiieaaaPair
namespace Go.Proofs.Ytnlflpcioiieaaa
set_option linter.unusedVariables false
set_option linter.unusedSimpArgs false
open Go.RowKit

set_option maxHeartbeats 1000000 in
set_option maxRecDepth 100000 in
theorem parse_any (A : Option Addr) (c : Nat) (l : List Int) (w : World) (hB : Bytes l) (hr : Rd .u8 w A l) (hlen : l.length ≤ 140737488351232) (hc : l.length ≤ c) :
    Calls Try.prog 18 #[.slice A l.length c] w fun e w' => ∃ v t er, e = .returned (.tuple #[v, .bool t, .int .i64 er]) ∧
      Hid ((∃ m, parseR l = some (t, m) ∧ er = 0 ∧ OwnP w' w.heap.size v m) ∨ (parseR l = none ∧ er = 2 ∧ t = false ∧ OwnP w' w.heap.size v [])) ∧ Below w.heap.size w w' := by
  have HR := Lib.hid hr
  have HB := Lib.hid hB
  obtain ⟨p0, pi, pz0, pz1, pz2⟩ := info_parts pair_info
  clear hr hB
  go_enter Try.func18, Try.ntmps18
  rcases l with _ | ⟨b, q⟩
  · go_wp2
    go_ret3
    exact ⟨_, _, _, rfl, .inr ⟨rfl, rfl, rfl, OwnP.nil _ _⟩, Below.refl _ _⟩
  · obtain ⟨ad, rfl, had, hcl⟩ := HR.out 0 (by simp)
    have e0 : ad.add 0 = ad := by simp [Addr.add]
    rw [e0, List.getD_cons_zero] at hcl
    obtain ⟨hb0, hb1⟩ := HB.out b List.mem_cons_self
    by_cases hb : 1 < b
    · have HN := Lib.hid (show parseR (b :: q) = none by simp only [parseR, if_pos hb])
      go_wp2
      go_ret3
      exact ⟨_, _, _, rfl, .inr ⟨HN.out, rfl, rfl, OwnP.nil _ _⟩, Below.refl _ _⟩
    · have hcut := HR.out.cut 1 q.length
      rw [show (((b :: q).drop 1).take q.length) = q by simp, show Option.map (fun x => x.add 1) (some ad) = some (Addr.mk ad.block (ad.off + 1) none) by simp [Addr.add]] at hcut
      have HBQ := Lib.hid (show Bytes q from fun y hy => HB.out y (List.mem_cons_of_mem _ hy))
      have hql : q.length ≤ 140737488351232 := by simp only [List.length_cons] at hlen; omega
      have hqc : q.length + 1 ≤ c := by simpa using hc
      obtain ⟨two, h2⟩ : ∃ two, (b == 1) = two := ⟨_, rfl⟩
      have HP := Lib.hid (show parseR (b :: q) = match dec q with
        | none => none
        | some (n, r) => if 262144 < n then none else match items two n none r with
          | some (m, []) => some (two, m)
          | _ => none by rw [← h2]; simp only [parseR, if_neg hb]; rfl)
      have HC := Lib.hid hcut
      have hb2 : b ≤ 1 := by omega
      clear hcut hc hlen
      have hqi : (1 : Int) ≤ (q.length : Int) + 1 := by omega
      have hci : (1 : Int) ≤ (c : Int) := by omega
      by_cases hcap : c = 1
      · have hq : q = [] := List.eq_nil_of_length_eq_zero (by omega)
        subst hq
        subst hcap
        go_wp2_with fail
        refine (number_dec w _ _ [] false ⟨by simp, (Below.refl _ _).alloc (Nat.le_refl _) _, _, _, heap_alloc_new _ _, by simp, Rd.nil _ _ _⟩ HBQ.out (by simp)).mono ?_
        rintro e w1 ⟨n, rfl, hg1, K⟩
        rcases K.out with ⟨r, hd, _⟩ | ⟨hd, rfl, hbb, hbw, A1, c1, hh1, _, _⟩
        · simp [dec, decG] at hd
        · have e1 := blk_cell hh1 1 rfl
          have HN := Lib.hid (show parseR [b] = none by rw [HP.out, hd])
          clear hg1 K hd
          go_wp2
          go_ret3
          exact ⟨_, _, _, rfl, .inr ⟨HN.out, rfl, rfl, OwnP.nil _ _⟩, hbw⟩
      · have hc2 : 1 < c := by omega
        go_wp2_with fail
        refine (number_dec w _ _ q false ⟨by simp, (Below.refl _ _).alloc (Nat.le_refl _) _, _, _, heap_alloc_new _ _, by omega, HC.out⟩ HBQ.out hql).mono ?_
        rintro e w1 ⟨n, rfl, hg1, K⟩
        rcases K.out with ⟨r, hd, hbb, hbw, A1, c1, hh1, hcr, hr1⟩ | ⟨hd, rfl, hbb, hbw, A1, c1, hh1, _, _⟩
        · obtain ⟨hn64, hqr⟩ := dec_some HBQ.out hd
          have e1 := blk_cell hh1 1 rfl
          by_cases hmx : 262144 < n
          · have HN := Lib.hid (show parseR (b :: q) = none by rw [HP.out, hd]; simp only [hmx, if_true])
            clear hg1 K hd
            go_wp2
            go_ret3
            exact ⟨_, _, _, rfl, .inr ⟨HN.out, rfl, rfl, OwnP.nil _ _⟩, hbw⟩
          · have HP2 := Lib.hid (show parseR (b :: q) = match items two n none r with
              | some (m, []) => some (two, m)
              | _ => none by rw [HP.out, hd]; simp only [hmx, if_false])
            have hn : n ≤ 262144 := by omega
            have HBR := Lib.hid (show Bytes r by have := HBQ.out; rw [hqr] at this; exact this.right)
            have hrl : r.length ≤ 140737488351232 := by have := congrArg List.length hqr; rw [List.length_append] at this; omega
            have HD1 := Lib.hid (show Dec w w1 _ r false from ⟨hbb, hbw, A1, c1, hh1, hcr, hr1⟩)
            clear hg1 K hd hqr hn64 hmx HP hh1 hcr hr1
            go_wp2_with fail
            go_loopw [8, 41] (fun v8 v41 wr => ∃ (i : Nat) (done : List (Int × Int)) (lr : List Int), i ≤ n ∧ Hid (done.length = i) ∧ v41 = .int .i64 i ∧ Hid (Itm two n i r done lr) ∧ Hid (Dec w wr w.heap.size lr false) ∧ Hid (OwnP wr w.heap.size v8 done) ∧ Hid (Bytes lr) ∧ Hid (lr.length ≤ r.length) ∧ Hid (∀ a, lastK done = some a → 0 ≤ a ∧ a ≤ 18446744073709551615)) (fun _ v41 _ => n - (intOf v41).toNat)
            case atStart => exact ⟨0, [], r, Nat.zero_le _, rfl, rfl, (by show items _ _ _ _ = _; simp [lastK]), HD1.out, OwnP.nil _ _, HBR.out, (by show _ ≤ _; omega), (fun a h => by cases h)⟩
            case round =>
              obtain ⟨i, done, lr, hi, HL, rfl, HI, HD, HO, HBL, HLL, HLK⟩ := hrel
              obtain ⟨A0, c0, hh0, _, _⟩ := HD.out.cells
              have HH0 := Lib.hid hh0
              clear hh0
              by_cases hlt : i < n
              · go_wp2_with fail
                refine (number_dec w _ _ lr false HD.out HBL.out (by have := HLL.out; omega)).mono ?_
                rintro e w2 ⟨d, rfl, hg2, K2⟩
                have HO2 := Lib.hid (HO.out.kept hg2 (fun g hg cs hh => by cases hg; rw [HH0.out] at hh; cases hh))
                have hO2l := Lib.hid (HO2.out.not_new w2.heap.size (Nat.le_refl _))
                rcases K2.out with ⟨s, hd2, hD2⟩ | ⟨hd2, rfl, hD2⟩
                · obtain ⟨A2, c2, hh2, hc2, hr2⟩ := hD2.cells
                  have HD2 := Lib.hid hD2
                  obtain ⟨hd64, hlrs⟩ := dec_some HBL.out hd2
                  have HBS := Lib.hid (show Bytes s by have := HBL.out; rw [hlrs] at this; exact this.right)
                  have HLS := Lib.hid (show s.length ≤ r.length by have := congrArg List.length hlrs; rw [List.length_append] at this; have := HLL.out; omega)
                  have HH2 := Lib.hid hh2
                  have x0 := blk_cell hh2 0 rfl
                  have x1 := blk_cell hh2 1 rfl
                  have xf := blk_free hh2 1
                  have xl := blk_lt hh2
                  have HC2 := Lib.hid hc2
                  have HR2 := Lib.hid hr2
                  have HDD := Lib.hid hd2
                  have HBW := Lib.hid hD2.2.1
                  clear hh2 hD2 hc2 hr2 K2 hg2 hlrs hd2
                  obtain ⟨OA, oc, rfl, hoc, hom, hrp⟩ := HO2.out.form
                  have HRP := Lib.hid hrp
                  clear hrp
                  cases two
                  · by_cases hi0 : i = 0
                    · have HI0 := Lib.hid hi0
                      have hi0i : (i : Int) ≤ 0 := by omega
                      have HK := Lib.hid (show keyOf (lastK done) d = some (d : Int) by rw [lastK_nil (by rw [HL.out]; exact hi0)]; rfl)
                      have HKB := Lib.hid (show 0 ≤ (d : Int) ∧ (d : Int) ≤ 18446744073709551615 by omega)
                      have WO := Lib.hid ((HO2.out.alloc (.cells #[.int .u64 d, .int .u64 0] 43)).alloc (.cells #[.int .u64 d, .int .u64 0] 43))
                      have WX := Lib.hid (blk_alloc (blk_alloc HH2.out (.cells #[.int .u64 d, .int .u64 0] 43)) (.cells #[.int .u64 d, .int .u64 0] 43))
                      have WB := Lib.hid ((HBW.out.alloc (by omega) (.cells #[.int .u64 d, .int .u64 0] 43)).alloc (by simp; omega) (.cells #[.int .u64 d, .int .u64 0] 43))
                      clear hi0
                      go_wp2_with (at_builtin; refine wpList_pushP w.heap.size _ done ((d : Int), 0) _ _ _ rfl rfl Try.underlying39 pi pz0 pz1 pz2 rfl rfl rfl (alloc_at (by simp)) WO.out ?g1 ?g2 ?g3 ?_; (case g1 => simp; omega); (case g2 => have := HL.out; omega); (case g3 => have := HL.out; unfold maxLen; omega); intro v4 w4 ho4 hg4 _)
                      go_roundw
                      case rel => exact ⟨i + 1, done ++ [((d : Int), 0)], s, by omega, (by show _ = _; rw [List.length_append, HL.out]; rfl), by go_num, HI.out.next_bare hlt HDD.out HK.out, ⟨Nat.le_refl _, WB.out.grown hg4 (by simp; omega) (fun g hg => (WO.out.block g hg).1), _, _, grown_blockP WO.out hg4 WX.out (by decide), HC2.out, HR2.out⟩, ho4, HBS.out, HLS.out, (by intro a ha; rw [lastK_snoc] at ha; cases ha; exact HKB.out)⟩
                      case measure => simp [intOf]; omega
                    · have HI0 := Lib.hid hi0
                      have hx0 : (0 : Int) < i := by omega
                      have hx1 : (0 : Int) ≤ (i : Int) - 1 := by omega
                      have hx2 : (i : Int) - 1 < done.length := by have := HL.out; omega
                      have hx3 : ((i : Int) - 1).toNat = i - 1 := by omega
                      obtain ⟨oad, rfl, hoad, ok1, _⟩ := HRP.out (i - 1) (by have := HL.out; omega)
                      have hla := lastK_at (k := i - 1) (by rw [HL.out]; omega)
                      obtain ⟨hla0, hla1⟩ := HLK.out _ hla
                      have HLA := Lib.hid hla
                      clear hla
                      generalize (done.getD (i - 1) (0, 0)).1 = la at *
                      have ok2 := (((Below.refl w2.heap.size w2).alloc (Nat.le_refl _) (Obj.cells #[Value.int .u64 d, Value.int .u64 0] 43)).cell (p := oad.add ((i - 1) * 2)) (by rw [block_of_add]; exact hoad)).trans ok1
                      clear hi0 ok1
                      by_cases hov : la = 18446744073709551615 ∨ 18446744073709551615 - la - 1 < (d : Int)
                      · have HN := Lib.hid (show parseR (b :: q) = none by rw [HP2.out, HI.out.none_key hlt HDD.out (by rw [HLA.out]; simp only [keyOf, if_pos hov])])
                        by_cases hmax : la = 18446744073709551615
                        · have hmb : (la == 18446744073709551615) = true := by simp [hmax]
                          have hb := HBW.out
                          clear hmax hov
                          go_wp2_with fail
                          go_ret3
                          exact ⟨_, _, _, rfl, .inr ⟨HN.out, rfl, rfl, OwnP.nil _ _⟩, by repeat (first | exact hb | exact Below.refl _ _ | refine below_drewN ?_ _ | refine Below.drew ?_ | refine Below.setCell ?_ (by first | omega | (simp; done) | (simp; omega)) _ | refine Below.alloc ?_ (by first | omega | (simp; done) | (simp; omega)) _)⟩
                        · have hmb : (la == 18446744073709551615) = false := by simpa using hmax
                          have hov2 : 18446744073709551615 - la - 1 < (d : Int) := by omega
                          have hw1 : IntKind.u64.wrap (18446744073709551615 - la) = 18446744073709551615 - la := by rw [IntKind.wrap_u64]; omega
                          have hw2 : IntKind.u64.wrap (18446744073709551615 - la - 1) = 18446744073709551615 - la - 1 := by rw [IntKind.wrap_u64]; omega
                          have hb := HBW.out
                          clear hmax hov
                          go_wp2_with fail
                          go_ret3
                          exact ⟨_, _, _, rfl, .inr ⟨HN.out, rfl, rfl, OwnP.nil _ _⟩, by repeat (first | exact hb | exact Below.refl _ _ | refine below_drewN ?_ _ | refine Below.drew ?_ | refine Below.setCell ?_ (by first | omega | (simp; done) | (simp; omega)) _ | refine Below.alloc ?_ (by first | omega | (simp; done) | (simp; omega)) _)⟩
                      · have hmb : (la == 18446744073709551615) = false := by simp; omega
                        have hov2 : (d : Int) ≤ 18446744073709551615 - la - 1 := by omega
                        have hw1 : IntKind.u64.wrap (18446744073709551615 - la) = 18446744073709551615 - la := by rw [IntKind.wrap_u64]; omega
                        have hw2 : IntKind.u64.wrap (18446744073709551615 - la - 1) = 18446744073709551615 - la - 1 := by rw [IntKind.wrap_u64]; omega
                        have hw3 : IntKind.u64.wrap (la + 1) = la + 1 := by rw [IntKind.wrap_u64]; omega
                        have hw4 : IntKind.u64.wrap ((d : Int) + (la + 1)) = (d : Int) + (la + 1) := by rw [IntKind.wrap_u64]; omega
                        have HK := Lib.hid (show keyOf (lastK done) d = some ((d : Int) + (la + 1)) by rw [HLA.out]; simp only [keyOf, if_neg hov]; congr 1; omega)
                        have HKB := Lib.hid (show 0 ≤ (d : Int) + (la + 1) ∧ (d : Int) + (la + 1) ≤ 18446744073709551615 by omega)
                        have hdb : decide (18446744073709551615 - la - 1 < (d : Int)) = false := by simp; omega
                        have hb := HBW.out
                        clear hov
                        have WO := Lib.hid (((HO2.out.set w.heap.size 1 (.bool false) (HO2.out.lt HH2.out (by decide))).alloc (.cells #[.int .u64 ((d : Int) + (la + 1)), .int .u64 0] 43)).alloc (.cells #[.int .u64 ((d : Int) + (la + 1)), .int .u64 0] 43))
                        have WX := Lib.hid (blk_alloc (blk_alloc (blk_set HH2.out 1 (.bool false)) (.cells #[.int .u64 ((d : Int) + (la + 1)), .int .u64 0] 43)) (.cells #[.int .u64 ((d : Int) + (la + 1)), .int .u64 0] 43))
                        have WB := Lib.hid (((HBW.out.setCell (p := ⟨w.heap.size, 1, none⟩) (Nat.le_refl _) (.bool false)).alloc (by simp; omega) (.cells #[.int .u64 ((d : Int) + (la + 1)), .int .u64 0] 43)).alloc (by simp; omega) (.cells #[.int .u64 ((d : Int) + (la + 1)), .int .u64 0] 43))
                        go_wp2_with (at_builtin; refine wpList_pushP w.heap.size _ done ((d : Int) + (la + 1), 0) _ _ _ rfl rfl Try.underlying39 pi pz0 pz1 pz2 rfl rfl rfl (alloc_at (by simp)) WO.out ?g1 ?g2 ?g3 ?_; (case g1 => simp; omega); (case g2 => have := HL.out; omega); (case g3 => have := HL.out; unfold maxLen; omega); intro v4 w4 ho4 hg4 _)
                        go_roundw
                        case rel => exact ⟨i + 1, done ++ [((d : Int) + (la + 1), 0)], s, by omega, (by show _ = _; rw [List.length_append, HL.out]; rfl), by go_num, HI.out.next_bare hlt HDD.out HK.out, ⟨Nat.le_refl _, WB.out.grown hg4 (by simp; omega) (fun g hg => (WO.out.block g hg).1), _, _, grown_blockP WO.out hg4 WX.out (by decide), HC2.out, HR2.out⟩, ho4, HBS.out, HLS.out, (by intro a ha; rw [lastK_snoc] at ha; cases ha; exact HKB.out)⟩
                        case measure => simp [intOf]; omega
                  · by_cases hi0 : i = 0
                    · have HI0 := Lib.hid hi0
                      have hi0i : (i : Int) ≤ 0 := by omega
                      have HK := Lib.hid (show keyOf (lastK done) d = some (d : Int) by rw [lastK_nil (by rw [HL.out]; exact hi0)]; rfl)
                      have HKB := Lib.hid (show 0 ≤ (d : Int) ∧ (d : Int) ≤ 18446744073709551615 by omega)
                      have WO1 := Lib.hid (HO2.out.alloc (.cells #[.int .u64 d, .int .u64 0] 43))
                      have WX1 := Lib.hid (blk_alloc HH2.out (.cells #[.int .u64 d, .int .u64 0] 43))
                      have WB1 := Lib.hid (HBW.out.alloc (by omega) (.cells #[.int .u64 d, .int .u64 0] 43))
                      have WY1 := Lib.hid (heap_alloc_new w2 (.cells #[.int .u64 d, .int .u64 0] 43))
                      clear hi0
                      go_wp2_with fail
                      refine (number_dec w _ _ s false ⟨Nat.le_refl _, WB1.out, A2, c2, WX1.out, HC2.out, HR2.out⟩ HBS.out (by have := HLS.out; omega)).mono ?_
                      rintro e w5 ⟨v, rfl, hg5, K5⟩
                      have WY5 := Lib.hid ((hg5.block w2.heap.size (blk_lt WY1.out) (by simp; omega)).trans WY1.out)
                      have y0 := blk_cell WY5.out 0 rfl
                      have y1 := blk_cell WY5.out 1 rfl
                      have yf := blk_free WY5.out 1
                      have WO5 := Lib.hid (WO1.out.kept hg5 (fun g hg cs hh => by cases hg; rw [WX1.out] at hh; cases hh))
                      have hne5 : w.heap.size ≠ w2.heap.size := by omega
                      rcases K5.out with ⟨s5, hv5, hD5⟩ | ⟨hv5, rfl, hD5⟩
                      · obtain ⟨A5, c5, hh5, hc5, hr5⟩ := hD5.cells
                        have x5 := blk_cell hh5 1 rfl
                        obtain ⟨hv64, hs5⟩ := dec_some HBS.out hv5
                        have HLS := Lib.hid (show s5.length ≤ r.length by have := congrArg List.length hs5; rw [List.length_append] at this; have := HLS.out; omega)
                        have HBS := Lib.hid (show Bytes s5 by have := HBS.out; rw [hs5] at this; exact this.right)
                        have hsz5 := hD5.2.1.size
                        have WO := Lib.hid ((WO5.out.set w2.heap.size 1 (.int .u64 v) (HO2.out.not_new w2.heap.size (Nat.le_refl _))).alloc (.cells #[.int .u64 ((d : Int)), .int .u64 v] 43))
                        have WX := Lib.hid (blk_alloc (blk_other hh5 1 (.int .u64 v) hne5) (.cells #[.int .u64 ((d : Int)), .int .u64 v] 43))
                        have WB := Lib.hid ((hD5.2.1.setCell (p := ⟨w2.heap.size, 1, none⟩) (by show _ ≤ w2.heap.size; omega) (.int .u64 v)).alloc (by simp; omega) (.cells #[.int .u64 ((d : Int)), .int .u64 v] 43))
                        have HC5 := Lib.hid hc5
                        have HR5 := Lib.hid hr5
                        have HV5 := Lib.hid hv5
                        clear hh5 hc5 hr5 hv5 hs5 hD5 K5
                        go_wp2_with (at_builtin; refine wpList_pushP w.heap.size _ done ((d : Int), (v : Int)) _ _ _ rfl rfl Try.underlying39 pi pz0 pz1 pz2 rfl rfl rfl (alloc_at (by simp)) WO.out ?g1 ?g2 ?g3 ?_; (case g1 => simp; omega); (case g2 => have := HL.out; omega); (case g3 => have := HL.out; unfold maxLen; omega); intro v4 w4 ho4 hg4 _)
                        go_roundw
                        case rel => exact ⟨i + 1, done ++ [((d : Int), (v : Int))], s5, by omega, (by show _ = _; rw [List.length_append, HL.out]; rfl), by go_num, HI.out.next_two hlt HDD.out HK.out HV5.out, ⟨Nat.le_refl _, WB.out.grown hg4 (by simp; omega) (fun g hg => (WO.out.block g hg).1), _, _, grown_blockP WO.out hg4 WX.out (by decide), HC5.out, HR5.out⟩, ho4, HBS.out, HLS.out, (by intro a ha; rw [lastK_snoc] at ha; cases ha; exact HKB.out)⟩
                        case measure => simp [intOf]; omega
                      · obtain ⟨A5, c5, hh5, hc5, hr5⟩ := hD5.cells
                        have x5 := blk_cell hh5 1 rfl
                        have HN := Lib.hid (show parseR (b :: q) = none by rw [HP2.out, HI.out.none_val hlt HDD.out hv5])
                        have hb := hD5.2.1
                        clear hh5 hc5 hr5 hv5 hD5 K5
                        go_wp2_with fail
                        go_ret3
                        exact ⟨_, _, _, rfl, .inr ⟨HN.out, rfl, rfl, OwnP.nil _ _⟩, by repeat (first | exact hb | exact Below.refl _ _ | refine below_drewN ?_ _ | refine Below.drew ?_ | refine Below.setCell ?_ (by first | omega | (simp; done) | (simp; omega)) _ | refine Below.alloc ?_ (by first | omega | (simp; done) | (simp; omega)) _)⟩
                    · have HI0 := Lib.hid hi0
                      have hx0 : (0 : Int) < i := by omega
                      have hx1 : (0 : Int) ≤ (i : Int) - 1 := by omega
                      have hx2 : (i : Int) - 1 < done.length := by have := HL.out; omega
                      have hx3 : ((i : Int) - 1).toNat = i - 1 := by omega
                      obtain ⟨oad, rfl, hoad, ok1, _⟩ := HRP.out (i - 1) (by have := HL.out; omega)
                      have hla := lastK_at (k := i - 1) (by rw [HL.out]; omega)
                      obtain ⟨hla0, hla1⟩ := HLK.out _ hla
                      have HLA := Lib.hid hla
                      clear hla
                      generalize (done.getD (i - 1) (0, 0)).1 = la at *
                      have ok2 := (((Below.refl w2.heap.size w2).alloc (Nat.le_refl _) (Obj.cells #[Value.int .u64 d, Value.int .u64 0] 43)).cell (p := oad.add ((i - 1) * 2)) (by rw [block_of_add]; exact hoad)).trans ok1
                      clear hi0 ok1
                      by_cases hov : la = 18446744073709551615 ∨ 18446744073709551615 - la - 1 < (d : Int)
                      · have HN := Lib.hid (show parseR (b :: q) = none by rw [HP2.out, HI.out.none_key hlt HDD.out (by rw [HLA.out]; simp only [keyOf, if_pos hov])])
                        have HLX := HLS
                        by_cases hmax : la = 18446744073709551615
                        · have hmb : (la == 18446744073709551615) = true := by simp [hmax]
                          have hb := HBW.out
                          clear hmax hov
                          go_wp2_with fail
                          refine (number_dec w _ _ s true ⟨Nat.le_refl _, by repeat (first | exact hb | exact Below.refl _ _ | refine below_drewN ?_ _ | refine Below.drew ?_ | refine Below.setCell ?_ (by first | omega | (simp; done) | (simp; omega)) _ | refine Below.alloc ?_ (by first | omega | (simp; done) | (simp; omega)) _), A2, c2, blk_alloc (blk_set HH2.out 1 (.bool true)) _, HC2.out, HR2.out⟩ HBS.out (by have := HLX.out; omega)).mono ?_
                          rintro e w5 ⟨v, rfl, hg5, K5⟩
                          have WY5 := Lib.hid ((hg5.block w2.heap.size (by simp <;> omega) (by simp <;> omega)).trans (alloc_at (by simp)))
                          have yf := blk_free WY5.out 1
                          have y1 := blk_cell WY5.out 1 rfl
                          have hne5 : w.heap.size ≠ w2.heap.size := by omega
                          have hxx : ∃ A5 n5 c5, w5.heap[w.heap.size]? = some (.cells #[.slice A5 n5 c5, .bool true] 66 (0, 0)) ∧ Below w.heap.size w w5 := by
                            rcases K5.out with ⟨s5, _, hD5⟩ | ⟨_, _, hD5⟩
                            · obtain ⟨A5, c5, hh5, _, _⟩ := hD5.cells
                              exact ⟨A5, _, c5, hh5, hD5.2.1⟩
                            · obtain ⟨A5, c5, hh5, _, _⟩ := hD5.cells
                              exact ⟨A5, _, c5, hh5, hD5.2.1⟩
                          obtain ⟨A5, n5, c5, hh5, hb⟩ := hxx
                          have x5 := blk_cell hh5 1 rfl
                          clear hh5 K5
                          go_wp2_with fail
                          go_ret3
                          exact ⟨_, _, _, rfl, .inr ⟨HN.out, rfl, rfl, OwnP.nil _ _⟩, by repeat (first | exact hb | exact Below.refl _ _ | refine below_drewN ?_ _ | refine Below.drew ?_ | refine Below.setCell ?_ (by first | omega | (simp; done) | (simp; omega)) _ | refine Below.alloc ?_ (by first | omega | (simp; done) | (simp; omega)) _)⟩
                        · have hmb : (la == 18446744073709551615) = false := by simpa using hmax
                          have hov2 : 18446744073709551615 - la - 1 < (d : Int) := by omega
                          have hdb : decide (18446744073709551615 - la - 1 < (d : Int)) = true := by simp; omega
                          have hw1 : IntKind.u64.wrap (18446744073709551615 - la) = 18446744073709551615 - la := by rw [IntKind.wrap_u64]; omega
                          have hw2 : IntKind.u64.wrap (18446744073709551615 - la - 1) = 18446744073709551615 - la - 1 := by rw [IntKind.wrap_u64]; omega
                          have hb := HBW.out
                          clear hmax hov
                          go_wp2_with fail
                          refine (number_dec w _ _ s true ⟨Nat.le_refl _, by repeat (first | exact hb | exact Below.refl _ _ | refine below_drewN ?_ _ | refine Below.drew ?_ | refine Below.setCell ?_ (by first | omega | (simp; done) | (simp; omega)) _ | refine Below.alloc ?_ (by first | omega | (simp; done) | (simp; omega)) _), A2, c2, blk_alloc (blk_set HH2.out 1 (.bool true)) _, HC2.out, HR2.out⟩ HBS.out (by have := HLX.out; omega)).mono ?_
                          rintro e w5 ⟨v, rfl, hg5, K5⟩
                          have WY5 := Lib.hid ((hg5.block w2.heap.size (by simp <;> omega) (by simp <;> omega)).trans (alloc_at (by simp)))
                          have yf := blk_free WY5.out 1
                          have y1 := blk_cell WY5.out 1 rfl
                          have hne5 : w.heap.size ≠ w2.heap.size := by omega
                          have hxx : ∃ A5 n5 c5, w5.heap[w.heap.size]? = some (.cells #[.slice A5 n5 c5, .bool true] 66 (0, 0)) ∧ Below w.heap.size w w5 := by
                            rcases K5.out with ⟨s5, _, hD5⟩ | ⟨_, _, hD5⟩
                            · obtain ⟨A5, c5, hh5, _, _⟩ := hD5.cells
                              exact ⟨A5, _, c5, hh5, hD5.2.1⟩
                            · obtain ⟨A5, c5, hh5, _, _⟩ := hD5.cells
                              exact ⟨A5, _, c5, hh5, hD5.2.1⟩
                          obtain ⟨A5, n5, c5, hh5, hb⟩ := hxx
                          have x5 := blk_cell hh5 1 rfl
                          clear hh5 K5
                          go_wp2_with fail
                          go_ret3
                          exact ⟨_, _, _, rfl, .inr ⟨HN.out, rfl, rfl, OwnP.nil _ _⟩, by repeat (first | exact hb | exact Below.refl _ _ | refine below_drewN ?_ _ | refine Below.drew ?_ | refine Below.setCell ?_ (by first | omega | (simp; done) | (simp; omega)) _ | refine Below.alloc ?_ (by first | omega | (simp; done) | (simp; omega)) _)⟩
                      · have hmb : (la == 18446744073709551615) = false := by simp; omega
                        have hov2 : (d : Int) ≤ 18446744073709551615 - la - 1 := by omega
                        have hw1 : IntKind.u64.wrap (18446744073709551615 - la) = 18446744073709551615 - la := by rw [IntKind.wrap_u64]; omega
                        have hw2 : IntKind.u64.wrap (18446744073709551615 - la - 1) = 18446744073709551615 - la - 1 := by rw [IntKind.wrap_u64]; omega
                        have hw3 : IntKind.u64.wrap (la + 1) = la + 1 := by rw [IntKind.wrap_u64]; omega
                        have hw4 : IntKind.u64.wrap ((d : Int) + (la + 1)) = (d : Int) + (la + 1) := by rw [IntKind.wrap_u64]; omega
                        have HK := Lib.hid (show keyOf (lastK done) d = some ((d : Int) + (la + 1)) by rw [HLA.out]; simp only [keyOf, if_neg hov]; congr 1; omega)
                        have HKB := Lib.hid (show 0 ≤ (d : Int) + (la + 1) ∧ (d : Int) + (la + 1) ≤ 18446744073709551615 by omega)
                        have hdb : decide (18446744073709551615 - la - 1 < (d : Int)) = false := by simp; omega
                        have hb := HBW.out
                        clear hov
                        have WO1 := Lib.hid ((HO2.out.set w.heap.size 1 (.bool false) (HO2.out.lt HH2.out (by decide))).alloc (.cells #[.int .u64 ((d : Int) + (la + 1)), .int .u64 0] 43))
                        have WX1 := Lib.hid (blk_alloc (blk_set HH2.out 1 (.bool false)) (.cells #[.int .u64 ((d : Int) + (la + 1)), .int .u64 0] 43))
                        have WB1 := Lib.hid ((HBW.out.setCell (p := ⟨w.heap.size, 1, none⟩) (Nat.le_refl _) (.bool false)).alloc (by simp; omega) (.cells #[.int .u64 ((d : Int) + (la + 1)), .int .u64 0] 43))
                        have WY1 := Lib.hid (alloc_at (w := w2.setCell ⟨w.heap.size, 1, none⟩ (.bool false)) (o := .cells #[.int .u64 ((d : Int) + (la + 1)), .int .u64 0] 43) (k := w2.heap.size) (by simp))
                        go_wp2_with fail
                        refine (number_dec w _ _ s false ⟨Nat.le_refl _, WB1.out, A2, c2, WX1.out, HC2.out, HR2.out⟩ HBS.out (by have := HLS.out; omega)).mono ?_
                        rintro e w5 ⟨v, rfl, hg5, K5⟩
                        have WY5 := Lib.hid ((hg5.block w2.heap.size (blk_lt WY1.out) (by simp; omega)).trans WY1.out)
                        have y0 := blk_cell WY5.out 0 rfl
                        have y1 := blk_cell WY5.out 1 rfl
                        have yf := blk_free WY5.out 1
                        have WO5 := Lib.hid (WO1.out.kept hg5 (fun g hg cs hh => by cases hg; rw [WX1.out] at hh; cases hh))
                        have hne5 : w.heap.size ≠ w2.heap.size := by omega
                        rcases K5.out with ⟨s5, hv5, hD5⟩ | ⟨hv5, rfl, hD5⟩
                        · obtain ⟨A5, c5, hh5, hc5, hr5⟩ := hD5.cells
                          have x5 := blk_cell hh5 1 rfl
                          obtain ⟨hv64, hs5⟩ := dec_some HBS.out hv5
                          have HLS := Lib.hid (show s5.length ≤ r.length by have := congrArg List.length hs5; rw [List.length_append] at this; have := HLS.out; omega)
                          have HBS := Lib.hid (show Bytes s5 by have := HBS.out; rw [hs5] at this; exact this.right)
                          have hsz5 := hD5.2.1.size
                          have WO := Lib.hid ((WO5.out.set w2.heap.size 1 (.int .u64 v) (HO2.out.not_new w2.heap.size (Nat.le_refl _))).alloc (.cells #[.int .u64 ((d : Int) + (la + 1)), .int .u64 v] 43))
                          have WX := Lib.hid (blk_alloc (blk_other hh5 1 (.int .u64 v) hne5) (.cells #[.int .u64 ((d : Int) + (la + 1)), .int .u64 v] 43))
                          have WB := Lib.hid ((hD5.2.1.setCell (p := ⟨w2.heap.size, 1, none⟩) (by show _ ≤ w2.heap.size; omega) (.int .u64 v)).alloc (by simp; omega) (.cells #[.int .u64 ((d : Int) + (la + 1)), .int .u64 v] 43))
                          have HC5 := Lib.hid hc5
                          have HR5 := Lib.hid hr5
                          have HV5 := Lib.hid hv5
                          clear hh5 hc5 hr5 hv5 hs5 hD5 K5
                          go_wp2_with (at_builtin; refine wpList_pushP w.heap.size _ done ((d : Int) + (la + 1), (v : Int)) _ _ _ rfl rfl Try.underlying39 pi pz0 pz1 pz2 rfl rfl rfl (alloc_at (by simp)) WO.out ?g1 ?g2 ?g3 ?_; (case g1 => simp; omega); (case g2 => have := HL.out; omega); (case g3 => have := HL.out; unfold maxLen; omega); intro v4 w4 ho4 hg4 _)
                          go_roundw
                          case rel => exact ⟨i + 1, done ++ [((d : Int) + (la + 1), (v : Int))], s5, by omega, (by show _ = _; rw [List.length_append, HL.out]; rfl), by go_num, HI.out.next_two hlt HDD.out HK.out HV5.out, ⟨Nat.le_refl _, WB.out.grown hg4 (by simp; omega) (fun g hg => (WO.out.block g hg).1), _, _, grown_blockP WO.out hg4 WX.out (by decide), HC5.out, HR5.out⟩, ho4, HBS.out, HLS.out, (by intro a ha; rw [lastK_snoc] at ha; cases ha; exact HKB.out)⟩
                          case measure => simp [intOf]; omega
                        · obtain ⟨A5, c5, hh5, hc5, hr5⟩ := hD5.cells
                          have x5 := blk_cell hh5 1 rfl
                          have HN := Lib.hid (show parseR (b :: q) = none by rw [HP2.out, HI.out.none_val hlt HDD.out hv5])
                          have hb := hD5.2.1
                          clear hh5 hc5 hr5 hv5 hD5 K5
                          go_wp2_with fail
                          go_ret3
                          exact ⟨_, _, _, rfl, .inr ⟨HN.out, rfl, rfl, OwnP.nil _ _⟩, by repeat (first | exact hb | exact Below.refl _ _ | refine below_drewN ?_ _ | refine Below.drew ?_ | refine Below.setCell ?_ (by first | omega | (simp; done) | (simp; omega)) _ | refine Below.alloc ?_ (by first | omega | (simp; done) | (simp; omega)) _)⟩
                · obtain ⟨A2, c2, hh2, hc2, hr2⟩ := hD2.cells
                  have HN := Lib.hid (show parseR (b :: q) = none by rw [HP2.out, HI.out.none_dec hlt hd2])
                  have HH2 := Lib.hid hh2
                  have x0 := blk_cell hh2 0 rfl
                  have x1 := blk_cell hh2 1 rfl
                  have xf := blk_free hh2 1
                  have xl := blk_lt hh2
                  have HC2 := Lib.hid hc2
                  have HR2 := Lib.hid hr2
                  have hb := hD2.2.1
                  have HLX := HLL
                  clear hh2 hD2 hc2 hr2 K2 hg2 hd2
                  obtain ⟨OA, oc, rfl, hoc, hom, hrp⟩ := HO2.out.form
                  have HRP := Lib.hid hrp
                  clear hrp
                  cases two
                  · by_cases hi0 : i = 0
                    · have HI0 := Lib.hid hi0
                      have hi0i : (i : Int) ≤ 0 := by omega
                      clear hi0
                      go_wp2_with fail
                      go_ret3
                      exact ⟨_, _, _, rfl, .inr ⟨HN.out, rfl, rfl, OwnP.nil _ _⟩, by repeat (first | exact hb | exact Below.refl _ _ | refine below_drewN ?_ _ | refine Below.drew ?_ | refine Below.setCell ?_ (by first | omega | (simp; done) | (simp; omega)) _ | refine Below.alloc ?_ (by first | omega | (simp; done) | (simp; omega)) _)⟩
                    · have HI0 := Lib.hid hi0
                      have hx0 : (0 : Int) < i := by omega
                      have hx1 : (0 : Int) ≤ (i : Int) - 1 := by omega
                      have hx2 : (i : Int) - 1 < done.length := by have := HL.out; omega
                      have hx3 : ((i : Int) - 1).toNat = i - 1 := by omega
                      obtain ⟨oad, rfl, hoad, ok1, _⟩ := HRP.out (i - 1) (by have := HL.out; omega)
                      have hla := lastK_at (k := i - 1) (by rw [HL.out]; omega)
                      obtain ⟨hla0, hla1⟩ := HLK.out _ hla
                      have HLA := Lib.hid hla
                      clear hla
                      generalize (done.getD (i - 1) (0, 0)).1 = la at *
                      have ok2 := (((Below.refl w2.heap.size w2).alloc (Nat.le_refl _) (Obj.cells #[Value.int .u64 0, Value.int .u64 0] 43)).cell (p := oad.add ((i - 1) * 2)) (by rw [block_of_add]; exact hoad)).trans ok1
                      clear hi0 ok1
                      go_wp2_with fail
                      go_ret3
                      exact ⟨_, _, _, rfl, .inr ⟨HN.out, rfl, rfl, OwnP.nil _ _⟩, by repeat (first | exact hb | exact Below.refl _ _ | refine below_drewN ?_ _ | refine Below.drew ?_ | refine Below.setCell ?_ (by first | omega | (simp; done) | (simp; omega)) _ | refine Below.alloc ?_ (by first | omega | (simp; done) | (simp; omega)) _)⟩
                  · by_cases hi0 : i = 0
                    · have HI0 := Lib.hid hi0
                      have hi0i : (i : Int) ≤ 0 := by omega
                      clear hi0
                      go_wp2_with fail
                      refine (number_dec w _ _ lr true ⟨Nat.le_refl _, by repeat (first | exact hb | exact Below.refl _ _ | refine below_drewN ?_ _ | refine Below.drew ?_ | refine Below.setCell ?_ (by first | omega | (simp; done) | (simp; omega)) _ | refine Below.alloc ?_ (by first | omega | (simp; done) | (simp; omega)) _), A2, c2, blk_alloc HH2.out _, HC2.out, HR2.out⟩ HBL.out (by have := HLX.out; omega)).mono ?_
                      rintro e w5 ⟨v, rfl, hg5, K5⟩
                      have WY5 := Lib.hid ((hg5.block w2.heap.size (by simp <;> omega) (by simp <;> omega)).trans (alloc_at (by simp)))
                      have yf := blk_free WY5.out 1
                      have y1 := blk_cell WY5.out 1 rfl
                      have hne5 : w.heap.size ≠ w2.heap.size := by omega
                      have hxx : ∃ A5 n5 c5, w5.heap[w.heap.size]? = some (.cells #[.slice A5 n5 c5, .bool true] 66 (0, 0)) ∧ Below w.heap.size w w5 := by
                        rcases K5.out with ⟨s5, _, hD5⟩ | ⟨_, _, hD5⟩
                        · obtain ⟨A5, c5, hh5, _, _⟩ := hD5.cells
                          exact ⟨A5, _, c5, hh5, hD5.2.1⟩
                        · obtain ⟨A5, c5, hh5, _, _⟩ := hD5.cells
                          exact ⟨A5, _, c5, hh5, hD5.2.1⟩
                      obtain ⟨A5, n5, c5, hh5, hb⟩ := hxx
                      have x5 := blk_cell hh5 1 rfl
                      clear hh5 K5
                      go_wp2_with fail
                      go_ret3
                      exact ⟨_, _, _, rfl, .inr ⟨HN.out, rfl, rfl, OwnP.nil _ _⟩, by repeat (first | exact hb | exact Below.refl _ _ | refine below_drewN ?_ _ | refine Below.drew ?_ | refine Below.setCell ?_ (by first | omega | (simp; done) | (simp; omega)) _ | refine Below.alloc ?_ (by first | omega | (simp; done) | (simp; omega)) _)⟩
                    · have HI0 := Lib.hid hi0
                      have hx0 : (0 : Int) < i := by omega
                      have hx1 : (0 : Int) ≤ (i : Int) - 1 := by omega
                      have hx2 : (i : Int) - 1 < done.length := by have := HL.out; omega
                      have hx3 : ((i : Int) - 1).toNat = i - 1 := by omega
                      obtain ⟨oad, rfl, hoad, ok1, _⟩ := HRP.out (i - 1) (by have := HL.out; omega)
                      have hla := lastK_at (k := i - 1) (by rw [HL.out]; omega)
                      obtain ⟨hla0, hla1⟩ := HLK.out _ hla
                      have HLA := Lib.hid hla
                      clear hla
                      generalize (done.getD (i - 1) (0, 0)).1 = la at *
                      have ok2 := (((Below.refl w2.heap.size w2).alloc (Nat.le_refl _) (Obj.cells #[Value.int .u64 0, Value.int .u64 0] 43)).cell (p := oad.add ((i - 1) * 2)) (by rw [block_of_add]; exact hoad)).trans ok1
                      clear hi0 ok1
                      go_wp2_with fail
                      refine (number_dec w _ _ lr true ⟨Nat.le_refl _, by repeat (first | exact hb | exact Below.refl _ _ | refine below_drewN ?_ _ | refine Below.drew ?_ | refine Below.setCell ?_ (by first | omega | (simp; done) | (simp; omega)) _ | refine Below.alloc ?_ (by first | omega | (simp; done) | (simp; omega)) _), A2, c2, blk_alloc (blk_set HH2.out 1 (.bool true)) _, HC2.out, HR2.out⟩ HBL.out (by have := HLX.out; omega)).mono ?_
                      rintro e w5 ⟨v, rfl, hg5, K5⟩
                      have WY5 := Lib.hid ((hg5.block w2.heap.size (by simp <;> omega) (by simp <;> omega)).trans (alloc_at (by simp)))
                      have yf := blk_free WY5.out 1
                      have y1 := blk_cell WY5.out 1 rfl
                      have hne5 : w.heap.size ≠ w2.heap.size := by omega
                      have hxx : ∃ A5 n5 c5, w5.heap[w.heap.size]? = some (.cells #[.slice A5 n5 c5, .bool true] 66 (0, 0)) ∧ Below w.heap.size w w5 := by
                        rcases K5.out with ⟨s5, _, hD5⟩ | ⟨_, _, hD5⟩
                        · obtain ⟨A5, c5, hh5, _, _⟩ := hD5.cells
                          exact ⟨A5, _, c5, hh5, hD5.2.1⟩
                        · obtain ⟨A5, c5, hh5, _, _⟩ := hD5.cells
                          exact ⟨A5, _, c5, hh5, hD5.2.1⟩
                      obtain ⟨A5, n5, c5, hh5, hb⟩ := hxx
                      have x5 := blk_cell hh5 1 rfl
                      clear hh5 K5
                      go_wp2_with fail
                      go_ret3
                      exact ⟨_, _, _, rfl, .inr ⟨HN.out, rfl, rfl, OwnP.nil _ _⟩, by repeat (first | exact hb | exact Below.refl _ _ | refine below_drewN ?_ _ | refine Below.drew ?_ | refine Below.setCell ?_ (by first | omega | (simp; done) | (simp; omega)) _ | refine Below.alloc ?_ (by first | omega | (simp; done) | (simp; omega)) _)⟩
              · obtain rfl : i = n := by omega
                have HI2 := Lib.hid HI.out.done
                have hb := HD.out.2.1
                have x0 := blk_cell HH0.out 0 rfl
                rcases lr with _ | ⟨y, lr⟩
                · have HQ := Lib.hid (show parseR (b :: q) = some (two, done) by rw [HP2.out, HI2.out])
                  go_wp2
                  go_ret3
                  exact ⟨_, _, _, rfl, .inl ⟨done, HQ.out, rfl, HO.out⟩, hb⟩
                · have HN := Lib.hid (show parseR (b :: q) = none by rw [HP2.out, HI2.out])
                  go_wp2
                  go_ret3
                  exact ⟨_, _, _, rfl, .inr ⟨HN.out, rfl, rfl, OwnP.nil _ _⟩, by repeat (first | exact hb | exact Below.refl _ _ | refine below_drewN ?_ _ | refine Below.drew ?_ | refine Below.setCell ?_ (by first | omega | (simp; done) | (simp; omega)) _ | refine Below.alloc ?_ (by first | omega | (simp; done) | (simp; omega)) _)⟩
        · have e1 := blk_cell hh1 1 rfl
          have HN := Lib.hid (show parseR (b :: q) = none by rw [HP.out, hd])
          clear hg1 K hd
          go_wp2
          go_ret3
          exact ⟨_, _, _, rfl, .inr ⟨HN.out, rfl, rfl, OwnP.nil _ _⟩, hbw⟩
/-- the same, opened -/
theorem parse_b (A : Option Addr) (c n : Nat) (l : List Int) (w : World) (hn : l.length = n) (hB : Bytes l) (hr : Rd .u8 w A l) (hlen : l.length ≤ 140737488351232) (hc : l.length ≤ c) :
    Calls Try.prog 18 #[.slice A n c] w fun e w' => ∃ (B : Option Addr) (d : Nat) (m : List (Int × Int)) (t : Bool) (er : Int), e = .returned (.tuple #[.slice B m.length d, .bool t, .int .i64 er]) ∧
      Hid ((parseR l = some (t, m) ∧ er = 0) ∨ (parseR l = none ∧ er = 2 ∧ t = false ∧ m = [])) ∧ m.length ≤ d ∧ RdP w' B m ∧ Below w.heap.size w w' := by
  subst hn
  refine (parse_any A c l w hB hr hlen hc).mono ?_
  rintro e w' ⟨v, t, er, rfl, K, hb⟩
  rcases K.out with ⟨m, h1, h2, ho⟩ | ⟨h1, h2, h3, ho⟩
  · obtain ⟨B, d, rfl, hd, _, hr'⟩ := ho.form
    exact ⟨B, d, m, t, er, rfl, .inl ⟨h1, h2⟩, hd, hr', hb⟩
  · obtain ⟨B, d, rfl, hd, _, hr'⟩ := ho.form
    exact ⟨B, d, [], t, er, rfl, .inr ⟨h1, h2, h3, rfl⟩, hd, hr', hb⟩
end Go.Proofs.Ytnlflpcioiieaaa
