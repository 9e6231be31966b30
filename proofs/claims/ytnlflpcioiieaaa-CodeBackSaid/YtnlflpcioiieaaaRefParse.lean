/-
  stepstoneref19.Parse walked.
-/
import Derived.Test.YtnlflpcioiieaaaCode3
import Derived.Test.YtnlflpcioiieaaaItems
import Derived.Test.YtnlflpcioiieaaaPair
import Derived.Test.YtnlflpcioiieaaaCut
namespace Go.Proofs.Ytnlflpcioiieaaa
set_option linter.unusedVariables false
set_option linter.unusedSimpArgs false
open Go.RowKit

theorem refRead_d (A : Option Addr) (c m : Nat) (l : List Int) (w : World) (hm : l.length = m) (hB : Bytes l) (hr : Rd .u8 w A l) (hlen : l.length ≤ 140737488351232) (hc : l.length ≤ c) :
    Calls Try.prog 15 #[.slice A m c] w fun e w' => ∃ x y : Nat, e = .returned (.tuple #[.int .u64 x, .int .i64 y]) ∧
      Hid ((0 < y ∧ dec l = some (x, l.drop y)) ∨ (y = 0 ∧ dec l = none)) ∧ y ≤ l.length ∧ Below w.heap.size w w' := by
  subst hm
  refine (refRead_any A c l w hB hr hlen hc).mono ?_
  rintro e w' ⟨rfl, hb⟩
  have h := refRead_dec hB
  rcases hd : dec l with _ | ⟨n, r⟩
  · rw [hd] at h
    simp only at h
    exact ⟨_, _, rfl, .inr ⟨by rw [h], rfl⟩, by rw [h]; exact Nat.zero_le _, hb⟩
  · rw [hd] at h
    simp only at h
    obtain ⟨_, hl⟩ := dec_some hB hd
    have hp := num_pos n
    have hlen2 := congrArg List.length hl
    rw [List.length_append] at hlen2
    refine ⟨_, _, rfl, .inl ⟨by rw [h]; show 0 < l.length - r.length; omega, ?_⟩, by rw [h]; show l.length - r.length ≤ l.length; omega, hb⟩
    rw [h]
    show some (n, r) = some (n, l.drop (l.length - r.length))
    rw [show l.length - r.length = (num n).length by omega]
    congr 2
    rw [hl, List.drop_left' rfl]
set_option maxHeartbeats 1000000 in
set_option maxRecDepth 100000 in
theorem refParse_any (A : Option Addr) (c : Nat) (l : List Int) (w : World) (hB : Bytes l) (hr : Rd .u8 w A l) (hlen : l.length ≤ 140737488351232) (hc : l.length ≤ c) :
    Calls Try.prog 23 #[.slice A l.length c] w fun e w' => ∃ v t er, e = .returned (.tuple #[v, .bool t, .int .i64 er]) ∧
      Hid ((∃ m, parseR l = some (t, m) ∧ er = 0 ∧ OwnP w' w.heap.size v m) ∨ (parseR l = none ∧ er = 2 ∧ t = false ∧ OwnP w' w.heap.size v [])) ∧ Below w.heap.size w w' := by
  have HR := Lib.hid hr
  have HB := Lib.hid hB
  obtain ⟨p0, pi, pz0, pz1, pz2⟩ := info_parts pair_info
  obtain ⟨j0, ji, jz0, jz1, jz2⟩ := info_parts u8_info
  clear hr hB
  go_enter Try.func23, Try.ntmps23
  rcases l with _ | ⟨b, q⟩
  · go_wp2
    go_ret3
    exact ⟨_, _, _, rfl, .inr ⟨rfl, rfl, rfl, OwnP.nil _ _⟩, Below.refl _ _⟩
  · obtain ⟨ad, rfl, had, hcl⟩ := HR.out 0 (by simp)
    have e0 : ad.add 0 = ad := by simp [Addr.add]
    rw [e0, List.getD_cons_zero] at hcl
    obtain ⟨hb0, hb1⟩ := HB.out b List.mem_cons_self
    have hlc : (b :: q).length = q.length + 1 := rfl
    by_cases hq : q.length = 0
    · have hq0 : q = [] := List.eq_nil_of_length_eq_zero hq
      subst hq0
      have HN := Lib.hid (show parseR [b] = none by simp only [parseR]; split <;> rfl)
      go_wp2
      go_ret3
      exact ⟨_, _, _, rfl, .inr ⟨HN.out, rfl, rfl, OwnP.nil _ _⟩, Below.refl _ _⟩
    · have hq1 : (2 : Int) ≤ (q.length : Int) + 1 := by omega
      by_cases hb : 1 < b
      · have HN := Lib.hid (show parseR (b :: q) = none by simp only [parseR, if_pos hb])
        go_wp2
        go_ret3
        exact ⟨_, _, _, rfl, .inr ⟨HN.out, rfl, rfl, OwnP.nil _ _⟩, Below.refl _ _⟩
      · have hcut := HR.out.cut 1 q.length
        rw [show (((b :: q).drop 1).take q.length) = q by simp, show Option.map (fun x => x.add 1) (some ad) = some (Addr.mk ad.block (ad.off + 1) none) by simp [Addr.add]] at hcut
        have HBQ := Lib.hid (show Bytes q from fun y hy => HB.out y (List.mem_cons_of_mem _ hy))
        have hql : q.length ≤ 140737488351232 := by simp only [List.length_cons] at hlen; omega
        have hqc : q.length + 1 ≤ c := by simpa using hc
        obtain ⟨two, h2⟩ : ∃ two, (b == 1) = two := ⟨_, rfl⟩
        have HP := Lib.hid (show parseR (b :: q) = match dec q with
          | none => none
          | some (n, r) => if 262144 < n then none else match items two n none r with
            | some (m, []) => some (two, m)
            | _ => none by rw [← h2]; simp only [parseR, if_neg hb]; rfl)
        have HC := Lib.hid hcut
        have hb2 : b ≤ 1 := by omega
        clear hcut hc hlen
        have hc1 : 1 < c := by omega
        go_wp2_with fail
        refine (refRead_d _ _ _ q _ (by first | rfl | omega) HBQ.out HC.out hql (by omega)).mono ?_
        rintro e w1 ⟨n, y, rfl, K, hyq, hw1⟩
        rcases K.out with ⟨hy0, hd⟩ | ⟨rfl, hd⟩
        · by_cases hmx : 262144 < n
          · have HN := Lib.hid (show parseR (b :: q) = none by rw [HP.out, hd]; simp only [hmx, if_true])
            have hyb : ((y : Int) == 0) = false := by simp; omega
            have hb := hw1
            clear K hd hy0
            go_wp2
            go_ret3
            exact ⟨_, _, _, rfl, .inr ⟨HN.out, rfl, rfl, OwnP.nil _ _⟩, by repeat (first | exact hb | exact Below.refl _ _ | refine below_drewN ?_ _ | refine Below.drew ?_ | refine Below.setCell ?_ (by first | omega | (simp; done) | (simp; omega)) _ | refine Below.alloc ?_ (by first | omega | (simp; done) | (simp; omega)) _)⟩
          · have hyb : ((y : Int) == 0) = false := by simp; omega
            have HY := Lib.hid (show ((1 : Int) + (y : Int)) = ((1 + y : Nat) : Int) by omega)
            have hyq1 : 1 + y ≤ q.length + 1 := by omega
            have HP2 := Lib.hid (show parseR (b :: q) = match items two n none (q.drop y) with
              | some (m, []) => some (two, m)
              | _ => none by rw [HP.out, hd]; simp only [hmx, if_false])
            have hn : n ≤ 262144 := by omega
            have HBW1 := Lib.hid hw1
            clear K HP hd hmx hw1
            go_wp2_with ((refine wpList_cut (k := .u8) (W0 := w) _ _ _ (1 + y) (b :: q) _ _ rfl rfl Try.underlying23 ji jz1 rfl rfl HY.out hyq1 hqc rfl HR.out ?_; intro A1 c1 s1 HS1 hcs1 HRs1))
            have HS1' := Lib.hid (show s1 = q.drop y by rw [HS1.out, Nat.add_comm]; rfl)
            have HBR := Lib.hid (show Bytes s1 by rw [HS1'.out]; exact fun x hx => HBQ.out x (List.mem_of_mem_drop hx))
            have hrl : s1.length ≤ q.length := by rw [HS1'.out, List.length_drop]; omega
            rw [← HS1'.out] at HP2
            go_loopw [7, 8, 9] (fun v7 v8 v9 wr => ∃ (i : Nat) (done : List (Int × Int)) (lr : List Int) (RA : Option Addr) (rc : Nat), i ≤ n ∧ Hid (done.length = i) ∧ v7 = .slice RA lr.length rc ∧ v9 = .int .u64 i ∧ Hid (Itm two n i s1 done lr) ∧ Hid (Rd .u8 w RA lr) ∧ lr.length ≤ rc ∧ Hid (OwnP wr w.heap.size v8 done) ∧ Hid (Bytes lr) ∧ Hid (lr.length ≤ q.length) ∧ Hid (∀ a, lastK done = some a → 0 ≤ a ∧ a ≤ 18446744073709551615) ∧ Hid (Below w.heap.size w wr)) (fun _ _ v9 _ => n - (intOf v9).toNat)
            case atStart => exact ⟨0, [], s1, A1, c1, Nat.zero_le _, rfl, rfl, rfl, (by show items _ _ _ _ = _; simp [lastK]), HRs1.out, hcs1, OwnP.nil _ _, HBR.out, hrl, (fun a h => by cases h), HBW1.out⟩
            case round =>
              obtain ⟨i, done, lr, RA, rc, hi, HL, rfl, rfl, HI, HRA, hrc, HO, HBL, HLL, HLK, HBW⟩ := hrel
              by_cases hlt : i < n
              · go_wp2_with fail
                refine (refRead_d _ _ _ lr _ (by first | rfl | omega) HBL.out (HRA.out.below HBW.out) (by have := HLL.out; omega) hrc).mono ?_
                rintro e w2 ⟨d, y2, rfl, K2, hy2, hw2⟩
                have HO2 := Lib.hid (HO.out.below hw2)
                have HBW2 := Lib.hid (HBW.out.trans (hw2.mono HBW.out.size))
                have hbs2 := HBW2.out.size
                have hcl2 := (HBW2.out.cell (p := ad) had).trans hcl
                clear hw2
                rcases K2.out with ⟨hy20, hd2⟩ | ⟨rfl, hd2⟩
                · obtain ⟨hd64, hlrs⟩ := dec_some HBL.out hd2
                  have hyb2 : ((y2 : Int) == 0) = false := by simp; omega
                  have HBS' := Lib.hid (show Bytes (lr.drop y2) from fun x hx => HBL.out x (List.mem_of_mem_drop hx))
                  have HLS' := Lib.hid (show (lr.drop y2).length ≤ q.length by rw [List.length_drop]; have := HLL.out; omega)
                  have HDD' := Lib.hid hd2
                  clear hd2 hlrs K2 hy20
                  obtain ⟨OA, oc, rfl, hoc, hom, hrp⟩ := HO2.out.form
                  have HRP := Lib.hid hrp
                  clear hrp
                  cases two
                  · by_cases hi0 : i = 0
                    · have HI0 := Lib.hid hi0
                      have hi0i : (i : Int) ≤ 0 := by omega
                      have HK := Lib.hid (show keyOf (lastK done) d = some (d : Int) by rw [lastK_nil (by rw [HL.out]; exact hi0)]; rfl)
                      have HKB := Lib.hid (show 0 ≤ (d : Int) ∧ (d : Int) ≤ 18446744073709551615 by omega)
                      have WO := Lib.hid ((HO2.out.alloc (.cells #[.int .u64 d, .int .u64 0] 43)).alloc (.cells #[.int .u64 d, .int .u64 0] 43))
                      have WB := Lib.hid ((HBW2.out.alloc (by omega) (.cells #[.int .u64 d, .int .u64 0] 43)).alloc (by simp; omega) (.cells #[.int .u64 d, .int .u64 0] 43))
                      have hclA := (((Below.refl w2.heap.size w2).alloc (Nat.le_refl _) (Obj.cells #[Value.int .u64 d, Value.int .u64 0] 43)).cell (p := ad) (by omega)).trans hcl2
                      clear hi0
                      go_wp2_with (first | (refine wpList_cut (k := .u8) (W0 := w) _ _ _ y2 lr _ _ rfl rfl Try.underlying23 ji jz1 rfl rfl rfl hy2 hrc rfl HRA.out ?_; intro A2 c2 s2 HS2 hcs2 HRs2) | (at_builtin; refine wpList_pushP w.heap.size _ done ((d : Int), 0) _ _ _ rfl rfl Try.underlying39 pi pz0 pz1 pz2 rfl rfl rfl (alloc_at (by simp)) WO.out ?g1 ?g2 ?g3 ?_; (case g1 => simp; omega); (case g2 => have := HL.out; omega); (case g3 => have := HL.out; unfold maxLen; omega); intro v4 w4 ho4 hg4 _))
                      have HBS := Lib.hid (show Bytes s2 by rw [HS2.out]; exact HBS'.out)
                      have HLS := Lib.hid (show s2.length ≤ q.length by rw [HS2.out]; exact HLS'.out)
                      have HDD := Lib.hid (show dec lr = some (d, s2) by rw [HS2.out]; exact HDD'.out)
                      try go_wp2
                      go_roundw
                      case rel => exact ⟨i + 1, done ++ [((d : Int), 0)], s2, A2, c2, by omega, (by show _ = _; rw [List.length_append, HL.out]; rfl), rfl, by go_num, HI.out.next_bare hlt HDD.out HK.out, HRs2.out, hcs2, ho4, HBS.out, HLS.out, (by intro a ha; rw [lastK_snoc] at ha; cases ha; exact HKB.out), WB.out.grown hg4 (by simp; omega) (fun g hg => (WO.out.block g hg).1)⟩
                      case measure => simp [intOf]; omega
                    · have HI0 := Lib.hid hi0
                      have hx0 : (0 : Int) < i := by omega
                      have hx1 : (0 : Int) ≤ (i : Int) - 1 := by omega
                      have hx2 : (i : Int) - 1 < done.length := by have := HL.out; omega
                      have hx3 : ((i : Int) - 1).toNat = i - 1 := by omega
                      have hx4 : IntKind.u64.wrap ((i : Int) - 1) = (i : Int) - 1 := by rw [IntKind.wrap_u64]; omega
                      obtain ⟨oad, rfl, hoad, ok1, _⟩ := HRP.out (i - 1) (by have := HL.out; omega)
                      have hla := lastK_at (k := i - 1) (by rw [HL.out]; omega)
                      obtain ⟨hla0, hla1⟩ := HLK.out _ hla
                      have HLA := Lib.hid hla
                      clear hla
                      generalize (done.getD (i - 1) (0, 0)).1 = la at *
                      have ok2 := (((Below.refl w2.heap.size w2).alloc (Nat.le_refl _) (Obj.cells #[Value.int .u64 d, Value.int .u64 0] 43)).cell (p := oad.add ((i - 1) * 2)) (by rw [block_of_add]; exact hoad)).trans ok1
                      clear hi0 ok1
                      by_cases hov : la = 18446744073709551615 ∨ 18446744073709551615 - la - 1 < (d : Int)
                      · have hb := HBW2.out
                        have HN := Lib.hid (show parseR (b :: q) = none by rw [HP2.out, HI.out.none_key hlt HDD'.out (by rw [HLA.out]; simp only [keyOf, if_pos hov])])
                        by_cases hmax : la = 18446744073709551615
                        · have hmb : (la == 18446744073709551615) = true := by simp [hmax]
                          clear hmax hov
                          go_wp2_with ((refine wpList_cut (k := .u8) (W0 := w) _ _ _ y2 lr _ _ rfl rfl Try.underlying23 ji jz1 rfl rfl rfl hy2 hrc rfl HRA.out ?_; intro A2 c2 s2 HS2 hcs2 HRs2))
                          try go_wp2
                          go_ret3
                          exact ⟨_, _, _, rfl, .inr ⟨HN.out, rfl, rfl, OwnP.nil _ _⟩, by repeat (first | exact hb | exact Below.refl _ _ | refine below_drewN ?_ _ | refine Below.drew ?_ | refine Below.setCell ?_ (by first | omega | (simp; done) | (simp; omega)) _ | refine Below.alloc ?_ (by first | omega | (simp; done) | (simp; omega)) _)⟩
                        · have hmb : (la == 18446744073709551615) = false := by simpa using hmax
                          have hov2 : 18446744073709551615 - la ≤ (d : Int) := by omega
                          have hw1 : IntKind.u64.wrap (18446744073709551615 - la) = 18446744073709551615 - la := by rw [IntKind.wrap_u64]; omega
                          clear hmax hov
                          go_wp2_with ((refine wpList_cut (k := .u8) (W0 := w) _ _ _ y2 lr _ _ rfl rfl Try.underlying23 ji jz1 rfl rfl rfl hy2 hrc rfl HRA.out ?_; intro A2 c2 s2 HS2 hcs2 HRs2))
                          try go_wp2
                          go_ret3
                          exact ⟨_, _, _, rfl, .inr ⟨HN.out, rfl, rfl, OwnP.nil _ _⟩, by repeat (first | exact hb | exact Below.refl _ _ | refine below_drewN ?_ _ | refine Below.drew ?_ | refine Below.setCell ?_ (by first | omega | (simp; done) | (simp; omega)) _ | refine Below.alloc ?_ (by first | omega | (simp; done) | (simp; omega)) _)⟩
                      · have hmb : (la == 18446744073709551615) = false := by simp; omega
                        have hov2 : (d : Int) < 18446744073709551615 - la := by omega
                        have hw1 : IntKind.u64.wrap (18446744073709551615 - la) = 18446744073709551615 - la := by rw [IntKind.wrap_u64]; omega
                        have hw3 : IntKind.u64.wrap (la + 1) = la + 1 := by rw [IntKind.wrap_u64]; omega
                        have hw4 : IntKind.u64.wrap (la + 1 + (d : Int)) = la + 1 + (d : Int) := by rw [IntKind.wrap_u64]; omega
                        have HK := Lib.hid (show keyOf (lastK done) d = some (la + 1 + (d : Int)) by rw [HLA.out]; simp only [keyOf, if_neg hov])
                        have HKB := Lib.hid (show 0 ≤ la + 1 + (d : Int) ∧ la + 1 + (d : Int) ≤ 18446744073709551615 by omega)
                        clear hov
                        have hclA := (((Below.refl w2.heap.size w2).alloc (Nat.le_refl _) (Obj.cells #[Value.int .u64 (la + 1 + (d : Int)), Value.int .u64 0] 43)).cell (p := ad) (by omega)).trans hcl2
                        have WO := Lib.hid ((HO2.out.alloc (.cells #[.int .u64 (la + 1 + (d : Int)), .int .u64 0] 43)).alloc (.cells #[.int .u64 (la + 1 + (d : Int)), .int .u64 0] 43))
                        have WB := Lib.hid ((HBW2.out.alloc (by omega) (.cells #[.int .u64 (la + 1 + (d : Int)), .int .u64 0] 43)).alloc (by simp; omega) (.cells #[.int .u64 (la + 1 + (d : Int)), .int .u64 0] 43))
                        go_wp2_with (first | (refine wpList_cut (k := .u8) (W0 := w) _ _ _ y2 lr _ _ rfl rfl Try.underlying23 ji jz1 rfl rfl rfl hy2 hrc rfl HRA.out ?_; intro A2 c2 s2 HS2 hcs2 HRs2) | (at_builtin; refine wpList_pushP w.heap.size _ done (la + 1 + (d : Int), 0) _ _ _ rfl rfl Try.underlying39 pi pz0 pz1 pz2 rfl rfl rfl (alloc_at (by simp)) WO.out ?g1 ?g2 ?g3 ?_; (case g1 => simp; omega); (case g2 => have := HL.out; omega); (case g3 => have := HL.out; unfold maxLen; omega); intro v4 w4 ho4 hg4 _))
                        have HBS := Lib.hid (show Bytes s2 by rw [HS2.out]; exact HBS'.out)
                        have HLS := Lib.hid (show s2.length ≤ q.length by rw [HS2.out]; exact HLS'.out)
                        have HDD := Lib.hid (show dec lr = some (d, s2) by rw [HS2.out]; exact HDD'.out)
                        try go_wp2
                        go_roundw
                        case rel => exact ⟨i + 1, done ++ [(la + 1 + (d : Int), 0)], s2, A2, c2, by omega, (by show _ = _; rw [List.length_append, HL.out]; rfl), rfl, by go_num, HI.out.next_bare hlt HDD.out HK.out, HRs2.out, hcs2, ho4, HBS.out, HLS.out, (by intro a ha; rw [lastK_snoc] at ha; cases ha; exact HKB.out), WB.out.grown hg4 (by simp; omega) (fun g hg => (WO.out.block g hg).1)⟩
                        case measure => simp [intOf]; omega
                  · by_cases hi0 : i = 0
                    · have HI0 := Lib.hid hi0
                      have hi0i : (i : Int) ≤ 0 := by omega
                      have HK := Lib.hid (show keyOf (lastK done) d = some (d : Int) by rw [lastK_nil (by rw [HL.out]; exact hi0)]; rfl)
                      have HKB := Lib.hid (show 0 ≤ (d : Int) ∧ (d : Int) ≤ 18446744073709551615 by omega)
                      have WO1 := Lib.hid (HO2.out.alloc (.cells #[.int .u64 d, .int .u64 0] 43))
                      have WB1 := Lib.hid (HBW2.out.alloc (by omega) (.cells #[.int .u64 d, .int .u64 0] 43))
                      have WY1 := Lib.hid (heap_alloc_new w2 (.cells #[.int .u64 d, .int .u64 0] 43))
                      have hclA := (((Below.refl w2.heap.size w2).alloc (Nat.le_refl _) (Obj.cells #[Value.int .u64 d, Value.int .u64 0] 43)).cell (p := ad) (by omega)).trans hcl2
                      clear hi0
                      go_wp2_with ((refine wpList_cut (k := .u8) (W0 := w) _ _ _ y2 lr _ _ rfl rfl Try.underlying23 ji jz1 rfl rfl rfl hy2 hrc rfl HRA.out ?_; intro A2 c2 s2 HS2 hcs2 HRs2))
                      have HBS := Lib.hid (show Bytes s2 by rw [HS2.out]; exact HBS'.out)
                      have HLS := Lib.hid (show s2.length ≤ q.length by rw [HS2.out]; exact HLS'.out)
                      have HDD := Lib.hid (show dec lr = some (d, s2) by rw [HS2.out]; exact HDD'.out)
                      go_wp2_with fail
                      refine (refRead_d _ _ _ s2 _ (by first | rfl | omega) HBS.out (HRs2.out.below WB1.out) (by have := HLS.out; omega) (by omega)).mono ?_
                      rintro e w3 ⟨v, y3, rfl, K3, hy3, hw3⟩
                      have WY3 := Lib.hid (blk_below WY1.out hw3 rfl)
                      have yc0 := blk_cell WY3.out 0 rfl
                      have yc1 := blk_cell WY3.out 1 rfl
                      have yf := blk_free WY3.out 1
                      have WB3 := Lib.hid (WB1.out.trans (hw3.mono WB1.out.size))
                      have WO3 := Lib.hid (WO1.out.below hw3)
                      clear hw3
                      rcases K3.out with ⟨hy30, hd3⟩ | ⟨rfl, hd3⟩
                      · obtain ⟨hv64, hs3⟩ := dec_some HBS.out hd3
                        have hyb3 : ((y3 : Int) == 0) = false := by simp; omega
                        have HLS := Lib.hid (show (s2.drop y3).length ≤ q.length by rw [List.length_drop]; have := HLS.out; omega)
                        have HBS := Lib.hid (show Bytes (s2.drop y3) from fun x hx => HBS.out x (List.mem_of_mem_drop hx))
                        have HV3 := Lib.hid hd3
                        have hsz3 := WB3.out.size
                        have WO := Lib.hid ((WO3.out.set w2.heap.size 1 (.int .u64 v) (HO2.out.not_new w2.heap.size (Nat.le_refl _))).alloc (.cells #[.int .u64 ((d : Int)), .int .u64 v] 43))
                        have WB := Lib.hid ((WB3.out.setCell (p := ⟨w2.heap.size, 1, none⟩) (by show _ ≤ w2.heap.size; omega) (.int .u64 v)).alloc (by simp; omega) (.cells #[.int .u64 ((d : Int)), .int .u64 v] 43))
                        clear hd3 hs3 K3 hy30
                        go_wp2_with (first | (refine wpList_cut (k := .u8) (W0 := w) _ _ _ y3 s2 _ _ rfl rfl Try.underlying23 ji jz1 rfl rfl rfl hy3 hcs2 rfl HRs2.out ?_; intro A5 c5 s5 HS5 hcs5 HRs5) | (at_builtin; refine wpList_pushP w.heap.size _ done ((d : Int), (v : Int)) _ _ _ rfl rfl Try.underlying39 pi pz0 pz1 pz2 rfl rfl rfl (alloc_at (by simp)) WO.out ?g1 ?g2 ?g3 ?_; (case g1 => simp; omega); (case g2 => have := HL.out; omega); (case g3 => have := HL.out; unfold maxLen; omega); intro v4 w4 ho4 hg4 _))
                        have HBS := Lib.hid (show Bytes s5 by rw [HS5.out]; exact HBS.out)
                        have HLS := Lib.hid (show s5.length ≤ q.length by rw [HS5.out]; exact HLS.out)
                        try go_wp2
                        go_roundw
                        case rel => exact ⟨i + 1, done ++ [((d : Int), (v : Int))], s5, A5, c5, by omega, (by show _ = _; rw [List.length_append, HL.out]; rfl), rfl, by go_num, (by rw [HS5.out]; exact HI.out.next_two hlt HDD.out HK.out HV3.out), HRs5.out, hcs5, ho4, HBS.out, HLS.out, (by intro a ha; rw [lastK_snoc] at ha; cases ha; exact HKB.out), WB.out.grown hg4 (by simp; omega) (fun g hg => (WO.out.block g hg).1)⟩
                        case measure => simp [intOf]; omega
                      · have HN := Lib.hid (show parseR (b :: q) = none by rw [HP2.out, HI.out.none_val hlt HDD.out (by rw [hd3])])
                        have hb := WB3.out
                        clear hd3 K3
                        go_wp2_with fail
                        go_ret3
                        exact ⟨_, _, _, rfl, .inr ⟨HN.out, rfl, rfl, OwnP.nil _ _⟩, by repeat (first | exact hb | exact Below.refl _ _ | refine below_drewN ?_ _ | refine Below.drew ?_ | refine Below.setCell ?_ (by first | omega | (simp; done) | (simp; omega)) _ | refine Below.alloc ?_ (by first | omega | (simp; done) | (simp; omega)) _)⟩
                    · have HI0 := Lib.hid hi0
                      have hx0 : (0 : Int) < i := by omega
                      have hx1 : (0 : Int) ≤ (i : Int) - 1 := by omega
                      have hx2 : (i : Int) - 1 < done.length := by have := HL.out; omega
                      have hx3 : ((i : Int) - 1).toNat = i - 1 := by omega
                      have hx4 : IntKind.u64.wrap ((i : Int) - 1) = (i : Int) - 1 := by rw [IntKind.wrap_u64]; omega
                      obtain ⟨oad, rfl, hoad, ok1, _⟩ := HRP.out (i - 1) (by have := HL.out; omega)
                      have hla := lastK_at (k := i - 1) (by rw [HL.out]; omega)
                      obtain ⟨hla0, hla1⟩ := HLK.out _ hla
                      have HLA := Lib.hid hla
                      clear hla
                      generalize (done.getD (i - 1) (0, 0)).1 = la at *
                      have ok2 := (((Below.refl w2.heap.size w2).alloc (Nat.le_refl _) (Obj.cells #[Value.int .u64 d, Value.int .u64 0] 43)).cell (p := oad.add ((i - 1) * 2)) (by rw [block_of_add]; exact hoad)).trans ok1
                      clear hi0 ok1
                      by_cases hov : la = 18446744073709551615 ∨ 18446744073709551615 - la - 1 < (d : Int)
                      · have hb := HBW2.out
                        have HN := Lib.hid (show parseR (b :: q) = none by rw [HP2.out, HI.out.none_key hlt HDD'.out (by rw [HLA.out]; simp only [keyOf, if_pos hov])])
                        by_cases hmax : la = 18446744073709551615
                        · have hmb : (la == 18446744073709551615) = true := by simp [hmax]
                          clear hmax hov
                          go_wp2_with ((refine wpList_cut (k := .u8) (W0 := w) _ _ _ y2 lr _ _ rfl rfl Try.underlying23 ji jz1 rfl rfl rfl hy2 hrc rfl HRA.out ?_; intro A2 c2 s2 HS2 hcs2 HRs2))
                          try go_wp2
                          go_ret3
                          exact ⟨_, _, _, rfl, .inr ⟨HN.out, rfl, rfl, OwnP.nil _ _⟩, by repeat (first | exact hb | exact Below.refl _ _ | refine below_drewN ?_ _ | refine Below.drew ?_ | refine Below.setCell ?_ (by first | omega | (simp; done) | (simp; omega)) _ | refine Below.alloc ?_ (by first | omega | (simp; done) | (simp; omega)) _)⟩
                        · have hmb : (la == 18446744073709551615) = false := by simpa using hmax
                          have hov2 : 18446744073709551615 - la ≤ (d : Int) := by omega
                          have hw1 : IntKind.u64.wrap (18446744073709551615 - la) = 18446744073709551615 - la := by rw [IntKind.wrap_u64]; omega
                          clear hmax hov
                          go_wp2_with ((refine wpList_cut (k := .u8) (W0 := w) _ _ _ y2 lr _ _ rfl rfl Try.underlying23 ji jz1 rfl rfl rfl hy2 hrc rfl HRA.out ?_; intro A2 c2 s2 HS2 hcs2 HRs2))
                          try go_wp2
                          go_ret3
                          exact ⟨_, _, _, rfl, .inr ⟨HN.out, rfl, rfl, OwnP.nil _ _⟩, by repeat (first | exact hb | exact Below.refl _ _ | refine below_drewN ?_ _ | refine Below.drew ?_ | refine Below.setCell ?_ (by first | omega | (simp; done) | (simp; omega)) _ | refine Below.alloc ?_ (by first | omega | (simp; done) | (simp; omega)) _)⟩
                      · have hmb : (la == 18446744073709551615) = false := by simp; omega
                        have hov2 : (d : Int) < 18446744073709551615 - la := by omega
                        have hw1 : IntKind.u64.wrap (18446744073709551615 - la) = 18446744073709551615 - la := by rw [IntKind.wrap_u64]; omega
                        have hw3 : IntKind.u64.wrap (la + 1) = la + 1 := by rw [IntKind.wrap_u64]; omega
                        have hw4 : IntKind.u64.wrap (la + 1 + (d : Int)) = la + 1 + (d : Int) := by rw [IntKind.wrap_u64]; omega
                        have HK := Lib.hid (show keyOf (lastK done) d = some (la + 1 + (d : Int)) by rw [HLA.out]; simp only [keyOf, if_neg hov])
                        have HKB := Lib.hid (show 0 ≤ la + 1 + (d : Int) ∧ la + 1 + (d : Int) ≤ 18446744073709551615 by omega)
                        clear hov
                        have hclA := (((Below.refl w2.heap.size w2).alloc (Nat.le_refl _) (Obj.cells #[Value.int .u64 (la + 1 + (d : Int)), Value.int .u64 0] 43)).cell (p := ad) (by omega)).trans hcl2
                        have WO1 := Lib.hid (HO2.out.alloc (.cells #[.int .u64 (la + 1 + (d : Int)), .int .u64 0] 43))
                        have WB1 := Lib.hid (HBW2.out.alloc (by omega) (.cells #[.int .u64 (la + 1 + (d : Int)), .int .u64 0] 43))
                        have WY1 := Lib.hid (heap_alloc_new w2 (.cells #[.int .u64 (la + 1 + (d : Int)), .int .u64 0] 43))
                        go_wp2_with ((refine wpList_cut (k := .u8) (W0 := w) _ _ _ y2 lr _ _ rfl rfl Try.underlying23 ji jz1 rfl rfl rfl hy2 hrc rfl HRA.out ?_; intro A2 c2 s2 HS2 hcs2 HRs2))
                        have HBS := Lib.hid (show Bytes s2 by rw [HS2.out]; exact HBS'.out)
                        have HLS := Lib.hid (show s2.length ≤ q.length by rw [HS2.out]; exact HLS'.out)
                        have HDD := Lib.hid (show dec lr = some (d, s2) by rw [HS2.out]; exact HDD'.out)
                        go_wp2_with fail
                        refine (refRead_d _ _ _ s2 _ (by first | rfl | omega) HBS.out (HRs2.out.below WB1.out) (by have := HLS.out; omega) (by omega)).mono ?_
                        rintro e w3 ⟨v, y3, rfl, K3, hy3, hw3⟩
                        have WY3 := Lib.hid (blk_below WY1.out hw3 rfl)
                        have yc0 := blk_cell WY3.out 0 rfl
                        have yc1 := blk_cell WY3.out 1 rfl
                        have yf := blk_free WY3.out 1
                        have WB3 := Lib.hid (WB1.out.trans (hw3.mono WB1.out.size))
                        have WO3 := Lib.hid (WO1.out.below hw3)
                        clear hw3
                        rcases K3.out with ⟨hy30, hd3⟩ | ⟨rfl, hd3⟩
                        · obtain ⟨hv64, hs3⟩ := dec_some HBS.out hd3
                          have hyb3 : ((y3 : Int) == 0) = false := by simp; omega
                          have HLS := Lib.hid (show (s2.drop y3).length ≤ q.length by rw [List.length_drop]; have := HLS.out; omega)
                          have HBS := Lib.hid (show Bytes (s2.drop y3) from fun x hx => HBS.out x (List.mem_of_mem_drop hx))
                          have HV3 := Lib.hid hd3
                          have hsz3 := WB3.out.size
                          have WO := Lib.hid ((WO3.out.set w2.heap.size 1 (.int .u64 v) (HO2.out.not_new w2.heap.size (Nat.le_refl _))).alloc (.cells #[.int .u64 (la + 1 + (d : Int)), .int .u64 v] 43))
                          have WB := Lib.hid ((WB3.out.setCell (p := ⟨w2.heap.size, 1, none⟩) (by show _ ≤ w2.heap.size; omega) (.int .u64 v)).alloc (by simp; omega) (.cells #[.int .u64 (la + 1 + (d : Int)), .int .u64 v] 43))
                          clear hd3 hs3 K3 hy30
                          go_wp2_with (first | (refine wpList_cut (k := .u8) (W0 := w) _ _ _ y3 s2 _ _ rfl rfl Try.underlying23 ji jz1 rfl rfl rfl hy3 hcs2 rfl HRs2.out ?_; intro A5 c5 s5 HS5 hcs5 HRs5) | (at_builtin; refine wpList_pushP w.heap.size _ done (la + 1 + (d : Int), (v : Int)) _ _ _ rfl rfl Try.underlying39 pi pz0 pz1 pz2 rfl rfl rfl (alloc_at (by simp)) WO.out ?g1 ?g2 ?g3 ?_; (case g1 => simp; omega); (case g2 => have := HL.out; omega); (case g3 => have := HL.out; unfold maxLen; omega); intro v4 w4 ho4 hg4 _))
                          have HBS := Lib.hid (show Bytes s5 by rw [HS5.out]; exact HBS.out)
                          have HLS := Lib.hid (show s5.length ≤ q.length by rw [HS5.out]; exact HLS.out)
                          try go_wp2
                          go_roundw
                          case rel => exact ⟨i + 1, done ++ [(la + 1 + (d : Int), (v : Int))], s5, A5, c5, by omega, (by show _ = _; rw [List.length_append, HL.out]; rfl), rfl, by go_num, (by rw [HS5.out]; exact HI.out.next_two hlt HDD.out HK.out HV3.out), HRs5.out, hcs5, ho4, HBS.out, HLS.out, (by intro a ha; rw [lastK_snoc] at ha; cases ha; exact HKB.out), WB.out.grown hg4 (by simp; omega) (fun g hg => (WO.out.block g hg).1)⟩
                          case measure => simp [intOf]; omega
                        · have HN := Lib.hid (show parseR (b :: q) = none by rw [HP2.out, HI.out.none_val hlt HDD.out (by rw [hd3])])
                          have hb := WB3.out
                          clear hd3 K3
                          go_wp2_with fail
                          go_ret3
                          exact ⟨_, _, _, rfl, .inr ⟨HN.out, rfl, rfl, OwnP.nil _ _⟩, by repeat (first | exact hb | exact Below.refl _ _ | refine below_drewN ?_ _ | refine Below.drew ?_ | refine Below.setCell ?_ (by first | omega | (simp; done) | (simp; omega)) _ | refine Below.alloc ?_ (by first | omega | (simp; done) | (simp; omega)) _)⟩
                · have HN := Lib.hid (show parseR (b :: q) = none by rw [HP2.out, HI.out.none_dec hlt hd2])
                  have hb := HBW2.out
                  clear hd2 K2
                  go_wp2
                  go_ret3
                  exact ⟨_, _, _, rfl, .inr ⟨HN.out, rfl, rfl, OwnP.nil _ _⟩, by repeat (first | exact hb | exact Below.refl _ _ | refine below_drewN ?_ _ | refine Below.drew ?_ | refine Below.setCell ?_ (by first | omega | (simp; done) | (simp; omega)) _ | refine Below.alloc ?_ (by first | omega | (simp; done) | (simp; omega)) _)⟩
              · obtain rfl : i = n := by omega
                have HI2 := Lib.hid HI.out.done
                have hb := HBW.out
                have hbs2 := HBW.out.size
                have hcl2 := (HBW.out.cell (p := ad) had).trans hcl
                rcases lr with _ | ⟨z, lr⟩
                · have HQ := Lib.hid (show parseR (b :: q) = some (two, done) by rw [HP2.out, HI2.out])
                  go_wp2
                  go_region
                  all_goals
                    go_wp2
                    go_ret3
                    exact ⟨_, _, _, rfl, .inl ⟨done, HQ.out, rfl, HO.out.below (Below.refl _ _).drew⟩, hb.drew⟩
                · have HN := Lib.hid (show parseR (b :: q) = none by rw [HP2.out, HI2.out])
                  go_wp2
                  go_ret3
                  exact ⟨_, _, _, rfl, .inr ⟨HN.out, rfl, rfl, OwnP.nil _ _⟩, by repeat (first | exact hb | exact Below.refl _ _ | refine below_drewN ?_ _ | refine Below.drew ?_ | refine Below.setCell ?_ (by first | omega | (simp; done) | (simp; omega)) _ | refine Below.alloc ?_ (by first | omega | (simp; done) | (simp; omega)) _)⟩
        · have HN := Lib.hid (show parseR (b :: q) = none by rw [HP.out, hd])
          have hb := hw1
          clear K hd
          go_wp2
          go_ret3
          exact ⟨_, _, _, rfl, .inr ⟨HN.out, rfl, rfl, OwnP.nil _ _⟩, by repeat (first | exact hb | exact Below.refl _ _ | refine below_drewN ?_ _ | refine Below.drew ?_ | refine Below.setCell ?_ (by first | omega | (simp; done) | (simp; omega)) _ | refine Below.alloc ?_ (by first | omega | (simp; done) | (simp; omega)) _)⟩
/-- the same, opened -/
theorem refParse_b (A : Option Addr) (c n : Nat) (l : List Int) (w : World) (hn : l.length = n) (hB : Bytes l) (hr : Rd .u8 w A l) (hlen : l.length ≤ 140737488351232) (hc : l.length ≤ c) :
    Calls Try.prog 23 #[.slice A n c] w fun e w' => ∃ (B : Option Addr) (d : Nat) (m : List (Int × Int)) (t : Bool) (er : Int), e = .returned (.tuple #[.slice B m.length d, .bool t, .int .i64 er]) ∧
      Hid ((parseR l = some (t, m) ∧ er = 0) ∨ (parseR l = none ∧ er = 2 ∧ t = false ∧ m = [])) ∧ m.length ≤ d ∧ RdP w' B m ∧ Below w.heap.size w w' := by
  subst hn
  refine (refParse_any A c l w hB hr hlen hc).mono ?_
  rintro e w' ⟨v, t, er, rfl, K, hb⟩
  rcases K.out with ⟨m, h1, h2, ho⟩ | ⟨h1, h2, h3, ho⟩
  · obtain ⟨B, d, rfl, hd, _, hr'⟩ := ho.form
    exact ⟨B, d, m, t, er, rfl, .inl ⟨h1, h2⟩, hd, hr', hb⟩
  · obtain ⟨B, d, rfl, hd, _, hr'⟩ := ho.form
    exact ⟨B, d, [], t, er, rfl, .inr ⟨h1, h2, h3, rfl⟩, hd, hr', hb⟩
end Go.Proofs.Ytnlflpcioiieaaa
