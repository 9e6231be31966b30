/-
  The walk of the law CodeCanonical.
-/
import Derived.Test.YtnlflpcioiieaaaAwake19
import Derived.Test.YtnlflpcioiieaaaParse
import Derived.Test.YtnlflpcioiieaaaRefParse
import Derived.Test.YtnlflpcioiieaaaPairs
import Derived.Test.YtnlflpcioiieaaaSame
import Derived.Test.YtnlflpcioiieaaaTake
import Derived.Test.YtnlflpcioiieaaaLimits
import Derived.Test.YtnlflpcioiieaaaNumbers
import Derived.Test.YtnlflpcioiieaaaOpen
namespace Go.Proofs.Ytnlflpcioiieaaa
set_option linter.unusedVariables false
set_option linter.unusedSimpArgs false
open Go.RowKit

theorem fst_snoc {m : List (Int × Int)} {k : Nat} (h : k < m.length) : (m.take (k + 1)).map (·.1) = (m.take k).map (·.1) ++ [(m.getD k (0, 0)).1] := by
  rw [List.take_succ_eq_append_getElem h, List.map_append]
  simp [List.getD_eq_getElem?_getD, List.getElem?_eq_getElem h]
theorem pairs_b (A : Option Addr) (c m : Nat) (l : List (Int × Int)) (w : World) (hm : l.length = m) (hB : U64P l) (hr : RdP w A l) (hlen : l.length ≤ 1000000) :
    Calls Try.prog 20 #[.slice A m c] w fun e w' => ∃ (B : Option Addr) (d : Nat) (p : List Int) (er : Int), e = .returned (.tuple #[.slice B p.length d, .int .i64 er]) ∧ Hid (bytesR true l = (p, er)) ∧ p.length ≤ d ∧ Rd .u8 w' B p ∧ Below w.heap.size w w' := by
  subst hm
  refine (pairs_any A c l w hB hr hlen).mono ?_
  rintro e w' ⟨v, rfl, ho, hb⟩
  obtain ⟨B, d, rfl, hd, _, hr'⟩ := ho.form
  exact ⟨B, d, _, _, rfl, rfl, hd, hr', hb⟩

set_option maxHeartbeats 4000000 in
set_option maxRecDepth 100000 in
theorem canon_walk (A1 : Option Addr) (c1 : Nat) (p0 : List Int) (W : World) (hs1 : p0.length ≤ 140737488351232) (hr1 : Rd .u8 W A1 p0) (hB1 : Bytes p0) :
    Calls Try.prog 6 #[.slice A1 p0.length c1] W fun e W' => e = .returned (.bool true) ∧ Below W.heap.size W W' := by
  obtain ⟨i0, hi, hz0, hz1, hz2⟩ := info_parts words_info
  have HR1 := Lib.hid hr1
  clear hr1
  go_enter Try.func6, Try.ntmps6
  go_wp2_with fail
  refine (awake19_any _).mono ?_
  rintro e w1 ⟨rfl, hb1⟩
  go_wp2_with fail
  refine (bytes_b A1 c1 p0 200 _ (by omega) (HR1.out.below hb1) (by omega)).mono ?_
  rintro e w2 ⟨B2, d2, p, rfl, K2, hlp, hd2, _, rr2, hb2⟩
  have H2 := below_then hb1 hb2
  have hlp' : p.length ≤ 200 := hlp
  have hBp : Bytes p := fun x hx => hB1 x (List.mem_of_mem_take (by rw [K2.out] at hx; exact hx))
  have HBp := Lib.hid hBp
  clear hBp hlp hb1 hb2
  go_wp2_with fail
  refine (bytes_b B2 d2 p 200 _ (by omega) rr2 (by omega)).mono ?_
  rintro e w3 ⟨B3, d3, mine, rfl, K3, _, hd3, _, rr3, hb3⟩
  obtain rfl : mine = p := by rw [K3.out]; exact List.take_of_length_le (by show p.length ≤ 200; omega)
  have H3 := below_then H2 hb3
  have RR2 := Lib.hid (rr2.below hb3)
  have RR3 := Lib.hid rr3
  clear rr2 rr3 hb3 H2 K3
  go_wp2_with fail
  refine (parse_b B3 d3 _ mine _ rfl HBp.out RR3.out (by omega) hd3).mono ?_
  rintro e w4 ⟨B4, d4, l, two, er, rfl, K4, hd4, rp4, hb4⟩
  have H4 := below_then H3 hb4
  replace RR2 := Lib.hid (RR2.out.below hb4)
  replace RR3 := Lib.hid (RR3.out.below hb4)
  have RP4 := Lib.hid rp4
  clear rp4 hb4 H3
  go_wp2_with fail
  refine (refParse_b B2 d2 _ mine _ rfl HBp.out RR2.out (by omega) hd2).mono ?_
  rintro e w5 ⟨B5, d5, m, both, fr, rfl, K5, hd5, rp5, hb5⟩
  have H5 := below_then H4 hb5
  replace RR2 := Lib.hid (RR2.out.below hb5)
  replace RR3 := Lib.hid (RR3.out.below hb5)
  replace RP4 := Lib.hid (RP4.out.below hb5)
  have RP5 := Lib.hid rp5
  clear rp5 hb5 H4
  have hsame : m = l ∧ both = two ∧ fr = er ∧ l.length ≤ 262144 ∧ U64P l ∧ ((er = 0 ∧ parseR mine = some (two, l)) ∨ (er = 2 ∧ two = false ∧ l = [])) := by
    rcases K4.out with ⟨h1, rfl⟩ | ⟨h1, rfl, rfl, rfl⟩
    · obtain ⟨_, hU, _, hl⟩ := bytes_parse HBp.out h1
      rcases K5.out with ⟨h2, rfl⟩ | ⟨h2, _⟩
      · rw [h1] at h2
        simp only [Option.some.injEq, Prod.mk.injEq] at h2
        exact ⟨h2.2.symm, h2.1.symm, rfl, hl, hU, .inl ⟨rfl, h1⟩⟩
      · rw [h1] at h2; cases h2
    · rcases K5.out with ⟨h2, rfl⟩ | ⟨h2, rfl, rfl, rfl⟩
      · rw [h1] at h2; cases h2
      · exact ⟨rfl, rfl, rfl, by simp, (fun x hx => absurd hx (by simp)), .inr ⟨rfl, rfl, rfl⟩⟩
  obtain ⟨rfl, rfl, rfl, hl, hU, KK⟩ := hsame
  have HU := Lib.hid hU
  have HKK := Lib.hid KK
  clear K4 K5 hU KK
  have hbb : (both != both) = false := by cases both <;> rfl
  have hbb2 : (both == both) = true := by cases both <;> rfl
  have hff : ((fr : Int) != fr) = false := by simp
  have hff2 : ((fr : Int) == fr) = true := by simp
  go_wp2_with fail
  refine (refSame_any B4 B5 d4 d5 m m _ RP4.out RP5.out (by omega)).mono ?_
  rintro e w6 ⟨sa, rfl, HSA, hb6⟩
  obtain rfl : sa = true := by rw [HSA.out]; simp
  have H6 := below_then H5 hb6
  replace RR2 := Lib.hid (RR2.out.below hb6)
  replace RR3 := Lib.hid (RR3.out.below hb6)
  replace RP4 := Lib.hid (RP4.out.below hb6)
  clear hb6 H5 HSA RP5
  go_wp2_with fail
  refine (sameBytes_c _ _ _ _ _ _ mine mine _ rfl rfl RR3.out RR2.out (by omega) (by omega)).mono ?_
  rintro e w7 ⟨sb, rfl, HSB, hb7⟩
  obtain rfl : sb = true := by rw [HSB.out]; simp
  have H7 := below_then H6 hb7
  replace RR2 := Lib.hid (RR2.out.below hb7)
  replace RR3 := Lib.hid (RR3.out.below hb7)
  replace RP4 := Lib.hid (RP4.out.below hb7)
  clear hb7 H6 HSB
  rcases HKK.out with ⟨rfl, hpr⟩ | ⟨rfl, rfl, rfl⟩
  · have HPR := Lib.hid hpr
    clear hpr HKK
    go_wp2_with fail
    go_loopw [10, 68] (fun v10 v68 wr => ∃ k : Nat, k ≤ m.length ∧ v68 = .int .i64 k ∧ Hid (Own .u64 22 wr w7.heap.size v10 ((m.take k).map (·.1))) ∧ Below w7.heap.size w7 wr) (fun _ v68 _ => m.length - (intOf v68).toNat)
    case atStart => exact ⟨0, Nat.zero_le _, rfl, (by show Own _ _ _ _ _ _; simpa using Own.nil _ _ _ _), Below.refl _ _⟩
    case round =>
      obtain ⟨k, hk, rfl, HO, hb⟩ := hrel
      by_cases hlt : k < m.length
      · obtain ⟨ad, rfl, had, hk0, hv0⟩ := RP4.out k hlt
        have hk0' := (hb.cell (p := ad.add (k * 2)) (by rw [block_of_add]; exact had)).trans hk0
        have hv0' := (hb.cell (p := ad.add (k * 2 + 1)) (by rw [block_of_add]; exact had)).trans hv0
        rw [pair_addr] at hv0'
        have H1 := Lib.hid (fst_snoc hlt)
        have hl2 : ((m.take k).map (·.1)).length ≤ 262144 := by simp; omega
        have hsz := hb.size
        clear hk0 hv0
        generalize m.getD k (0, 0) = x at *
        obtain ⟨x0, x1⟩ := x
        have WO := Lib.hid (HO.out.below (((Below.refl wr.heap.size wr).alloc (Nat.le_refl _) (.cells #[.int .u64 x0, .int .u64 x1] 43)).alloc (by simp) (.cells #[.int .u64 x0] 22)))
        have WB := Lib.hid ((hb.alloc hsz (.cells #[.int .u64 x0, .int .u64 x1] 43)).alloc (by simp; omega) (.cells #[.int .u64 x0] 22))
        go_wp2_with (at_builtin; refine wpList_push w7.heap.size _ _ x0 _ _ _ rfl rfl Try.underlying24 hi hz0 hz1 hz2 rfl rfl rfl (alloc_at (by simp)) WO.out ?g1 ?g2 ?g3 ?_; (case g1 => simp; omega); (case g2 => omega); (case g3 => unfold maxLen; omega); intro v9 w9 ho9 hg9 _)
        go_wp2
        go_roundw
        case rel => exact ⟨k + 1, by omega, by go_num, by rw [H1.out]; exact ho9, WB.out.grown hg9 (by simp; omega) (fun g hg => (WO.out.block g hg).1)⟩
        case measure => simp [intOf]; omega
      · obtain rfl : k = m.length := by omega
        rw [List.take_length] at HO
        obtain ⟨ks, hks⟩ : ∃ ks, m.map (·.1) = ks := ⟨_, rfl⟩
        have hkl : ks.length ≤ 262144 := by rw [← hks]; simpa using hl
        have HKS := Lib.hid (show keysR ks = bytesR false m by rw [← hks]; exact keysR_bytesR m)
        have HKU := Lib.hid (show U64 ks by
          rw [← hks]
          intro x hx
          obtain ⟨y, hy, rfl⟩ := List.mem_map.1 hx
          exact (HU.out y hy).1)
        rw [hks] at HO
        obtain ⟨B8, d8, rfl, hd8, _, rr8⟩ := HO.out.form
        have H8 := below_then H7 hb
        replace RR2 := Lib.hid (RR2.out.below hb)
        replace RR3 := Lib.hid (RR3.out.below hb)
        replace RP4 := Lib.hid (RP4.out.below hb)
        obtain ⟨hby, _, _, _⟩ := bytes_parse HBp.out HPR.out
        have HBY := Lib.hid hby
        clear hks hby hb HO
        go_wp2_with fail
        refine (keys_b B8 d8 _ ks _ rfl HKU.out rr8 (by omega)).mono ?_
        rintro e w9 ⟨B9, d9, q9, e9, rfl, K9, hd9, rr9, hb9⟩
        have H9 := below_then H8 hb9
        replace RR2 := Lib.hid (RR2.out.below hb9)
        replace RR3 := Lib.hid (RR3.out.below hb9)
        replace RP4 := Lib.hid (RP4.out.below hb9)
        cases both
        · obtain ⟨rfl, rfl⟩ : q9 = mine ∧ e9 = 0 := by
            have := K9.out
            rw [HKS.out, HBY.out] at this
            simp only [Prod.mk.injEq] at this
            exact ⟨this.1.symm, this.2.symm⟩
          clear K9 hb9
          go_wp2_with fail
          refine (sameBytes_c _ _ _ _ _ _ q9 q9 _ rfl rfl rr9 RR2.out (by omega) (by omega)).mono ?_
          rintro e w10 ⟨sb, rfl, HSB, hb10⟩
          obtain rfl : sb = true := by rw [HSB.out]; simp
          go_wp2
          go_ret
          exact ⟨rfl, below_then H9 hb10⟩
        · clear K9 hb9 rr9
          go_wp2_with fail
          refine (pairs_b B4 d4 _ m _ rfl HU.out RP4.out (by omega)).mono ?_
          rintro e w10 ⟨B10, d10, q10, e10, rfl, K10, hd10, rr10, hb10⟩
          have H10 := below_then H9 hb10
          replace RR2 := Lib.hid (RR2.out.below hb10)
          obtain ⟨rfl, rfl⟩ : q10 = mine ∧ e10 = 0 := by
            have := K10.out
            rw [HBY.out] at this
            simp only [Prod.mk.injEq] at this
            exact ⟨this.1.symm, this.2.symm⟩
          clear K10 hb10
          go_wp2_with fail
          refine (sameBytes_c _ _ _ _ _ _ q10 q10 _ rfl rfl rr10 RR2.out (by omega) (by omega)).mono ?_
          rintro e w11 ⟨sb, rfl, HSB, hb11⟩
          obtain rfl : sb = true := by rw [HSB.out]; simp
          go_wp2
          go_ret
          exact ⟨rfl, below_then H10 hb11⟩
  · go_wp2
    go_ret
    exact ⟨rfl, H7⟩
theorem walk_codeCanonical (A1 : Option Addr) (c1 : Nat) (l1 : List Int) (W : World)
    (s1 : l1.length * 1 ≤ 140737488351232) (_h1 : l1.length ≤ c1) (y1 : Rd .u8 W A1 l1) (w1 : ∀ x ∈ l1, (Lit.int .u8 x).wf = true) :
    Calls Try.prog 6 #[.slice A1 l1.length c1] W fun e W' => e = .returned (.bool true) ∧ Below W.heap.size W W' :=
  canon_walk A1 c1 l1 W (by omega) y1 (bytes_of _ w1)
end Go.Proofs.Ytnlflpcioiieaaa
