/-
  The walk of the law CodeNumbers.
-/
import Derived.Test.YtnlflpcioiieaaaAwake19
import Derived.Test.YtnlflpcioiieaaaSize
import Derived.Test.YtnlflpcioiieaaaCode3
import Derived.Test.YtnlflpcioiieaaaTake
import Derived.Test.YtnlflpcioiieaaaOpen
namespace Go.Proofs.Ytnlflpcioiieaaa
set_option linter.unusedVariables false
set_option linter.unusedSimpArgs false
open Go.RowKit

theorem refNumber_b (x : Int) (w : World) (h0 : 0 ≤ x) (h1 : x ≤ 18446744073709551615) :
    Calls Try.prog 14 #[.int .u64 x] w fun e w' => ∃ (A : Option Addr) (c m : Nat), e = .returned (.slice A m c) ∧ (m = (num x.toNat).length ∧ m ≤ 10) ∧ Rd .u8 w' A (num x.toNat) ∧ Below w.heap.size w w' := by
  obtain ⟨k, rfl⟩ := Int.eq_ofNat_of_zero_le h0
  refine (refNumber_any k w (by omega)).mono ?_
  rintro e w' ⟨v, rfl, ho, hb⟩
  obtain ⟨A, c, rfl, _, _, hr⟩ := ho.form
  have := num_len10 (n := k) (by omega)
  exact ⟨A, c, _, rfl, ⟨by simp, this⟩, hr, hb⟩
theorem read_n (A : Option Addr) (c m : Nat) (l : List Int) (w : World) (hm : l.length = m) (hB : Bytes l) (hr : Rd .u8 w A l) (hlen : l.length ≤ 140737488351232) (hc : l.length ≤ c) :
    Calls Try.prog 12 #[.slice A m c] w fun e w' => ∃ (n : Nat) (B : Option Addr) (d : Nat) (r : List Int) (er : Int), e = .returned (.tuple #[.int .u64 n, .slice B r.length d, .int .i64 er]) ∧
      Hid ((er = 0 ∧ dec l = some (n, r)) ∨ (er = 2 ∧ n = 0 ∧ r = [] ∧ dec l = none)) ∧ Rd .u8 w' B r ∧ Below w.heap.size w w' := by
  subst hm
  refine (read_any A c l w hB hr hlen hc).mono ?_
  rintro e w' ⟨n, v, r, er, rfl, K, ho, hb⟩
  obtain ⟨B, d, rfl, _, _, hr'⟩ := ho.form
  exact ⟨n, B, d, r, er, rfl, K, hr', hb⟩
theorem refRead_b (A : Option Addr) (c : Nat) (l : List Int) (w : World) (hB : Bytes l) (hr : Rd .u8 w A l) (hlen : l.length ≤ 140737488351232) (hc : l.length ≤ c) :
    Calls Try.prog 15 #[.slice A l.length c] w fun e w' => ∃ x y : Nat, e = .returned (.tuple #[.int .u64 x, .int .i64 y]) ∧ Hid ((x, y) = refRead l) ∧ Below w.heap.size w w' :=
  (refRead_any A c l w hB hr hlen hc).mono fun _ _ ⟨he, hb⟩ => ⟨_, _, he, rfl, hb⟩
theorem size_b (A : Option Addr) (c : Nat) (l : List Int) (w : World) (hr : Rd .u64 w A l) (hB : U64 l) (hlen : l.length * 8 ≤ 140737488351232) :
    Calls Try.prog 16 #[.slice A l.length c] w fun e w' => ∃ z : Nat, e = .returned (.int .i64 z) ∧ Hid (z = sizes l) ∧ w = w' :=
  (size_any A c l w hr hB hlen).mono fun _ _ ⟨he, hb⟩ => ⟨_, he, rfl, hb⟩
theorem refNumber_n (n : Nat) (w : World) (h : n < 18446744073709551616) :
    Calls Try.prog 14 #[.int .u64 n] w fun e w' => ∃ (A : Option Addr) (c : Nat), e = .returned (.slice A (num n).length c) ∧ Rd .u8 w' A (num n) ∧ Below w.heap.size w w' := by
  refine (refNumber_any n w h).mono ?_
  rintro e w' ⟨v, rfl, ho, hb⟩
  obtain ⟨A, c, rfl, _, _, hr⟩ := ho.form
  exact ⟨A, c, rfl, hr, hb⟩
theorem bytes_of (l : List Int) (h : ∀ x ∈ l, (Lit.int .u8 x).wf = true) : Bytes l := fun x hx => by
  have := wf_u8 (h x hx); omega
theorem u64_of (l : List Int) (h : ∀ x ∈ l, (Lit.int .u64 x).wf = true) : U64 l := fun x hx => wf_u64 (h x hx)

set_option maxHeartbeats 4000000 in
set_option maxRecDepth 100000 in
theorem numbers_walk (n : Nat) (A1 : Option Addr) (c1 : Nat) (rest : List Int) (A2 : Option Addr) (c2 : Nat) (raw : List Int) (A3 : Option Addr) (c3 : Nat) (l : List Int) (W : World) (hn : n < 18446744073709551616)
    (hs1 : rest.length ≤ 140737488351232) (hr1 : Rd .u8 W A1 rest) (hB1 : Bytes rest) (hs2 : raw.length ≤ 140737488351232) (hr2 : Rd .u8 W A2 raw) (hB2 : Bytes raw) (hs3 : l.length * 8 ≤ 140737488351232) (hr3 : Rd .u64 W A3 l) (hB3 : U64 l) :
    Calls Try.prog 3 #[.int .u64 n, .slice A1 rest.length c1, .slice A2 raw.length c2, .slice A3 l.length c3] W fun e w' => e = .returned (.bool true) ∧ Below W.heap.size W w' := by
  obtain ⟨i0, hi, hz0, hz1, hz2⟩ := info_parts u8_info
  have HR1 := Lib.hid hr1
  have HR2 := Lib.hid hr2
  have HR3 := Lib.hid hr3
  have HN := Lib.hid hn
  clear hr1 hr2 hr3
  go_enter Try.func3, Try.ntmps3
  go_wp2_with fail
  refine (awake19_any _).mono ?_
  rintro e w1 ⟨rfl, hb1⟩
  go_wp2_with fail
  refine (bytes_b A1 c1 rest 20 _ (by omega) (HR1.out.below hb1) (by omega)).mono ?_
  rintro e w2 ⟨B1, d1, rs, rfl, K1, hlr, hd1, ho2, rr1, hb2⟩
  have H2 := below_then hb1 hb2
  go_wp2_with fail
  refine (bytes_b A2 c2 raw 20 _ (by omega) (HR2.out.below H2) (by omega)).mono ?_
  rintro e w3 ⟨B2, d2, rw_, rfl, K2, hlw, hd2, ho3, rr2, hb3⟩
  have H3 := below_then H2 hb3
  replace rr1 := rr1.below hb3
  go_wp2_with fail
  refine (words_b A3 c3 l 20 _ (by omega) (HR3.out.below H3) (by omega)).mono ?_
  rintro e w4 ⟨B3, d3, ls, rfl, K3, hll, hd3, ho4, rr3, hb4⟩
  have H4 := below_then H3 hb4
  replace rr1 := rr1.below hb4
  replace rr2 := rr2.below hb4
  clear ho2 ho3 ho4 hb1 hb2 hb3 hb4 H2 H3
  have hBr : Bytes rs := fun x hx => hB1 x (List.mem_of_mem_take (by rw [K1.out] at hx; exact hx))
  have hBw : Bytes rw_ := fun x hx => hB2 x (List.mem_of_mem_take (by rw [K2.out] at hx; exact hx))
  have hBl : U64 ls := fun x hx => hB3 x (List.mem_of_mem_take (by rw [K3.out] at hx; exact hx))
  replace hlr : rs.length ≤ 20 := hlr
  replace hlw : rw_.length ≤ 20 := hlw
  replace hll : ls.length ≤ 20 := hll
  clear HR1 HR2 HR3 hB1 hB2 hB3 hn
  have HBr := Lib.hid hBr
  have HBw := Lib.hid hBw
  have HBl := Lib.hid hBl
  have RR1 := Lib.hid rr1
  have RR2 := Lib.hid rr2
  have RR3 := Lib.hid rr3
  clear hBr hBw hBl rr1 rr2 rr3
  -- the number's bytes, and what is read of them
  go_wp2_with fail
  refine (number_any n _ HN.out).mono ?_
  rintro e w5 ⟨v5, rfl, ho5, hb5⟩
  obtain ⟨B5, d5, rfl, hd5, _, rr5⟩ := ho5.form
  have H5 := below_then H4 hb5
  have h10 := num_len10 HN.out
  go_wp2_with fail
  refine (bytes_b B5 d5 (num n) 20 _ (by omega) rr5 (by omega)).mono ?_
  rintro e w6 ⟨B6, d6, nn, rfl, K6, _, hd6, ho6, _, hb6⟩
  obtain rfl : nn = num n := by rw [K6.out]; exact List.take_of_length_le (by show (num n).length ≤ 20; omega)
  have H6 := below_then H5 hb6
  have rr1 := RR1.out.below (below_then hb5 hb6)
  have q0 := RR1.out.below hb5
  have q1 := RR2.out.below hb5
  have q2 := RR3.out.below hb5
  have hsz6 := hb6.size
  clear RR1 RR2 RR3 ho5
  go_wp2_with (at_builtin; refine wpList_pushAll w5.heap.size _ (num n) rs _ _ _ _ rfl rfl Try.underlying23 hi hz0 hz1 hz2 rfl rfl rfl rr1 ho6 hsz6 ?g1 ?g2 ?_; (case g1 => omega); (case g2 => unfold maxLen; omega); intro v7 w7 ho7 hg7 _; obtain ⟨B7, d7, rfl, hd7, _, rr7⟩ := ho7.form)
  have B57 := hb6.grown hg7 hsz6 (fun g hgk => (ho6.block g hgk).1)
  have H7 := below_then H5 B57
  have RR5 := Lib.hid (rr5.below B57)
  have RR2 := Lib.hid (q1.below B57)
  have RR3 := Lib.hid (q2.below B57)
  have RR1 := Lib.hid (q0.below B57)
  clear q0 q1 q2 rr1 rr5 ho6 ho7 hb5 hb6 hg7 B57 H4 H5
  have hnr : (num n ++ rs).length ≤ 30 := by simp; omega
  have HBnr := Lib.hid (show Bytes (num n ++ rs) from fun x hx => by
    rcases List.mem_append.1 hx with h | h
    · exact num_bytes n x h
    · exact HBr.out x h)
  go_wp2_with fail
  refine (read_n B7 d7 _ (num n ++ rs) _ (by simp) HBnr.out rr7 (by omega) hd7).mono ?_
  rintro e w8 ⟨m, B8, d8, r8, er, rfl, K8, rr8, hb8⟩
  obtain ⟨rfl, rfl, rfl⟩ : m = n ∧ er = 0 ∧ r8 = rs := by
    rcases K8.out with ⟨h1, h2⟩ | ⟨_, _, _, h2⟩
    · rw [dec_num HN.out] at h2
      simp only [Option.some.injEq, Prod.mk.injEq] at h2
      exact ⟨h2.1.symm, h1, h2.2.symm⟩
    · rw [dec_num HN.out] at h2; cases h2
  have H8 := below_then H7 hb8
  replace RR1 := Lib.hid (RR1.out.below hb8)
  replace RR2 := Lib.hid (RR2.out.below hb8)
  replace RR3 := Lib.hid (RR3.out.below hb8)
  replace RR5 := Lib.hid (RR5.out.below hb8)
  have RR8 := Lib.hid rr8
  clear rr7 rr8 hb8 H7 K8
  go_wp2_with fail
  refine (refNumber_n m _ HN.out).mono ?_
  rintro e w9 ⟨B9, d9, rfl, rr9, hb9⟩
  have H9 := below_then H8 hb9
  replace RR1 := Lib.hid (RR1.out.below hb9)
  replace RR2 := Lib.hid (RR2.out.below hb9)
  replace RR3 := Lib.hid (RR3.out.below hb9)
  replace RR5 := Lib.hid (RR5.out.below hb9)
  replace RR8 := Lib.hid (RR8.out.below hb9)
  have RR9 := Lib.hid rr9
  clear rr9 hb9 H8
  go_wp2_with fail
  refine (sameBytes_c _ _ _ _ _ _ (num m) (num m) _ rfl rfl RR5.out RR9.out (by omega) (by omega)).mono ?_
  rintro e w10 ⟨sb, rfl, HS, hb10⟩
  obtain rfl : sb = true := by rw [HS.out]; simp
  have H10 := below_then H9 hb10
  replace RR1 := Lib.hid (RR1.out.below hb10)
  replace RR2 := Lib.hid (RR2.out.below hb10)
  replace RR3 := Lib.hid (RR3.out.below hb10)
  replace RR8 := Lib.hid (RR8.out.below hb10)
  clear HS RR5 RR9 hb10 H9
  go_wp2_with fail
  refine (sameBytes_c _ _ _ _ _ _ r8 r8 _ rfl rfl RR8.out RR1.out (by omega) (by omega)).mono ?_
  rintro e w11 ⟨sb, rfl, HS, hb11⟩
  obtain rfl : sb = true := by rw [HS.out]; simp
  have H11 := below_then H10 hb11
  replace RR2 := Lib.hid (RR2.out.below hb11)
  replace RR3 := Lib.hid (RR3.out.below hb11)
  clear HS hb11 H10 RR1 RR8
  go_wp2_with fail
  have HSZ := Lib.hid (show ∀ k, sizes (ls.take k) ≤ 200 from fun k => Nat.le_trans (sizes_le _ (fun x hx => HBl.out x (List.mem_of_mem_take hx))) (by simp; omega))
  go_loopw [13, 15, 62] (fun v13 v15 v62 wr => ∃ k : Nat, k ≤ ls.length ∧ v62 = .int .i64 k ∧ v13 = .int .i64 (sizes (ls.take k) : Nat) ∧ Below w11.heap.size w11 wr) (fun _ _ v62 _ => ls.length - (intOf v62).toNat)
  case atStart => exact ⟨0, Nat.zero_le _, rfl, rfl, Below.refl _ _⟩
  case round =>
    obtain ⟨k, hk, rfl, rfl, hb⟩ := hrel
    have hs0 := HSZ.out k
    by_cases hlt : k < ls.length
    · obtain ⟨ad, rfl, had, hcl⟩ := RR3.out k hlt
      have hcl' := (hb.cell (p := ad.add k) (by rw [block_of_add]; exact had)).trans hcl
      clear hcl
      have HX := Lib.hid (HBl.out.at_ hlt)
      have HS2 := Lib.hid (sizes_snoc ls k hlt)
      generalize sizes (ls.take k) = sk at *
      generalize ls.getD k 0 = x at *
      go_wp2_with (go_at_call 14; refine (refNumber_b x _ HX.out.1 HX.out.2).mono ?_; rintro e w12 ⟨A12, c12, m12, rfl, ⟨hm12, hm10⟩, _, hb12⟩; have HM := Lib.hid hm12; clear hm12)
      go_roundw
      case rel => exact ⟨k + 1, by omega, by go_num, by rw [HS2.out, ← HM.out]; go_num, below_then hb hb12⟩
      case measure => simp [intOf] <;> omega
    · obtain rfl : k = ls.length := by omega
      have HT := below_then H11 hb
      have HZ := Lib.hid (show sizes (ls.take ls.length) = sizes ls by rw [List.take_length])
      generalize sizes (ls.take ls.length) = zz at *
      replace RR2 := Lib.hid (RR2.out.below hb)
      replace RR3 := Lib.hid (RR3.out.below hb)
      go_wp2_with fail
      refine (read_n B2 d2 _ rw_ _ rfl HBw.out RR2.out (by omega) hd2).mono ?_
      rintro e w13 ⟨m1, B13, d13, r13, er, rfl, K13, rr13, hb13⟩
      have H13 := below_then HT hb13
      replace RR2 := Lib.hid (RR2.out.below hb13)
      replace RR3 := Lib.hid (RR3.out.below hb13)
      have RR13 := Lib.hid rr13
      go_wp2_with fail
      refine (refRead_b B2 d2 rw_ _ HBw.out RR2.out (by omega) hd2).mono ?_
      rintro e w14 ⟨x14, y14, rfl, K14, hb14⟩
      have H14 := below_then H13 hb14
      replace RR2 := Lib.hid (RR2.out.below hb14)
      replace RR3 := Lib.hid (RR3.out.below hb14)
      replace RR13 := Lib.hid (RR13.out.below hb14)
      go_wp2_with fail
      refine (size_b B3 d3 ls _ RR3.out HBl.out (by omega)).mono ?_
      rintro e w15 ⟨z15, rfl, K15, rfl⟩
      obtain rfl : z15 = zz := by rw [K15.out, HZ.out]
      have hrr := refRead_dec HBw.out
      rcases K13.out with ⟨rfl, h2⟩ | ⟨rfl, rfl, rfl, h2⟩
      · rw [h2, ← K14.out] at hrr
        simp only [Prod.mk.injEq] at hrr
        obtain ⟨rfl, hy⟩ := hrr
        obtain ⟨_, hcat⟩ := dec_some HBw.out h2
        have hlen2 := congrArg List.length hcat
        rw [List.length_append] at hlen2
        have hnp := num_pos x14
        have hy0 : 0 < y14 := by omega
        have hy1 : y14 ≤ rw_.length := by omega
        have hdr : rw_.drop y14 = r13 := by rw [hcat, show y14 = (num x14).length by omega, List.drop_left']; rfl
        obtain ⟨ad, rfl, had, _⟩ := RR2.out 0 (by omega)
        have hcut := RR2.out.cut y14 (rw_.length - y14)
        rw [List.take_of_length_le (by simp), hdr] at hcut
        have hcut2 : Rd .u8 w14 (some (Addr.mk ad.block (ad.off + y14) none)) r13 := by
          have : Option.map (fun x => x.add y14) (some ad) = some (Addr.mk ad.block (ad.off + y14) none) := by
            simp only [Option.map_some, Addr.add]; rw [if_neg (by omega)]
          rwa [this] at hcut
        have HC1 := Lib.hid hcut
        have HC2 := Lib.hid hcut2
        have hr13 : r13.length ≤ 20 := by omega
        have HLN := Lib.hid (show r13.length = rw_.length - y14 by omega)
        have hyb : ((y14 : Int) == 0) = false := by simp; omega
        clear hcut hcut2 hdr hcat hlen2 hy h2
        by_cases hcap : d2 = y14
        · have hr0 : r13 = [] := List.eq_nil_of_length_eq_zero (by rw [HLN.out]; omega)
          subst hr0
          have hc1 : d2 ≤ y14 := by omega
          have hc2 : y14 ≤ d2 := by omega
          have hc3 : rw_.length ≤ y14 := by omega
          have HCAP := Lib.hid hcap
          clear hcap
          go_wp2_with fail
          refine (sameBytes_c _ _ _ _ _ _ [] [] _ (by first | rfl | (have := HLN.out; simp at this; omega)) (by first | rfl | (have := HLN.out; simp at this; omega)) (by first | exact RR13.out | exact Rd.nil _ _ _) (by first | exact Rd.nil _ _ _ | exact RR13.out) (by simp) (by simp)).mono ?_
          rintro e w16 ⟨sb, rfl, HS, hb16⟩
          obtain rfl : sb = true := by rw [HS.out]; simp
          go_wp2
          go_ret
          exact ⟨rfl, below_then H14 hb16⟩
        · have hc2 : y14 < d2 := by omega
          clear hcap
          go_wp2_with fail
          refine (sameBytes_c _ _ _ _ _ _ r13 r13 _ (by first | rfl | (have := HLN.out; omega)) (by first | rfl | (have := HLN.out; omega)) RR13.out (by first | exact HC1.out | exact HC2.out) (by omega) (by omega)).mono ?_
          rintro e w16 ⟨sb, rfl, HS, hb16⟩
          obtain rfl : sb = true := by rw [HS.out]; simp
          go_wp2
          go_ret
          exact ⟨rfl, below_then H14 hb16⟩
      · rw [h2, ← K14.out] at hrr
        simp only [Prod.mk.injEq] at hrr
        obtain ⟨rfl, rfl⟩ := hrr
        go_wp2
        go_ret
        exact ⟨rfl, H14⟩
theorem walk_codeNumbers (n : Int) (A1 : Option Addr) (c1 : Nat) (l1 : List Int) (A2 : Option Addr) (c2 : Nat) (l2 : List Int) (A3 : Option Addr) (c3 : Nat) (l3 : List Int) (W : World) (wn : (Lit.int .u64 n).wf = true)
    (s1 : l1.length * 1 ≤ 140737488351232) (_h1 : l1.length ≤ c1) (y1 : Rd .u8 W A1 l1) (w1 : ∀ x ∈ l1, (Lit.int .u8 x).wf = true)
    (s2 : l2.length * 1 ≤ 140737488351232) (_h2 : l2.length ≤ c2) (y2 : Rd .u8 W A2 l2) (w2 : ∀ x ∈ l2, (Lit.int .u8 x).wf = true)
    (s3 : l3.length * 8 ≤ 140737488351232) (_h3 : l3.length ≤ c3) (y3 : Rd .u64 W A3 l3) (w3 : ∀ x ∈ l3, (Lit.int .u64 x).wf = true) :
    Calls Try.prog 3 #[.int .u64 n, .slice A1 l1.length c1, .slice A2 l2.length c2, .slice A3 l3.length c3] W fun e W' => e = .returned (.bool true) ∧ Below W.heap.size W W' := by
  have hw := wf_u64 wn
  obtain ⟨k, rfl⟩ := Int.eq_ofNat_of_zero_le hw.1
  exact numbers_walk k A1 c1 l1 A2 c2 l2 A3 c3 l3 W (by omega) (by omega) y1 (bytes_of _ w1) (by omega) y2 (bytes_of _ w2) s3 y3 (u64_of _ w3)
end Go.Proofs.Ytnlflpcioiieaaa
