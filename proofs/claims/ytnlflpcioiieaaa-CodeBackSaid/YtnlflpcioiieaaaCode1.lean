/-
  Package code and its reference, walked: numbers as bytes, one number read, how many bytes numbers have.
-/
import Derived.Test.YtnlflpcioiieaaaKit
import Derived.Test.YtnlflpcioiieaaaNum
import Derived.Laws.BitsLemmas
import Derived.Laws.Bits64
import Derived.Lib.LazyBuf
namespace Go.Proofs.Ytnlflpcioiieaaa
set_option linter.unusedVariables false
set_option linter.unusedSimpArgs false
open Go.RowKit

theorem or128 (m : Int) (h : 0 ≤ m) : bits .or .u8 (m % 256) 128 = 128 + m % 128 := by
  have key : ∀ k : Nat, k < 256 → bits .or .u8 (k : Int) 128 = 128 + (k : Int) % 128 := by decide +kernel
  have := key (m % 256).toNat (by omega)
  rw [show (((m % 256).toNat : Nat) : Int) = m % 256 by omega] at this
  rw [this]; omega
theorem u8_info : (Try.prog.info? 5).map (fun i => (i.zero, i.size, i.bytes)) = some (some (.int .u8 0), 1, 1) := by kernel_rfl

set_option maxHeartbeats 400000 in
set_option maxRecDepth 100000 in
theorem number_any (n : Nat) (w : World) (hn : n < 18446744073709551616) :
    Calls Try.prog 11 #[.int .u64 n] w fun e w' => ∃ v, e = .returned v ∧ Own .u8 5 w' w.heap.size v (num n) ∧ Below w.heap.size w w' := by
  obtain ⟨i0, hi, hz0, hz1, hz2⟩ := info_parts u8_info
  have h10 := num_len10 hn
  clear hn
  go_enter Try.func11, Try.ntmps11
  go_wp2
  go_loopw [0, 3] (fun v0 v3 wr => ∃ (m : Nat) (pre : List Int), v0 = .int .u64 m ∧ Hid (num n = pre ++ num m) ∧ Hid (Own .u8 5 wr w.heap.size v3 pre) ∧ Below w.heap.size w wr) (fun v0 _ _ => (intOf v0).toNat)
  case atStart => exact ⟨n, [], rfl, rfl, Own.nil _ _ _ _, Below.refl _ _⟩
  case round =>
    obtain ⟨m, pre, rfl, HN, HO, hb⟩ := hrel
    have hsz := hb.size
    have hpre : pre.length + 1 ≤ 10 := by
      have e := congrArg List.length HN.out
      have := num_pos m
      simp at e; omega
    by_cases hlt : 128 ≤ m
    · go_wp2_with (at_builtin; refine wpList_push w.heap.size _ pre _ _ _ _ rfl rfl Try.underlying23 hi hz0 hz1 hz2 rfl rfl rfl (heap_alloc_new _ _) (HO.out.below ((Below.refl _ _).alloc (Nat.le_refl _) _)) ?g1 ?g2 ?g3 ?_; (case g1 => simp; omega); (case g2 => omega); (case g3 => unfold maxLen; omega); intro v1 w1 ho1 hg1 _)
      go_roundw
      case rel =>
        exact ⟨m / 128, pre ++ [128 + ((m % 128 : Nat) : Int)], by go_num, by show _ = _; rw [HN.out, num_big (by omega)]; simp, by rw [or128 _ (by omega)] at ho1; exact ho1, (hb.alloc hsz _).grown hg1 (by simp; omega) (fun g hgk => (HO.out.block g hgk).1)⟩
      case measure => simp [intOf]; omega
    · go_wp2_with (at_builtin; refine wpList_push w.heap.size _ pre _ _ _ _ rfl rfl Try.underlying23 hi hz0 hz1 hz2 rfl rfl rfl (heap_alloc_new _ _) (HO.out.below ((Below.refl _ _).alloc (Nat.le_refl _) _)) ?g1 ?g2 ?g3 ?_; (case g1 => simp; omega); (case g2 => omega); (case g3 => unfold maxLen; omega); intro v1 w1 ho1 hg1 _)
      go_ret
      exact ⟨_, rfl, by rw [HN.out, num_small (by omega)]; exact ho1, (hb.alloc hsz _).grown hg1 (by simp; omega) (fun g hgk => (HO.out.block g hgk).1)⟩
theorem number_int (n : Int) (w : World) (h0 : 0 ≤ n) (hn : n < 18446744073709551616) :
    Calls Try.prog 11 #[.int .u64 n] w fun e w' => ∃ v, e = .returned v ∧ Own .u8 5 w' w.heap.size v (num n.toNat) ∧ Below w.heap.size w w' := by
  obtain ⟨m, rfl⟩ := Int.eq_ofNat_of_zero_le h0
  exact number_any m w (by omega)

theorem number_m (n : Int) (m : Nat) (w : World) (hm : n.toNat = m) (h0 : 0 ≤ n) (hn : n < 18446744073709551616) :
    Calls Try.prog 11 #[.int .u64 n] w fun e w' => ∃ v, e = .returned v ∧ Own .u8 5 w' w.heap.size v (num m) ∧ Below w.heap.size w w' := by
  subst hm
  exact number_int n w h0 hn

set_option maxHeartbeats 400000 in
set_option maxRecDepth 100000 in
theorem refNumber_any (n : Nat) : ∀ (w : World), n < 18446744073709551616 →
    Calls Try.prog 14 #[.int .u64 n] w fun e w' => ∃ v, e = .returned v ∧ Own .u8 5 w' w.heap.size v (num n) ∧ Below w.heap.size w w' := by
  induction n using Nat.strongRecOn with
  | _ n ih =>
    intro w hn
    obtain ⟨i0, hi, hz0, hz1, hz2⟩ := info_parts u8_info
    have IH := Lib.hid (show ∀ (m : Int) (w : World), 0 ≤ m → m.toNat < n → m < 18446744073709551616 → Calls Try.prog 14 #[.int .u64 m] w fun e w' => ∃ v, e = .returned v ∧ Own .u8 5 w' w.heap.size v (num m.toNat) ∧ Below w.heap.size w w' from
      fun m w h0 h1 h2 => by
        obtain ⟨k, rfl⟩ := Int.eq_ofNat_of_zero_le h0
        exact ih k (by omega) w (by omega))
    clear ih
    have HNn := Lib.hid hn
    clear hn
    by_cases hs : n < 128
    · have HN := Lib.hid (num_small hs)
      go_enter Try.func14, Try.ntmps14
      go_wp2
      go_ret
      refine ⟨_, rfl, ?_, (Below.refl _ _).alloc (Nat.le_refl _) _⟩
      rw [HN.out]
      exact Own.made (Nat.le_refl _) [(n : Int)] (by simp [maxLen])
    · have HN := Lib.hid (num_big hs)
      have hl := num_len10 (n := n / 128) (by have := HNn.out; omega)
      go_enter Try.func14, Try.ntmps14
      have HW := Lib.hid (show IntKind.u64.wrap ((n : Int) / 128) = (n : Int) / 128 by rw [IntKind.wrap_u64]; have := HNn.out; omega)
      go_wp2_with fail
      rw [HW.out]
      refine (IH.out _ _ (by omega) (by omega) (by have := HNn.out; omega)).mono ?_
      rw [show ((n : Int) / 128).toNat = n / 128 by omega]
      rintro e w1 ⟨v1, rfl, ho1, hb1⟩
      obtain ⟨A1, c1, rfl, hc1, hm1, hr1⟩ := ho1.form
      have hown := (Own.made (k := .u8) (e := 5) (w := w) (base := w.heap.size) (Nat.le_refl _) [128 + (n : Int) % 128] (by simp [maxLen])).below hb1
      have hbw := ((Below.refl w.heap.size w).alloc (Nat.le_refl _) (.cells #[.int .u8 (128 + (n : Int) % 128)] 5)).trans (hb1.mono (by simp))
      clear ho1 hb1
      have hsz := hbw.size
      go_wp2_with (at_builtin; refine wpList_pushAll w.heap.size _ _ _ _ _ _ _ rfl rfl Try.underlying23 hi hz0 hz1 hz2 rfl rfl rfl hr1 hown hsz ?g1 ?g2 ?_; (case g1 => simp; omega); (case g2 => simp [maxLen]; omega); intro v2 w2 ho2 hg2 _)
      go_ret
      refine ⟨_, rfl, ?_, hbw.grown hg2 hsz (fun g hgk => (hown.block g hgk).1)⟩
      rw [HN.out]
      exact ho2

set_option maxHeartbeats 400000 in
set_option maxRecDepth 100000 in
theorem clone_any (A : Option Addr) (c : Nat) (l : List Int) (w : World) (hr : Rd .u8 w A l) (hlen : l.length ≤ 140737488351232) :
    Calls Try.prog 24 #[.slice A l.length c] w fun e w' => ∃ v, e = .returned v ∧ Own .u8 5 w' w.heap.size v l ∧ Below w.heap.size w w' := by
  obtain ⟨i0, hi, hz0, hz1, hz2⟩ := info_parts u8_info
  have hq := fun w => Lib.run_eql_slice_nil (P := Try.prog) w 23 5 A l.length c 0 0 Try.underlying23
  have HR := Lib.hid hr
  clear hr
  rcases A with _ | ad
  · have hl : l = [] := by
      rcases l with _ | ⟨x, l⟩
      · rfl
      · obtain ⟨_, e, _⟩ := HR.out 0 (by simp); cases e
    subst hl
    clear hq
    have hq := fun w => Lib.run_eql_slice_nil (P := Try.prog) w 23 5 none 0 c 0 0 Try.underlying23
    go_enter Try.func24, Try.ntmps24
    go_wp2
    go_ret
    exact ⟨_, rfl, Own.nil _ _ _ _, Below.refl _ _⟩
  · have hown := Own.made (k := .u8) (e := 5) (w := w) (base := w.heap.size) (Nat.le_refl _) [] (by simp [maxLen])
    have hb := (Below.refl w.heap.size w).alloc (Nat.le_refl _) (.cells #[] 5)
    go_enter Try.func24, Try.ntmps24
    go_wp2_with (at_builtin; refine wpList_pushAll w.heap.size _ [] l _ c _ _ rfl rfl Try.underlying23 hi hz0 hz1 hz2 rfl rfl rfl (HR.out.below ((Below.refl _ _).alloc (Nat.le_refl _) _)) hown ?g0 ?g1 ?g2 ?_; (case g0 => simp); (case g1 => simp; omega); (case g2 => simp [maxLen]; omega); intro v2 w2 ho2 hg2 _)
    go_ret
    exact ⟨_, rfl, ho2, hb.grown hg2 (by simp) (fun g hgk => (hown.block g hgk).1)⟩

set_option maxHeartbeats 400000 in
set_option maxRecDepth 100000 in
theorem sameBytes_any (A B : Option Addr) (ca cb : Nat) (la lb : List Int) (w : World) (hra : Rd .u8 w A la) (hrb : Rd .u8 w B lb) (hla : la.length ≤ 140737488351232) (hlb : lb.length ≤ 140737488351232) :
    Calls Try.prog 13 #[.slice A la.length ca, .slice B lb.length cb] w fun e w' => e = .returned (.bool (decide (la = lb))) ∧ ∃ n, w' = w.drewN n := by
  have HA := Lib.hid hra
  have HB := Lib.hid hrb
  clear hra hrb
  by_cases hne : la.length = lb.length
  · have e1 : ((la.length : Int) != (lb.length : Int)) = false := by simp [hne]
    have HNE := Lib.hid hne
    have hle : lb.length ≤ la.length := by omega
    have hle2 : la.length ≤ lb.length := by omega
    clear hne
    go_enter Try.func13, Try.ntmps13
    go_wp2
    repeat (go_quiet (fail); try go_wp2)
    go_loopw [13] (fun v13 wr => ∃ k : Nat, k ≤ la.length ∧ v13 = .int .i64 k ∧ Hid (∀ j, j < k → la.getD j 0 = lb.getD j 0) ∧ ∃ q, wr = w.drewN q) (fun v13 _ => la.length - (intOf v13).toNat)
    case atStart => exact ⟨0, Nat.zero_le _, rfl, (by intro j hj; omega), 0, rfl⟩
    case round =>
      obtain ⟨k, hk, rfl, HE, q, rfl⟩ := hrel
      by_cases hlt : k < la.length
      · have hltb : k < lb.length := by omega
        obtain ⟨ada, rfl, _, hca⟩ := HA.out k hlt
        obtain ⟨adb, rfl, _, hcb⟩ := HB.out k hltb
        have i1 : (0 : Int) ≤ (k : Int) := by omega
        have i2 : (k : Int) < (la.length : Int) := by omega
        have i3 : (k : Int) < (lb.length : Int) := by omega
        by_cases hx : la.getD k 0 = lb.getD k 0
        · have HE' := Lib.hid (show ∀ j, j < k + 1 → la.getD j 0 = lb.getD j 0 by
            intro j hj
            rcases Nat.lt_succ_iff_lt_or_eq.1 hj with h | h
            · exact HE.out j h
            · subst h; exact hx)
          have b1 : (la.getD k 0 != lb.getD k 0) = false := by rw [hx]; simp
          clear hx
          generalize la.getD k 0 = xa at *
          generalize lb.getD k 0 = xb at *
          go_wp2
          repeat (go_quiet (fail); try go_wp2)
          go_roundw
          case rel => exact ⟨k + 1, by omega, by go_num, HE', (by first | exact ⟨_, rfl⟩ | (simp only [World.drewN_drewN]; exact ⟨_, rfl⟩))⟩
          case measure => simp [intOf]; omega
        · have b1 : (la.getD k 0 != lb.getD k 0) = true := by simpa using hx
          have HD := Lib.hid (show decide (la = lb) = false by rw [decide_eq_false_iff_not]; intro h; exact hx (by rw [h]))
          clear hx
          generalize la.getD k 0 = xa at *
          generalize lb.getD k 0 = xb at *
          go_wp2
          repeat (go_quiet (fail); try go_wp2)
          go_ret
          exact ⟨ret_bool (by rw [HD.out]), by simp only [World.drewN_drewN]; exact ⟨_, rfl⟩⟩
      · have HD := Lib.hid (show decide (la = lb) = true by
          rw [decide_eq_true_iff]
          apply List.ext_getElem HNE.out
          intro j h1 h2
          have := HE.out j (by omega)
          simpa [List.getD_eq_getElem?_getD, List.getElem?_eq_getElem h1, List.getElem?_eq_getElem h2] using this)
        go_wp2
        go_ret
        exact ⟨ret_bool (by rw [HD.out]), _, rfl⟩
  · have e1 : ((la.length : Int) != (lb.length : Int)) = true := by simp; omega
    have hd : decide (la = lb) = false := by
      rw [decide_eq_false_iff_not]; intro h; exact hne (by rw [h])
    have HD := Lib.hid hd
    clear hd
    go_enter Try.func13, Try.ntmps13
    go_wp2
    go_ret
    exact ⟨ret_bool (by rw [HD.out]), 0, rfl⟩
theorem sameBytes_n (A B : Option Addr) (ca cb n m : Nat) (la lb : List Int) (w : World) (hn : la.length = n) (hm : lb.length = m) (hra : Rd .u8 w A la) (hrb : Rd .u8 w B lb) (hla : la.length ≤ 140737488351232) (hlb : lb.length ≤ 140737488351232) :
    Calls Try.prog 13 #[.slice A n ca, .slice B m cb] w fun e w' => e = .returned (.bool (decide (la = lb))) ∧ ∃ n, w' = w.drewN n := by
  subst hn hm
  exact sameBytes_any A B ca cb la lb w hra hrb hla hlb
theorem sameBytes_b (A B : Option Addr) (ca cb n m : Nat) (la lb : List Int) (w : World) (hn : la.length = n) (hm : lb.length = m) (hra : Rd .u8 w A la) (hrb : Rd .u8 w B lb) (hla : la.length ≤ 140737488351232) (hlb : lb.length ≤ 140737488351232) :
    Calls Try.prog 13 #[.slice A n ca, .slice B m cb] w fun e w' => ∃ b : Bool, e = .returned (.bool b) ∧ Hid (b = decide (la = lb)) ∧ ∃ n, w' = w.drewN n :=
  (sameBytes_n A B ca cb n m la lb w hn hm hra hrb hla hlb).mono fun _ _ ⟨he, hw⟩ => ⟨_, he, rfl, hw⟩
theorem sameBytes_c (A B : Option Addr) (ca cb n m : Nat) (la lb : List Int) (w : World) (hn : la.length = n) (hm : lb.length = m) (hra : Rd .u8 w A la) (hrb : Rd .u8 w B lb) (hla : la.length ≤ 140737488351232) (hlb : lb.length ≤ 140737488351232) :
    Calls Try.prog 13 #[.slice A n ca, .slice B m cb] w fun e w' => ∃ b : Bool, e = .returned (.bool b) ∧ Hid (b = decide (la = lb)) ∧ Below w.heap.size w w' :=
  (sameBytes_n A B ca cb n m la lb w hn hm hra hrb hla hlb).mono fun _ _ ⟨he, n, hw⟩ => ⟨_, he, rfl, hw ▸ below_drewN (Below.refl _ _) n⟩
end Go.Proofs.Ytnlflpcioiieaaa
