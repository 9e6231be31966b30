/-
  package sift: keys, Equal, Count; slices.Equal; walked.
  sift.two, of nothing and some keys, and of the key 5 twice; walked.
-/
import Derived.Test.YtcnaikoloagbdaaGreatQColl
import Derived.Test.YtcnaikoloagbdaaGreatQBuk
namespace Go.Proofs.YtcnaikoloagbdaaGreat
set_option linter.unusedVariables false
set_option linter.unusedSimpArgs false
open Go.RowKit Go.Shelf
attribute [local go_sem ↓] Go.wp_at_zero Go.wp_at_succ

theorem seq_func : ∃ ps rs v, Tryz.prog.underlying 119 = some (.func ps rs v) := by
  have h : (match Tryz.prog.underlying 119 with | some (.func _ _ _) => true | _ => false) = true := by kernel_rfl
  generalize Tryz.prog.underlying 119 = o at h
  match o, h with
  | some (.func a b c), _ => exact ⟨a, b, c, rfl⟩
/-- an iterator isn't nil -/
theorem run_eql_seq_nil (f : Fn) (c b : Array Value) (w : World) : (binOp .eql 119 (.func f c b) .nilFunc).run Tryz.prog w = .ok (.bool false) w := by
  obtain ⟨ps, rs, v, hu⟩ := seq_func
  have h : ∀ d : Nat, (Op.equalIn (d + 1) 119 (.func f c b) .nilFunc).run Tryz.prog w = .ok false w := fun d => by simp [Op.equalIn, run_underlying hu]
  simp only [binOp]
  simp [Op.equal, Op.maxDepth, h 9999]
attribute [local go_sem] run_eql_seq_nil
set_option maxRecDepth 100000 in
set_option maxHeartbeats 1000000 in
theorem eq64 (A B : Option Addr) (ca cb : Nat) (la lb : List Int) (w : World) (hra : Rd .u64 w A la) (hrb : Rd .u64 w B lb) (hla : la.length ≤ 1000000) (hlb : lb.length ≤ 1000000) :
    Calls Tryz.prog 91 #[.slice A la.length ca, .slice B lb.length cb] w fun e w' => ∃ (r : Bool) (u : Unit), e = .returned (.bool r) ∧ Hid (Below w.heap.size w w') := by
  have HA := Lib.hid hra
  have HB := Lib.hid hrb
  clear hra hrb
  by_cases hl : la.length = lb.length
  · have HL := Lib.hid hl
    rw [← hl]
    go_enter Tryz.func91, Tryz.ntmps91
    go_wp2
    go_loopw [5, 13] (fun _ v13 wr => ∃ (k : Nat), v13 = .int .i64 k ∧ k ≤ la.length ∧ Hid (Below w.heap.size w wr)) (fun _ v13 _ => la.length - (intOf v13).toNat)
    case atStart => exact ⟨0, rfl, Nat.zero_le _, Below.refl _ _⟩
    case round =>
      obtain ⟨k, rfl, hk, HBW⟩ := hrel
      by_cases hlt : k < la.length
      · obtain ⟨a1, rfl, _, hc1⟩ := HA.out.below HBW.out k hlt
        obtain ⟨a2, rfl, _, hc2⟩ := HB.out.below HBW.out k (by rw [← HL.out]; exact hlt)
        generalize la.getD k 0 = x at *
        generalize lb.getD k 0 = y at *
        go_wp2
        go_quiet (fail)
        have HB3 := Lib.hid (below_drewN HBW.out nq)
        generalize wr.drewN nq = w3 at *
        by_cases hxy : x = y
        · subst hxy
          go_wp2
          go_roundw
          case rel => exact ⟨k + 1, by go_num, by omega, HB3.out⟩
          case measure => simp [intOf]; omega
        · have hne : (x != y) = true := by simpa using hxy
          clear hxy
          go_wp2
          go_ret
          exact ⟨_, (), rfl, HB3.out⟩
      · obtain rfl : k = la.length := by omega
        go_wp2
        go_ret
        exact ⟨_, (), rfl, HBW.out⟩
  · go_enter Tryz.func91, Tryz.ntmps91
    have hne : ((la.length : Int) != (lb.length : Int)) = true := by simp; omega
    clear hl
    go_wp2
    go_ret
    exact ⟨_, (), rfl, Below.refl _ _⟩
set_option maxRecDepth 100000 in
set_option maxHeartbeats 1000000 in
theorem sKeysW (v : Value) {St : World → Prop} {F R : Nat → Prop} {S : List Int → Prop} {N : Nat} (hN : N ≤ 100000) (hit : ItW Tryz.prog v k1 St F R S N) (w : World) (hSt : St w) (hR : ∀ b, R b → b < w.heap.size) :
    Calls Tryz.prog 104 #[v] w fun e w' => ∃ r xs, e = .returned r ∧ Hid (S xs) ∧ Hid (Own .u64 22 w' w.heap.size r xs) ∧ Hid (St w') ∧ Hid (Chg F w w') := by
  have HC := Lib.hid (collectW v hN hit w hSt hR)
  obtain ⟨⟨gf, lb, rfl, heg, hseq⟩, hstay, hsub⟩ := hit
  clear heg hseq hstay hsub hSt hR hN
  go_enter Tryz.func104, Tryz.ntmps104
  go_wp2_with fail
  refine HC.out.mono ?_
  rintro e w1 ⟨r, xs, rfl, hs, ho, hst, hc⟩
  have HS := Lib.hid hs
  have HO := Lib.hid ho
  have HST := Lib.hid hst
  have HCC := Lib.hid hc
  clear hs ho hst hc HC
  go_wp2
  go_ret
  exact ⟨_, xs, rfl, HS.out, HO.out, HST.out, HCC.out⟩
theorem sKeys (v : Value) {St : World → Prop} {F R : Nat → Prop} {S : List Int → Prop} {N : Nat} (hN : N ≤ 100000) (hit : It Tryz.prog v k1 St F R S N) (w : World) (hSt : St w) (hR : ∀ b, R b → b < w.heap.size) :
    Calls Tryz.prog 104 #[v] w fun e w' => ∃ r xs, e = .returned r ∧ Hid (S xs) ∧ Hid (Own .u64 22 w' w.heap.size r xs) ∧ Hid (St w') ∧ Hid (Chg F w w') := sKeysW v hN hit.toW w hSt hR
set_option maxRecDepth 100000 in
set_option maxHeartbeats 1000000 in
theorem sCountW (v : Value) {St : World → Prop} {F R : Nat → Prop} {S : List Int → Prop} {N : Nat} (hN : N ≤ 100000) (hS : ∀ xs, S xs → xs.length ≤ N) (hit : ItW Tryz.prog v k1 St F R S N) (w : World) (hSt : St w) (hR : ∀ b, R b → b < w.heap.size) :
    Calls Tryz.prog 105 #[v] w fun e w' => ∃ (n : Nat), e = .returned (.int .i64 n) ∧ Hid (St w') ∧ Hid (Chg F w w') := by
  have HC := Lib.hid (sKeysW v hN hit w hSt hR)
  clear hit hSt hR hS hN
  go_enter Tryz.func105, Tryz.ntmps105
  go_wp2_with fail
  refine HC.out.mono ?_
  rintro e w1 ⟨r, xs, rfl, HS, HO, HST, HCC⟩
  obtain ⟨A, c, rfl, _, _, _⟩ := HO.out.form
  clear HC
  go_wp2
  go_ret
  exact ⟨xs.length, rfl, HST.out, HCC.out⟩
set_option maxRecDepth 100000 in
set_option maxHeartbeats 1000000 in
theorem sEqual (v1 v2 : Value) {St : World → Prop} {F R : Nat → Prop} {S1 S2 : List Int → Prop} {N1 N2 : Nat} (hN1 : N1 ≤ 100000) (hN2 : N2 ≤ 100000) (hS1 : ∀ xs, S1 xs → xs.length ≤ N1) (hS2 : ∀ xs, S2 xs → xs.length ≤ N2)
    (h1 : It Tryz.prog v1 k1 St F R S1 N1) (h2 : It Tryz.prog v2 k1 St F R S2 N2) (w : World) (hSt : St w) (hR : ∀ b, R b → b < w.heap.size) :
    Calls Tryz.prog 78 #[v1, v2] w fun e w' => ∃ (r : Bool) (u : Unit), e = .returned (.bool r) ∧ Hid (St w') ∧ Hid (Chg F w w') := by
  have HC := Lib.hid (sKeys v1 hN1 h1 w hSt hR)
  have HC2 := Lib.hid (fun w1 hst hr => sKeys v2 hN2 h2 w1 hst hr)
  have HFR := Lib.hid (show ∀ b, F b → b < w.heap.size from fun b hb => hR b (h1.sub b hb))
  have HST0 := Lib.hid h1.stay
  have HRW := Lib.hid hR
  have HS1 := Lib.hid hS1
  have HS2 := Lib.hid hS2
  clear h1 h2 hSt hR hS1 hS2
  go_enter Tryz.func78, Tryz.ntmps78
  go_wp2_with fail
  refine HC.out.mono ?_
  rintro e w1 ⟨r1, xs1, rfl, HX1, HO1, HT1, HC1⟩
  have hz1 := HC1.out.size
  clear HC
  go_wp2_with fail
  refine (HC2.out w1 HT1.out (fun b hb => Nat.lt_of_lt_of_le (HRW.out b hb) hz1)).mono ?_
  rintro e w2 ⟨r2, xs2, rfl, HX2, HO2, HT2, HC3⟩
  have HO1' := Lib.hid (HO1.out.chg HC3.out (fun g hg hf => by have := (HO1.out.block g hg).1; have := HFR.out g hf; omega))
  obtain ⟨A1, c1, rfl, _, _, hr1⟩ := HO1'.out.form
  obtain ⟨A2, c2, rfl, _, _, hr2⟩ := HO2.out.form
  have hl1 := HS1.out _ HX1.out
  have hl2 := HS2.out _ HX2.out
  have hz3 := HC3.out.size
  have HE := Lib.hid (eq64 A1 A2 c1 c2 xs1 xs2 w2 hr1 hr2 (by omega) (by omega))
  clear hr1 hr2 HC2
  go_wp2_with fail
  refine HE.out.mono ?_
  rintro e w3 ⟨r, _, rfl, HB3⟩
  clear HE
  go_wp2
  go_ret
  exact ⟨r, (), rfl, HST0.out _ _ HT2.out (fun b hb => HB3.out.block b (by have := HRW.out b hb; omega)), (HC1.out.then HC3.out).then (Chg.of_below HB3.out)⟩
end Go.Proofs.YtcnaikoloagbdaaGreat
namespace Go.Proofs.YtcnaikoloagbdaaGreat
set_option linter.unusedVariables false
set_option linter.unusedSimpArgs false
open Go.RowKit Go.Shelf
attribute [local go_sem ↓] Go.wp_at_zero Go.wp_at_succ

set_option maxRecDepth 100000 in
set_option maxHeartbeats 1000000 in
theorem two0 (B : Option Addr) (c : Nat) (l : List Int) (w : World) (hr : Rd .u64 w B l) (hlen : l.length ≤ 100000) :
    Calls Tryz.prog 148 #[.slice none 0 0, .slice B l.length c] w fun e w' => ∃ r, e = .returned r ∧ Hid (Own .u64 22 w' w.heap.size r l) ∧ Hid (Below w.heap.size w w') := by
  obtain ⟨i0, hi, hz0, hz1, hz2⟩ := info_parts u64_info
  have HR := Lib.hid hr
  clear hr
  go_enter Tryz.func148, Tryz.ntmps148
  go_wp2_with (at_make; refine wpList_make_own _ rfl _ _ 29 rfl w.heap.size 22 i0 (.int .u64 0) 1 Tryz.underlying29 hi hz0 hz1 .i64 .i64 _ l.length rfl rfl (by go_num) (by rw [hz2]; omega) (by unfold maxLen; omega) (Nat.le_refl _) ?_; intro w0 hown0 hgrow0; have HO := Lib.hid (show Own .u64 22 w0 w.heap.size (.slice (some ⟨w.heap.size, 0, none⟩) 0 l.length) [] from hown0); have HB := Lib.hid (show Below w.heap.size w w0 from (Below.refl _ _).grown hgrow0 (Nat.le_refl _) (fun g hg => by cases hg)); clear hown0 hgrow0)
  have hz := HB.out.size
  have HR0 := Lib.hid (HR.out.below HB.out)
  go_loopw [0, 1, 5] (fun v0 v1 v5 wr => v0 = .slice none 0 0 ∧ v1 = .slice B l.length c ∧ v5 = .slice (some ⟨w.heap.size, 0, none⟩) 0 l.length ∧ wr = w0) (fun _ _ _ _ => 0)
  case atStart => exact ⟨rfl, rfl, rfl, rfl⟩
  case round =>
    obtain ⟨rfl, rfl, rfl, rfl⟩ := hrel
    have hsz := HB.out.size
    go_wp2_with (first | (at_builtin; refine wpList_pushAll w.heap.size (.slice (some ⟨w.heap.size, 0, none⟩) 0 l.length) [] [] none 0 _ _ rfl rfl Tryz.underlying29 hi hz0 hz1 hz2 rfl rfl rfl (Rd.nil _ _ _) HO.out hsz (by simp) (by simp [maxLen]) ?_; intro v2 w2 ho2 hg2 _; have HO2 := Lib.hid ho2; have HB2 := Lib.hid (HB.out.grown hg2 hsz (fun g hgk => (HO.out.block g hgk).1)); clear ho2 hg2) | (at_builtin; refine wpList_pushAll w.heap.size _ [] l B c _ _ rfl rfl Tryz.underlying29 hi hz0 hz1 hz2 rfl rfl rfl (HR.out.below HB2.out) HO2.out HB2.out.size (by simp; omega) (by simp [maxLen]; omega) ?_; intro v3 w3 ho3 hg3 _; have HO3 := Lib.hid ho3; have HB3 := Lib.hid (HB2.out.grown hg3 HB2.out.size (fun g hgk => (HO2.out.block g hgk).1)); clear ho3 hg3))
    go_ret
    exact ⟨_, rfl, HO3.out, HB3.out⟩
def lenV : Value → Nat
  | .slice _ n _ => n
  | _ => 0
theorem five (w : World) (A : Option Addr) (hr : Rd .u64 w A [5]) : ∃ ad, A = some ad ∧ ad.block < w.heap.size ∧ w.cell? ad = some (.int .u64 5) := by
  obtain ⟨ad, h1, h2, h3⟩ := hr 0 (by simp)
  exact ⟨ad, h1, h2, by simpa [Addr.add] using h3⟩
set_option maxRecDepth 100000 in
set_option maxHeartbeats 1000000 in
theorem two5 (A B : Option Addr) (ca cb : Nat) (w : World) (hra : Rd .u64 w A [5]) (hrb : Rd .u64 w B [5]) (hca : 1 ≤ ca) (hcb : 1 ≤ cb) :
    Calls Tryz.prog 148 #[.slice A 1 ca, .slice B 1 cb] w fun e w' => ∃ r, e = .returned r ∧ Hid (Own .u64 22 w' w.heap.size r [5]) ∧ Hid (Below w.heap.size w w') := by
  obtain ⟨i0, hi, hz0, hz1, hz2⟩ := info_parts u64_info
  obtain ⟨a1, rfl, ha1, hc1⟩ := five w A hra
  obtain ⟨a2, rfl, ha2, hc2⟩ := five w B hrb
  have HA := Lib.hid hra
  have HBB := Lib.hid hrb
  clear hra hrb
  go_enter Tryz.func148, Tryz.ntmps148
  go_wp2_with (at_make; refine wpList_make_own _ rfl _ _ 29 rfl w.heap.size 22 i0 (.int .u64 0) 1 Tryz.underlying29 hi hz0 hz1 .i64 .i64 _ 2 rfl rfl (by go_num) (by rw [hz2]; omega) (by unfold maxLen; omega) (Nat.le_refl _) ?_; intro w0 hown0 hgrow0; have HO := Lib.hid (show Own .u64 22 w0 w.heap.size (.slice (some ⟨w.heap.size, 0, none⟩) 0 2) [] from hown0); have HB := Lib.hid (show Below w.heap.size w w0 from (Below.refl _ _).grown hgrow0 (Nat.le_refl _) (fun g hg => by cases hg)); clear hown0 hgrow0)
  have hz := HB.out.size
  have hd1 := (HB.out.cell (p := a1) ha1).trans hc1
  have hd2 := (HB.out.cell (p := a2) ha2).trans hc2
  have s1 : (1 : Int) ≤ ca := by omega
  have s2 : (1 : Int) ≤ cb := by omega
  clear hc1 hc2
  go_loopw [0, 1, 5] (fun v0 v1 v5 wr => ∃ (n : Nat) (A0 B0 : Option Addr) (c0 d0 : Nat), v0 = .slice A0 n c0 ∧ v1 = .slice B0 n d0 ∧ Hid ((n = 1 ∧ A0 = some a1 ∧ B0 = some a2 ∧ c0 = ca ∧ d0 = cb ∧ v5 = .slice (some ⟨w.heap.size, 0, none⟩) 0 2 ∧ wr = w0) ∨ (n = 0 ∧ Own .u64 22 wr w.heap.size v5 [5] ∧ Below w.heap.size w wr))) (fun v0 _ _ _ => lenV v0)
  case atStart => exact ⟨1, _, _, _, _, rfl, rfl, .inl ⟨rfl, rfl, rfl, rfl, rfl, rfl, rfl⟩⟩
  case round =>
    obtain ⟨n, A0, B0, c0, d0, rfl, rfl, HREL⟩ := hrel
    rcases HREL.out with ⟨rfl, rfl, rfl, rfl, rfl, rfl, rfl⟩ | ⟨rfl, HO1', HB1'⟩
    · clear HREL
      go_wp2
      go_quiet (fail)
      have HO1 := Lib.hid (HO.out.chg (S := fun _ => False) ((Chg.refl _ wr).drewN nq) (fun _ _ h => h))
      have HB1 := Lib.hid (below_drewN HB.out nq)
      have e1 : (wr.drewN nq).cell? a1 = some (.int .u64 5) := hd1
      have e2 : (wr.drewN nq).cell? a2 = some (.int .u64 5) := hd2
      clear hd1 hd2 HO HB
      generalize wr.drewN nq = w1 at *
      go_wp2
      go_quiet (fail)
      have HO2 := Lib.hid (HO1.out.chg (S := fun _ => False) ((Chg.refl _ w1).drewN nq) (fun _ _ h => h))
      have HB2 := Lib.hid (below_drewN HB1.out nq)
      have g1 : (w1.drewN nq).cell? a1 = some (.int .u64 5) := e1
      have g2 : (w1.drewN nq).cell? a2 = some (.int .u64 5) := e2
      clear e1 e2 HO1 HB1
      generalize w1.drewN nq = w2 at *
      have HR3 := Lib.hid (fun (o : Obj) => HO2.out.chg (w' := (w2.alloc o).drew) (S := fun _ => False) ((Chg.refl _ w2).alloc o).drew (fun _ _ h => h))
      have HR4 := Lib.hid (fun (o : Obj) => HO2.out.chg (w' := (w2.drew.alloc o)) (S := fun _ => False) ((Chg.refl _ w2).drew.alloc o) (fun _ _ h => h))
      have HSZ := Lib.hid HB2.out.size
      have HFIN := Lib.hid (show ∀ (v4 : Value) (w4 : World), w4.ownsRow w.heap.size 22 1 v4 1 [.int .u64 5] → (w2.drew.alloc (.cells #[.int .u64 5] 22)).grownBy w4 (some w.heap.size) → Own .u64 22 w4 w.heap.size v4 [5] ∧ Below w.heap.size w w4 from fun v4 w4 h hg => ⟨h, (HB2.out.trans ((Below.refl _ w2).drew.alloc HB2.out.size _)).grown hg (by simp; have := HB2.out.size; omega) (fun g hgk => by simp only [Option.some.injEq] at hgk; omega)⟩)
      go_wp2
      by_cases hqa : c0 = 1
      · by_cases hqb : d0 = 1
        · subst hqa; subst hqb
          go_region_law (first | ((with_reducible refine gate_sbuiltin (b := .append) rfl ?_); refine step_pushR w.heap.size (.slice (some ⟨w.heap.size, 0, none⟩) 0 2) 0 [] [.int .u64 5] _ _ _ rfl rfl Tryz.underlying29 hi hz0 hz1 hz2 rfl (by decide) rfl rfl (blk_new _ _ _) rfl (one_one .u64 5) (HR4.out _) (by have := HSZ.out; simp; omega) (by omega) (by simp [maxLen]) ?_; intro v4 w4 ho4 hg4 hv4; have HF := Lib.hid (HFIN.out v4 w4 ho4 hg4); clear ho4 hg4 hv4))
          all_goals
            refine And.intro ?lft ?rgt
            (case' lft => (repeat apply Exists.intro); refine ⟨?rel, rfl⟩)
            case lft => exact ⟨0, _, _, _, _, rfl, rfl, .inr ⟨rfl, HF.out.1, HF.out.2⟩⟩
            case rgt => show (0 : Nat) < 1; omega
        · subst hqa
          go_region_law (first | ((with_reducible refine gate_sbuiltin (b := .append) rfl ?_); refine step_pushR w.heap.size (.slice (some ⟨w.heap.size, 0, none⟩) 0 2) 0 [] [.int .u64 5] _ _ _ rfl rfl Tryz.underlying29 hi hz0 hz1 hz2 rfl (by decide) rfl rfl (blk_new _ _ _) rfl (one_one .u64 5) (HR4.out _) (by have := HSZ.out; simp; omega) (by omega) (by simp [maxLen]) ?_; intro v4 w4 ho4 hg4 hv4; have HF := Lib.hid (HFIN.out v4 w4 ho4 hg4); clear ho4 hg4 hv4))
          all_goals
            refine And.intro ?lft ?rgt
            (case' lft => (repeat apply Exists.intro); refine ⟨?rel, rfl⟩)
            case lft => exact ⟨0, _, _, _, _, rfl, rfl, .inr ⟨rfl, HF.out.1, HF.out.2⟩⟩
            case rgt => show (0 : Nat) < 1; omega
      · by_cases hqb : d0 = 1
        · subst hqb
          go_region_law (first | ((with_reducible refine gate_sbuiltin (b := .append) rfl ?_); refine step_pushR w.heap.size (.slice (some ⟨w.heap.size, 0, none⟩) 0 2) 0 [] [.int .u64 5] _ _ _ rfl rfl Tryz.underlying29 hi hz0 hz1 hz2 rfl (by decide) rfl rfl (blk_new _ _ _) rfl (one_one .u64 5) (HR4.out _) (by have := HSZ.out; simp; omega) (by omega) (by simp [maxLen]) ?_; intro v4 w4 ho4 hg4 hv4; have HF := Lib.hid (HFIN.out v4 w4 ho4 hg4); clear ho4 hg4 hv4))
          all_goals
            refine And.intro ?lft ?rgt
            (case' lft => (repeat apply Exists.intro); refine ⟨?rel, rfl⟩)
            case lft => exact ⟨0, _, _, _, _, rfl, rfl, .inr ⟨rfl, HF.out.1, HF.out.2⟩⟩
            case rgt => show (0 : Nat) < 1; omega
        · go_region_law (first | ((with_reducible refine gate_sbuiltin (b := .append) rfl ?_); refine step_pushR w.heap.size (.slice (some ⟨w.heap.size, 0, none⟩) 0 2) 0 [] [.int .u64 5] _ _ _ rfl rfl Tryz.underlying29 hi hz0 hz1 hz2 rfl (by decide) rfl rfl (blk_new _ _ _) rfl (one_one .u64 5) (HR4.out _) (by have := HSZ.out; simp; omega) (by omega) (by simp [maxLen]) ?_; intro v4 w4 ho4 hg4 hv4; have HF := Lib.hid (HFIN.out v4 w4 ho4 hg4); clear ho4 hg4 hv4))
          all_goals
            refine And.intro ?lft ?rgt
            (case' lft => (repeat apply Exists.intro); refine ⟨?rel, rfl⟩)
            case lft => exact ⟨0, _, _, _, _, rfl, rfl, .inr ⟨rfl, HF.out.1, HF.out.2⟩⟩
            case rgt => show (0 : Nat) < 1; omega
    · have HO1 := Lib.hid HO1'
      have HB1 := Lib.hid HB1'
      clear HO HB hd1 hd2 HO1' HB1' HREL
      have hsz := HB1.out.size
      go_wp2_with (first | (at_builtin; refine wpList_pushAll w.heap.size u5 [5] [] A0 _ _ _ rfl rfl Tryz.underlying29 hi hz0 hz1 hz2 rfl rfl rfl (Rd.nil _ _ _) HO1.out hsz (by simp) (by simp [maxLen]) ?_; intro v2 w2 ho2 hg2 _; have HO2 := Lib.hid ho2; have HB2 := Lib.hid (HB1.out.grown hg2 hsz (fun g hgk => (HO1.out.block g hgk).1)); clear ho2 hg2) | (at_builtin; refine wpList_pushAll w.heap.size _ _ [] B0 _ _ _ rfl rfl Tryz.underlying29 hi hz0 hz1 hz2 rfl rfl rfl (Rd.nil _ _ _) HO2.out HB2.out.size (by simp) (by simp [maxLen]) ?_; intro v3 w3 ho3 hg3 _; have HO3 := Lib.hid ho3; have HB3 := Lib.hid (HB2.out.grown hg3 HB2.out.size (fun g hgk => (HO2.out.block g hgk).1)); clear ho3 hg3))
      go_ret
      exact ⟨_, rfl, HO3.out, HB3.out⟩
end Go.Proofs.YtcnaikoloagbdaaGreat
