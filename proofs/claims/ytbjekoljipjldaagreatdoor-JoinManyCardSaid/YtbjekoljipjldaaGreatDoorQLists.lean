/-
  package bitmap: joined, Or, And, Less, Xor; walked.
  slices.Sort of a rising list of numbers of 16 bits: it leaves it as it is. (insertionSort of few; else the pivot's look finds it rising, and the partial insertion sort ends.)
  slices.Compact of a rising list; array.Of of a rising list; walked.
  array.merge of two lists: what is in the first alone, in the second alone, in both, as its flags say; walked.
  array.Or, And, Less, Xor; walked.
-/
import Derived.Test.YtbjekoljipjldaaGreatDoorQBits
import Derived.Lib.Tables
import Derived.Lib.BitFns
import Derived.Deep.DeepCutAuto
import Derived.Deep.CutBlock
namespace Go.Proofs.YtbjekoljipjldaaGreatDoor
set_option linter.unusedVariables false
set_option linter.unusedSimpArgs false
open Go.RowKit Go.Shelf
attribute [local go_sem ↓] Go.wp_at_zero Go.wp_at_succ

theorem Own.store {k : IntKind} {e : TypeId} {w : World} {base g n c : Nat} {l : List Int} (h : Own k e w base (.slice (some ⟨g, 0, none⟩) n c) l) (i : Nat) (x : Int) : Own k e (w.setCell ⟨g, i, none⟩ (.int k x)) base (.slice (some ⟨g, 0, none⟩) n c) (l.set i x) := by
  obtain ⟨h1, h2⟩ := h
  refine ⟨by simp, ?_⟩
  rcases h2 with ⟨h2, _⟩ | ⟨g', cap, cur, e1, hg, hh, hnc, hcap, hsz, htk⟩
  · cases h2
  · simp only [Value.slice.injEq, Option.some.injEq, Addr.mk.injEq, and_true, true_and] at e1
    obtain ⟨rfl, rfl, rfl⟩ := e1
    refine .inr ⟨g, c, cur.setIfInBounds i (.int k x), by rw [List.length_set], hg, blk_set hh i _, by rw [List.length_set]; exact hnc, hcap, by rw [Array.size_setIfInBounds]; exact hsz, ?_⟩
    rw [Array.toList_setIfInBounds, List.length_set, List.take_set, htk, List.map_set]
theorem Own.at_ {k : IntKind} {e : TypeId} {w : World} {base g n c : Nat} {l : List Int} (h : Own k e w base (.slice (some ⟨g, 0, none⟩) n c) l) (i : Nat) (hi : i < l.length) : w.cell? ⟨g, i, none⟩ = some (.int k (l.getD i 0)) ∧ w.frozen? ⟨g, i, none⟩ = false := by
  refine ⟨?_, ?_⟩
  · obtain ⟨A, c', e1, _, _, hr⟩ := h.form
    obtain ⟨ad, e2, _, hc⟩ := hr i hi
    injection e1 with e1
    rw [← e1] at e2
    injection e2 with e2
    subst e2
    rwa [add_mk] at hc
  · rcases h.2 with ⟨h2, _⟩ | ⟨g', cap, cur, e1, hg, hh, _⟩
    · cases h2
    · injection e1 with e1
      injection e1 with e1
      injection e1 with e1
      subst e1
      exact blk_free hh i
/-- a bitmap's blocks and words -/
structure BmR where
  b : Nat
  s : Nat
  d : Nat
  ws : List Nat
/-- a slice of bitmaps -/
def RdB (w : World) (A : Option Addr) (bs : List BmR) : Prop := ∀ (i : Nat) (hi : i < bs.length), ∃ ad, A = some ad ∧ ad.block < w.heap.size ∧ w.cell? (ad.add i) = some (.pointer (some ⟨bs[i].b, 0, none⟩)) ∧ Bm w bs[i].b bs[i].s bs[i].d bs[i].ws
theorem RdB.below {w w' : World} {A : Option Addr} {bs : List BmR} (h : RdB w A bs) (hb : Below w.heap.size w w') : RdB w' A bs := fun i hi => by
  obtain ⟨ad, e, h1, h2, h3⟩ := h i hi
  exact ⟨ad, e, Nat.lt_of_lt_of_le h1 hb.size, (hb.cell (p := ad.add i) (by rw [block_of_add]; exact h1)).trans h2, h3.below hb⟩
def jn (op : Nat → Nat → Nat) (a b : List Nat) : List Nat := List.zipWith op a b
def jnAll (op : Nat → Nat → Nat) : List (List Nat) → List Nat
  | [] => []
  | a :: r => r.foldl (jn op) a
/-- a list of words whose first k are joined already -/
def mix (op : Nat → Nat → Nat) (a b : List Nat) (k : Nat) : List Nat := (jn op a b).take k ++ a.drop k
theorem jn_len {op : Nat → Nat → Nat} {a b : List Nat} (ha : a.length = 1024) (hb : b.length = 1024) : (jn op a b).length = 1024 := by simp [jn, ha, hb]
theorem mix_zero (op : Nat → Nat → Nat) (a b : List Nat) : mix op a b 0 = a := by simp [mix]
theorem mix_all (op : Nat → Nat → Nat) (a b : List Nat) (ha : a.length = 1024) (hb : b.length = 1024) (k : Nat) (hk : 1024 ≤ k) : mix op a b k = jn op a b := by
  unfold mix
  rw [List.take_of_length_le (by rw [jn_len ha hb]; exact hk), List.drop_of_length_le (by omega), List.append_nil]
theorem mix_len (op : Nat → Nat → Nat) (a b : List Nat) (k : Nat) (ha : a.length = 1024) (hb : b.length = 1024) : (mix op a b k).length = 1024 := by
  unfold mix
  rw [List.length_append, List.length_take, List.length_drop, jn_len ha hb, ha]
  omega
theorem mix_at (op : Nat → Nat → Nat) (a b : List Nat) (k : Nat) (hk : k < 1024) (ha : a.length = 1024) (hb : b.length = 1024) : (mix op a b k).getD k 0 = a.getD k 0 := by
  unfold mix
  rw [List.getD_eq_getElem?_getD, List.getElem?_append_right (by rw [List.length_take, jn_len ha hb]; omega), List.length_take, jn_len ha hb, List.getElem?_drop, show k + (k - min k 1024) = k by omega, List.getD_eq_getElem?_getD]
theorem mix_succ (op : Nat → Nat → Nat) (a b : List Nat) (k : Nat) (hk : k < 1024) (ha : a.length = 1024) (hb : b.length = 1024) : mix op a b (k + 1) = (mix op a b k).set k (op (a.getD k 0) (b.getD k 0)) := by
  have hl := jn_len (op := op) ha hb
  have hj : (jn op a b)[k]'(by omega) = op (a.getD k 0) (b.getD k 0) := by
    simp [jn, List.getD_eq_getElem?_getD, List.getElem?_eq_getElem (show k < a.length by omega), List.getElem?_eq_getElem (show k < b.length by omega)]
  unfold mix
  have hd : a.drop k = a[k]'(by omega) :: a.drop (k + 1) := List.drop_eq_getElem_cons (by omega)
  have hlt : ((jn op a b).take k).length = k := by rw [List.length_take]; omega
  rw [List.set_append_right _ _ (by omega), hlt, hd, Nat.sub_self, List.set_cons_zero, List.take_succ_eq_append_getElem (by omega), hj, List.append_assoc]
  rfl
theorem jn_ws {op : Nat → Nat → Nat} (hop : ∀ x y, x < 18446744073709551616 → y < 18446744073709551616 → op x y < 18446744073709551616) {a b : List Nat} (ha : Ws a) (hb : Ws b) : Ws (jn op a b) := by
  refine ⟨jn_len ha.1 hb.1, fun x hx => ?_⟩
  obtain ⟨i, hi, rfl⟩ := List.getElem_of_mem hx
  simp only [jn, List.getElem_zipWith]
  exact hop _ _ (ha.2 _ (List.getElem_mem _)) (hb.2 _ (List.getElem_mem _))
theorem wi_set (ws : List Nat) (k x : Nat) : (wi ws).set k (x : Int) = wi (ws.set k x) := by unfold wi; rw [List.map_set]
theorem Own.other {k : IntKind} {e : TypeId} {w : World} {base : Nat} {v : Value} {l : List Int} (h : Own k e w base v l) {b i : Nat} (u : Value) (hne : v.ownBlock ≠ some b) : Own k e (w.setCell ⟨b, i, none⟩ u) base v l := by
  obtain ⟨h1, h2⟩ := h
  refine ⟨h1, ?_⟩
  rcases h2 with h2 | ⟨g, cap, cur, rfl, hg, hh, hr⟩
  · exact .inl h2
  · exact .inr ⟨g, cap, cur, rfl, hg, blk_other hh u (fun e => hne (by rw [← e]; rfl)), hr⟩
def orN (a b : Nat) : Nat := a ||| b
theorem bmOp_or (x y : Nat) (w : World) (hx : x < 18446744073709551616) (hy : y < 18446744073709551616) : Calls Tryz.prog 65 #[.int .u64 x, .int .u64 y] w fun e w' => e = .returned (.int .u64 (orN x y : Nat)) ∧ w' = w := by
  have hb : bits .or .u64 (x : Int) (y : Int) = ((orN x y : Nat) : Int) := bits_or_u64_nat x y hx hy
  clear hx hy
  go_enter Tryz.func65, Tryz.ntmps65
  go_wp2
  go_ret
  exact ⟨rfl, rfl⟩
set_option maxRecDepth 100000 in
set_option maxHeartbeats 4000000 in
theorem bmJoined_or (A : Option Addr) (c : Nat) (bs : List BmR) (w : World) (hr : RdB w A bs) (hlen : bs.length ≤ 1000) (hcap : bs.length ≤ c) (h0 : bs ≠ []) : Calls Tryz.prog 64 #[.slice A bs.length c, .func (.func 65) #[] #[]] w fun e w' => ∃ b s d, e = .returned (.pointer (some ⟨b, 0, none⟩)) ∧ w.heap.size ≤ b ∧ w.heap.size ≤ s ∧ w.heap.size ≤ d ∧ Bm w' b s d (jnAll orN (bs.map (·.ws))) ∧ Below w.heap.size w w' := by
  have HR := Lib.hid hr
  have hpos : 0 < bs.length := by rcases bs with _ | ⟨x, bs⟩; exact absurd rfl h0; simp
  obtain ⟨ad, rfl, had, hcl, hbm⟩ := hr 0 hpos
  have HN := Lib.hid h0
  clear hr h0
  have hadd0 : ad.add 0 = ad := by unfold Addr.add; simp
  rw [hadd0] at hcl
  have HB0 := Lib.hid hbm
  have hp1 : (1 : Int) ≤ bs.length := by omega
  have hne : ((bs.length : Int) == 0) = false := by rw [beq_eq_false_iff_ne]; omega
  have HLN := Lib.hid hlen
  go_enter Tryz.func64, Tryz.ntmps64
  have hc1 : (1 : Int) ≤ c := by omega
  have HCAP := Lib.hid hcap
  have HW0 := Lib.hid hbm.2.2.2
  clear hcap hbm hadd0
  go_wp2_with fail
  refine (bmWords _ _ _ _ _ HB0.out).mono ?_
  rintro e w1 ⟨A', c', rfl, hc', HO, hb1⟩
  obtain ⟨A2, c2, e2, _, _, hr2⟩ := HO.out.form
  have HB1 := Lib.hid hb1
  have HSZ1 := Lib.hid hb1.size
  clear hb1 e2 hr2
  obtain ⟨g, rfl⟩ : ∃ g, A' = some ⟨g, 0, none⟩ := by
    rcases HO.out.2 with ⟨h, _⟩ | ⟨g, cap, cur, h, _⟩
    · cases h
    · injection h with h; exact ⟨g, h⟩
  by_cases hone : bs.length = 1
  · have HB1' := HB1
    rcases bs with _ | ⟨x0, _ | ⟨y0, bs⟩⟩
    · exact absurd rfl HN.out
    · simp only [List.length_cons, List.length_nil, Nat.zero_add, Int.natCast_one, List.getElem_cons_zero] at *
      clear hone hne hp1
      by_cases hcc : c = 1
      · subst hcc
        go_wp2
        go_loopw [21] (fun v21 wr => v21 = .int .i64 0 ∧ wr = w1) (fun _ _ => 0)
        case atStart => exact ⟨rfl, rfl⟩
        case round =>
          obtain ⟨rfl, rfl⟩ := hrel
          go_wp2_with fail
          obtain ⟨_, _, e1, _, _, ra⟩ := HO.out.form
          injection e1 with e1
          rw [← e1] at ra
          refine (bmof (some ⟨g, 0, none⟩) c' _ _ HW0.out ra).mono ?_
          rintro e w5 ⟨b, s, d, rfl, h5, h6, h7, hB5, hb5⟩
          have HB5 := Lib.hid hB5
          have HBW := Lib.hid (below_then HB1.out hb5)
          have hz1 := HSZ1.out
          clear hB5 hb5 ra e1
          go_wp2
          go_ret
          exact ⟨b, s, d, rfl, by omega, by omega, by omega, HB5.out, HBW.out⟩
      · have hcc2 : (1 : Int) < c := by omega
        go_wp2
        go_loopw [21] (fun v21 wr => v21 = .int .i64 0 ∧ wr = w1) (fun _ _ => 0)
        case atStart => exact ⟨rfl, rfl⟩
        case round =>
          obtain ⟨rfl, rfl⟩ := hrel
          go_wp2_with fail
          obtain ⟨_, _, e1, _, _, ra⟩ := HO.out.form
          injection e1 with e1
          rw [← e1] at ra
          refine (bmof (some ⟨g, 0, none⟩) c' _ _ HW0.out ra).mono ?_
          rintro e w5 ⟨b, s, d, rfl, h5, h6, h7, hB5, hb5⟩
          have HB5 := Lib.hid hB5
          have HBW := Lib.hid (below_then HB1.out hb5)
          have hz1 := HSZ1.out
          clear hB5 hb5 ra e1
          go_wp2
          go_ret
          exact ⟨b, s, d, rfl, by omega, by omega, by omega, HB5.out, HBW.out⟩
    · simp at hone
  · have h2 : (1 : Int) < bs.length := by have := HLN.out; omega
    have hc2 : (1 : Int) < c := by have := HCAP.out; omega
    have HL2 := Lib.hid h2
    go_wp2
    go_loopw [7, 8, 9, 21, 22, 23, 24, 25, 26, 27, 28, 29, 30, 31, 32, 33, 34, 35, 36, 37, 38, 39, 40, 41, 42, 43, 44] (fun _ _ _ v21 _ _ _ _ _ _ _ _ _ _ _ _ _ _ _ _ _ _ _ _ _ _ _ wr => ∃ j : Nat, j ≤ bs.length - 1 ∧ v21 = .int .i64 j ∧ Hid (Own .u64 95 wr w.heap.size (.slice (some ⟨g, 0, none⟩) 1024 c') (wi (jnAll orN ((bs.map (·.ws)).take (j + 1))))) ∧ Hid (Ws (jnAll orN ((bs.map (·.ws)).take (j + 1)))) ∧ Hid (Below w.heap.size w wr)) (fun _ _ _ v21 _ _ _ _ _ _ _ _ _ _ _ _ _ _ _ _ _ _ _ _ _ _ _ _ => bs.length - 1 - (intOf v21).toNat)
    case atStart =>
      have ht1 : (bs.map (·.ws)).take (0 + 1) = [bs[0].ws] := by
        rcases bs with _ | ⟨x, bs⟩
        · exact absurd rfl HN.out
        · rfl
      refine ⟨0, Nat.zero_le _, rfl, ?_, ?_, HB1.out⟩
      · rw [ht1]; exact HO.out
      · rw [ht1]; exact HW0.out
    case round =>
      obtain ⟨j, hj, rfl, HOj, HWj, HBj⟩ := hrel
      have hszj := HBj.out.size
      by_cases hlt : j < bs.length - 1
      · have hj1 : j + 1 < bs.length := by omega
        obtain ⟨ad', e', had', hclj, hbmj⟩ := HR.out (j + 1) hj1
        injection e' with e'
        subst e'
        have hclj' := (HBj.out.cell (p := ad.add (j + 1)) (by rw [block_of_add]; exact had')).trans hclj
        rw [show ad.add (j + 1) = ⟨ad.block, ad.off + 1 + j, none⟩ by unfold Addr.add; rw [if_neg (by omega)]; simp only [Addr.mk.injEq, and_true, true_and]; omega] at hclj'
        have hji : (j : Int) < ((bs.length - 1 : Nat) : Int) := by omega
        have HBMJ := Lib.hid (show Bm _ _ _ _ _ from hbmj.chg (S := fun k => w.heap.size ≤ k) ⟨HBj.out.os, HBj.out.tape, HBj.out.output, HBj.out.size, fun k hk hn => HBj.out.block k hk⟩ (by have := blk_lt hbmj.1; omega) (by have := blk_lt hbmj.2.1; omega) (by have := blk_lt hbmj.2.2.1; omega))
        clear hclj
        go_wp2_with fail
        refine (bmWords _ _ _ _ _ HBMJ.out).mono ?_
        rintro e w3 ⟨A3, c3, rfl, hc3, HO3, hb3⟩
        obtain ⟨g3, hg3⟩ : ∃ g3, A3 = some ⟨g3, 0, none⟩ := by
          rcases HO3.out.2 with ⟨h, _⟩ | ⟨g, cap, cur, h, _⟩
          · cases h
          · injection h with h; exact ⟨g, h⟩
        subst hg3
        have hgg : g3 ≠ g := by
          have h1 := HOj.out.block g rfl
          have h2 := HO3.out.block g3 rfl
          intro e
          subst e
          exact absurd h1.2 (Nat.not_lt.2 h2.1)
        have HOG := Lib.hid (HOj.out.below hb3)
        have HB3 := Lib.hid (below_also HBj.out hb3 hszj)
        have HTK := Lib.hid (show jnAll orN ((bs.map (·.ws)).take (j + 1 + 1)) = jn orN (jnAll orN ((bs.map (·.ws)).take (j + 1))) bs[j + 1].ws by
          rw [List.take_succ_eq_append_getElem (by simpa using hj1)]
          obtain ⟨x, hx⟩ : ∃ x, (bs.map (·.ws)).take (j + 1) = x := ⟨_, rfl⟩
          rcases x with _ | ⟨y, x⟩
          · have h9 : ((bs.map (·.ws)).take (j + 1)).length = 0 := by rw [hx]; rfl
            rw [List.length_take, List.length_map] at h9; omega
          · rw [hx]; simp [jnAll, List.foldl_append])
        have HWS := Lib.hid hbmj.2.2.2
        obtain ⟨acc, hacc⟩ : ∃ acc, jnAll orN ((bs.map (·.ws)).take (j + 1)) = acc := ⟨_, rfl⟩
        rw [hacc] at HOG HWj HTK
        obtain ⟨nw, hnw⟩ : ∃ nw, bs[j + 1].ws = nw := ⟨_, rfl⟩
        rw [hnw] at HO3 HTK HWS
        clear hb3 hbmj hacc hnw HOj hclj' HBMJ
        go_wp2
        go_loopw [8, 9, 28, 29, 30, 31, 32, 33, 34, 35, 36, 37, 38, 39, 40, 41, 42, 43] (fun _ _ v28 _ _ _ _ _ _ _ _ _ _ _ _ _ _ _ wk => ∃ k : Nat, k ≤ 1024 ∧ v28 = .int .i64 k ∧ Hid (Own .u64 95 wk w.heap.size (.slice (some ⟨g, 0, none⟩) 1024 c') (wi (mix orN acc nw k))) ∧ Hid (Own .u64 95 wk wr.heap.size (.slice (some ⟨g3, 0, none⟩) 1024 c3) (wi nw)) ∧ Hid (Below w.heap.size w wk)) (fun _ _ v28 _ _ _ _ _ _ _ _ _ _ _ _ _ _ _ _ => 1024 - (intOf v28).toNat)
        case atStart => exact ⟨0, Nat.zero_le _, rfl, by rw [mix_zero]; exact HOG.out, HO3.out, HB3.out⟩
        case round =>
          obtain ⟨k, hk, rfl, HA, HN3, HBk⟩ := hrel
          by_cases hkl : k < 1024
          · have hki : (k : Int) < 1024 := by omega
            have hml := mix_len orN acc nw k HWj.out.1 HWS.out.1
            obtain ⟨ra, rf⟩ := HA.out.at_ k (by rw [wi_len, hml]; exact hkl)
            obtain ⟨rn, _⟩ := HN3.out.at_ k (by rw [wi_len, HWS.out.1]; exact hkl)
            rw [wi_at, mix_at _ _ _ _ hkl HWj.out.1 HWS.out.1] at ra
            rw [wi_at] at rn
            have hx := HWj.out.at_ hkl
            have hy := HWS.out.at_ hkl
            have HSU := Lib.hid (mix_succ orN acc nw k hkl HWj.out.1 HWS.out.1)
            obtain ⟨x, hxx⟩ : ∃ x, acc.getD k 0 = x := ⟨_, rfl⟩
            obtain ⟨y, hyy⟩ : ∃ y, nw.getD k 0 = y := ⟨_, rfl⟩
            rw [hxx] at ra hx HSU
            rw [hyy] at rn hy HSU
            clear hxx hyy hml
            go_wp2_with fail
            refine (bmOp_or x y _ hx hy).mono ?_
            rintro e w4 ⟨rfl, rfl⟩
            go_wp2
            go_roundw
            case rel =>
              refine ⟨k + 1, by omega, by go_num, ?_, HN3.out.other _ (by intro e; injection e with e; exact hgg e), HBk.out.setCell (by have := (HA.out.block g rfl).1; exact this) _⟩
              rw [HSU.out, ← wi_set]
              exact HA.out.store k _
            case measure => simp [intOf]; omega
          · go_wp2
            go_roundw
            case rel =>
              refine ⟨j + 1, by omega, by go_num, ?_, ?_, HBk.out⟩
              · rw [HTK.out, ← mix_all _ _ _ HWj.out.1 HWS.out.1 k (by omega)]
                exact HA.out
              · rw [HTK.out]
                exact jn_ws (or_lt64) HWj.out HWS.out
            case measure => simp [intOf]; omega
      · go_wp2_with fail
        have hall : jnAll orN ((bs.map (·.ws)).take (j + 1)) = jnAll orN (bs.map (·.ws)) := by rw [List.take_of_length_le (by simp; omega)]
        have HOj2 := HOj.out
        have HWj2 := HWj.out
        rw [hall] at HOj2 HWj2
        obtain ⟨_, _, e1, _, _, ra⟩ := HOj2.form
        injection e1 with e1
        rw [← e1] at ra
        refine (bmof (some ⟨g, 0, none⟩) c' _ _ HWj2 ra).mono ?_
        rintro e w5 ⟨b, s, d, rfl, h5, h6, h7, hB5, hb5⟩
        have HB5 := Lib.hid hB5
        have HBW := Lib.hid (HBj.out.trans (hb5.mono hszj))
        clear hB5 hb5 ra e1 hall HOj2 HWj2
        go_wp2
        go_ret
        exact ⟨b, s, d, rfl, by omega, by omega, by omega, HB5.out, HBW.out⟩
def andN (a b : Nat) : Nat := a &&& b
theorem bmOp_and (x y : Nat) (w : World) (hx : x < 18446744073709551616) (hy : y < 18446744073709551616) : Calls Tryz.prog 67 #[.int .u64 x, .int .u64 y] w fun e w' => e = .returned (.int .u64 (andN x y : Nat)) ∧ w' = w := by
  have hb : bits .and .u64 (x : Int) (y : Int) = ((andN x y : Nat) : Int) := and_u64 x y hx hy
  clear hx hy
  go_enter Tryz.func67, Tryz.ntmps67
  go_wp2
  go_ret
  exact ⟨rfl, rfl⟩
set_option maxRecDepth 100000 in
set_option maxHeartbeats 4000000 in
theorem bmJoined_and (A : Option Addr) (c : Nat) (bs : List BmR) (w : World) (hr : RdB w A bs) (hlen : bs.length ≤ 1000) (hcap : bs.length ≤ c) (h0 : bs ≠ []) : Calls Tryz.prog 64 #[.slice A bs.length c, .func (.func 67) #[] #[]] w fun e w' => ∃ b s d, e = .returned (.pointer (some ⟨b, 0, none⟩)) ∧ w.heap.size ≤ b ∧ w.heap.size ≤ s ∧ w.heap.size ≤ d ∧ Bm w' b s d (jnAll andN (bs.map (·.ws))) ∧ Below w.heap.size w w' := by
  have HR := Lib.hid hr
  have hpos : 0 < bs.length := by rcases bs with _ | ⟨x, bs⟩; exact absurd rfl h0; simp
  obtain ⟨ad, rfl, had, hcl, hbm⟩ := hr 0 hpos
  have HN := Lib.hid h0
  clear hr h0
  have hadd0 : ad.add 0 = ad := by unfold Addr.add; simp
  rw [hadd0] at hcl
  have HB0 := Lib.hid hbm
  have hp1 : (1 : Int) ≤ bs.length := by omega
  have hne : ((bs.length : Int) == 0) = false := by rw [beq_eq_false_iff_ne]; omega
  have HLN := Lib.hid hlen
  go_enter Tryz.func64, Tryz.ntmps64
  have hc1 : (1 : Int) ≤ c := by omega
  have HCAP := Lib.hid hcap
  have HW0 := Lib.hid hbm.2.2.2
  clear hcap hbm hadd0
  go_wp2_with fail
  refine (bmWords _ _ _ _ _ HB0.out).mono ?_
  rintro e w1 ⟨A', c', rfl, hc', HO, hb1⟩
  obtain ⟨A2, c2, e2, _, _, hr2⟩ := HO.out.form
  have HB1 := Lib.hid hb1
  have HSZ1 := Lib.hid hb1.size
  clear hb1 e2 hr2
  obtain ⟨g, rfl⟩ : ∃ g, A' = some ⟨g, 0, none⟩ := by
    rcases HO.out.2 with ⟨h, _⟩ | ⟨g, cap, cur, h, _⟩
    · cases h
    · injection h with h; exact ⟨g, h⟩
  by_cases hone : bs.length = 1
  · have HB1' := HB1
    rcases bs with _ | ⟨x0, _ | ⟨y0, bs⟩⟩
    · exact absurd rfl HN.out
    · simp only [List.length_cons, List.length_nil, Nat.zero_add, Int.natCast_one, List.getElem_cons_zero] at *
      clear hone hne hp1
      by_cases hcc : c = 1
      · subst hcc
        go_wp2
        go_loopw [21] (fun v21 wr => v21 = .int .i64 0 ∧ wr = w1) (fun _ _ => 0)
        case atStart => exact ⟨rfl, rfl⟩
        case round =>
          obtain ⟨rfl, rfl⟩ := hrel
          go_wp2_with fail
          obtain ⟨_, _, e1, _, _, ra⟩ := HO.out.form
          injection e1 with e1
          rw [← e1] at ra
          refine (bmof (some ⟨g, 0, none⟩) c' _ _ HW0.out ra).mono ?_
          rintro e w5 ⟨b, s, d, rfl, h5, h6, h7, hB5, hb5⟩
          have HB5 := Lib.hid hB5
          have HBW := Lib.hid (below_then HB1.out hb5)
          have hz1 := HSZ1.out
          clear hB5 hb5 ra e1
          go_wp2
          go_ret
          exact ⟨b, s, d, rfl, by omega, by omega, by omega, HB5.out, HBW.out⟩
      · have hcc2 : (1 : Int) < c := by omega
        go_wp2
        go_loopw [21] (fun v21 wr => v21 = .int .i64 0 ∧ wr = w1) (fun _ _ => 0)
        case atStart => exact ⟨rfl, rfl⟩
        case round =>
          obtain ⟨rfl, rfl⟩ := hrel
          go_wp2_with fail
          obtain ⟨_, _, e1, _, _, ra⟩ := HO.out.form
          injection e1 with e1
          rw [← e1] at ra
          refine (bmof (some ⟨g, 0, none⟩) c' _ _ HW0.out ra).mono ?_
          rintro e w5 ⟨b, s, d, rfl, h5, h6, h7, hB5, hb5⟩
          have HB5 := Lib.hid hB5
          have HBW := Lib.hid (below_then HB1.out hb5)
          have hz1 := HSZ1.out
          clear hB5 hb5 ra e1
          go_wp2
          go_ret
          exact ⟨b, s, d, rfl, by omega, by omega, by omega, HB5.out, HBW.out⟩
    · simp at hone
  · have h2 : (1 : Int) < bs.length := by have := HLN.out; omega
    have hc2 : (1 : Int) < c := by have := HCAP.out; omega
    have HL2 := Lib.hid h2
    go_wp2
    go_loopw [7, 8, 9, 21, 22, 23, 24, 25, 26, 27, 28, 29, 30, 31, 32, 33, 34, 35, 36, 37, 38, 39, 40, 41, 42, 43, 44] (fun _ _ _ v21 _ _ _ _ _ _ _ _ _ _ _ _ _ _ _ _ _ _ _ _ _ _ _ wr => ∃ j : Nat, j ≤ bs.length - 1 ∧ v21 = .int .i64 j ∧ Hid (Own .u64 95 wr w.heap.size (.slice (some ⟨g, 0, none⟩) 1024 c') (wi (jnAll andN ((bs.map (·.ws)).take (j + 1))))) ∧ Hid (Ws (jnAll andN ((bs.map (·.ws)).take (j + 1)))) ∧ Hid (Below w.heap.size w wr)) (fun _ _ _ v21 _ _ _ _ _ _ _ _ _ _ _ _ _ _ _ _ _ _ _ _ _ _ _ _ => bs.length - 1 - (intOf v21).toNat)
    case atStart =>
      have ht1 : (bs.map (·.ws)).take (0 + 1) = [bs[0].ws] := by
        rcases bs with _ | ⟨x, bs⟩
        · exact absurd rfl HN.out
        · rfl
      refine ⟨0, Nat.zero_le _, rfl, ?_, ?_, HB1.out⟩
      · rw [ht1]; exact HO.out
      · rw [ht1]; exact HW0.out
    case round =>
      obtain ⟨j, hj, rfl, HOj, HWj, HBj⟩ := hrel
      have hszj := HBj.out.size
      by_cases hlt : j < bs.length - 1
      · have hj1 : j + 1 < bs.length := by omega
        obtain ⟨ad', e', had', hclj, hbmj⟩ := HR.out (j + 1) hj1
        injection e' with e'
        subst e'
        have hclj' := (HBj.out.cell (p := ad.add (j + 1)) (by rw [block_of_add]; exact had')).trans hclj
        rw [show ad.add (j + 1) = ⟨ad.block, ad.off + 1 + j, none⟩ by unfold Addr.add; rw [if_neg (by omega)]; simp only [Addr.mk.injEq, and_true, true_and]; omega] at hclj'
        have hji : (j : Int) < ((bs.length - 1 : Nat) : Int) := by omega
        have HBMJ := Lib.hid (show Bm _ _ _ _ _ from hbmj.chg (S := fun k => w.heap.size ≤ k) ⟨HBj.out.os, HBj.out.tape, HBj.out.output, HBj.out.size, fun k hk hn => HBj.out.block k hk⟩ (by have := blk_lt hbmj.1; omega) (by have := blk_lt hbmj.2.1; omega) (by have := blk_lt hbmj.2.2.1; omega))
        clear hclj
        go_wp2_with fail
        refine (bmWords _ _ _ _ _ HBMJ.out).mono ?_
        rintro e w3 ⟨A3, c3, rfl, hc3, HO3, hb3⟩
        obtain ⟨g3, hg3⟩ : ∃ g3, A3 = some ⟨g3, 0, none⟩ := by
          rcases HO3.out.2 with ⟨h, _⟩ | ⟨g, cap, cur, h, _⟩
          · cases h
          · injection h with h; exact ⟨g, h⟩
        subst hg3
        have hgg : g3 ≠ g := by
          have h1 := HOj.out.block g rfl
          have h2 := HO3.out.block g3 rfl
          intro e
          subst e
          exact absurd h1.2 (Nat.not_lt.2 h2.1)
        have HOG := Lib.hid (HOj.out.below hb3)
        have HB3 := Lib.hid (below_also HBj.out hb3 hszj)
        have HTK := Lib.hid (show jnAll andN ((bs.map (·.ws)).take (j + 1 + 1)) = jn andN (jnAll andN ((bs.map (·.ws)).take (j + 1))) bs[j + 1].ws by
          rw [List.take_succ_eq_append_getElem (by simpa using hj1)]
          obtain ⟨x, hx⟩ : ∃ x, (bs.map (·.ws)).take (j + 1) = x := ⟨_, rfl⟩
          rcases x with _ | ⟨y, x⟩
          · have h9 : ((bs.map (·.ws)).take (j + 1)).length = 0 := by rw [hx]; rfl
            rw [List.length_take, List.length_map] at h9; omega
          · rw [hx]; simp [jnAll, List.foldl_append])
        have HWS := Lib.hid hbmj.2.2.2
        obtain ⟨acc, hacc⟩ : ∃ acc, jnAll andN ((bs.map (·.ws)).take (j + 1)) = acc := ⟨_, rfl⟩
        rw [hacc] at HOG HWj HTK
        obtain ⟨nw, hnw⟩ : ∃ nw, bs[j + 1].ws = nw := ⟨_, rfl⟩
        rw [hnw] at HO3 HTK HWS
        clear hb3 hbmj hacc hnw HOj hclj' HBMJ
        go_wp2
        go_loopw [8, 9, 28, 29, 30, 31, 32, 33, 34, 35, 36, 37, 38, 39, 40, 41, 42, 43] (fun _ _ v28 _ _ _ _ _ _ _ _ _ _ _ _ _ _ _ wk => ∃ k : Nat, k ≤ 1024 ∧ v28 = .int .i64 k ∧ Hid (Own .u64 95 wk w.heap.size (.slice (some ⟨g, 0, none⟩) 1024 c') (wi (mix andN acc nw k))) ∧ Hid (Own .u64 95 wk wr.heap.size (.slice (some ⟨g3, 0, none⟩) 1024 c3) (wi nw)) ∧ Hid (Below w.heap.size w wk)) (fun _ _ v28 _ _ _ _ _ _ _ _ _ _ _ _ _ _ _ _ => 1024 - (intOf v28).toNat)
        case atStart => exact ⟨0, Nat.zero_le _, rfl, by rw [mix_zero]; exact HOG.out, HO3.out, HB3.out⟩
        case round =>
          obtain ⟨k, hk, rfl, HA, HN3, HBk⟩ := hrel
          by_cases hkl : k < 1024
          · have hki : (k : Int) < 1024 := by omega
            have hml := mix_len andN acc nw k HWj.out.1 HWS.out.1
            obtain ⟨ra, rf⟩ := HA.out.at_ k (by rw [wi_len, hml]; exact hkl)
            obtain ⟨rn, _⟩ := HN3.out.at_ k (by rw [wi_len, HWS.out.1]; exact hkl)
            rw [wi_at, mix_at _ _ _ _ hkl HWj.out.1 HWS.out.1] at ra
            rw [wi_at] at rn
            have hx := HWj.out.at_ hkl
            have hy := HWS.out.at_ hkl
            have HSU := Lib.hid (mix_succ andN acc nw k hkl HWj.out.1 HWS.out.1)
            obtain ⟨x, hxx⟩ : ∃ x, acc.getD k 0 = x := ⟨_, rfl⟩
            obtain ⟨y, hyy⟩ : ∃ y, nw.getD k 0 = y := ⟨_, rfl⟩
            rw [hxx] at ra hx HSU
            rw [hyy] at rn hy HSU
            clear hxx hyy hml
            go_wp2_with fail
            refine (bmOp_and x y _ hx hy).mono ?_
            rintro e w4 ⟨rfl, rfl⟩
            go_wp2
            go_roundw
            case rel =>
              refine ⟨k + 1, by omega, by go_num, ?_, HN3.out.other _ (by intro e; injection e with e; exact hgg e), HBk.out.setCell (by have := (HA.out.block g rfl).1; exact this) _⟩
              rw [HSU.out, ← wi_set]
              exact HA.out.store k _
            case measure => simp [intOf]; omega
          · go_wp2
            go_roundw
            case rel =>
              refine ⟨j + 1, by omega, by go_num, ?_, ?_, HBk.out⟩
              · rw [HTK.out, ← mix_all _ _ _ HWj.out.1 HWS.out.1 k (by omega)]
                exact HA.out
              · rw [HTK.out]
                exact jn_ws (fun x y hx _ => Nat.lt_of_le_of_lt Nat.and_le_left hx) HWj.out HWS.out
            case measure => simp [intOf]; omega
      · go_wp2_with fail
        have hall : jnAll andN ((bs.map (·.ws)).take (j + 1)) = jnAll andN (bs.map (·.ws)) := by rw [List.take_of_length_le (by simp; omega)]
        have HOj2 := HOj.out
        have HWj2 := HWj.out
        rw [hall] at HOj2 HWj2
        obtain ⟨_, _, e1, _, _, ra⟩ := HOj2.form
        injection e1 with e1
        rw [← e1] at ra
        refine (bmof (some ⟨g, 0, none⟩) c' _ _ HWj2 ra).mono ?_
        rintro e w5 ⟨b, s, d, rfl, h5, h6, h7, hB5, hb5⟩
        have HB5 := Lib.hid hB5
        have HBW := Lib.hid (HBj.out.trans (hb5.mono hszj))
        clear hB5 hb5 ra e1 hall HOj2 HWj2
        go_wp2
        go_ret
        exact ⟨b, s, d, rfl, by omega, by omega, by omega, HB5.out, HBW.out⟩
theorem bmOp_less (x y : Nat) (w : World) (hx : x < 18446744073709551616) (hy : y < 18446744073709551616) : Calls Tryz.prog 68 #[.int .u64 x, .int .u64 y] w fun e w' => e = .returned (.int .u64 (andn x y : Nat)) ∧ w' = w := by
  have hb : bits .andNot .u64 (x : Int) (y : Int) = ((andn x y : Nat) : Int) := u64_andNot_nat x y hx hy
  clear hx hy
  go_enter Tryz.func68, Tryz.ntmps68
  go_wp2
  go_ret
  exact ⟨rfl, rfl⟩
set_option maxRecDepth 100000 in
set_option maxHeartbeats 4000000 in
theorem bmJoined_less (A : Option Addr) (c : Nat) (bs : List BmR) (w : World) (hr : RdB w A bs) (hlen : bs.length ≤ 1000) (hcap : bs.length ≤ c) (h0 : bs ≠ []) : Calls Tryz.prog 64 #[.slice A bs.length c, .func (.func 68) #[] #[]] w fun e w' => ∃ b s d, e = .returned (.pointer (some ⟨b, 0, none⟩)) ∧ w.heap.size ≤ b ∧ w.heap.size ≤ s ∧ w.heap.size ≤ d ∧ Bm w' b s d (jnAll andn (bs.map (·.ws))) ∧ Below w.heap.size w w' := by
  have HR := Lib.hid hr
  have hpos : 0 < bs.length := by rcases bs with _ | ⟨x, bs⟩; exact absurd rfl h0; simp
  obtain ⟨ad, rfl, had, hcl, hbm⟩ := hr 0 hpos
  have HN := Lib.hid h0
  clear hr h0
  have hadd0 : ad.add 0 = ad := by unfold Addr.add; simp
  rw [hadd0] at hcl
  have HB0 := Lib.hid hbm
  have hp1 : (1 : Int) ≤ bs.length := by omega
  have hne : ((bs.length : Int) == 0) = false := by rw [beq_eq_false_iff_ne]; omega
  have HLN := Lib.hid hlen
  go_enter Tryz.func64, Tryz.ntmps64
  have hc1 : (1 : Int) ≤ c := by omega
  have HCAP := Lib.hid hcap
  have HW0 := Lib.hid hbm.2.2.2
  clear hcap hbm hadd0
  go_wp2_with fail
  refine (bmWords _ _ _ _ _ HB0.out).mono ?_
  rintro e w1 ⟨A', c', rfl, hc', HO, hb1⟩
  obtain ⟨A2, c2, e2, _, _, hr2⟩ := HO.out.form
  have HB1 := Lib.hid hb1
  have HSZ1 := Lib.hid hb1.size
  clear hb1 e2 hr2
  obtain ⟨g, rfl⟩ : ∃ g, A' = some ⟨g, 0, none⟩ := by
    rcases HO.out.2 with ⟨h, _⟩ | ⟨g, cap, cur, h, _⟩
    · cases h
    · injection h with h; exact ⟨g, h⟩
  by_cases hone : bs.length = 1
  · have HB1' := HB1
    rcases bs with _ | ⟨x0, _ | ⟨y0, bs⟩⟩
    · exact absurd rfl HN.out
    · simp only [List.length_cons, List.length_nil, Nat.zero_add, Int.natCast_one, List.getElem_cons_zero] at *
      clear hone hne hp1
      by_cases hcc : c = 1
      · subst hcc
        go_wp2
        go_loopw [21] (fun v21 wr => v21 = .int .i64 0 ∧ wr = w1) (fun _ _ => 0)
        case atStart => exact ⟨rfl, rfl⟩
        case round =>
          obtain ⟨rfl, rfl⟩ := hrel
          go_wp2_with fail
          obtain ⟨_, _, e1, _, _, ra⟩ := HO.out.form
          injection e1 with e1
          rw [← e1] at ra
          refine (bmof (some ⟨g, 0, none⟩) c' _ _ HW0.out ra).mono ?_
          rintro e w5 ⟨b, s, d, rfl, h5, h6, h7, hB5, hb5⟩
          have HB5 := Lib.hid hB5
          have HBW := Lib.hid (below_then HB1.out hb5)
          have hz1 := HSZ1.out
          clear hB5 hb5 ra e1
          go_wp2
          go_ret
          exact ⟨b, s, d, rfl, by omega, by omega, by omega, HB5.out, HBW.out⟩
      · have hcc2 : (1 : Int) < c := by omega
        go_wp2
        go_loopw [21] (fun v21 wr => v21 = .int .i64 0 ∧ wr = w1) (fun _ _ => 0)
        case atStart => exact ⟨rfl, rfl⟩
        case round =>
          obtain ⟨rfl, rfl⟩ := hrel
          go_wp2_with fail
          obtain ⟨_, _, e1, _, _, ra⟩ := HO.out.form
          injection e1 with e1
          rw [← e1] at ra
          refine (bmof (some ⟨g, 0, none⟩) c' _ _ HW0.out ra).mono ?_
          rintro e w5 ⟨b, s, d, rfl, h5, h6, h7, hB5, hb5⟩
          have HB5 := Lib.hid hB5
          have HBW := Lib.hid (below_then HB1.out hb5)
          have hz1 := HSZ1.out
          clear hB5 hb5 ra e1
          go_wp2
          go_ret
          exact ⟨b, s, d, rfl, by omega, by omega, by omega, HB5.out, HBW.out⟩
    · simp at hone
  · have h2 : (1 : Int) < bs.length := by have := HLN.out; omega
    have hc2 : (1 : Int) < c := by have := HCAP.out; omega
    have HL2 := Lib.hid h2
    go_wp2
    go_loopw [7, 8, 9, 21, 22, 23, 24, 25, 26, 27, 28, 29, 30, 31, 32, 33, 34, 35, 36, 37, 38, 39, 40, 41, 42, 43, 44] (fun _ _ _ v21 _ _ _ _ _ _ _ _ _ _ _ _ _ _ _ _ _ _ _ _ _ _ _ wr => ∃ j : Nat, j ≤ bs.length - 1 ∧ v21 = .int .i64 j ∧ Hid (Own .u64 95 wr w.heap.size (.slice (some ⟨g, 0, none⟩) 1024 c') (wi (jnAll andn ((bs.map (·.ws)).take (j + 1))))) ∧ Hid (Ws (jnAll andn ((bs.map (·.ws)).take (j + 1)))) ∧ Hid (Below w.heap.size w wr)) (fun _ _ _ v21 _ _ _ _ _ _ _ _ _ _ _ _ _ _ _ _ _ _ _ _ _ _ _ _ => bs.length - 1 - (intOf v21).toNat)
    case atStart =>
      have ht1 : (bs.map (·.ws)).take (0 + 1) = [bs[0].ws] := by
        rcases bs with _ | ⟨x, bs⟩
        · exact absurd rfl HN.out
        · rfl
      refine ⟨0, Nat.zero_le _, rfl, ?_, ?_, HB1.out⟩
      · rw [ht1]; exact HO.out
      · rw [ht1]; exact HW0.out
    case round =>
      obtain ⟨j, hj, rfl, HOj, HWj, HBj⟩ := hrel
      have hszj := HBj.out.size
      by_cases hlt : j < bs.length - 1
      · have hj1 : j + 1 < bs.length := by omega
        obtain ⟨ad', e', had', hclj, hbmj⟩ := HR.out (j + 1) hj1
        injection e' with e'
        subst e'
        have hclj' := (HBj.out.cell (p := ad.add (j + 1)) (by rw [block_of_add]; exact had')).trans hclj
        rw [show ad.add (j + 1) = ⟨ad.block, ad.off + 1 + j, none⟩ by unfold Addr.add; rw [if_neg (by omega)]; simp only [Addr.mk.injEq, and_true, true_and]; omega] at hclj'
        have hji : (j : Int) < ((bs.length - 1 : Nat) : Int) := by omega
        have HBMJ := Lib.hid (show Bm _ _ _ _ _ from hbmj.chg (S := fun k => w.heap.size ≤ k) ⟨HBj.out.os, HBj.out.tape, HBj.out.output, HBj.out.size, fun k hk hn => HBj.out.block k hk⟩ (by have := blk_lt hbmj.1; omega) (by have := blk_lt hbmj.2.1; omega) (by have := blk_lt hbmj.2.2.1; omega))
        clear hclj
        go_wp2_with fail
        refine (bmWords _ _ _ _ _ HBMJ.out).mono ?_
        rintro e w3 ⟨A3, c3, rfl, hc3, HO3, hb3⟩
        obtain ⟨g3, hg3⟩ : ∃ g3, A3 = some ⟨g3, 0, none⟩ := by
          rcases HO3.out.2 with ⟨h, _⟩ | ⟨g, cap, cur, h, _⟩
          · cases h
          · injection h with h; exact ⟨g, h⟩
        subst hg3
        have hgg : g3 ≠ g := by
          have h1 := HOj.out.block g rfl
          have h2 := HO3.out.block g3 rfl
          intro e
          subst e
          exact absurd h1.2 (Nat.not_lt.2 h2.1)
        have HOG := Lib.hid (HOj.out.below hb3)
        have HB3 := Lib.hid (below_also HBj.out hb3 hszj)
        have HTK := Lib.hid (show jnAll andn ((bs.map (·.ws)).take (j + 1 + 1)) = jn andn (jnAll andn ((bs.map (·.ws)).take (j + 1))) bs[j + 1].ws by
          rw [List.take_succ_eq_append_getElem (by simpa using hj1)]
          obtain ⟨x, hx⟩ : ∃ x, (bs.map (·.ws)).take (j + 1) = x := ⟨_, rfl⟩
          rcases x with _ | ⟨y, x⟩
          · have h9 : ((bs.map (·.ws)).take (j + 1)).length = 0 := by rw [hx]; rfl
            rw [List.length_take, List.length_map] at h9; omega
          · rw [hx]; simp [jnAll, List.foldl_append])
        have HWS := Lib.hid hbmj.2.2.2
        obtain ⟨acc, hacc⟩ : ∃ acc, jnAll andn ((bs.map (·.ws)).take (j + 1)) = acc := ⟨_, rfl⟩
        rw [hacc] at HOG HWj HTK
        obtain ⟨nw, hnw⟩ : ∃ nw, bs[j + 1].ws = nw := ⟨_, rfl⟩
        rw [hnw] at HO3 HTK HWS
        clear hb3 hbmj hacc hnw HOj hclj' HBMJ
        go_wp2
        go_loopw [8, 9, 28, 29, 30, 31, 32, 33, 34, 35, 36, 37, 38, 39, 40, 41, 42, 43] (fun _ _ v28 _ _ _ _ _ _ _ _ _ _ _ _ _ _ _ wk => ∃ k : Nat, k ≤ 1024 ∧ v28 = .int .i64 k ∧ Hid (Own .u64 95 wk w.heap.size (.slice (some ⟨g, 0, none⟩) 1024 c') (wi (mix andn acc nw k))) ∧ Hid (Own .u64 95 wk wr.heap.size (.slice (some ⟨g3, 0, none⟩) 1024 c3) (wi nw)) ∧ Hid (Below w.heap.size w wk)) (fun _ _ v28 _ _ _ _ _ _ _ _ _ _ _ _ _ _ _ _ => 1024 - (intOf v28).toNat)
        case atStart => exact ⟨0, Nat.zero_le _, rfl, by rw [mix_zero]; exact HOG.out, HO3.out, HB3.out⟩
        case round =>
          obtain ⟨k, hk, rfl, HA, HN3, HBk⟩ := hrel
          by_cases hkl : k < 1024
          · have hki : (k : Int) < 1024 := by omega
            have hml := mix_len andn acc nw k HWj.out.1 HWS.out.1
            obtain ⟨ra, rf⟩ := HA.out.at_ k (by rw [wi_len, hml]; exact hkl)
            obtain ⟨rn, _⟩ := HN3.out.at_ k (by rw [wi_len, HWS.out.1]; exact hkl)
            rw [wi_at, mix_at _ _ _ _ hkl HWj.out.1 HWS.out.1] at ra
            rw [wi_at] at rn
            have hx := HWj.out.at_ hkl
            have hy := HWS.out.at_ hkl
            have HSU := Lib.hid (mix_succ andn acc nw k hkl HWj.out.1 HWS.out.1)
            obtain ⟨x, hxx⟩ : ∃ x, acc.getD k 0 = x := ⟨_, rfl⟩
            obtain ⟨y, hyy⟩ : ∃ y, nw.getD k 0 = y := ⟨_, rfl⟩
            rw [hxx] at ra hx HSU
            rw [hyy] at rn hy HSU
            clear hxx hyy hml
            go_wp2_with fail
            refine (bmOp_less x y _ hx hy).mono ?_
            rintro e w4 ⟨rfl, rfl⟩
            go_wp2
            go_roundw
            case rel =>
              refine ⟨k + 1, by omega, by go_num, ?_, HN3.out.other _ (by intro e; injection e with e; exact hgg e), HBk.out.setCell (by have := (HA.out.block g rfl).1; exact this) _⟩
              rw [HSU.out, ← wi_set]
              exact HA.out.store k _
            case measure => simp [intOf]; omega
          · go_wp2
            go_roundw
            case rel =>
              refine ⟨j + 1, by omega, by go_num, ?_, ?_, HBk.out⟩
              · rw [HTK.out, ← mix_all _ _ _ HWj.out.1 HWS.out.1 k (by omega)]
                exact HA.out
              · rw [HTK.out]
                exact jn_ws (fun x y hx _ => andn_lt x y hx) HWj.out HWS.out
            case measure => simp [intOf]; omega
      · go_wp2_with fail
        have hall : jnAll andn ((bs.map (·.ws)).take (j + 1)) = jnAll andn (bs.map (·.ws)) := by rw [List.take_of_length_le (by simp; omega)]
        have HOj2 := HOj.out
        have HWj2 := HWj.out
        rw [hall] at HOj2 HWj2
        obtain ⟨_, _, e1, _, _, ra⟩ := HOj2.form
        injection e1 with e1
        rw [← e1] at ra
        refine (bmof (some ⟨g, 0, none⟩) c' _ _ HWj2 ra).mono ?_
        rintro e w5 ⟨b, s, d, rfl, h5, h6, h7, hB5, hb5⟩
        have HB5 := Lib.hid hB5
        have HBW := Lib.hid (HBj.out.trans (hb5.mono hszj))
        clear hB5 hb5 ra e1 hall HOj2 HWj2
        go_wp2
        go_ret
        exact ⟨b, s, d, rfl, by omega, by omega, by omega, HB5.out, HBW.out⟩
def xorN (a b : Nat) : Nat := a ^^^ b
theorem xor_lt64 (a b : Nat) (ha : a < 18446744073709551616) (hb : b < 18446744073709551616) : xorN a b < 18446744073709551616 := Nat.xor_lt_two_pow (n := 64) (by simpa using ha) (by simpa using hb)
theorem bmOp_xor (x y : Nat) (w : World) (hx : x < 18446744073709551616) (hy : y < 18446744073709551616) : Calls Tryz.prog 70 #[.int .u64 x, .int .u64 y] w fun e w' => e = .returned (.int .u64 (xorN x y : Nat)) ∧ w' = w := by
  have hb : bits .xor .u64 (x : Int) (y : Int) = ((xorN x y : Nat) : Int) := bits_xor_u64_nat x y hx hy
  clear hx hy
  go_enter Tryz.func70, Tryz.ntmps70
  go_wp2
  go_ret
  exact ⟨rfl, rfl⟩
set_option maxRecDepth 100000 in
set_option maxHeartbeats 4000000 in
theorem bmJoined_xor (A : Option Addr) (c : Nat) (bs : List BmR) (w : World) (hr : RdB w A bs) (hlen : bs.length ≤ 1000) (hcap : bs.length ≤ c) (h0 : bs ≠ []) : Calls Tryz.prog 64 #[.slice A bs.length c, .func (.func 70) #[] #[]] w fun e w' => ∃ b s d, e = .returned (.pointer (some ⟨b, 0, none⟩)) ∧ w.heap.size ≤ b ∧ w.heap.size ≤ s ∧ w.heap.size ≤ d ∧ Bm w' b s d (jnAll xorN (bs.map (·.ws))) ∧ Below w.heap.size w w' := by
  have HR := Lib.hid hr
  have hpos : 0 < bs.length := by rcases bs with _ | ⟨x, bs⟩; exact absurd rfl h0; simp
  obtain ⟨ad, rfl, had, hcl, hbm⟩ := hr 0 hpos
  have HN := Lib.hid h0
  clear hr h0
  have hadd0 : ad.add 0 = ad := by unfold Addr.add; simp
  rw [hadd0] at hcl
  have HB0 := Lib.hid hbm
  have hp1 : (1 : Int) ≤ bs.length := by omega
  have hne : ((bs.length : Int) == 0) = false := by rw [beq_eq_false_iff_ne]; omega
  have HLN := Lib.hid hlen
  go_enter Tryz.func64, Tryz.ntmps64
  have hc1 : (1 : Int) ≤ c := by omega
  have HCAP := Lib.hid hcap
  have HW0 := Lib.hid hbm.2.2.2
  clear hcap hbm hadd0
  go_wp2_with fail
  refine (bmWords _ _ _ _ _ HB0.out).mono ?_
  rintro e w1 ⟨A', c', rfl, hc', HO, hb1⟩
  obtain ⟨A2, c2, e2, _, _, hr2⟩ := HO.out.form
  have HB1 := Lib.hid hb1
  have HSZ1 := Lib.hid hb1.size
  clear hb1 e2 hr2
  obtain ⟨g, rfl⟩ : ∃ g, A' = some ⟨g, 0, none⟩ := by
    rcases HO.out.2 with ⟨h, _⟩ | ⟨g, cap, cur, h, _⟩
    · cases h
    · injection h with h; exact ⟨g, h⟩
  by_cases hone : bs.length = 1
  · have HB1' := HB1
    rcases bs with _ | ⟨x0, _ | ⟨y0, bs⟩⟩
    · exact absurd rfl HN.out
    · simp only [List.length_cons, List.length_nil, Nat.zero_add, Int.natCast_one, List.getElem_cons_zero] at *
      clear hone hne hp1
      by_cases hcc : c = 1
      · subst hcc
        go_wp2
        go_loopw [21] (fun v21 wr => v21 = .int .i64 0 ∧ wr = w1) (fun _ _ => 0)
        case atStart => exact ⟨rfl, rfl⟩
        case round =>
          obtain ⟨rfl, rfl⟩ := hrel
          go_wp2_with fail
          obtain ⟨_, _, e1, _, _, ra⟩ := HO.out.form
          injection e1 with e1
          rw [← e1] at ra
          refine (bmof (some ⟨g, 0, none⟩) c' _ _ HW0.out ra).mono ?_
          rintro e w5 ⟨b, s, d, rfl, h5, h6, h7, hB5, hb5⟩
          have HB5 := Lib.hid hB5
          have HBW := Lib.hid (below_then HB1.out hb5)
          have hz1 := HSZ1.out
          clear hB5 hb5 ra e1
          go_wp2
          go_ret
          exact ⟨b, s, d, rfl, by omega, by omega, by omega, HB5.out, HBW.out⟩
      · have hcc2 : (1 : Int) < c := by omega
        go_wp2
        go_loopw [21] (fun v21 wr => v21 = .int .i64 0 ∧ wr = w1) (fun _ _ => 0)
        case atStart => exact ⟨rfl, rfl⟩
        case round =>
          obtain ⟨rfl, rfl⟩ := hrel
          go_wp2_with fail
          obtain ⟨_, _, e1, _, _, ra⟩ := HO.out.form
          injection e1 with e1
          rw [← e1] at ra
          refine (bmof (some ⟨g, 0, none⟩) c' _ _ HW0.out ra).mono ?_
          rintro e w5 ⟨b, s, d, rfl, h5, h6, h7, hB5, hb5⟩
          have HB5 := Lib.hid hB5
          have HBW := Lib.hid (below_then HB1.out hb5)
          have hz1 := HSZ1.out
          clear hB5 hb5 ra e1
          go_wp2
          go_ret
          exact ⟨b, s, d, rfl, by omega, by omega, by omega, HB5.out, HBW.out⟩
    · simp at hone
  · have h2 : (1 : Int) < bs.length := by have := HLN.out; omega
    have hc2 : (1 : Int) < c := by have := HCAP.out; omega
    have HL2 := Lib.hid h2
    go_wp2
    go_loopw [7, 8, 9, 21, 22, 23, 24, 25, 26, 27, 28, 29, 30, 31, 32, 33, 34, 35, 36, 37, 38, 39, 40, 41, 42, 43, 44] (fun _ _ _ v21 _ _ _ _ _ _ _ _ _ _ _ _ _ _ _ _ _ _ _ _ _ _ _ wr => ∃ j : Nat, j ≤ bs.length - 1 ∧ v21 = .int .i64 j ∧ Hid (Own .u64 95 wr w.heap.size (.slice (some ⟨g, 0, none⟩) 1024 c') (wi (jnAll xorN ((bs.map (·.ws)).take (j + 1))))) ∧ Hid (Ws (jnAll xorN ((bs.map (·.ws)).take (j + 1)))) ∧ Hid (Below w.heap.size w wr)) (fun _ _ _ v21 _ _ _ _ _ _ _ _ _ _ _ _ _ _ _ _ _ _ _ _ _ _ _ _ => bs.length - 1 - (intOf v21).toNat)
    case atStart =>
      have ht1 : (bs.map (·.ws)).take (0 + 1) = [bs[0].ws] := by
        rcases bs with _ | ⟨x, bs⟩
        · exact absurd rfl HN.out
        · rfl
      refine ⟨0, Nat.zero_le _, rfl, ?_, ?_, HB1.out⟩
      · rw [ht1]; exact HO.out
      · rw [ht1]; exact HW0.out
    case round =>
      obtain ⟨j, hj, rfl, HOj, HWj, HBj⟩ := hrel
      have hszj := HBj.out.size
      by_cases hlt : j < bs.length - 1
      · have hj1 : j + 1 < bs.length := by omega
        obtain ⟨ad', e', had', hclj, hbmj⟩ := HR.out (j + 1) hj1
        injection e' with e'
        subst e'
        have hclj' := (HBj.out.cell (p := ad.add (j + 1)) (by rw [block_of_add]; exact had')).trans hclj
        rw [show ad.add (j + 1) = ⟨ad.block, ad.off + 1 + j, none⟩ by unfold Addr.add; rw [if_neg (by omega)]; simp only [Addr.mk.injEq, and_true, true_and]; omega] at hclj'
        have hji : (j : Int) < ((bs.length - 1 : Nat) : Int) := by omega
        have HBMJ := Lib.hid (show Bm _ _ _ _ _ from hbmj.chg (S := fun k => w.heap.size ≤ k) ⟨HBj.out.os, HBj.out.tape, HBj.out.output, HBj.out.size, fun k hk hn => HBj.out.block k hk⟩ (by have := blk_lt hbmj.1; omega) (by have := blk_lt hbmj.2.1; omega) (by have := blk_lt hbmj.2.2.1; omega))
        clear hclj
        go_wp2_with fail
        refine (bmWords _ _ _ _ _ HBMJ.out).mono ?_
        rintro e w3 ⟨A3, c3, rfl, hc3, HO3, hb3⟩
        obtain ⟨g3, hg3⟩ : ∃ g3, A3 = some ⟨g3, 0, none⟩ := by
          rcases HO3.out.2 with ⟨h, _⟩ | ⟨g, cap, cur, h, _⟩
          · cases h
          · injection h with h; exact ⟨g, h⟩
        subst hg3
        have hgg : g3 ≠ g := by
          have h1 := HOj.out.block g rfl
          have h2 := HO3.out.block g3 rfl
          intro e
          subst e
          exact absurd h1.2 (Nat.not_lt.2 h2.1)
        have HOG := Lib.hid (HOj.out.below hb3)
        have HB3 := Lib.hid (below_also HBj.out hb3 hszj)
        have HTK := Lib.hid (show jnAll xorN ((bs.map (·.ws)).take (j + 1 + 1)) = jn xorN (jnAll xorN ((bs.map (·.ws)).take (j + 1))) bs[j + 1].ws by
          rw [List.take_succ_eq_append_getElem (by simpa using hj1)]
          obtain ⟨x, hx⟩ : ∃ x, (bs.map (·.ws)).take (j + 1) = x := ⟨_, rfl⟩
          rcases x with _ | ⟨y, x⟩
          · have h9 : ((bs.map (·.ws)).take (j + 1)).length = 0 := by rw [hx]; rfl
            rw [List.length_take, List.length_map] at h9; omega
          · rw [hx]; simp [jnAll, List.foldl_append])
        have HWS := Lib.hid hbmj.2.2.2
        obtain ⟨acc, hacc⟩ : ∃ acc, jnAll xorN ((bs.map (·.ws)).take (j + 1)) = acc := ⟨_, rfl⟩
        rw [hacc] at HOG HWj HTK
        obtain ⟨nw, hnw⟩ : ∃ nw, bs[j + 1].ws = nw := ⟨_, rfl⟩
        rw [hnw] at HO3 HTK HWS
        clear hb3 hbmj hacc hnw HOj hclj' HBMJ
        go_wp2
        go_loopw [8, 9, 28, 29, 30, 31, 32, 33, 34, 35, 36, 37, 38, 39, 40, 41, 42, 43] (fun _ _ v28 _ _ _ _ _ _ _ _ _ _ _ _ _ _ _ wk => ∃ k : Nat, k ≤ 1024 ∧ v28 = .int .i64 k ∧ Hid (Own .u64 95 wk w.heap.size (.slice (some ⟨g, 0, none⟩) 1024 c') (wi (mix xorN acc nw k))) ∧ Hid (Own .u64 95 wk wr.heap.size (.slice (some ⟨g3, 0, none⟩) 1024 c3) (wi nw)) ∧ Hid (Below w.heap.size w wk)) (fun _ _ v28 _ _ _ _ _ _ _ _ _ _ _ _ _ _ _ _ => 1024 - (intOf v28).toNat)
        case atStart => exact ⟨0, Nat.zero_le _, rfl, by rw [mix_zero]; exact HOG.out, HO3.out, HB3.out⟩
        case round =>
          obtain ⟨k, hk, rfl, HA, HN3, HBk⟩ := hrel
          by_cases hkl : k < 1024
          · have hki : (k : Int) < 1024 := by omega
            have hml := mix_len xorN acc nw k HWj.out.1 HWS.out.1
            obtain ⟨ra, rf⟩ := HA.out.at_ k (by rw [wi_len, hml]; exact hkl)
            obtain ⟨rn, _⟩ := HN3.out.at_ k (by rw [wi_len, HWS.out.1]; exact hkl)
            rw [wi_at, mix_at _ _ _ _ hkl HWj.out.1 HWS.out.1] at ra
            rw [wi_at] at rn
            have hx := HWj.out.at_ hkl
            have hy := HWS.out.at_ hkl
            have HSU := Lib.hid (mix_succ xorN acc nw k hkl HWj.out.1 HWS.out.1)
            obtain ⟨x, hxx⟩ : ∃ x, acc.getD k 0 = x := ⟨_, rfl⟩
            obtain ⟨y, hyy⟩ : ∃ y, nw.getD k 0 = y := ⟨_, rfl⟩
            rw [hxx] at ra hx HSU
            rw [hyy] at rn hy HSU
            clear hxx hyy hml
            go_wp2_with fail
            refine (bmOp_xor x y _ hx hy).mono ?_
            rintro e w4 ⟨rfl, rfl⟩
            go_wp2
            go_roundw
            case rel =>
              refine ⟨k + 1, by omega, by go_num, ?_, HN3.out.other _ (by intro e; injection e with e; exact hgg e), HBk.out.setCell (by have := (HA.out.block g rfl).1; exact this) _⟩
              rw [HSU.out, ← wi_set]
              exact HA.out.store k _
            case measure => simp [intOf]; omega
          · go_wp2
            go_roundw
            case rel =>
              refine ⟨j + 1, by omega, by go_num, ?_, ?_, HBk.out⟩
              · rw [HTK.out, ← mix_all _ _ _ HWj.out.1 HWS.out.1 k (by omega)]
                exact HA.out
              · rw [HTK.out]
                exact jn_ws (xor_lt64) HWj.out HWS.out
            case measure => simp [intOf]; omega
      · go_wp2_with fail
        have hall : jnAll xorN ((bs.map (·.ws)).take (j + 1)) = jnAll xorN (bs.map (·.ws)) := by rw [List.take_of_length_le (by simp; omega)]
        have HOj2 := HOj.out
        have HWj2 := HWj.out
        rw [hall] at HOj2 HWj2
        obtain ⟨_, _, e1, _, _, ra⟩ := HOj2.form
        injection e1 with e1
        rw [← e1] at ra
        refine (bmof (some ⟨g, 0, none⟩) c' _ _ HWj2 ra).mono ?_
        rintro e w5 ⟨b, s, d, rfl, h5, h6, h7, hB5, hb5⟩
        have HB5 := Lib.hid hB5
        have HBW := Lib.hid (HBj.out.trans (hb5.mono hszj))
        clear hB5 hb5 ra e1 hall HOj2 HWj2
        go_wp2
        go_ret
        exact ⟨b, s, d, rfl, by omega, by omega, by omega, HB5.out, HBW.out⟩
set_option maxRecDepth 100000 in
theorem bmOr (A : Option Addr) (c : Nat) (bs : List BmR) (w : World) (hr : RdB w A bs) (hlen : bs.length ≤ 1000) (hcap : bs.length ≤ c) (h0 : bs ≠ []) : Calls Tryz.prog 39 #[.slice A bs.length c] w fun e w' => ∃ b s d, e = .returned (.pointer (some ⟨b, 0, none⟩)) ∧ w.heap.size ≤ b ∧ w.heap.size ≤ s ∧ w.heap.size ≤ d ∧ Bm w' b s d (jnAll orN (bs.map (·.ws))) ∧ Below w.heap.size w w' := by
  have HR := Lib.hid hr
  have HN := Lib.hid h0
  clear hr h0
  go_enter Tryz.func39, Tryz.ntmps39
  go_wp2_with fail
  refine (bmJoined_or A c bs _ HR.out hlen hcap HN.out).mono ?_
  rintro e w1 ⟨b, s, d, rfl, h1, h2, h3, hB, hb⟩
  have HB := Lib.hid hB
  clear hB
  go_wp2
  go_ret
  exact ⟨b, s, d, rfl, h1, h2, h3, HB.out, hb⟩
set_option maxRecDepth 100000 in
theorem bmAnd (A : Option Addr) (c : Nat) (bs : List BmR) (w : World) (hr : RdB w A bs) (hlen : bs.length ≤ 1000) (hcap : bs.length ≤ c) (h0 : bs ≠ []) : Calls Tryz.prog 42 #[.slice A bs.length c] w fun e w' => ∃ b s d, e = .returned (.pointer (some ⟨b, 0, none⟩)) ∧ w.heap.size ≤ b ∧ w.heap.size ≤ s ∧ w.heap.size ≤ d ∧ Bm w' b s d (jnAll andN (bs.map (·.ws))) ∧ Below w.heap.size w w' := by
  have HR := Lib.hid hr
  have HN := Lib.hid h0
  clear hr h0
  go_enter Tryz.func42, Tryz.ntmps42
  go_wp2_with fail
  refine (bmJoined_and A c bs _ HR.out hlen hcap HN.out).mono ?_
  rintro e w1 ⟨b, s, d, rfl, h1, h2, h3, hB, hb⟩
  have HB := Lib.hid hB
  clear hB
  go_wp2
  go_ret
  exact ⟨b, s, d, rfl, h1, h2, h3, HB.out, hb⟩
set_option maxRecDepth 100000 in
theorem bmLess (x y : BmR) (w : World) (hx : Bm w x.b x.s x.d x.ws) (hy : Bm w y.b y.s y.d y.ws) : Calls Tryz.prog 46 #[.pointer (some ⟨x.b, 0, none⟩), .pointer (some ⟨y.b, 0, none⟩)] w fun e w' => ∃ b s d, e = .returned (.pointer (some ⟨b, 0, none⟩)) ∧ w.heap.size ≤ b ∧ w.heap.size ≤ s ∧ w.heap.size ≤ d ∧ Bm w' b s d (jn andn x.ws y.ws) ∧ Below w.heap.size w w' := by
  have HX := Lib.hid hx
  have HY := Lib.hid hy
  clear hx hy
  go_enter Tryz.func46, Tryz.ntmps46
  go_wp2_with fail
  have hbl : Below w.heap.size w (w.alloc (.cells #[.pointer (some ⟨x.b, 0, none⟩), .pointer (some ⟨y.b, 0, none⟩)] 60)) := (Below.refl _ w).alloc (Nat.le_refl _) _
  refine (bmJoined_less (some ⟨w.heap.size, 0, none⟩) 2 [x, y] _ (fun i hi => ⟨_, rfl, by simp, ?_, ?_⟩) (by simp) (by simp) (by simp)).mono ?_
  · rcases i with _ | _ | i
    · rw [add_mk]; exact blk_cell (blk_new w _ _) 0 rfl
    · rw [add_mk]; exact blk_cell (blk_new w _ _) 1 rfl
    · exact absurd hi (by simp)
  · rcases i with _ | _ | i
    · exact HX.out.below hbl
    · exact HY.out.below hbl
    · exact absurd hi (by simp)
  rintro e w1 ⟨b, s, d, rfl, h1, h2, h3, hB, hb⟩
  have HB := Lib.hid hB
  have HBL := Lib.hid (below_then hbl hb)
  simp only [World.size_alloc] at h1 h2 h3
  clear hB hb hbl
  go_wp2
  go_ret
  exact ⟨b, s, d, rfl, by omega, by omega, by omega, HB.out, HBL.out⟩
set_option maxRecDepth 100000 in
theorem bmXor (x y : BmR) (w : World) (hx : Bm w x.b x.s x.d x.ws) (hy : Bm w y.b y.s y.d y.ws) : Calls Tryz.prog 49 #[.pointer (some ⟨x.b, 0, none⟩), .pointer (some ⟨y.b, 0, none⟩)] w fun e w' => ∃ b s d, e = .returned (.pointer (some ⟨b, 0, none⟩)) ∧ w.heap.size ≤ b ∧ w.heap.size ≤ s ∧ w.heap.size ≤ d ∧ Bm w' b s d (jn xorN x.ws y.ws) ∧ Below w.heap.size w w' := by
  have HX := Lib.hid hx
  have HY := Lib.hid hy
  clear hx hy
  go_enter Tryz.func49, Tryz.ntmps49
  go_wp2_with fail
  have hbl : Below w.heap.size w (w.alloc (.cells #[.pointer (some ⟨x.b, 0, none⟩), .pointer (some ⟨y.b, 0, none⟩)] 60)) := (Below.refl _ w).alloc (Nat.le_refl _) _
  refine (bmJoined_xor (some ⟨w.heap.size, 0, none⟩) 2 [x, y] _ (fun i hi => ⟨_, rfl, by simp, ?_, ?_⟩) (by simp) (by simp) (by simp)).mono ?_
  · rcases i with _ | _ | i
    · rw [add_mk]; exact blk_cell (blk_new w _ _) 0 rfl
    · rw [add_mk]; exact blk_cell (blk_new w _ _) 1 rfl
    · exact absurd hi (by simp)
  · rcases i with _ | _ | i
    · exact HX.out.below hbl
    · exact HY.out.below hbl
    · exact absurd hi (by simp)
  rintro e w1 ⟨b, s, d, rfl, h1, h2, h3, hB, hb⟩
  have HB := Lib.hid hB
  have HBL := Lib.hid (below_then hbl hb)
  simp only [World.size_alloc] at h1 h2 h3
  clear hB hb hbl
  go_wp2
  go_ret
  exact ⟨b, s, d, rfl, by omega, by omega, by omega, HB.out, HBL.out⟩
end Go.Proofs.YtbjekoljipjldaaGreatDoor
namespace Go.Proofs.YtbjekoljipjldaaGreatDoor
set_option linter.unusedVariables false
set_option linter.unusedSimpArgs false
open Go.RowKit
attribute [local go_sem ↓] Go.wp_at_zero Go.wp_at_succ

theorem isNaN16 (x : Int) (w : World) : Calls Tryz.prog 114 #[.int .u16 x] w fun e w' => e = .returned (.bool false) ∧ w' = w := by
  go_enter Tryz.func114, Tryz.ntmps114
  go_wp2
  go_ret
  exact ⟨rfl, rfl⟩
theorem less16 (x y : Int) (w : World) : Calls Tryz.prog 91 #[.int .u16 x, .int .u16 y] w fun e w' => e = .returned (.bool (decide (x < y))) ∧ w' = w := by
  go_enter Tryz.func91, Tryz.ntmps91
  go_wp2_with fail
  refine (isNaN16 x _).mono ?_
  rintro e w1 ⟨rfl, rfl⟩
  go_wp2
  go_ret
  exact ⟨rfl, rfl⟩
theorem rise_lt {l : List Int} (hR : Rise l) : ∀ i j, i < j → j < l.length → l.getD i 0 < l.getD j 0 := by
  intro i j hij hj
  induction j with
  | zero => omega
  | succ j ih =>
    have h1 := rise_at hR j hj
    rcases Nat.lt_or_ge i j with h | h
    · have := ih h (by omega); omega
    · obtain rfl : i = j := by omega
      exact h1
set_option maxRecDepth 100000 in
set_option maxHeartbeats 1000000 in
theorem order2_16 (A : Option Addr) (c : Nat) (l : List Int) (i j S : Nat) (w : World) (hr : Rd .u16 w A l) (hR : Rise l) (hi : i < j) (hj : j < l.length) :
    Calls Tryz.prog 132 #[.slice A l.length c, .int .i64 i, .int .i64 j, .pointer (some ⟨S, 0, none⟩)] w fun e w' => e = .returned (.tuple #[.int .i64 i, .int .i64 j]) ∧ Below w.heap.size w w' := by
  obtain ⟨ad, rfl, _, hci⟩ := hr i (by omega)
  obtain ⟨ad', e', _, hcj⟩ := hr j hj
  injection e' with e'
  subst e'
  have hlt := rise_lt hR i j hi hj
  have hji : ((j : Nat) : Int) < l.length := by omega
  have hii : ((i : Nat) : Int) < l.length := by omega
  clear hr hR
  generalize l.getD i 0 = x at *
  generalize l.getD j 0 = y at *
  generalize l.length = n at *
  have hd : decide (y < x) = false := by simp; omega
  clear hlt
  go_enter Tryz.func132, Tryz.ntmps132
  go_wp2
  go_quiet (first | (go_at_call 91; refine Calls.quiet_of_same (less16 y x _)))
  rw [hd]
  go_wp2
  go_ret2
  exact ⟨rfl, below_drewN (Below.refl _ _) _⟩
set_option maxRecDepth 100000 in
set_option maxHeartbeats 1000000 in
theorem median16 (A : Option Addr) (c : Nat) (l : List Int) (i j k S : Nat) (w : World) (hr : Rd .u16 w A l) (hR : Rise l) (hi : i < j) (hj : j < k) (hk : k < l.length) :
    Calls Tryz.prog 128 #[.slice A l.length c, .int .i64 i, .int .i64 j, .int .i64 k, .pointer (some ⟨S, 0, none⟩)] w fun e w' => e = .returned (.int .i64 j) ∧ Below w.heap.size w w' := by
  have HR := Lib.hid hr
  have HI := Lib.hid hR
  have HK := Lib.hid hk
  clear hr hR hk
  go_enter Tryz.func128, Tryz.ntmps128
  go_wp2_with fail
  refine (order2_16 A c l i j S _ HR.out HI.out hi (by have := HK.out; omega)).mono ?_
  rintro e w1 ⟨rfl, hb1⟩
  have HB1 := Lib.hid hb1
  clear hb1
  go_wp2_with fail
  refine (order2_16 A c l j k S _ (HR.out.below HB1.out) HI.out hj HK.out).mono ?_
  rintro e w2 ⟨rfl, hb2⟩
  have HB2 := Lib.hid (below_then HB1.out hb2)
  clear hb2
  go_wp2_with fail
  refine (order2_16 A c l i j S _ (HR.out.below HB2.out) HI.out hi (by have := HK.out; omega)).mono ?_
  rintro e w3 ⟨rfl, hb3⟩
  have HB3 := Lib.hid (below_then HB2.out hb3)
  clear hb3
  go_wp2
  go_ret
  exact ⟨rfl, HB3.out⟩
theorem median16i (A : Option Addr) (c : Nat) (l : List Int) (x y z : Int) (i j k S : Nat) (w : World) (hr : Rd .u16 w A l) (hR : Rise l) (hi : i < j) (hj : j < k) (hk : k < l.length) (ex : x = i) (ey : y = j) (ez : z = k) :
    Calls Tryz.prog 128 #[.slice A l.length c, .int .i64 x, .int .i64 y, .int .i64 z, .pointer (some ⟨S, 0, none⟩)] w fun e w' => e = .returned (.int .i64 y) ∧ Below w.heap.size w w' := by
  subst ex; subst ey; subst ez
  exact median16 A c l i j k S w hr hR hi hj hk
set_option maxRecDepth 100000 in
set_option maxHeartbeats 1000000 in
theorem medianAdj16 (A : Option Addr) (c : Nat) (l : List Int) (j : Int) (S : Nat) (w : World) (hr : Rd .u16 w A l) (hR : Rise l) (h1 : 1 ≤ j) (hj : j + 1 < l.length) (hn : l.length ≤ 1000000) :
    Calls Tryz.prog 127 #[.slice A l.length c, .int .i64 j, .pointer (some ⟨S, 0, none⟩)] w fun e w' => e = .returned (.int .i64 j) ∧ Below w.heap.size w w' := by
  have HR := Lib.hid hr
  have HI := Lib.hid hR
  have hj2 : j ≤ 1000000 := by omega
  have HJ := Lib.hid hj
  clear hr hR hj
  go_enter Tryz.func127, Tryz.ntmps127
  go_wp2_with fail
  refine (median16i A c l (j - 1) j (j + 1) (j.toNat - 1) j.toNat (j.toNat + 1) S _ HR.out HI.out (by omega) (by omega) (by have := HJ.out; omega) (by omega) (by omega) (by omega)).mono ?_
  rintro e w1 ⟨rfl, hb1⟩
  go_wp2
  go_ret
  exact ⟨rfl, hb1⟩
set_option maxRecDepth 100000 in
set_option maxHeartbeats 2000000 in
theorem choosePivot16 (A : Option Addr) (c : Nat) (l : List Int) (w : World) (hr : Rd .u16 w A l) (hR : Rise l) (h12 : 12 < l.length) (hn : l.length ≤ 1000000) :
    Calls Tryz.prog 107 #[.slice A l.length c, .int .i64 0, .int .i64 l.length] w fun e w' => ∃ j : Int, e = .returned (.tuple #[.int .i64 j, .int .i64 1]) ∧ Below w.heap.size w w' := by
  have HR := Lib.hid hr
  have HI := Lib.hid hR
  obtain ⟨q, hq⟩ : ∃ q : Int, (l.length : Int) / 4 = q := ⟨_, rfl⟩
  have hq0 : 3 ≤ q := by omega
  have hq1 : q ≤ 250000 := by omega
  have hq2 : q * 3 + 1 < l.length := by omega
  have hq2' := Lib.hid hq2
  have hn1 : (12 : Int) < l.length := by omega
  have hn2 : (l.length : Int) ≤ 1000000 := by omega
  have HBA := Lib.hid ((Below.refl _ w).alloc (Nat.le_refl _) (.cells #[.int .i64 0] 3))
  have HNB := Lib.hid (blk_new w #[.int .i64 0] 3)
  clear hr hR hq2
  go_enter Tryz.func107, Tryz.ntmps107
  by_cases h50 : (50 : Int) ≤ l.length
  · go_wp2_with fail
    refine (medianAdj16 A c l q _ _ (HR.out.below HBA.out) HI.out (by omega) (by have := hq2'.out; omega) hn).mono ?_
    rintro e w1 ⟨rfl, hb1⟩
    have HB1 := Lib.hid hb1
    clear hb1
    go_wp2_with fail
    refine (medianAdj16 A c l (q * 2) _ _ ((HR.out.below HBA.out).below HB1.out) HI.out (by omega) (by have := hq2'.out; omega) hn).mono ?_
    rintro e w2 ⟨rfl, hb2⟩
    have HB2 := Lib.hid (below_then HB1.out hb2)
    clear hb2
    go_wp2_with fail
    refine (medianAdj16 A c l (q * 3) _ _ ((HR.out.below HBA.out).below HB2.out) HI.out (by omega) (by have := hq2'.out; omega) hn).mono ?_
    rintro e w3 ⟨rfl, hb3⟩
    have HB3 := Lib.hid (below_then HB2.out hb3)
    clear hb3
    go_wp2_with fail
    refine (median16i A c l q (q * 2) (q * 3) q.toNat (q * 2).toNat (q * 3).toNat _ _ ((HR.out.below HBA.out).below HB3.out) HI.out (by omega) (by omega) (by have := hq2'.out; omega) (by omega) (by omega) (by omega)).mono ?_
    rintro e w4 ⟨rfl, hb4⟩
    have HB4 := Lib.hid (below_then HB3.out hb4)
    have q0 := ((HB4.out.block w.heap.size (by simp)).trans HNB.out : w4.heap[w.heap.size]? = _)
    have q1 := blk_cell q0 0 (v := .int .i64 0) rfl
    clear hb4 q0
    go_wp2
    go_ret2
    exact ⟨_, rfl, below_then HBA.out HB4.out⟩
  · have h50' : (l.length : Int) < 50 := by omega
    go_wp2_with fail
    refine (median16i A c l q (q * 2) (q * 3) q.toNat (q * 2).toNat (q * 3).toNat _ _ (HR.out.below HBA.out) HI.out (by omega) (by omega) (by have := hq2'.out; omega) (by omega) (by omega) (by omega)).mono ?_
    rintro e w4 ⟨rfl, hb4⟩
    have HB4 := Lib.hid hb4
    have q0 := ((HB4.out.block w.heap.size (by simp)).trans HNB.out : w4.heap[w.heap.size]? = _)
    have q1 := blk_cell q0 0 (v := .int .i64 0) rfl
    clear hb4 q0
    go_wp2
    go_ret2
    exact ⟨_, rfl, below_then HBA.out HB4.out⟩
set_option maxRecDepth 100000 in
set_option maxHeartbeats 2000000 in
theorem partial16 (A : Option Addr) (c : Nat) (l : List Int) (w : World) (hr : Rd .u16 w A l) (hR : Rise l) (h12 : 12 < l.length) (hn : l.length ≤ 1000000) :
    Calls Tryz.prog 109 #[.slice A l.length c, .int .i64 0, .int .i64 l.length] w fun e w' => e = .returned (.bool true) ∧ Below w.heap.size w w' := by
  have HR := Lib.hid hr
  have HI := Lib.hid hR
  have hn1 : (12 : Int) < l.length := by omega
  have hn2 : (l.length : Int) ≤ 1000000 := by omega
  obtain ⟨ad, rfl, _, _⟩ := hr 0 (by omega)
  clear hr hR
  go_enter Tryz.func109, Tryz.ntmps109
  go_wp2
  go_loopw [7, 8] (fun v7 v8 wr => v7 = .int .i64 1 ∧ v8 = .int .i64 0 ∧ wr = w) (fun _ _ _ => 0)
  case atStart => exact ⟨rfl, rfl, rfl⟩
  case round =>
    obtain ⟨rfl, rfl, rfl⟩ := hrel
    go_wp2
    go_loopw [7, 17, 18, 19, 20, 21, 22, 23, 24, 25, 26, 27, 28, 29, 30, 31, 32, 33, 34] (fun v7 _ _ _ _ _ _ _ _ _ _ _ _ _ _ _ _ _ _ wk => ∃ m i : Nat, m + 1 ≤ l.length ∧ i = m + 1 ∧ v7 = .int .i64 (i : Int) ∧ Hid (Below wr.heap.size wr wk)) (fun v7 _ _ _ _ _ _ _ _ _ _ _ _ _ _ _ _ _ _ _ => l.length - (intOf v7).toNat)
    case atStart => exact ⟨0, 1, by omega, rfl, rfl, Below.refl _ _⟩
    case round =>
      obtain ⟨m, i, hm, hi, rfl, HB⟩ := hrel
      by_cases hlt : m + 1 < l.length
      · obtain ⟨ad1, e1, _, c1⟩ := (HR.out.below HB.out) m (by omega)
        injection e1 with e1
        subst e1
        obtain ⟨ad2, e2, _, c2⟩ := (HR.out.below HB.out) (m + 1) hlt
        injection e2 with e2
        subst e2
        have hxy := rise_lt HI.out m (m + 1) (by omega) hlt
        generalize l.getD m 0 = x at *
        generalize l.getD (m + 1) 0 = y at *
        have hd : decide (y < x) = false := by simp; omega
        have hm1 : (i : Int) < l.length := by omega
        have hm2 : (m : Int) < l.length := by omega
        have hm3 : (i : Int) - 1 = m := by omega
        rw [← hi] at c2
        have HII := Lib.hid hi
        clear hxy hi
        go_wp2
        go_quiet (first | (go_at_call 91; refine Calls.quiet_of_same (less16 y x _)))
        rw [hd]
        go_wp2
        go_roundw
        case rel => exact ⟨m + 1, i + 1, by omega, by have := HII.out; omega, by go_num, below_drewN HB.out _⟩
        case measure => have := HII.out; simp [intOf]; omega
      · obtain rfl : i = l.length := by omega
        clear hi hlt hm
        go_wp2
        go_quiet (fail)
        go_wp2
        go_ret
        exact ⟨rfl, below_drewN HB.out _⟩
set_option maxRecDepth 100000 in
set_option maxHeartbeats 2000000 in
theorem insertion16 (A : Option Addr) (c : Nat) (l : List Int) (w : World) (hr : Rd .u16 w A l) (hR : Rise l) (hn : l.length ≤ 1000000) :
    Calls Tryz.prog 104 #[.slice A l.length c, .int .i64 0, .int .i64 l.length] w fun e w' => e = .returned (.tuple #[]) ∧ Below w.heap.size w w' := by
  have HR := Lib.hid hr
  have HI := Lib.hid hR
  have hn2 : (l.length : Int) ≤ 1000000 := by omega
  clear hr hR
  go_enter Tryz.func104, Tryz.ntmps104
  go_wp2
  go_loopw [6, 7] (fun v6 _ wk => ∃ m i : Nat, m ≤ l.length ∧ i = m + 1 ∧ v6 = .int .i64 (i : Int) ∧ Hid (Below w.heap.size w wk)) (fun v6 _ _ => l.length + 1 - (intOf v6).toNat)
  case atStart => exact ⟨0, 1, by omega, rfl, rfl, Below.refl _ _⟩
  case round =>
    obtain ⟨m, i, hm, hi, rfl, HB⟩ := hrel
    by_cases hlt : m + 1 < l.length
    · obtain ⟨ad, rfl, _, c1⟩ := (HR.out.below HB.out) m (by omega)
      obtain ⟨ad2, e2, _, c2⟩ := (HR.out.below HB.out) (m + 1) hlt
      injection e2 with e2
      subst e2
      have hxy := rise_lt HI.out m (m + 1) (by omega) hlt
      generalize l.getD m 0 = x at *
      generalize l.getD (m + 1) 0 = y at *
      have hd : decide (y < x) = false := by simp; omega
      have hm1 : (i : Int) < l.length := by omega
      have hm2 : (m : Int) < l.length := by omega
      have hm3 : (i : Int) - 1 = m := by omega
      have hm4 : (0 : Int) < i := by omega
      have hm5 : 0 < i := by omega
      rw [← hi] at c2
      have HII := Lib.hid hi
      clear hxy hi
      go_wp2
      go_loopw [7] (fun v7 wi => v7 = .int .i64 (i : Int) ∧ wi = wr) (fun _ _ => 0)
      case atStart => exact ⟨rfl, rfl⟩
      case round =>
        obtain ⟨rfl, rfl⟩ := hrel
        go_wp2
        go_quiet (first | (go_at_call 91; refine Calls.quiet_of_same (less16 y x _)))
        rw [hd]
        go_wp2
        go_roundw
        case rel => exact ⟨m + 1, i + 1, by omega, by have := HII.out; omega, by go_num, below_drewN HB.out _⟩
        case measure => have := HII.out; simp [intOf]; omega
    · have hm1 : (l.length : Int) ≤ i := by omega
      clear hi
      go_wp2
      go_end0
      exact ⟨rfl, HB.out⟩
theorem len8_fin : ∀ n : Fin 256, (1 ≤ n.val → 1 ≤ Lib.len8 (n.val : Int)) ∧ 0 ≤ Lib.len8 (n.val : Int) ∧ Lib.len8 (n.val : Int) ≤ 8 := by decide +kernel
theorem len8_bd (k : Nat) (h : k < Lib.len8tab.size)   : (1 ≤ k → 1 ≤ ((Lib.len8tab[k]).toNat : Int)) ∧ 0 ≤ ((Lib.len8tab[k]).toNat : Int) ∧ ((Lib.len8tab[k]).toNat : Int) ≤ 8 := by
  have h2 : k < 256 := by rw [Lib.len8tab_size] at h; exact h
  have := len8_fin ⟨k, h2⟩
  simp only [Lib.len8, Int.toNat_natCast, ByteArray.getElem?_lt' _ _ h, Option.getD_some] at this
  exact this
set_option maxRecDepth 100000 in
set_option maxHeartbeats 2000000 in
theorem len64 (n : Int) (w : World) (h1 : 0 ≤ n) (h2 : n ≤ 1000000) : Calls Tryz.prog 113 #[.int .u64 n] w fun e w' => ∃ v : Int, e = .returned (.int .i64 v) ∧ (1 ≤ n → 1 ≤ v) ∧ v ≤ 64 ∧ w' = w := by
  go_enter Tryz.func113, Tryz.ntmps113
  go_wp2
  all_goals try (rename_i h; exact absurd ⟨by omega, by rw [Lib.len8tab_size]; omega⟩ h)
  · rename_i h
    have hlt : (n / 65536).toNat < Lib.len8tab.size := by first | (have := h.2; omega) | omega
    have hb := len8_bd (n / 65536).toNat hlt
    go_ret
    refine ⟨_, rfl, ?_, ?_, rfl⟩ <;> (simp only [wrap64]; omega)
  · rename_i h
    have hlt : (n / 256).toNat < Lib.len8tab.size := by first | (have := h.2; omega) | omega
    have hb := len8_bd (n / 256).toNat hlt
    go_ret
    refine ⟨_, rfl, ?_, ?_, rfl⟩ <;> (simp only [wrap64]; omega)
  · rename_i h
    have hlt : (n).toNat < Lib.len8tab.size := by first | (have := h.2; omega) | omega
    have hb := len8_bd (n).toNat hlt
    go_ret
    refine ⟨_, rfl, ?_, ?_, rfl⟩ <;> (simp only [wrap64]; omega)
theorem bitsLen (n : Int) (w : World) (h1 : 0 ≤ n) (h2 : n ≤ 1000000) : Calls Tryz.prog 90 #[.int .u64 n] w fun e w' => ∃ v : Int, e = .returned (.int .i64 v) ∧ (1 ≤ n → 1 ≤ v) ∧ v ≤ 64 ∧ w' = w := by
  go_enter Tryz.func90, Tryz.ntmps90
  go_wp2_with fail
  refine (len64 n _ h1 h2).mono ?_
  rintro e w1 ⟨v, rfl, hv1, hv2, rfl⟩
  go_wp2
  go_ret
  exact ⟨v, rfl, hv1, hv2, rfl⟩
set_option maxRecDepth 100000 in
set_option maxHeartbeats 2000000 in
theorem pdq16 (A : Option Addr) (c : Nat) (l : List Int) (lim : Int) (w : World) (hr : Rd .u16 w A l) (hR : Rise l) (hn : l.length ≤ 1000000) (hl : 12 < l.length → 1 ≤ lim) :
    Calls Tryz.prog 89 #[.slice A l.length c, .int .i64 0, .int .i64 l.length, .int .i64 lim] w fun e w' => e = .returned (.tuple #[]) ∧ Below w.heap.size w w' := by
  have HR := Lib.hid hr
  have HI := Lib.hid hR
  have hn2 : (l.length : Int) ≤ 1000000 := by omega
  have HLM := Lib.hid hl
  clear hr hR hl
  go_enter Tryz.func89, Tryz.ntmps89
  go_wp2
  go_loopw [1, 2, 3, 8, 9] (fun v1 v2 v3 v8 v9 wr => v1 = .int .i64 0 ∧ v2 = .int .i64 l.length ∧ v3 = .int .i64 lim ∧ v8 = .bool true ∧ v9 = .bool true ∧ wr = w) (fun _ _ _ _ _ _ => 0)
  case atStart => exact ⟨rfl, rfl, rfl, rfl, rfl, rfl⟩
  case round =>
    obtain ⟨rfl, rfl, rfl, rfl, rfl, rfl⟩ := hrel
    by_cases h12 : 12 < l.length
    · have h12' : (12 : Int) < l.length := by omega
      have hl2 : (lim == 0) = false := by have := HLM.out h12; rw [beq_eq_false_iff_ne]; omega
      go_wp2_with fail
      refine (choosePivot16 A c l _ HR.out HI.out h12 hn).mono ?_
      rintro e w1 ⟨j, rfl, hb1⟩
      have HB1 := Lib.hid hb1
      clear hb1
      go_wp2_with fail
      refine (partial16 A c l _ (HR.out.below HB1.out) HI.out h12 hn).mono ?_
      rintro e w2 ⟨rfl, hb2⟩
      have HB2 := Lib.hid (below_then HB1.out hb2)
      clear hb2
      go_wp2
      refine bodyPost_ret (results_none rfl _ _ _) rfl ?_
      exact ⟨rfl, HB2.out⟩
    · have h12' : (l.length : Int) ≤ 12 := by omega
      go_wp2_with fail
      refine (insertion16 A c l _ HR.out HI.out hn).mono ?_
      rintro e w1 ⟨rfl, hb1⟩
      have HB1 := Lib.hid hb1
      clear hb1
      go_wp2
      refine bodyPost_ret (results_none rfl _ _ _) rfl ?_
      exact ⟨rfl, HB1.out⟩
set_option maxRecDepth 100000 in
set_option maxHeartbeats 2000000 in
theorem sort16 (A : Option Addr) (c : Nat) (l : List Int) (w : World) (hr : Rd .u16 w A l) (hR : Rise l) (hn : l.length ≤ 1000000) :
    Calls Tryz.prog 75 #[.slice A l.length c] w fun e w' => e = .returned (.tuple #[]) ∧ Below w.heap.size w w' := by
  have HR := Lib.hid hr
  have HI := Lib.hid hR
  have hn2 : (l.length : Int) ≤ 1000000 := by omega
  have hn3 : (0 : Int) ≤ l.length := by omega
  clear hr hR
  go_enter Tryz.func75, Tryz.ntmps75
  go_wp2_with fail
  refine (bitsLen _ _ hn3 hn2).mono ?_
  rintro e w1 ⟨v, rfl, hv1, hv2, rfl⟩
  go_wp2_with fail
  refine (pdq16 A c l v _ HR.out HI.out hn (fun h => hv1 (by omega))).mono ?_
  rintro e w2 ⟨rfl, hb⟩
  go_wp2
  go_end0
  exact ⟨rfl, hb⟩
end Go.Proofs.YtbjekoljipjldaaGreatDoor
namespace Go.Proofs.YtbjekoljipjldaaGreatDoor
set_option linter.unusedVariables false
set_option linter.unusedSimpArgs false
open Go.RowKit
attribute [local go_sem ↓] Go.wp_at_zero Go.wp_at_succ
set_option maxRecDepth 100000 in
set_option maxHeartbeats 2000000 in
theorem compact16 (A : Option Addr) (c : Nat) (l : List Int) (w : World) (hr : Rd .u16 w A l) (hR : Rise l) (hn : l.length ≤ 1000000) :
    Calls Tryz.prog 76 #[.slice A l.length c] w fun e w' => e = .returned (.slice A l.length c) ∧ Below w.heap.size w w' := by
  have HR := Lib.hid hr
  have HI := Lib.hid hR
  have hn2 : (l.length : Int) ≤ 1000000 := by omega
  clear hr hR
  go_enter Tryz.func76, Tryz.ntmps76
  by_cases h2 : (l.length : Int) < 2
  · go_wp2
    go_ret
    exact ⟨rfl, Below.refl _ _⟩
  · have h2' : (2 : Int) ≤ l.length := by omega
    go_wp2
    go_loopw [3] (fun v3 wk => ∃ m i : Nat, m + 1 ≤ l.length ∧ i = m + 1 ∧ v3 = .int .i64 (i : Int) ∧ Hid (Below w.heap.size w wk)) (fun v3 _ => l.length - (intOf v3).toNat)
    case atStart => exact ⟨0, 1, by omega, rfl, rfl, Below.refl _ _⟩
    case round =>
      obtain ⟨m, i, hm, hi, rfl, HB⟩ := hrel
      by_cases hlt : m + 1 < l.length
      · obtain ⟨ad, rfl, _, c1⟩ := (HR.out.below HB.out) m (by omega)
        obtain ⟨ad2, e2, _, c2⟩ := (HR.out.below HB.out) (m + 1) hlt
        injection e2 with e2
        subst e2
        have hxy := rise_lt HI.out m (m + 1) (by omega) hlt
        generalize l.getD m 0 = x at *
        generalize l.getD (m + 1) 0 = y at *
        have hd : (y == x) = false := by rw [beq_eq_false_iff_ne]; omega
        have hm1 : (i : Int) < l.length := by omega
        have hm2 : (m : Int) < l.length := by omega
        have hm3 : (i : Int) - 1 = m := by omega
        rw [← hi] at c2
        have HII := Lib.hid hi
        clear hxy hi
        go_wp2
        go_quiet (fail)
        go_wp2
        go_roundw
        case rel => exact ⟨m + 1, i + 1, by omega, by have := HII.out; omega, by go_num, below_drewN HB.out _⟩
        case measure => have := HII.out; simp [intOf]; omega
      · obtain rfl : i = l.length := by omega
        clear hi hlt hm
        go_wp2
        go_ret
        exact ⟨rfl, HB.out⟩
set_option maxRecDepth 100000 in
set_option maxHeartbeats 1000000 in
theorem arrOf (A : Option Addr) (c : Nat) (l : List Int) (w : World) (hr : Rd .u16 w A l) (hR : Rise l) (hn : l.length ≤ 1000000) :
    Calls Tryz.prog 52 #[.slice A l.length c] w fun e w' => ∃ A' c', e = .returned (.slice A' l.length c') ∧ l.length ≤ c' ∧ Hid (Own .u16 43 w' w.heap.size (.slice A' l.length c') l) ∧ Below w.heap.size w w' := by
  have HR := Lib.hid hr
  have HI := Lib.hid hR
  clear hr hR
  go_enter Tryz.func52, Tryz.ntmps52
  go_wp2_with fail
  refine (clone16 A c l _ HR.out hn).mono ?_
  rintro e w1 ⟨v, rfl, ho, hb⟩
  obtain ⟨A', c', rfl, hc', _, hr'⟩ := ho.form
  have HO := Lib.hid ho
  have HR' := Lib.hid hr'
  have HB := Lib.hid hb
  clear ho hr' hb
  go_wp2_with fail
  refine (sort16 A' c' l _ HR'.out HI.out hn).mono ?_
  rintro e w2 ⟨rfl, hb2⟩
  have HO2 := Lib.hid (HO.out.below hb2)
  have HR2 := Lib.hid (HR'.out.below hb2)
  have HB2 := Lib.hid (below_then HB.out hb2)
  clear hb2
  go_wp2_with fail
  refine (compact16 A' c' l _ HR2.out HI.out hn).mono ?_
  rintro e w3 ⟨rfl, hb3⟩
  have HO3 := Lib.hid (HO2.out.below hb3)
  have HB3 := Lib.hid (below_then HB2.out hb3)
  clear hb3
  go_wp2
  go_ret
  exact ⟨A', c', rfl, hc', HO3.out, HB3.out⟩
end Go.Proofs.YtbjekoljipjldaaGreatDoor
namespace Go.Proofs.YtbjekoljipjldaaGreatDoor
set_option linter.unusedVariables false
set_option linter.unusedSimpArgs false
open Go.RowKit
attribute [local go_sem ↓] Go.wp_at_zero Go.wp_at_succ
/-- x, or nothing -/
def opt (s : Bool) (x : Int) : List Int := if s then [x] else []
def mg (s1 s2 s3 : Bool) : Nat → List Int → List Int → List Int
  | 0, _, _ => []
  | _ + 1, [], [] => []
  | n + 1, x :: a, [] => opt s1 x ++ mg s1 s2 s3 n a []
  | n + 1, [], y :: b => opt s2 y ++ mg s1 s2 s3 n [] b
  | n + 1, x :: a, y :: b => if x < y then opt s1 x ++ mg s1 s2 s3 n a (y :: b) else if y < x then opt s2 y ++ mg s1 s2 s3 n (x :: a) b else opt s3 x ++ mg s1 s2 s3 n a b
theorem mg_enough (s1 s2 s3 : Bool) : ∀ (n m : Nat) (a b : List Int), a.length + b.length ≤ n → a.length + b.length ≤ m → mg s1 s2 s3 m a b = mg s1 s2 s3 n a b
  | 0, m, a, b, h, _ => by
    have ha : a = [] := by cases a with | nil => rfl | cons x a => simp at h
    have hb : b = [] := by cases b with | nil => rfl | cons x b => simp at h
    subst ha; subst hb
    cases m <;> rfl
  | n + 1, 0, a, b, _, h => by
    have ha : a = [] := by cases a with | nil => rfl | cons x a => simp at h
    have hb : b = [] := by cases b with | nil => rfl | cons x b => simp at h
    subst ha; subst hb
    rfl
  | n + 1, m + 1, [], [], _, _ => rfl
  | n + 1, m + 1, x :: a, [], h, h' => by
    simp only [mg]
    rw [mg_enough s1 s2 s3 n m a [] (by simp at h ⊢; omega) (by simp at h' ⊢; omega)]
  | n + 1, m + 1, [], y :: b, h, h' => by
    simp only [mg]
    rw [mg_enough s1 s2 s3 n m [] b (by simp at h ⊢; omega) (by simp at h' ⊢; omega)]
  | n + 1, m + 1, x :: a, y :: b, h, h' => by
    simp only [mg]
    rw [mg_enough s1 s2 s3 n m a (y :: b) (by simp at h ⊢; omega) (by simp at h' ⊢; omega), mg_enough s1 s2 s3 n m (x :: a) b (by simp at h ⊢; omega) (by simp at h' ⊢; omega), mg_enough s1 s2 s3 n m a b (by simp at h ⊢; omega) (by simp at h' ⊢; omega)]
theorem Rd.tail {k : IntKind} {w : World} {ad : Addr} {x : Int} {l : List Int} (h : Rd k w (some ad) (x :: l)) : Rd k w (some ⟨ad.block, ad.off + 1, none⟩) l := by
  have := h.drop 1
  exact this
theorem Rd.head {k : IntKind} {w : World} {A : Option Addr} {x : Int} {l : List Int} (h : Rd k w A (x :: l)) : ∃ ad, A = some ad ∧ ad.block < w.heap.size ∧ w.cell? ad = some (.int k x) := by
  obtain ⟨ad, e, h1, h2⟩ := h 0 (by simp)
  refine ⟨ad, e, h1, ?_⟩
  have : ad.add 0 = ad := by unfold Addr.add; simp
  rw [this] at h2
  exact h2
set_option maxRecDepth 100000 in
set_option maxHeartbeats 4000000 in
theorem merge16 (s : Int) (s1 s2 s3 : Bool) (e1 : bits .and .i64 s 1 = if s1 then 1 else 0) (e2 : bits .and .i64 s 2 = if s2 then 2 else 0) (e3 : bits .and .i64 s 4 = if s3 then 4 else 0)
    (A B : Option Addr) (ca cb : Nat) (a b : List Int) (w : World) (ha : Rd .u16 w A a) (hb : Rd .u16 w B b) (hca : a.length ≤ ca) (hcb : b.length ≤ cb) (hn : a.length + b.length ≤ 1000000) :
    Calls Tryz.prog 61 #[.slice A a.length ca, .slice B b.length cb, .int .i64 s] w fun e w' => ∃ v, e = .returned v ∧ Own .u16 43 w' w.heap.size v (mg s1 s2 s3 (a.length + b.length) a b) ∧ Below w.heap.size w w' := by
  obtain ⟨i0, hi, hz0, hz1, hz2⟩ := info_parts u16_info
  have HA := Lib.hid ha
  have HB := Lib.hid hb
  have HCA := Lib.hid hca
  have HCB := Lib.hid hcb
  have HN := Lib.hid hn
  have E1 := Lib.hid e1
  have E2 := Lib.hid e2
  have E3 := Lib.hid e3
  clear ha hb hca hcb hn e1 e2 e3
  go_enter Tryz.func61, Tryz.ntmps61
  go_wp2
  go_loopw [0, 1, 7, 8, 9] (fun v0 v1 v7 _ _ wk => ∃ (A' B' : Option Addr) (ca' cb' : Nat) (la lb acc : List Int), v0 = .slice A' la.length ca' ∧ v1 = .slice B' lb.length cb' ∧ Hid (la.length ≤ ca') ∧ Hid (lb.length ≤ cb') ∧ Hid (Rd .u16 w A' la) ∧ Hid (Rd .u16 w B' lb) ∧ Hid (Own .u16 43 wk w.heap.size v7 acc) ∧ Hid (acc ++ mg s1 s2 s3 (la.length + lb.length) la lb = mg s1 s2 s3 (a.length + b.length) a b) ∧ Hid (Below w.heap.size w wk) ∧ Hid (acc.length + la.length + lb.length ≤ 1000000)) (fun v0 v1 _ _ _ _ => (match v0 with | .slice _ n _ => n | _ => 0) + (match v1 with | .slice _ n _ => n | _ => 0))
  case atStart => exact ⟨A, B, ca, cb, a, b, [], rfl, rfl, HCA.out, HCB.out, HA.out, HB.out, Own.nil _ _ _ _, rfl, Below.refl _ _, by have := HN.out; simp; omega⟩
  case round =>
    obtain ⟨A', B', ca', cb', la, lb, acc, rfl, rfl, HCa, HCb, HRa, HRb, HO, HT, HBl, HLn⟩ := hrel
    rcases la with _ | ⟨x, la⟩
    · rcases lb with _ | ⟨y, lb⟩
      · go_wp2
        go_ret
        have := HT.out
        simp [mg] at this
        exact ⟨_, rfl, by rw [← this]; exact HO.out, HBl.out⟩
      · have hb0 : ((lb.length : Int) + 1 == 0) = false := by rw [beq_eq_false_iff_ne]; omega
        have hb1 : (0 : Int) < (lb.length : Int) + 1 := by omega
        obtain ⟨pb, rfl, hpb, hxb⟩ := HRb.out.head
        have hxb' := (HBl.out.cell (p := pb) hpb).trans hxb
        clear hxb
        go_upto_block 2 with fail
        go_cut [0, 1, 8, 9] (fun v0 v1 v8 v9 wx => ∃ (A1 B1 : Option Addr) (c1 d1 : Nat) (kk : Int) (l1 l2 : List Int) (v : Int) (sf : Bool), v0 = .slice A1 l1.length c1 ∧ v1 = .slice B1 l2.length d1 ∧ v8 = .int .i64 kk ∧ v9 = .int .u16 v ∧ Hid (bits .and .i64 s kk = if sf then kk else 0) ∧ Hid (kk ≠ 0) ∧ Hid (l1.length ≤ c1) ∧ Hid (l2.length ≤ d1) ∧ Hid (Rd .u16 w A1 l1) ∧ Hid (Rd .u16 w B1 l2) ∧ Hid ((acc ++ opt sf v) ++ mg s1 s2 s3 (l1.length + l2.length) l1 l2 = mg s1 s2 s3 (a.length + b.length) a b) ∧ Hid (acc.length + 1 + l1.length + l2.length ≤ 1000000) ∧ Hid (l1.length + l2.length < ([] : List Int).length + (y :: lb).length) ∧ ∃ n, wx = wr.drewN n)
        case rest =>
          obtain ⟨A1, B1, c1, d1, kk, l1, l2, v, sf, rfl, rfl, rfl, rfl, EK, HKK, HLA, HLB, HRA, HRB, HTN, HLN, HMS, nn, rfl⟩ := hcut
          have hbs := HBl.out.size
          cases sf
          · have e1 := EK.out
            simp only [Bool.false_eq_true, if_false] at e1
            have HTM := Lib.hid (show acc ++ mg _ _ _ _ _ _ = _ from by have := HTN.out; simpa only [opt, Bool.false_eq_true, if_false, List.append_nil] using this)
            go_wp2
            go_roundw
            case rel => exact ⟨_, _, _, _, l1, l2, acc, rfl, rfl, HLA.out, HLB.out, HRA.out, HRB.out, HO.out, HTM.out, (below_drewN HBl.out _), Lib.hid (by have := HLN.out; omega)⟩
            case measure => exact HMS.out
          · have e1 := EK.out
            simp only [if_true] at e1
            have hkk : (kk == 0) = false := by rw [beq_eq_false_iff_ne]; exact HKK.out
            have HTM := Lib.hid (show acc ++ [v] ++ mg _ _ _ _ _ _ = _ from by have := HTN.out; simpa only [opt, if_true] using this)
            have HG1 := Lib.hid (show (acc.length + 1) * 2 ≤ 140737488355328 by have := HLN.out; omega)
            have HG3 := Lib.hid (show acc.length + 1 ≤ maxLen by have := HLN.out; unfold maxLen; omega)
            have HG2 := Lib.hid (fun (n : Nat) (o : Obj) => Below.size (B := w.heap.size) ((below_drewN HBl.out n).alloc hbs o))
            have HLEN := HLN
            go_wp2_with (at_builtin; refine wpList_push w.heap.size _ _ v _ _ _ rfl rfl Tryz.underlying45 hi hz0 hz1 hz2 rfl rfl rfl (heap_alloc_new _ _) (HO.out.below ((below_drewN (Below.refl _ _) _).alloc (Nat.le_refl _) _)) (HG2.out _ _) HG1.out HG3.out ?_; intro v1 w1 ho1 hg1 _)
            go_roundw
            case rel => exact ⟨_, _, _, _, l1, l2, acc ++ [v], rfl, rfl, HLA.out, HLB.out, HRA.out, HRB.out, ho1, HTM.out, (Below.alloc (below_drewN HBl.out _) hbs _).grown hg1 (by simp; omega) (fun g hgk => (HO.out.block g hgk).1), by rw [List.length_append]; exact HLEN.out⟩
            case measure => exact HMS.out
        case first =>
        have HTN := Lib.hid (show (acc ++ opt s2 y) ++ mg s1 s2 s3 (([] : List Int).length + lb.length) [] lb = mg s1 s2 s3 (a.length + b.length) a b from by rw [← HT.out, List.append_assoc, List.length_nil, Nat.zero_add, Nat.zero_add, List.length_cons]; rfl)
        have HLN := Lib.hid (show acc.length + 1 + ([] : List Int).length + lb.length ≤ 1000000 by have := HLn.out; simp only [List.length_cons, List.length_nil] at this ⊢; omega)
        have HLA := HCa
        have HRA := HRa
        have HLB := Lib.hid (show lb.length ≤ cb' - 1 by have := HCb.out; simp only [List.length_cons] at this; omega)
        by_cases hc : cb' = 1
        · have hl0 : lb = [] := by have := HCb.out; rcases lb with _ | ⟨z, lb⟩; rfl; simp only [List.length_cons] at this; omega
          subst hc
          subst hl0
          have HRB := Lib.hid (Rd.nil .u16 w (some pb))
          go_wp2
          go_quiet (fail)
          go_wp2
          go_quiet (fail)
          go_wp2
          go_quiet (fail)
          go_wp2
          go_meet
          exact ⟨_, _, _, _, 2, [], [], y, s2, rfl, rfl, rfl, rfl, E2.out, Lib.hid (by decide), HLA.out, HLB.out, HRA.out, HRB.out, HTN.out, HLN.out, Lib.hid (by simp only [List.length_cons, List.length_nil]; omega), _, by simp only [World.drewN_drewN]; rfl⟩
        · have hc2 : (1 : Int) < cb' := by have := HCb.out; simp only [List.length_cons] at this; omega
          have HRB := Lib.hid HRb.out.tail
          go_wp2
          go_quiet (fail)
          go_wp2
          go_quiet (fail)
          go_wp2
          go_quiet (fail)
          go_wp2
          go_meet
          exact ⟨_, _, _, _, 2, [], lb, y, s2, rfl, rfl, rfl, rfl, E2.out, Lib.hid (by decide), HLA.out, HLB.out, HRA.out, HRB.out, HTN.out, HLN.out, Lib.hid (by simp only [List.length_cons, List.length_nil]; omega), _, by simp only [World.drewN_drewN]; rfl⟩
    · have ha0 : ((la.length : Int) + 1 == 0) = false := by rw [beq_eq_false_iff_ne]; omega
      have ha1 : (0 : Int) < (la.length : Int) + 1 := by omega
      obtain ⟨pa, rfl, hpa, hxa⟩ := HRa.out.head
      have hxa' := (HBl.out.cell (p := pa) hpa).trans hxa
      clear hxa
      rcases lb with _ | ⟨y, lb⟩
      · go_upto_block 2 with fail
        go_cut [0, 1, 8, 9] (fun v0 v1 v8 v9 wx => ∃ (A1 B1 : Option Addr) (c1 d1 : Nat) (kk : Int) (l1 l2 : List Int) (v : Int) (sf : Bool), v0 = .slice A1 l1.length c1 ∧ v1 = .slice B1 l2.length d1 ∧ v8 = .int .i64 kk ∧ v9 = .int .u16 v ∧ Hid (bits .and .i64 s kk = if sf then kk else 0) ∧ Hid (kk ≠ 0) ∧ Hid (l1.length ≤ c1) ∧ Hid (l2.length ≤ d1) ∧ Hid (Rd .u16 w A1 l1) ∧ Hid (Rd .u16 w B1 l2) ∧ Hid ((acc ++ opt sf v) ++ mg s1 s2 s3 (l1.length + l2.length) l1 l2 = mg s1 s2 s3 (a.length + b.length) a b) ∧ Hid (acc.length + 1 + l1.length + l2.length ≤ 1000000) ∧ Hid (l1.length + l2.length < (x :: la).length + ([] : List Int).length) ∧ ∃ n, wx = wr.drewN n)
        case rest =>
          obtain ⟨A1, B1, c1, d1, kk, l1, l2, v, sf, rfl, rfl, rfl, rfl, EK, HKK, HLA, HLB, HRA, HRB, HTN, HLN, HMS, nn, rfl⟩ := hcut
          have hbs := HBl.out.size
          cases sf
          · have e1 := EK.out
            simp only [Bool.false_eq_true, if_false] at e1
            have HTM := Lib.hid (show acc ++ mg _ _ _ _ _ _ = _ from by have := HTN.out; simpa only [opt, Bool.false_eq_true, if_false, List.append_nil] using this)
            go_wp2
            go_roundw
            case rel => exact ⟨_, _, _, _, l1, l2, acc, rfl, rfl, HLA.out, HLB.out, HRA.out, HRB.out, HO.out, HTM.out, (below_drewN HBl.out _), Lib.hid (by have := HLN.out; omega)⟩
            case measure => exact HMS.out
          · have e1 := EK.out
            simp only [if_true] at e1
            have hkk : (kk == 0) = false := by rw [beq_eq_false_iff_ne]; exact HKK.out
            have HTM := Lib.hid (show acc ++ [v] ++ mg _ _ _ _ _ _ = _ from by have := HTN.out; simpa only [opt, if_true] using this)
            have HG1 := Lib.hid (show (acc.length + 1) * 2 ≤ 140737488355328 by have := HLN.out; omega)
            have HG3 := Lib.hid (show acc.length + 1 ≤ maxLen by have := HLN.out; unfold maxLen; omega)
            have HG2 := Lib.hid (fun (n : Nat) (o : Obj) => Below.size (B := w.heap.size) ((below_drewN HBl.out n).alloc hbs o))
            have HLEN := HLN
            go_wp2_with (at_builtin; refine wpList_push w.heap.size _ _ v _ _ _ rfl rfl Tryz.underlying45 hi hz0 hz1 hz2 rfl rfl rfl (heap_alloc_new _ _) (HO.out.below ((below_drewN (Below.refl _ _) _).alloc (Nat.le_refl _) _)) (HG2.out _ _) HG1.out HG3.out ?_; intro v1 w1 ho1 hg1 _)
            go_roundw
            case rel => exact ⟨_, _, _, _, l1, l2, acc ++ [v], rfl, rfl, HLA.out, HLB.out, HRA.out, HRB.out, ho1, HTM.out, (Below.alloc (below_drewN HBl.out _) hbs _).grown hg1 (by simp; omega) (fun g hgk => (HO.out.block g hgk).1), by rw [List.length_append]; exact HLEN.out⟩
            case measure => exact HMS.out
        case first =>
        have HTN := Lib.hid (show (acc ++ opt s1 x) ++ mg s1 s2 s3 (la.length + ([] : List Int).length) la [] = mg s1 s2 s3 (a.length + b.length) a b from by rw [← HT.out, List.append_assoc, List.length_nil, Nat.add_zero, Nat.add_zero, List.length_cons]; rfl)
        have HLN := Lib.hid (show acc.length + 1 + la.length + ([] : List Int).length ≤ 1000000 by have := HLn.out; simp only [List.length_cons, List.length_nil] at this ⊢; omega)
        have HLA := Lib.hid (show la.length ≤ ca' - 1 by have := HCa.out; simp only [List.length_cons] at this; omega)
        have HLB := HCb
        have HRB := HRb
        by_cases hc : ca' = 1
        · have hl0 : la = [] := by have := HCa.out; rcases la with _ | ⟨z, la⟩; rfl; simp only [List.length_cons] at this; omega
          subst hc
          subst hl0
          have HRA := Lib.hid (Rd.nil .u16 w (some pa))
          go_wp2
          go_quiet (fail)
          go_wp2
          go_quiet (fail)
          go_wp2
          go_meet
          exact ⟨_, _, _, _, 1, [], [], x, s1, rfl, rfl, rfl, rfl, E1.out, Lib.hid (by decide), HLA.out, HLB.out, HRA.out, HRB.out, HTN.out, HLN.out, Lib.hid (by simp only [List.length_cons, List.length_nil]; omega), _, by simp only [World.drewN_drewN]; rfl⟩
        · have hc2 : (1 : Int) < ca' := by have := HCa.out; simp only [List.length_cons] at this; omega
          have HRA := Lib.hid HRa.out.tail
          go_wp2
          go_quiet (fail)
          go_wp2
          go_quiet (fail)
          go_wp2
          go_meet
          exact ⟨_, _, _, _, 1, la, [], x, s1, rfl, rfl, rfl, rfl, E1.out, Lib.hid (by decide), HLA.out, HLB.out, HRA.out, HRB.out, HTN.out, HLN.out, Lib.hid (by simp only [List.length_cons, List.length_nil]; omega), _, by simp only [World.drewN_drewN]; rfl⟩
      · have hb0 : ((lb.length : Int) + 1 == 0) = false := by rw [beq_eq_false_iff_ne]; omega
        have hb1 : (0 : Int) < (lb.length : Int) + 1 := by omega
        obtain ⟨pb, rfl, hpb, hxb⟩ := HRb.out.head
        have hxb' := (HBl.out.cell (p := pb) hpb).trans hxb
        clear hxb
        go_upto_block 2 with fail
        go_cut [0, 1, 8, 9] (fun v0 v1 v8 v9 wx => ∃ (A1 B1 : Option Addr) (c1 d1 : Nat) (kk : Int) (l1 l2 : List Int) (v : Int) (sf : Bool), v0 = .slice A1 l1.length c1 ∧ v1 = .slice B1 l2.length d1 ∧ v8 = .int .i64 kk ∧ v9 = .int .u16 v ∧ Hid (bits .and .i64 s kk = if sf then kk else 0) ∧ Hid (kk ≠ 0) ∧ Hid (l1.length ≤ c1) ∧ Hid (l2.length ≤ d1) ∧ Hid (Rd .u16 w A1 l1) ∧ Hid (Rd .u16 w B1 l2) ∧ Hid ((acc ++ opt sf v) ++ mg s1 s2 s3 (l1.length + l2.length) l1 l2 = mg s1 s2 s3 (a.length + b.length) a b) ∧ Hid (acc.length + 1 + l1.length + l2.length ≤ 1000000) ∧ Hid (l1.length + l2.length < (x :: la).length + (y :: lb).length) ∧ ∃ n, wx = wr.drewN n)
        case rest =>
          obtain ⟨A1, B1, c1, d1, kk, l1, l2, v, sf, rfl, rfl, rfl, rfl, EK, HKK, HLA, HLB, HRA, HRB, HTN, HLN, HMS, nn, rfl⟩ := hcut
          have hbs := HBl.out.size
          cases sf
          · have e1 := EK.out
            simp only [Bool.false_eq_true, if_false] at e1
            have HTM := Lib.hid (show acc ++ mg _ _ _ _ _ _ = _ from by have := HTN.out; simpa only [opt, Bool.false_eq_true, if_false, List.append_nil] using this)
            go_wp2
            go_roundw
            case rel => exact ⟨_, _, _, _, l1, l2, acc, rfl, rfl, HLA.out, HLB.out, HRA.out, HRB.out, HO.out, HTM.out, (below_drewN HBl.out _), Lib.hid (by have := HLN.out; omega)⟩
            case measure => exact HMS.out
          · have e1 := EK.out
            simp only [if_true] at e1
            have hkk : (kk == 0) = false := by rw [beq_eq_false_iff_ne]; exact HKK.out
            have HTM := Lib.hid (show acc ++ [v] ++ mg _ _ _ _ _ _ = _ from by have := HTN.out; simpa only [opt, if_true] using this)
            have HG1 := Lib.hid (show (acc.length + 1) * 2 ≤ 140737488355328 by have := HLN.out; omega)
            have HG3 := Lib.hid (show acc.length + 1 ≤ maxLen by have := HLN.out; unfold maxLen; omega)
            have HG2 := Lib.hid (fun (n : Nat) (o : Obj) => Below.size (B := w.heap.size) ((below_drewN HBl.out n).alloc hbs o))
            have HLEN := HLN
            go_wp2_with (at_builtin; refine wpList_push w.heap.size _ _ v _ _ _ rfl rfl Tryz.underlying45 hi hz0 hz1 hz2 rfl rfl rfl (heap_alloc_new _ _) (HO.out.below ((below_drewN (Below.refl _ _) _).alloc (Nat.le_refl _) _)) (HG2.out _ _) HG1.out HG3.out ?_; intro v1 w1 ho1 hg1 _)
            go_roundw
            case rel => exact ⟨_, _, _, _, l1, l2, acc ++ [v], rfl, rfl, HLA.out, HLB.out, HRA.out, HRB.out, ho1, HTM.out, (Below.alloc (below_drewN HBl.out _) hbs _).grown hg1 (by simp; omega) (fun g hgk => (HO.out.block g hgk).1), by rw [List.length_append]; exact HLEN.out⟩
            case measure => exact HMS.out
        case first =>
        by_cases hlt : x < y
        · have HTN := Lib.hid (show (acc ++ opt s1 x) ++ mg s1 s2 s3 (la.length + (y :: lb).length) la (y :: lb) = mg s1 s2 s3 (a.length + b.length) a b from by rw [← HT.out, List.append_assoc, show (x :: la).length + (y :: lb).length = (la.length + (y :: lb).length) + 1 by simp only [List.length_cons]; omega, mg, if_pos hlt])
          have HLN := Lib.hid (show acc.length + 1 + la.length + (y :: lb).length ≤ 1000000 by have := HLn.out; simp only [List.length_cons] at this ⊢; omega)
          have HLA := Lib.hid (show la.length ≤ ca' - 1 by have := HCa.out; simp only [List.length_cons] at this; omega)
          have HLB := HCb
          have HRB := HRb
          by_cases hc : ca' = 1
          · have hl0 : la = [] := by have := HCa.out; rcases la with _ | ⟨z, la⟩; rfl; simp only [List.length_cons] at this; omega
            subst hc
            subst hl0
            have HRA := Lib.hid (Rd.nil .u16 w (some pa))
            go_wp2
            go_quiet (fail)
            go_wp2
            go_quiet (fail)
            go_wp2
            go_meet
            exact ⟨_, _, _, _, 1, [], y :: lb, x, s1, rfl, rfl, rfl, rfl, E1.out, Lib.hid (by decide), HLA.out, HLB.out, HRA.out, HRB.out, HTN.out, HLN.out, Lib.hid (by simp only [List.length_cons, List.length_nil]; omega), _, by simp only [World.drewN_drewN]; rfl⟩
          · have hc2 : (1 : Int) < ca' := by have := HCa.out; simp only [List.length_cons] at this; omega
            have HRA := Lib.hid HRa.out.tail
            go_wp2
            go_quiet (fail)
            go_wp2
            go_quiet (fail)
            go_wp2
            go_meet
            exact ⟨_, _, _, _, 1, la, y :: lb, x, s1, rfl, rfl, rfl, rfl, E1.out, Lib.hid (by decide), HLA.out, HLB.out, HRA.out, HRB.out, HTN.out, HLN.out, Lib.hid (by simp only [List.length_cons, List.length_nil]; omega), _, by simp only [World.drewN_drewN]; rfl⟩
        · by_cases hgt : y < x
          · have HTN := Lib.hid (show (acc ++ opt s2 y) ++ mg s1 s2 s3 ((x :: la).length + lb.length) (x :: la) lb = mg s1 s2 s3 (a.length + b.length) a b from by rw [← HT.out, List.append_assoc, show (x :: la).length + (y :: lb).length = ((x :: la).length + lb.length) + 1 by simp only [List.length_cons]; omega, mg, if_neg hlt, if_pos hgt])
            have HLN := Lib.hid (show acc.length + 1 + (x :: la).length + lb.length ≤ 1000000 by have := HLn.out; simp only [List.length_cons] at this ⊢; omega)
            have HLA := HCa
            have HRA := HRa
            have HLB := Lib.hid (show lb.length ≤ cb' - 1 by have := HCb.out; simp only [List.length_cons] at this; omega)
            by_cases hc : cb' = 1
            · have hl0 : lb = [] := by have := HCb.out; rcases lb with _ | ⟨z, lb⟩; rfl; simp only [List.length_cons] at this; omega
              subst hc
              subst hl0
              have HRB := Lib.hid (Rd.nil .u16 w (some pb))
              go_wp2
              go_quiet (fail)
              go_wp2
              go_quiet (fail)
              go_wp2
              go_quiet (fail)
              go_wp2
              go_meet
              exact ⟨_, _, _, _, 2, x :: la, [], y, s2, rfl, rfl, rfl, rfl, E2.out, Lib.hid (by decide), HLA.out, HLB.out, HRA.out, HRB.out, HTN.out, HLN.out, Lib.hid (by simp only [List.length_cons, List.length_nil]; omega), _, by simp only [World.drewN_drewN]; rfl⟩
            · have hc2 : (1 : Int) < cb' := by have := HCb.out; simp only [List.length_cons] at this; omega
              have HRB := Lib.hid HRb.out.tail
              go_wp2
              go_quiet (fail)
              go_wp2
              go_quiet (fail)
              go_wp2
              go_quiet (fail)
              go_wp2
              go_meet
              exact ⟨_, _, _, _, 2, x :: la, lb, y, s2, rfl, rfl, rfl, rfl, E2.out, Lib.hid (by decide), HLA.out, HLB.out, HRA.out, HRB.out, HTN.out, HLN.out, Lib.hid (by simp only [List.length_cons, List.length_nil]; omega), _, by simp only [World.drewN_drewN]; rfl⟩
          · obtain rfl : x = y := by omega
            have HTN := Lib.hid (show (acc ++ opt s3 x) ++ mg s1 s2 s3 (la.length + lb.length) la lb = mg s1 s2 s3 (a.length + b.length) a b from by
              rw [← HT.out, List.append_assoc, show (x :: la).length + (x :: lb).length = (la.length + lb.length + 1) + 1 by simp only [List.length_cons]; omega, mg, if_neg hlt, if_neg hgt, mg_enough s1 s2 s3 (la.length + lb.length) (la.length + lb.length + 1) la lb (Nat.le_refl _) (by omega)])
            have HLN := Lib.hid (show acc.length + 1 + la.length + lb.length ≤ 1000000 by have := HLn.out; simp only [List.length_cons] at this; omega)
            have HLA := Lib.hid (show la.length ≤ ca' - 1 by have := HCa.out; simp only [List.length_cons] at this; omega)
            have HLB := Lib.hid (show lb.length ≤ cb' - 1 by have := HCb.out; simp only [List.length_cons] at this; omega)
            by_cases hc : ca' = 1
            · have hl0 : la = [] := by have := HCa.out; rcases la with _ | ⟨z, la⟩; rfl; simp only [List.length_cons] at this; omega
              subst hc
              subst hl0
              have HRA := Lib.hid (Rd.nil .u16 w (some pa))
              by_cases hd : cb' = 1
              · have hl1 : lb = [] := by have := HCb.out; rcases lb with _ | ⟨z, lb⟩; rfl; simp only [List.length_cons] at this; omega
                subst hd
                subst hl1
                have HRB := Lib.hid (Rd.nil .u16 w (some pb))
                go_wp2
                go_quiet (fail)
                go_wp2
                go_quiet (fail)
                go_wp2
                go_quiet (fail)
                go_wp2
                go_meet
                exact ⟨_, _, _, _, 4, [], [], x, s3, rfl, rfl, rfl, rfl, E3.out, Lib.hid (by decide), HLA.out, HLB.out, HRA.out, HRB.out, HTN.out, HLN.out, Lib.hid (by simp only [List.length_cons, List.length_nil]; omega), _, by simp only [World.drewN_drewN]; rfl⟩
              · have hd2 : (1 : Int) < cb' := by have := HCb.out; simp only [List.length_cons] at this; omega
                have HRB := Lib.hid HRb.out.tail
                go_wp2
                go_quiet (fail)
                go_wp2
                go_quiet (fail)
                go_wp2
                go_quiet (fail)
                go_wp2
                go_meet
                exact ⟨_, _, _, _, 4, [], lb, x, s3, rfl, rfl, rfl, rfl, E3.out, Lib.hid (by decide), HLA.out, HLB.out, HRA.out, HRB.out, HTN.out, HLN.out, Lib.hid (by simp only [List.length_cons, List.length_nil]; omega), _, by simp only [World.drewN_drewN]; rfl⟩
            · have hc2 : (1 : Int) < ca' := by have := HCa.out; simp only [List.length_cons] at this; omega
              have HRA := Lib.hid HRa.out.tail
              by_cases hd : cb' = 1
              · have hl1 : lb = [] := by have := HCb.out; rcases lb with _ | ⟨z, lb⟩; rfl; simp only [List.length_cons] at this; omega
                subst hd
                subst hl1
                have HRB := Lib.hid (Rd.nil .u16 w (some pb))
                go_wp2
                go_quiet (fail)
                go_wp2
                go_quiet (fail)
                go_wp2
                go_quiet (fail)
                go_wp2
                go_meet
                exact ⟨_, _, _, _, 4, la, [], x, s3, rfl, rfl, rfl, rfl, E3.out, Lib.hid (by decide), HLA.out, HLB.out, HRA.out, HRB.out, HTN.out, HLN.out, Lib.hid (by simp only [List.length_cons, List.length_nil]; omega), _, by simp only [World.drewN_drewN]; rfl⟩
              · have hd2 : (1 : Int) < cb' := by have := HCb.out; simp only [List.length_cons] at this; omega
                have HRB := Lib.hid HRb.out.tail
                go_wp2
                go_quiet (fail)
                go_wp2
                go_quiet (fail)
                go_wp2
                go_quiet (fail)
                go_wp2
                go_meet
                exact ⟨_, _, _, _, 4, la, lb, x, s3, rfl, rfl, rfl, rfl, E3.out, Lib.hid (by decide), HLA.out, HLB.out, HRA.out, HRB.out, HTN.out, HLN.out, Lib.hid (by simp only [List.length_cons, List.length_nil]; omega), _, by simp only [World.drewN_drewN]; rfl⟩
end Go.Proofs.YtbjekoljipjldaaGreatDoor
namespace Go.Proofs.YtbjekoljipjldaaGreatDoor
set_option linter.unusedVariables false
set_option linter.unusedSimpArgs false
open Go.RowKit
attribute [local go_sem ↓] Go.wp_at_zero Go.wp_at_succ
def mgl (s1 s2 s3 : Bool) (a b : List Int) : List Int := mg s1 s2 s3 (a.length + b.length) a b
theorem opt_len (s : Bool) (x : Int) : (opt s x).length ≤ 1 := by cases s <;> simp [opt]
theorem mg_len (s1 s2 s3 : Bool) : ∀ (n : Nat) (a b : List Int), (mg s1 s2 s3 n a b).length ≤ a.length + b.length
  | 0, a, b => by simp [mg]
  | n + 1, [], [] => by simp [mg]
  | n + 1, x :: a, [] => by
    have := mg_len s1 s2 s3 n a []
    have := opt_len s1 x
    simp only [mg, List.length_append, List.length_cons, List.length_nil] at *; omega
  | n + 1, [], y :: b => by
    have := mg_len s1 s2 s3 n [] b
    have := opt_len s2 y
    simp only [mg, List.length_append, List.length_cons, List.length_nil] at *; omega
  | n + 1, x :: a, y :: b => by
    have h1 := mg_len s1 s2 s3 n a (y :: b)
    have h2 := mg_len s1 s2 s3 n (x :: a) b
    have h3 := mg_len s1 s2 s3 n a b
    have o1 := opt_len s1 x
    have o2 := opt_len s2 y
    have o3 := opt_len s3 x
    simp only [mg, List.length_cons] at *
    split
    · simp only [List.length_append] at *; omega
    · split <;> (simp only [List.length_append] at *; omega)
theorem mgl_len (s1 s2 s3 : Bool) (a b : List Int) : (mgl s1 s2 s3 a b).length ≤ a.length + b.length := mg_len _ _ _ _ _ _
/-- a slice of numbers: where it lies, its capacity, what it holds -/
structure Sl where
  A : Option Addr
  c : Nat
  l : List Int
/-- a slice of slices of numbers -/
def RdL (w : World) (A : Option Addr) (ls : List Sl) : Prop := ∀ (i : Nat) (hi : i < ls.length), ∃ ad, A = some ad ∧ ad.block < w.heap.size ∧ w.cell? (ad.add i) = some (.slice ls[i].A ls[i].l.length ls[i].c) ∧ Rd .u16 w ls[i].A ls[i].l ∧ ls[i].l.length ≤ ls[i].c
theorem RdL.below {w w' : World} {A : Option Addr} {ls : List Sl} (h : RdL w A ls) (hb : Below w.heap.size w w') : RdL w' A ls := fun i hi => by
  obtain ⟨ad, e, h1, h2, h3, h4⟩ := h i hi
  exact ⟨ad, e, Nat.lt_of_lt_of_le h1 hb.size, (hb.cell (p := ad.add i) (by rw [block_of_add]; exact h1)).trans h2, h3.below hb, h4⟩
def total (ls : List Sl) : Nat := (ls.map (·.l.length)).sum
theorem total_take (ls : List Sl) (k : Nat) (hk : k < ls.length) : total (ls.take (k + 1)) = total (ls.take k) + ls[k].l.length := by
  unfold total
  rw [List.take_succ_eq_append_getElem hk, List.map_append, List.sum_append]
  simp
theorem total_le (ls : List Sl) (k : Nat) : total (ls.take k) ≤ total ls := by
  unfold total
  conv => rhs; rw [← List.take_append_drop k ls, List.map_append, List.sum_append]
  omega
def orAll (ls : List Sl) : List Int := ls.foldl (fun acc x => mgl true true true acc x.l) []
theorem orAll_take (ls : List Sl) (k : Nat) (hk : k < ls.length) : orAll (ls.take (k + 1)) = mgl true true true (orAll (ls.take k)) ls[k].l := by
  unfold orAll
  rw [List.take_succ_eq_append_getElem hk, List.foldl_append]
  rfl
def andAll : List Sl → List Int
  | [] => []
  | x :: ls => ls.foldl (fun acc x => mgl false false true acc x.l) x.l
theorem andAll_take (ls : List Sl) (k : Nat) (h0 : 0 < k) (hk : k < ls.length) : andAll (ls.take (k + 1)) = mgl false false true (andAll (ls.take k)) ls[k].l := by
  rcases ls with _ | ⟨x, ls⟩
  · simp at hk
  · obtain ⟨j, rfl⟩ : ∃ j, k = j + 1 := ⟨k - 1, by omega⟩
    simp only [List.length_cons] at hk
    have hj : j < ls.length := by omega
    simp only [List.take_succ_cons, andAll, List.getElem_cons_succ]
    rw [List.take_succ_eq_append_getElem hj, List.foldl_append]
    rfl
theorem Own.rd {k : IntKind} {e : TypeId} {w : World} {base : Nat} {A : Option Addr} {n c : Nat} {l : List Int} (h : Own k e w base (.slice A n c) l) : Rd k w A l := by
  obtain ⟨A', c', e1, _, _, h2⟩ := h.form
  injection e1 with e1 e2 e3
  rw [e1]
  exact h2
theorem Own.formS {k : IntKind} {e : TypeId} {w : World} {base : Nat} {v : Value} {l : List Int} (h : Own k e w base v l) : ∃ A c, v = .slice A l.length c ∧ l.length ≤ c ∧ Rd k w A l ∧ Own k e w base (.slice A l.length c) l := by
  obtain ⟨A, c, rfl, h1, _, h2⟩ := h.form
  exact ⟨A, c, rfl, h1, h2, h⟩
theorem merged_or (A B : Option Addr) (ca cb : Nat) (a b : List Int) (w : World) (ha : Rd .u16 w A a) (hb : Rd .u16 w B b) (hca : a.length ≤ ca) (hcb : b.length ≤ cb) (hn : a.length + b.length ≤ 1000000) :
    Calls Tryz.prog 61 #[.slice A a.length ca, .slice B b.length cb, .int .i64 7] w fun e w' => ∃ A' c', e = .returned (.slice A' (mgl true true true a b).length c') ∧ (mgl true true true a b).length ≤ c' ∧ Hid (Own .u16 43 w' w.heap.size (.slice A' (mgl true true true a b).length c') (mgl true true true a b)) ∧ Below w.heap.size w w' :=
  (merge16 7 true true true (by decide) (by decide) (by decide) A B ca cb a b w ha hb hca hcb hn).mono fun e w' ⟨v, he, ho, hbl⟩ => by
    obtain ⟨A', c', hv, h1, h2, h3⟩ := ho.formS
    subst hv
    exact ⟨A', c', he, h1, h3, hbl⟩
theorem merged_and (A B : Option Addr) (ca cb : Nat) (a b : List Int) (w : World) (ha : Rd .u16 w A a) (hb : Rd .u16 w B b) (hca : a.length ≤ ca) (hcb : b.length ≤ cb) (hn : a.length + b.length ≤ 1000000) :
    Calls Tryz.prog 61 #[.slice A a.length ca, .slice B b.length cb, .int .i64 4] w fun e w' => ∃ A' c', e = .returned (.slice A' (mgl false false true a b).length c') ∧ (mgl false false true a b).length ≤ c' ∧ Hid (Own .u16 43 w' w.heap.size (.slice A' (mgl false false true a b).length c') (mgl false false true a b)) ∧ Below w.heap.size w w' :=
  (merge16 4 false false true (by decide) (by decide) (by decide) A B ca cb a b w ha hb hca hcb hn).mono fun e w' ⟨v, he, ho, hbl⟩ => by
    obtain ⟨A', c', hv, h1, h2, h3⟩ := ho.formS
    subst hv
    exact ⟨A', c', he, h1, h3, hbl⟩
theorem merged_less (A B : Option Addr) (ca cb : Nat) (a b : List Int) (w : World) (ha : Rd .u16 w A a) (hb : Rd .u16 w B b) (hca : a.length ≤ ca) (hcb : b.length ≤ cb) (hn : a.length + b.length ≤ 1000000) :
    Calls Tryz.prog 61 #[.slice A a.length ca, .slice B b.length cb, .int .i64 1] w fun e w' => ∃ A' c', e = .returned (.slice A' (mgl true false false a b).length c') ∧ (mgl true false false a b).length ≤ c' ∧ Hid (Own .u16 43 w' w.heap.size (.slice A' (mgl true false false a b).length c') (mgl true false false a b)) ∧ Below w.heap.size w w' :=
  (merge16 1 true false false (by decide) (by decide) (by decide) A B ca cb a b w ha hb hca hcb hn).mono fun e w' ⟨v, he, ho, hbl⟩ => by
    obtain ⟨A', c', hv, h1, h2, h3⟩ := ho.formS
    subst hv
    exact ⟨A', c', he, h1, h3, hbl⟩
theorem merged_xor (A B : Option Addr) (ca cb : Nat) (a b : List Int) (w : World) (ha : Rd .u16 w A a) (hb : Rd .u16 w B b) (hca : a.length ≤ ca) (hcb : b.length ≤ cb) (hn : a.length + b.length ≤ 1000000) :
    Calls Tryz.prog 61 #[.slice A a.length ca, .slice B b.length cb, .int .i64 3] w fun e w' => ∃ A' c', e = .returned (.slice A' (mgl true true false a b).length c') ∧ (mgl true true false a b).length ≤ c' ∧ Hid (Own .u16 43 w' w.heap.size (.slice A' (mgl true true false a b).length c') (mgl true true false a b)) ∧ Below w.heap.size w w' :=
  (merge16 3 true true false (by decide) (by decide) (by decide) A B ca cb a b w ha hb hca hcb hn).mono fun e w' ⟨v, he, ho, hbl⟩ => by
    obtain ⟨A', c', hv, h1, h2, h3⟩ := ho.formS
    subst hv
    exact ⟨A', c', he, h1, h3, hbl⟩
set_option maxRecDepth 100000 in
theorem arrLess (A B : Option Addr) (ca cb : Nat) (a b : List Int) (w : World) (ha : Rd .u16 w A a) (hb : Rd .u16 w B b) (hca : a.length ≤ ca) (hcb : b.length ≤ cb) (hn : a.length + b.length ≤ 1000000) :
    Calls Tryz.prog 45 #[.slice A a.length ca, .slice B b.length cb] w fun e w' => ∃ A' c', e = .returned (.slice A' (mgl true false false a b).length c') ∧ (mgl true false false a b).length ≤ c' ∧ Hid (Own .u16 43 w' w.heap.size (.slice A' (mgl true false false a b).length c') (mgl true false false a b)) ∧ Below w.heap.size w w' := by
  have HA := Lib.hid ha
  have HB := Lib.hid hb
  clear ha hb
  go_enter Tryz.func45, Tryz.ntmps45
  go_wp2_with fail
  refine (merged_less A B ca cb a b _ HA.out HB.out hca hcb hn).mono ?_
  rintro e w1 ⟨A', c', rfl, h1, HO, hbl⟩
  go_wp2
  go_ret
  exact ⟨A', c', rfl, h1, HO, hbl⟩
set_option maxRecDepth 100000 in
theorem arrXor (A B : Option Addr) (ca cb : Nat) (a b : List Int) (w : World) (ha : Rd .u16 w A a) (hb : Rd .u16 w B b) (hca : a.length ≤ ca) (hcb : b.length ≤ cb) (hn : a.length + b.length ≤ 1000000) :
    Calls Tryz.prog 48 #[.slice A a.length ca, .slice B b.length cb] w fun e w' => ∃ A' c', e = .returned (.slice A' (mgl true true false a b).length c') ∧ (mgl true true false a b).length ≤ c' ∧ Hid (Own .u16 43 w' w.heap.size (.slice A' (mgl true true false a b).length c') (mgl true true false a b)) ∧ Below w.heap.size w w' := by
  have HA := Lib.hid ha
  have HB := Lib.hid hb
  clear ha hb
  go_enter Tryz.func48, Tryz.ntmps48
  go_wp2_with fail
  refine (merged_xor A B ca cb a b _ HA.out HB.out hca hcb hn).mono ?_
  rintro e w1 ⟨A', c', rfl, h1, HO, hbl⟩
  go_wp2
  go_ret
  exact ⟨A', c', rfl, h1, HO, hbl⟩
set_option maxRecDepth 100000 in
set_option maxHeartbeats 1000000 in
theorem arrOr (A : Option Addr) (c : Nat) (ls : List Sl) (w : World) (hr : RdL w A ls) (hn : total ls ≤ 400000) (hl : ls.length ≤ 1000) :
    Calls Tryz.prog 36 #[.slice A ls.length c] w fun e w' => ∃ A' c', e = .returned (.slice A' (orAll ls).length c') ∧ (orAll ls).length ≤ c' ∧ Hid (Own .u16 43 w' w.heap.size (.slice A' (orAll ls).length c') (orAll ls)) ∧ Below w.heap.size w w' := by
  have HR := Lib.hid hr
  have HN := Lib.hid hn
  clear hr hn
  go_enter Tryz.func36, Tryz.ntmps36
  go_wp2
  go_loopw [3, 5, 8] (fun v3 _ v8 wk => ∃ (k : Nat) (acc : List Int) (A' : Option Addr) (c' : Nat), k ≤ ls.length ∧ v8 = .int .i64 k ∧ v3 = .slice A' acc.length c' ∧ Hid (acc = orAll (ls.take k)) ∧ Hid (acc.length ≤ total (ls.take k)) ∧ Hid (acc.length ≤ c') ∧ Hid (Own .u16 43 wk w.heap.size (.slice A' acc.length c') acc) ∧ Hid (Below w.heap.size w wk)) (fun _ _ v8 _ => ls.length - (intOf v8).toNat)
  case atStart => exact ⟨0, [], none, 0, Nat.zero_le _, rfl, rfl, rfl, Lib.hid (Nat.zero_le _), Nat.le_refl _, Own.nil _ _ _ _, Below.refl _ _⟩
  case round =>
    obtain ⟨k, acc, A', c', hk, rfl, rfl, HAC, HLE, HCC, HO, HB⟩ := hrel
    by_cases hlt : k < ls.length
    · have hki : (k : Int) < ls.length := by omega
      obtain ⟨ad, rfl, had, hcl, hrd, hcap⟩ := (HR.out k hlt)
      have hcl' := (HB.out.cell (p := ad.add k) (by rw [block_of_add]; exact had)).trans hcl
      have HT := Lib.hid (total_take ls k hlt)
      have HTL := Lib.hid (total_le ls (k + 1))
      have HOT := Lib.hid (orAll_take ls k hlt)
      obtain ⟨x, hx⟩ : ∃ x, ls[k] = x := ⟨_, rfl⟩
      rw [hx] at hcl' hrd hcap HT HOT
      have HRX := Lib.hid hrd
      have HCX := Lib.hid hcap
      clear hcl hrd hcap hx
      have RA := Lib.hid HO.out.rd
      have hsz := HB.out.size
      go_wp2_with fail
      refine (merged_or A' x.A c' x.c acc x.l _ RA.out (HRX.out.below (Below.mono HB.out (Nat.le_refl _))) HCC.out HCX.out (by have := HLE.out; have := HT.out; have := HTL.out; have := HN.out; omega)).mono ?_
      rintro e w2 ⟨A2, c2, rfl, hc2, HO2, hb2⟩
      have HB2 := Lib.hid (below_also HB.out hb2 hsz)
      have HC2 := Lib.hid hc2
      have HML := Lib.hid (mgl_len true true true acc x.l)
      clear hb2 hc2
      go_wp2
      go_roundw
      case rel => exact ⟨k + 1, mgl true true true acc x.l, A2, c2, by omega, by go_num, rfl, Lib.hid (by rw [HOT.out, ← HAC.out]), Lib.hid (by have h1 := HML.out; have h2 := HLE.out; have h3 := HT.out; omega), HC2.out, HO2.out.mono hsz, HB2.out⟩
      case measure => simp [intOf]; omega
    · obtain rfl : k = ls.length := by omega
      go_wp2
      go_ret
      have hacc := HAC.out
      rw [List.take_of_length_le (Nat.le_refl _)] at hacc
      subst hacc
      exact ⟨A', c', rfl, HCC.out, HO.out, HB.out⟩
set_option maxRecDepth 100000 in
set_option maxHeartbeats 2000000 in
theorem arrAnd (A : Option Addr) (c : Nat) (ls : List Sl) (w : World) (hr : RdL w A ls) (hn : total ls ≤ 400000) (hl : ls.length ≤ 1000) (hlc : ls.length ≤ c) (h0 : ls ≠ []) :
    Calls Tryz.prog 41 #[.slice A ls.length c] w fun e w' => ∃ A' c', e = .returned (.slice A' (andAll ls).length c') ∧ (andAll ls).length ≤ c' ∧ Hid (Own .u16 43 w' w.heap.size (.slice A' (andAll ls).length c') (andAll ls)) ∧ Below w.heap.size w w' := by
  have HR := Lib.hid hr
  have HN := Lib.hid hn
  have HLC := Lib.hid hlc
  have hpos : 0 < ls.length := by rcases ls with _ | ⟨x, ls⟩; exact absurd rfl h0; simp
  obtain ⟨ad, rfl, had, hcl, hrd, hcap⟩ := hr 0 hpos
  have hne : ((ls.length : Int) == 0) = false := by rw [beq_eq_false_iff_ne]; omega
  have hp1 : (1 : Int) ≤ ls.length := by omega
  have hc1 : (1 : Int) ≤ c := by omega
  rw [show ad.add 0 = ad by unfold Addr.add; simp] at hcl
  have HA1 := Lib.hid (show andAll (ls.take (0 + 1)) = ls[0].l by rcases ls with _ | ⟨x, ls⟩; exact absurd rfl h0; rfl)
  have HT1 := Lib.hid (total_take ls 0 hpos)
  have HTL := Lib.hid (total_le ls (0 + 1))
  obtain ⟨x0, hx0⟩ : ∃ x, ls[0] = x := ⟨_, rfl⟩
  rw [hx0] at hcl hrd hcap HA1 HT1
  have HRX := Lib.hid hrd
  clear hr hn hlc h0 hx0 hrd hcap
  go_enter Tryz.func41, Tryz.ntmps41
  go_wp2_with fail
  refine (clone16 x0.A x0.c x0.l _ HRX.out (by have := HT1.out; have := HTL.out; have := HN.out; omega)).mono ?_
  rintro e w1 ⟨v, rfl, ho, hb1⟩
  obtain ⟨A1, c1, rfl, hcc1, _, ho1⟩ := ho.formS
  have HO1 := Lib.hid ho1
  have HCC1 := Lib.hid hcc1
  have HB1 := Lib.hid hb1
  clear ho ho1 hcc1 hb1
  by_cases hone : ls.length = 1
  · have hall := HA1.out
    rw [List.take_of_length_le (by omega)] at hall
    have HCL := HLC.out
    obtain ⟨y, rfl⟩ : ∃ y, ls = [y] := by
      rcases ls with _ | ⟨y, _ | ⟨z, ls⟩⟩
      · simp at hone
      · exact ⟨y, rfl⟩
      · simp at hone
    simp only [List.length_cons, List.length_nil, Nat.zero_add, Int.natCast_one] at hne hp1 HCL ⊢
    have HALL := Lib.hid hall
    clear hone hne hp1 hall HA1 HT1 HTL HLC HN HR
    by_cases hcc : c = 1
    · subst hcc
      go_wp2
      go_loopw [3, 16] (fun v3 v16 wr => v16 = .int .i64 0 ∧ v3 = .slice A1 x0.l.length c1 ∧ wr = w1) (fun _ _ _ => 0)
      case atStart => exact ⟨rfl, rfl, rfl⟩
      case round =>
        obtain ⟨rfl, rfl, rfl⟩ := hrel
        go_wp2
        go_ret
        rw [HALL.out]
        exact ⟨A1, c1, rfl, HCC1.out, HO1.out, HB1.out⟩
    · have hcc2 : (1 : Int) < c := by omega
      go_wp2
      go_loopw [3, 16] (fun v3 v16 wr => v16 = .int .i64 0 ∧ v3 = .slice A1 x0.l.length c1 ∧ wr = w1) (fun _ _ _ => 0)
      case atStart => exact ⟨rfl, rfl, rfl⟩
      case round =>
        obtain ⟨rfl, rfl, rfl⟩ := hrel
        go_wp2
        go_ret
        rw [HALL.out]
        exact ⟨A1, c1, rfl, HCC1.out, HO1.out, HB1.out⟩
  · have h2 : (1 : Int) < ls.length := by omega
    have hc2 : (1 : Int) < c := by have := HLC.out; omega
    go_wp2
    go_loopw [3, 5, 16] (fun v3 _ v16 wk => ∃ (k : Nat) (acc : List Int) (A' : Option Addr) (c' : Nat), k ≤ ls.length - 1 ∧ v16 = .int .i64 k ∧ v3 = .slice A' acc.length c' ∧ Hid (acc = andAll (ls.take (k + 1))) ∧ Hid (acc.length ≤ total (ls.take (k + 1))) ∧ Hid (acc.length ≤ c') ∧ Hid (Own .u16 43 wk w.heap.size (.slice A' acc.length c') acc) ∧ Hid (Below w.heap.size w wk)) (fun _ _ v16 _ => ls.length - 1 - (intOf v16).toNat)
    case atStart => exact ⟨0, x0.l, A1, c1, Nat.zero_le _, rfl, rfl, Lib.hid HA1.out.symm, Lib.hid (by have := HT1.out; omega), HCC1.out, HO1.out, HB1.out⟩
    case round =>
      obtain ⟨k, acc, A', c', hk, rfl, rfl, HAC, HLE, HCC, HO, HB⟩ := hrel
      by_cases hlt : k < ls.length - 1
      · have hki : (k : Int) < ((ls.length - 1 : Nat) : Int) := by omega
        have hk1 : k + 1 < ls.length := by omega
        obtain ⟨ad', e', had', hcl2, hrd2, hcap2⟩ := (HR.out (k + 1) hk1)
        injection e' with e'
        subst e'
        have hcl' := (HB.out.cell (p := ad.add (k + 1)) (by rw [block_of_add]; exact had)).trans hcl2
        rw [show ad.add (k + 1) = ⟨ad.block, ad.off + 1 + k, none⟩ by unfold Addr.add; rw [if_neg (by omega)]; simp only [Addr.mk.injEq, and_true, true_and]; omega] at hcl'
        have HT := Lib.hid (total_take ls (k + 1) hk1)
        have HTL2 := Lib.hid (total_le ls (k + 1 + 1))
        have HOT := Lib.hid (andAll_take ls (k + 1) (by omega) hk1)
        obtain ⟨x, hx⟩ : ∃ x, ls[k + 1] = x := ⟨_, rfl⟩
        rw [hx] at hcl' hrd2 hcap2 HT HOT
        have HRX2 := Lib.hid hrd2
        have HCX := Lib.hid hcap2
        clear hcl2 hrd2 hcap2 hx
        have RA := Lib.hid HO.out.rd
        have hsz := HB.out.size
        go_wp2_with fail
        refine (merged_and A' x.A c' x.c acc x.l _ RA.out (HRX2.out.below (Below.mono HB.out (Nat.le_refl _))) HCC.out HCX.out (by have := HLE.out; have := HT.out; have := HTL2.out; have := HN.out; omega)).mono ?_
        rintro e w2 ⟨A2, c2, rfl, hc2, HO2, hb2⟩
        have HB2 := Lib.hid (below_also HB.out hb2 hsz)
        have HC2 := Lib.hid hc2
        have HML := Lib.hid (mgl_len false false true acc x.l)
        clear hb2 hc2
        go_wp2
        go_roundw
        case rel => exact ⟨k + 1, mgl false false true acc x.l, A2, c2, by omega, by go_num, rfl, Lib.hid (by rw [HOT.out, ← HAC.out]), Lib.hid (by have h1 := HML.out; have h2 := HLE.out; have h3 := HT.out; omega), HC2.out, HO2.out.mono hsz, HB2.out⟩
        case measure => simp [intOf]; omega
      · go_wp2
        go_ret
        have hacc := HAC.out
        rw [List.take_of_length_le (by omega)] at hacc
        subst hacc
        exact ⟨A', c', rfl, HCC.out, HO.out, HB.out⟩
end Go.Proofs.YtbjekoljipjldaaGreatDoor
