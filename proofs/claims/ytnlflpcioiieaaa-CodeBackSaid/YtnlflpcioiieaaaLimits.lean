/-
  The walk of the law CodeLimits.
-/
import Derived.Test.YtnlflpcioiieaaaAwake19
import Derived.Test.YtnlflpcioiieaaaParse
import Derived.Test.YtnlflpcioiieaaaCode3
import Derived.Test.YtnlflpcioiieaaaKeys
import Derived.Test.YtnlflpcioiieaaaZeros
import Derived.Test.YtnlflpcioiieaaaTake
import Derived.Test.YtnlflpcioiieaaaOpen
namespace Go.Proofs.Ytnlflpcioiieaaa
set_option linter.unusedVariables false
set_option linter.unusedSimpArgs false
open Go.RowKit

/-- keys' bytes are those of pairs without values -/
theorem gaps_gapsP : ∀ (l : List (Int × Int)) (last : Option Int), gaps last (l.map (·.1)) = gapsP false last l := by
  intro l
  induction l with
  | nil => intro last; cases last <;> rfl
  | cons x l ih =>
    intro last
    cases last with
    | none => simp only [List.map_cons, gaps, gapsP, ih, vals, Bool.false_eq_true, if_false, List.append_nil]
    | some a => simp only [List.map_cons, gaps, gapsP, ih, vals, Bool.false_eq_true, if_false, List.append_nil]
theorem keysR_bytesR (l : List (Int × Int)) : keysR (l.map (·.1)) = bytesR false l := by
  unfold keysR bytesR
  rw [gaps_gapsP, List.length_map]
  rfl
/-- keys one behind the other -/
def seqL (f : Nat) : Nat → List Int
  | 0 => []
  | n + 1 => (f : Int) :: seqL (f + 1) n
theorem seqL_len (n : Nat) : ∀ f, (seqL f n).length = n := by
  induction n with
  | zero => intro f; rfl
  | succ n ih => intro f; simp [seqL, ih]
theorem seqL_at (n : Nat) : ∀ f j, j < n → (seqL f n)[j]? = some (((f + j : Nat) : Int)) := by
  induction n with
  | zero => intro f j hj; omega
  | succ n ih =>
    intro f j hj
    rcases j with _ | j
    · rfl
    · simp only [seqL, List.getElem?_cons_succ]
      rw [ih (f + 1) j (by omega), show f + 1 + j = f + (j + 1) by omega]
theorem gaps_seq (n : Nat) : ∀ f : Nat, gaps (some (f : Int)) (seqL (f + 1) n) = some (List.replicate n 0) := by
  induction n with
  | zero => intro f; rfl
  | succ n ih =>
    intro f
    simp only [seqL, gaps]
    rw [if_neg (by omega), ih (f + 1), show ((f + 1 : Nat) : Int) - (f : Int) - 1 = 0 by omega]
    simp [num_small, List.replicate_succ]
theorem gaps_seq0 (f n : Nat) : gaps none (seqL f (n + 1)) = some (num f ++ List.replicate n 0) := by
  simp only [seqL, gaps]
  rw [gaps_seq]
  simp
theorem seqL_u64 (n : Nat) : ∀ f, f + n ≤ 18446744073709551615 → U64 (seqL f n) := by
  induction n with
  | zero => intro f _ x hx; simp [seqL] at hx
  | succ n ih =>
    intro f hf x hx
    rcases List.mem_cons.1 hx with rfl | hx
    · omega
    · exact ih (f + 1) (by omega) x hx
/-- the row while it is filled -/
def rowN (f N k : Nat) : List Value := (List.range N).map fun j => Value.int .u64 (if j < k then ((f + j : Nat) : Int) else 0)
theorem rowN_zero (f N : Nat) : rowN f N 0 = List.replicate N (.int .u64 0) := by
  apply List.ext_getElem?
  intro j
  simp only [rowN, List.getElem?_map, List.getElem?_replicate]
  by_cases hj : j < N
  · rw [List.getElem?_range hj, if_pos hj]; simp
  · rw [List.getElem?_eq_none (by simpa using hj), if_neg hj]; rfl
theorem rowN_at (f N k j : Nat) (hj : j < N) : (rowN f N k)[j]? = some (.int .u64 (if j < k then ((f + j : Nat) : Int) else 0)) := by
  simp only [rowN, List.getElem?_map, List.getElem?_range hj, Option.map_some]
theorem rowN_set (f N k : Nat) (hk : k < N) : (rowN f N k).set k (.int .u64 ((f : Int) + k)) = rowN f N (k + 1) := by
  apply List.ext_getElem?
  intro j
  by_cases hj : j < N
  · rw [List.getElem?_set, rowN_at f N (k + 1) j hj, rowN_at f N k j hj]
    by_cases h : k = j
    · subst h
      rw [if_pos rfl, if_pos (by simp [rowN, hk]), if_pos (by omega)]
      simp
    · rw [if_neg h]
      by_cases h2 : j < k
      · rw [if_pos h2, if_pos (by omega)]
      · rw [if_neg h2, if_neg (by omega)]
  · rw [List.getElem?_eq_none (by simp [rowN]; omega), List.getElem?_eq_none (by simp [rowN]; omega)]
theorem keys_b (A : Option Addr) (c m : Nat) (l : List Int) (w : World) (hm : l.length = m) (hB : U64 l) (hr : Rd .u64 w A l) (hlen : l.length ≤ 1000000) :
    Calls Try.prog 17 #[.slice A m c] w fun e w' => ∃ (B : Option Addr) (d : Nat) (p : List Int) (er : Int), e = .returned (.tuple #[.slice B p.length d, .int .i64 er]) ∧ Hid (keysR l = (p, er)) ∧ p.length ≤ d ∧ Rd .u8 w' B p ∧ Below w.heap.size w w' := by
  subst hm
  refine (keys_any A c l w hB hr hlen).mono ?_
  rintro e w' ⟨v, rfl, ho, hb⟩
  obtain ⟨B, d, rfl, hd, _, hr'⟩ := ho.form
  exact ⟨B, d, _, _, rfl, rfl, hd, hr', hb⟩

set_option maxHeartbeats 4000000 in
set_option maxRecDepth 100000 in
theorem limits_walk (m first : Nat) (W : World) (hm : m < 256) (hf : first < 18446744073709551616) :
    Calls Try.prog 4 #[.int .u8 m, .int .u64 first] W fun e W' => e = .returned (.bool true) ∧ Below W.heap.size W W' := by
  have HF := Lib.hid hf
  clear hf
  obtain ⟨N, hN⟩ : ∃ N : Nat, 262143 + (m : Int) % 3 = N := ⟨262143 + m % 3, by omega⟩
  obtain ⟨f, hf⟩ : ∃ f : Nat, (first : Int) % 1099511627776 = f := ⟨first % 1099511627776, by omega⟩
  have hN1 : N ≤ 262145 := by omega
  have hN0 : 262143 ≤ N := by omega
  have hf1 : f < 1099511627776 := by omega
  obtain ⟨i0, hi, hz0, hz1, hz2⟩ := info_parts words_info
  go_enter Try.func4, Try.ntmps4
  go_wp2_with fail
  refine (awake19_any _).mono ?_
  rintro e w1 ⟨rfl, hb1⟩
  have hb2 := hb1.alloc hb1.size (.cells (Array.replicate N (Value.int .u64 0)) 22)
  have hh2 := heap_alloc_new w1 (.cells (Array.replicate N (Value.int .u64 0)) 22)
  rw [show Array.replicate N (Value.int .u64 0) = (rowN f N 0).toArray by rw [rowN_zero]; simp] at hh2 hb2
  have HB2 := Lib.hid hb2
  have HH2 := Lib.hid hh2
  have hbs := hb1.size
  clear hb2 hh2 hb1
  go_wp2_with (refine wpList_makeInts (k := .u64) N _ _ rfl rfl Try.underlying24 hi hz0 hz1 rfl rfl ?g1 ?g2 ?_; (case g1 => rw [hz2]; omega); (case g2 => simp [maxLen]; omega))
  rw [show Array.replicate N (Value.int .u64 0) = (rowN f N 0).toArray by rw [rowN_zero]; simp]
  obtain ⟨b, hbb⟩ : ∃ b, w1.heap.size = b := ⟨_, rfl⟩
  rw [hbb] at HH2 hbs ⊢
  go_loopw [29] (fun v29 wr => ∃ k : Nat, k ≤ N ∧ v29 = .int .i64 k ∧ Hid (wr.heap[b]? = some (.cells (rowN f N k).toArray 22 (0, 0))) ∧ Hid (Below W.heap.size W wr)) (fun v29 _ => N - (intOf v29).toNat)
  case atStart => exact ⟨0, Nat.zero_le _, rfl, HH2.out, HB2.out⟩
  case round =>
    obtain ⟨k, hk, rfl, HH, HB⟩ := hrel
    by_cases hlt : k < N
    · have x0 := blk_cell HH.out k (by rw [List.getElem?_toArray]; exact rowN_at f N k k hlt)
      have xf := blk_free HH.out k
      have xw : IntKind.u64.wrap ((f : Int) + (k : Int)) = (f : Int) + (k : Int) := by rw [IntKind.wrap_u64]; omega
      go_wp2
      go_roundw
      case rel => exact ⟨k + 1, by omega, by go_num, Lib.hid (by have := blk_set HH.out k (.int .u64 ((f : Int) + k)); rw [← rowN_set f N k hlt]; simpa using this), HB.out.setCell (p := ⟨b, k, none⟩) hbs _⟩
      case measure => simp [intOf]; omega
    · obtain rfl : k = N := by omega
      obtain ⟨n, hn⟩ : ∃ n, k = n + 1 := ⟨k - 1, by omega⟩
      have hrd : Rd .u64 wr (some ⟨b, 0, none⟩) (seqL f k) := fun i hi => by
        rw [seqL_len] at hi
        refine ⟨_, rfl, blk_lt HH.out, ?_⟩
        rw [add_mk]
        have := blk_cell HH.out i (by rw [List.getElem?_toArray]; exact rowN_at f k k i hi)
        rw [this, if_pos hi, List.getD_eq_getElem?_getD, seqL_at _ _ _ hi]
        rfl
      have HRD := Lib.hid hrd
      have HKL := Lib.hid (seqL_len k f)
      have HU := Lib.hid (seqL_u64 k f (by omega))
      have HG := Lib.hid (show gaps none (seqL f k) = some (num f ++ List.replicate n 0) by rw [hn]; exact gaps_seq0 f n)
      have HNN := Lib.hid hn
      clear hrd hN HF hn
      go_wp2_with fail
      refine (keys_b _ _ _ (seqL f k) _ HKL.out HU.out HRD.out (by rw [HKL.out]; omega)).mono ?_
      rintro e w3 ⟨A3, c3, p, er, rfl, K3, hc3, hr3, hb3⟩
      have HB3 := Lib.hid (HB.out.trans (hb3.mono HB.out.size))
      have h10 := num_len10 (n := k) (by omega)
      have h10f := num_len10 (n := f) (by omega)
      by_cases hmx : 262144 < k
      · have hpe : p = [] ∧ er = 1 := by
          have := K3.out
          unfold keysR at this
          rw [HG.out] at this
          simp only [HKL.out, hmx, if_true, Prod.mk.injEq] at this
          exact ⟨this.1.symm, this.2.symm⟩
        obtain ⟨rfl, rfl⟩ := hpe
        clear K3 hr3 hc3
        obtain ⟨j0, ji, jz0, jz1, jz2⟩ := info_parts u8_info
        have hs3 := HB3.out.size
        go_wp2_with fail
        refine (refNumber_any k _ (by omega)).mono ?_
        rintro e w4 ⟨v4, rfl, ho4, hb4⟩
        obtain ⟨A4, c4, rfl, hc4, _, hr4⟩ := ho4.form
        have ho3 := (Own.made (k := .u8) (e := 5) (w := w3) (base := W.heap.size) hs3 [0] (by simp [maxLen])).below hb4
        have hb4' := (HB3.out.alloc hs3 (.cells #[.int .u8 0] 5)).trans (hb4.mono (by simp; omega))
        have hs4 := hb4'.size
        clear hb4
        go_wp2_with (at_builtin; refine wpList_pushAll W.heap.size _ [0] (num k) _ _ _ _ rfl rfl Try.underlying23 ji jz0 jz1 jz2 rfl rfl rfl hr4 ho3 hs4 ?g1 ?g2 ?_; (case g1 => simp; omega); (case g2 => simp [maxLen]; omega); intro v5 w5 ho5 hg5 _; obtain ⟨A5, c5, rfl, hc5, _, hr5⟩ := ho5.form)
        have hb5 := hb4'.grown hg5 hs4 (fun g hg => (ho3.block g hg).1)
        have hs5 := hb5.size
        have HO5 := Lib.hid ho5
        clear ho3 hr4 ho5 hr5
        have hkn : (k : Int) - 1 = n := by have := HNN.out; omega
        go_wp2_with fail
        refine (refNumber_any f _ (by omega)).mono ?_
        rintro e w6 ⟨v6, rfl, ho6, hb6⟩
        obtain ⟨A6, c6, rfl, hc6, _, hr6⟩ := ho6.form
        have ho5 := HO5.out.below hb6
        have hb6' := hb5.trans (hb6.mono hs5)
        have hs6 := hb6'.size
        have hl5 : ([0] ++ num k).length ≤ 20 := by simp; omega
        have hnn : n ≤ 300000 := by have := HNN.out; omega
        have B6 : ∃ L, [0] ++ num k ++ num f = L ∧ L.length ≤ 30 := ⟨_, rfl, by rw [List.length_append]; omega⟩
        have B9 : ∀ L : List Int, ∃ M, L = M := fun L => ⟨_, rfl⟩
        have B7 : ∀ L : List Int, L.length ≤ 30 → (L.length + n) * 1 ≤ 140737488355328 ∧ L.length + n ≤ maxLen := fun L h => ⟨by omega, by unfold maxLen; omega⟩
        have B8 : ∀ L : List Int, L.length ≤ 30 → (L ++ List.replicate n 0).length ≤ 400000 := fun L h => by rw [List.length_append, List.length_replicate]; omega
        clear hb6
        go_wp2_with (first | (at_builtin; refine wpList_pushAll W.heap.size _ ([0] ++ num k) (num f) _ _ _ _ rfl rfl Try.underlying23 ji jz0 jz1 jz2 rfl rfl rfl hr6 ho5 hs6 ?g1 ?g2 ?_; (case g1 => omega); (case g2 => unfold maxLen; omega); intro v7 w7 ho7 hg7 _; obtain ⟨L7, hL7, hl7⟩ := B6; rw [hL7] at ho7; have HL7 := Lib.hid hL7; clear hL7; obtain ⟨A7, c7, rfl, hc7, _, hr7⟩ := ho7.form; have hb7 := hb6'.grown hg7 hs6 (fun g hg => (ho5.block g hg).1); have hs7 := hb7.size) | (at_builtin; refine wpList_appendZeros (kt := .i64) W.heap.size _ L7 n _ _ rfl rfl Try.underlying23 Try.underlying3 ji jz0 jz1 jz2 Nat.one_pos rfl rfl ho7 hs7 (B7 L7 hl7).1 (B7 L7 hl7).2 ?_; intro v8 w8 ho8 hg8 _; have hl8 := B8 L7 hl7; obtain ⟨L8, hL8⟩ := B9 (L7 ++ List.replicate n 0); rw [hL8] at ho8 hl8; have HL8 := Lib.hid hL8; clear hL8; obtain ⟨A8, c8, rfl, hc8, _, hr8⟩ := ho8.form; have hb8 := hb7.grown hg8 hs7 (fun g hg => (ho7.block g hg).1)))
        have HPR := Lib.hid (show parseR L8 = none by
          rw [← HL8.out, ← HL7.out]
          simp only [List.cons_append, List.nil_append, List.append_assoc, parseR]
          rw [dec_num (by omega)]
          simp only [hmx, if_true]
          rfl)
        have HBL := Lib.hid (show Bytes L8 by
          rw [← HL8.out, ← HL7.out]
          refine ((Bytes.app ?_ (num_bytes _)).app (num_bytes _)).app ?_
          · intro x hx; simp at hx; omega
          · intro x hx; rw [(List.mem_replicate.1 hx).2]; omega)
        refine (parse_b A8 c8 _ L8 _ rfl HBL.out hr8 (by omega) hc8).mono ?_
        rintro e w9 ⟨B9, d9, m9, t9, er9, rfl, K9, hd9, hr9, hb9⟩
        obtain ⟨rfl, rfl, rfl⟩ : er9 = 2 ∧ t9 = false ∧ m9 = [] := by
          rcases K9.out with ⟨h1, _⟩ | ⟨_, h2, h3, h4⟩
          · rw [HPR.out] at h1; cases h1
          · exact ⟨h2, h3, h4⟩
        have hb9' := hb8.trans (hb9.mono hb8.size)
        clear K9 hg8 hg7 hg5
        go_wp2
        go_ret
        exact ⟨rfl, hb9'⟩
      · have hpe : p = 0 :: (num k ++ (num f ++ List.replicate n 0)) ∧ er = 0 := by
          have := K3.out
          unfold keysR at this
          rw [HG.out] at this
          simp only [HKL.out, hmx, if_false, Prod.mk.injEq] at this
          exact ⟨this.1.symm, this.2.symm⟩
        obtain ⟨hp, rfl⟩ := hpe
        have HP := Lib.hid hp
        have hpl : p.length ≤ 300000 := by rw [hp]; simp; have := HNN.out; omega
        obtain ⟨L, hL⟩ : ∃ L : List (Int × Int), (seqL f k).map (fun x => (x, (0 : Int))) = L := ⟨_, rfl⟩
        have hLf : L.map (·.1) = seqL f k := by rw [← hL, List.map_map]; simp [Function.comp_def]
        have hUP : U64P L := fun x hx => by
          rw [← hL] at hx
          obtain ⟨y, hy, rfl⟩ := List.mem_map.1 hx
          exact ⟨HU.out y hy, by simp⟩
        have hPB := keysR_bytesR L
        rw [hLf, K3.out] at hPB
        have hbare : bareIf false L = L := by
          rw [← hL]
          simp [bareIf, List.map_map, Function.comp_def]
        have HPR := Lib.hid (show parseR p = some (false, L) by
          have := parse_bytes (two := false) hUP (by rw [← hPB])
          rw [← hPB, hbare] at this
          exact this)
        have HLA := Lib.hid (show ∀ i, i < k → L.getD i (0, 0) = (((f + i : Nat) : Int), 0) by
          intro i hi
          rw [← hL, List.getD_eq_getElem?_getD, List.getElem?_map, seqL_at _ _ _ hi]
          rfl)
        have hLk : L.length = k := by rw [← hL, List.length_map, HKL.out]
        have HLK := Lib.hid hLk
        have HBP := Lib.hid (show Bytes p by
          rw [hp]
          intro x hx
          rcases List.mem_cons.1 hx with rfl | hx
          · omega
          · exact ((num_bytes _).app ((num_bytes _).app (fun y hy => by rw [(List.mem_replicate.1 hy).2]; omega))) x hx)
        clear K3 hp hL hLf hUP hPB hbare hLk
        go_wp2_with fail
        refine (parse_b A3 c3 _ p _ rfl HBP.out hr3 (by omega) hc3).mono ?_
        rintro e w4 ⟨B4, d4, m4, t4, er4, rfl, K4, hd4, hr4, hb4⟩
        obtain ⟨rfl, rfl, rfl⟩ : er4 = 0 ∧ t4 = false ∧ m4 = L := by
          rcases K4.out with ⟨h1, h2⟩ | ⟨h1, _⟩
          · rw [HPR.out] at h1
            simp only [Option.some.injEq, Prod.mk.injEq] at h1
            exact ⟨h2, h1.1.symm, h1.2.symm⟩
          · rw [HPR.out] at h1; cases h1
        have hb4' := HB3.out.trans (hb4.mono HB3.out.size)
        have hkn : (k : Int) - 1 = n := by have := HNN.out; omega
        have hnl : n < m4.length := by have := HNN.out; have := HLK.out; omega
        have hnl0 : 0 < m4.length := by omega
        obtain ⟨ad, rfl, had, hc0, _⟩ := hr4 0 hnl0
        obtain ⟨ad', e', _, hcn, _⟩ := hr4 n hnl
        cases e'
        rw [HLA.out 0 (by omega), Nat.zero_mul, show ad.add 0 = ad by simp [Addr.add]] at hc0
        rw [HLA.out n (by have := HNN.out; omega)] at hcn
        have hlk : (m4.length : Int) = k := by have := HLK.out; omega
        have hw1 : IntKind.u64.wrap ((f : Int) + k) = (f : Int) + k := by rw [IntKind.wrap_u64]; omega
        have hw2 : IntKind.u64.wrap ((f : Int) + k - 1) = (f : Int) + k - 1 := by rw [IntKind.wrap_u64]; omega
        have hw3 : (((f : Int) + n) == (f : Int) + k - 1) = true := by simp; omega
        clear K4 hr4
        go_wp2
        go_ret
        exact ⟨rfl, hb4'⟩
theorem walk_codeLimits (m n : Int) (W : World) (wm : (Lit.int .u8 m).wf = true) (wn : (Lit.int .u64 n).wf = true) :
    Calls Try.prog 4 #[.int .u8 m, .int .u64 n] W fun e W' => e = .returned (.bool true) ∧ Below W.heap.size W W' := by
  have h1 := wf_u8 wm
  have h2 := wf_u64 wn
  obtain ⟨j, rfl⟩ := Int.eq_ofNat_of_zero_le h1.1
  obtain ⟨k, rfl⟩ := Int.eq_ofNat_of_zero_le h2.1
  exact limits_walk j k W (by omega) (by omega)
end Go.Proofs.Ytnlflpcioiieaaa
