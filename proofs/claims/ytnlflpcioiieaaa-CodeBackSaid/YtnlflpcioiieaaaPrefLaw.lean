/-
  The plain law of CodePrefixes: what stands behind bytes that are read is too much; how many bytes there are.
-/
import Derived.Test.YtnlflpcioiieaaaItems
import Derived.Test.YtnlflpcioiieaaaSize
import Derived.Test.YtnlflpcioiieaaaAdd
import Derived.Test.YtnlflpcioiieaaaPairs
namespace Go.Proofs.Ytnlflpcioiieaaa
set_option linter.unusedVariables false
set_option linter.unusedSimpArgs false

theorem parse_ext {p s : List Int} (hB : Bytes p) {two : Bool} {m : List (Int × Int)} (h : parseR p = some (two, m)) (hs : s ≠ []) : parseR (p ++ s) = none := by
  unfold parseR at h
  split at h
  · cases h
  · rename_i b q
    have hBq : Bytes q := fun x hx => hB x (List.mem_cons_of_mem _ hx)
    split at h
    · cases h
    · rename_i hb
      split at h
      · cases h
      · rename_i n r hd
        have hr : Bytes r := by
          obtain ⟨_, e⟩ := dec_some hBq hd
          rw [e] at hBq
          exact hBq.right
        split at h
        · cases h
        · rename_i hmx
          split at h
          · rename_i m' hi
            have h1 := dec_more s hBq hd
            have h2 := items_more (b == 1) s hr hi
            simp only [List.cons_append, parseR, if_neg hb, h1, if_neg hmx, h2, List.nil_append]
            cases s with
            | nil => exact absurd rfl hs
            | cons x s => rfl
          · cases h
theorem parse_prefix {p : List Int} (hB : Bytes p) {two : Bool} {m : List (Int × Int)} (h : parseR p = some (two, m)) {c : Nat} (hc : c < p.length) : parseR (p.take c) = none := by
  rcases hq : parseR (p.take c) with _ | ⟨t, m'⟩
  · rfl
  · have hs : p.drop c ≠ [] := fun e => by
      have := congrArg List.length e
      simp at this
      omega
    have := parse_ext (s := p.drop c) (fun x hx => hB x (List.mem_of_mem_take hx)) hq hs
    rw [List.take_append_drop, h] at this
    cases this
/-- the numbers that are told -/
def numsR (two : Bool) : Option Int → List (Int × Int) → List Int
  | _, [] => []
  | none, x :: l => (x.1 :: (if two then [x.2] else [])) ++ numsR two (some x.1) l
  | some a, x :: l => ((x.1 - a - 1) :: (if two then [x.2] else [])) ++ numsR two (some x.1) l
theorem sizes_nil : sizes [] = 0 := rfl
theorem sizes_cons (x : Int) (l : List Int) : sizes (x :: l) = (num x.toNat).length + sizes l := by simp [sizes]
theorem sizes_app (a b : List Int) : sizes (a ++ b) = sizes a + sizes b := by
  induction a with
  | nil => simp [sizes_nil]
  | cons x a ih => simp only [List.cons_append, sizes_cons, ih]; omega
theorem sizes_nums (two : Bool) : ∀ (l : List (Int × Int)) (last : Option Int) (g : List Int), gapsP two last l = some g → sizes (numsR two last l) = g.length := by
  intro l
  induction l with
  | nil => intro last g h; cases last <;> (simp only [gapsP, Option.some.injEq] at h; subst h; simp [numsR, sizes_nil])
  | cons x l ih =>
    intro last g h
    cases last with
    | none =>
      simp only [gapsP, Option.map_eq_some_iff] at h
      obtain ⟨g', hg, rfl⟩ := h
      have := ih _ _ hg
      cases two <;> simp [numsR, sizes_cons, sizes_nil, sizes_app, vals, this] <;> omega
    | some a =>
      simp only [gapsP] at h
      split at h
      · cases h
      · simp only [Option.map_eq_some_iff] at h
        obtain ⟨g', hg, rfl⟩ := h
        have := ih _ _ hg
        cases two <;> simp [numsR, sizes_cons, sizes_nil, sizes_app, vals, this] <;> omega
theorem rise_gaps (two : Bool) : ∀ (l : List (Int × Int)) (last : Option Int), Rise (l.map (·.1)) → (∀ a x, last = some a → l.head? = some x → a < x.1) → ∃ g, gapsP two last l = some g := by
  intro l
  induction l with
  | nil => intro last _ _; cases last <;> exact ⟨[], rfl⟩
  | cons x l ih =>
    intro last hR ha
    obtain ⟨g, hg⟩ := ih (some x.1) (by simpa using hR.tail) (fun a y e hy => by
      cases e
      cases l with
      | nil => simp at hy
      | cons z l => simp at hy; subst hy; exact hR.1)
    cases last with
    | none => exact ⟨_, by simp only [gapsP, hg]; rfl⟩
    | some a => exact ⟨_, by simp only [gapsP]; rw [if_neg (by have := ha a x rfl rfl; omega), hg]; rfl⟩
theorem bytesR_rise {two : Bool} {l : List (Int × Int)} (hR : Rise (l.map (·.1))) (hl : l.length ≤ 262144) : (bytesR two l).2 = 0 ∧ ((bytesR two l).1.length : Nat) = 1 + sizes ((l.length : Int) :: numsR two none l) ∧ Bytes (bytesR two l).1 := by
  obtain ⟨g, hg⟩ := rise_gaps two l none hR (fun a x e => by cases e)
  have hs := sizes_nums two l none g hg
  have hB := gapsP_bytes two l none g hg
  unfold bytesR
  rw [hg]
  simp only
  rw [if_neg (by omega)]
  refine ⟨rfl, ?_, ?_⟩
  · simp only [List.length_cons, List.length_append, sizes_cons, hs, Int.toNat_natCast]; omega
  · intro x hx
    rcases List.mem_cons.1 hx with rfl | hx
    · cases two <;> simp
    · exact ((num_bytes _).app hB) x hx
/-- keys with the values that stand at their places -/
def pairUp (ks : List Int) (l : List (Int × Int)) : List (Int × Int) := List.zipWith (fun k x => (k, x.2)) ks l
theorem pairUp_len {ks : List Int} {l : List (Int × Int)} (h : ks.length ≤ l.length) : (pairUp ks l).length = ks.length := by
  simp [pairUp]; omega
theorem pairUp_at {ks : List Int} {l : List (Int × Int)} {i : Nat} (h : ks.length ≤ l.length) (hi : i < ks.length) : (pairUp ks l).getD i (0, 0) = (ks.getD i 0, (l.getD i (0, 0)).2) := by
  simp only [pairUp, List.getD_eq_getElem?_getD, List.getElem?_zipWith, List.getElem?_eq_getElem hi, List.getElem?_eq_getElem (show i < l.length by omega)]
  rfl
theorem pairUp_fst {ks : List Int} {l : List (Int × Int)} (h : ks.length ≤ l.length) : (pairUp ks l).map (·.1) = ks := by
  apply List.ext_getElem?
  intro i
  by_cases hi : i < ks.length
  · simp only [pairUp, List.getElem?_map, List.getElem?_zipWith, List.getElem?_eq_getElem hi, List.getElem?_eq_getElem (show i < l.length by omega)]
    rfl
  · rw [List.getElem?_eq_none (by simp [pairUp]; omega), List.getElem?_eq_none (by omega)]
theorem pairUp_u64 {ks : List Int} {l : List (Int × Int)} (h : ks.length ≤ l.length) (hk : U64 ks) (hl : U64P l) : U64P (pairUp ks l) := fun x hx => by
  obtain ⟨i, hi⟩ := List.getElem?_of_mem hx
  have hil : i < ks.length := by
    have := (List.getElem?_eq_some_iff.1 hi).1
    rw [pairUp_len h] at this
    exact this
  have h1 := pairUp_at h hil
  rw [List.getD_eq_getElem?_getD, hi] at h1
  simp only [Option.getD_some] at h1
  rw [h1]
  exact ⟨hk.at_ hil, (hl.at_ (show i < l.length by omega)).2⟩
theorem rise_at {l : List Int} (h : Rise l) : ∀ i, i + 1 < l.length → l.getD i 0 < l.getD (i + 1) 0 := by
  induction l with
  | nil => intro i hi; simp at hi
  | cons x l ih =>
    intro i hi
    cases l with
    | nil => simp at hi
    | cons y l =>
      rcases i with _ | i
      · exact h.1
      · exact ih h.2 i (by simpa using hi)
theorem numsR_first (two : Bool) {pl : List (Int × Int)} {i : Nat} {x0 x1 : Int} (hi : i = 0) (hd : pl.drop i = (x0, x1) :: pl.drop (i + 1)) (done : List Int) (la : Int)
    (h : numsR two none pl = done ++ numsR two (if i = 0 then none else some la) (pl.drop i)) : numsR two none pl = (done ++ (x0 :: if two then [x1] else [])) ++ numsR two (if i + 1 = 0 then none else some x0) (pl.drop (i + 1)) := by
  have e1 : (if i = 0 then (none : Option Int) else some la) = none := if_pos hi
  have e2 : (if i + 1 = 0 then (none : Option Int) else some x0) = some x0 := if_neg (by omega)
  rw [h, hd, e1, e2]
  cases two <;> simp [numsR]
theorem numsR_next (two : Bool) {pl : List (Int × Int)} {i : Nat} {x0 x1 : Int} (hi : ¬ i = 0) (hd : pl.drop i = (x0, x1) :: pl.drop (i + 1)) (done : List Int) (la : Int)
    (h : numsR two none pl = done ++ numsR two (if i = 0 then none else some la) (pl.drop i)) : numsR two none pl = (done ++ ((x0 - la - 1) :: if two then [x1] else [])) ++ numsR two (if i + 1 = 0 then none else some x0) (pl.drop (i + 1)) := by
  have e1 : (if i = 0 then (none : Option Int) else some la) = some la := if_neg hi
  have e2 : (if i + 1 = 0 then (none : Option Int) else some x0) = some x0 := if_neg (by omega)
  rw [h, hd, e1, e2]
  cases two <;> simp [numsR]
theorem sizes_le10 {l : List Int} (h : U64 l) : sizes l ≤ 10 * l.length := by
  induction l with
  | nil => simp [sizes_nil]
  | cons x l ih =>
    have h1 := ih (fun y hy => h y (List.mem_cons_of_mem _ hy))
    have h2 := h x List.mem_cons_self
    have h3 := num_len10 (n := x.toNat) (by omega)
    rw [sizes_cons, List.length_cons]
    omega
theorem numsR_u64 (two : Bool) : ∀ (l : List (Int × Int)) (last : Option Int), U64P l → Rise (l.map (·.1)) → (∀ a, last = some a → 0 ≤ a) → (∀ a x, last = some a → l.head? = some x → a < x.1) → U64 (numsR two last l) := by
  intro l
  induction l with
  | nil => intro last _ _ _ _ x hx; cases last <;> simp [numsR] at hx
  | cons x l ih =>
    intro last hU hR h0 ha
    obtain ⟨hx, hv⟩ := hU.head
    have h1 := ih (some x.1) hU.tail (by simpa using hR.tail) (fun a e => by cases e; exact hx.1) (fun a y e hy => by
      cases e
      cases l with
      | nil => simp at hy
      | cons z l => simp at hy; subst hy; exact hR.1)
    have h2 : ∀ y ∈ (if two then [x.2] else []), 0 ≤ y ∧ y ≤ 18446744073709551615 := fun y hy => by
      cases two
      · simp at hy
      · simp at hy; subst hy; exact hv
    cases last with
    | none =>
      intro y hy
      simp only [numsR, List.cons_append, List.mem_cons, List.mem_append] at hy
      rcases hy with rfl | hy | hy
      · exact hx
      · exact h2 y hy
      · exact h1 y hy
    | some a =>
      have h3 := ha a x rfl rfl
      have h4 := h0 a rfl
      intro y hy
      simp only [numsR, List.cons_append, List.mem_cons, List.mem_append] at hy
      rcases hy with rfl | hy | hy
      · omega
      · exact h2 y hy
      · exact h1 y hy
end Go.Proofs.Ytnlflpcioiieaaa
