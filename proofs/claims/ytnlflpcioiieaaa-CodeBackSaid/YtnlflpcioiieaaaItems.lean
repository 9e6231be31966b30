/-
  Keys, and pairs, as bytes, in plain Lean: what is written of them, what is read of bytes; each undoes the other, and nothing else is read.
-/
import Derived.Test.YtnlflpcioiieaaaNum
namespace Go.Proofs.Ytnlflpcioiieaaa
set_option linter.unusedVariables false
set_option linter.unusedSimpArgs false

/-- pairs of 64 bits -/
def U64P (l : List (Int × Int)) : Prop := ∀ x ∈ l, (0 ≤ x.1 ∧ x.1 ≤ 18446744073709551615) ∧ (0 ≤ x.2 ∧ x.2 ≤ 18446744073709551615)
theorem U64P.tail {x : Int × Int} {l : List (Int × Int)} (h : U64P (x :: l)) : U64P l := fun y hy => h y (List.mem_cons_of_mem _ hy)
theorem U64P.head {x : Int × Int} {l : List (Int × Int)} (h : U64P (x :: l)) : (0 ≤ x.1 ∧ x.1 ≤ 18446744073709551615) ∧ (0 ≤ x.2 ∧ x.2 ≤ 18446744073709551615) := h x List.mem_cons_self
/-- the value's bytes, where values are told -/
def vals (two : Bool) (v : Int) : List Int := if two then num v.toNat else []
/-- the gaps between rising keys, as bytes, with their values; none: they don't rise -/
def gapsP (two : Bool) : Option Int → List (Int × Int) → Option (List Int)
  | _, [] => some []
  | none, x :: l => (gapsP two (some x.1) l).map ((num x.1.toNat ++ vals two x.2) ++ ·)
  | some a, x :: l => if x.1 ≤ a then none else (gapsP two (some x.1) l).map ((num (x.1 - a - 1).toNat ++ vals two x.2) ++ ·)
/-- the key of a gap -/
def keyOf : Option Int → Nat → Option Int
  | none, d => some d
  | some a, d => if a = 18446744073709551615 ∨ 18446744073709551615 - a - 1 < (d : Int) then none else some (a + 1 + d)
/-- a value in front, where there are values -/
def valOf (two : Bool) (l : List Int) : Option (Nat × List Int) := if two then dec l else some (0, l)
def items (two : Bool) : Nat → Option Int → List Int → Option (List (Int × Int) × List Int)
  | 0, _, l => some ([], l)
  | n + 1, last, l =>
    match dec l with
    | none => none
    | some (d, r) =>
      match keyOf last d with
      | none => none
      | some k =>
        match valOf two r with
        | none => none
        | some (v, s) => (items two n (some k) s).map fun y => ((k, (v : Int)) :: y.1, y.2)
/-- without values, where there are none -/
def bareIf (two : Bool) (l : List (Int × Int)) : List (Int × Int) := if two then l else l.map fun x => (x.1, 0)
theorem bareIf_nil (two : Bool) : bareIf two [] = [] := by cases two <;> rfl
theorem bareIf_cons (two : Bool) (x : Int × Int) (l : List (Int × Int)) : bareIf two (x :: l) = (x.1, if two then x.2 else 0) :: bareIf two l := by cases two <;> rfl
theorem valOf_vals (two : Bool) {v : Int} (h0 : 0 ≤ v) (h1 : v ≤ 18446744073709551615) (r : List Int) : valOf two (vals two v ++ r) = some ((if two then v else 0).toNat, r) := by
  cases two
  · simp [valOf, vals]
  · simp only [valOf, vals, if_true]
    exact dec_num (by omega) r
theorem valOf_some {two : Bool} {l r : List Int} {v : Nat} (hB : Bytes l) (h : valOf two l = some (v, r)) : v < 18446744073709551616 ∧ l = vals two v ++ r ∧ (two = false → v = 0) := by
  cases two
  · simp only [valOf, Bool.false_eq_true, if_false, Option.some.injEq, Prod.mk.injEq] at h
    obtain ⟨rfl, rfl⟩ := h
    exact ⟨by omega, by simp [vals], fun _ => rfl⟩
  · simp only [valOf, if_true] at h
    obtain ⟨h1, h2⟩ := dec_some hB h
    exact ⟨h1, by simpa [vals] using h2, fun h => by cases h⟩
theorem Bytes.right {l r : List Int} (h : Bytes (l ++ r)) : Bytes r := fun x hx => h x (List.mem_append_right _ hx)
theorem Bytes.left {l r : List Int} (h : Bytes (l ++ r)) : Bytes l := fun x hx => h x (List.mem_append_left _ hx)
theorem Bytes.app {l r : List Int} (h : Bytes l) (k : Bytes r) : Bytes (l ++ r) := fun x hx => by
  rcases List.mem_append.1 hx with h1 | h1
  · exact h x h1
  · exact k x h1
theorem vals_bytes (two : Bool) (v : Int) : Bytes (vals two v) := by
  unfold vals; split
  · exact num_bytes _
  · intro x hx; cases hx

/-- what is written is read -/
theorem items_gaps (two : Bool) (r : List Int) : ∀ (l : List (Int × Int)) (last : Option Int) (g : List Int), U64P l → (∀ a, last = some a → 0 ≤ a) → gapsP two last l = some g → items two l.length last (g ++ r) = some (bareIf two l, r) := by
  intro l
  induction l with
  | nil => intro last g _ _ h; cases last <;> (simp only [gapsP, Option.some.injEq] at h; subst h; simp [items, bareIf_nil])
  | cons x l ih =>
    intro last g hU ha h
    obtain ⟨⟨h0, h1⟩, h2, h3⟩ := hU.head
    have hv : ((if two then x.2 else (0 : Int)).toNat : Int) = if two then x.2 else 0 := by cases two <;> simp <;> omega
    rcases last with _ | a
    · simp only [gapsP, Option.map_eq_some_iff] at h
      obtain ⟨g', hg, rfl⟩ := h
      have := ih (some x.1) g' hU.tail (fun a e => by cases e; exact h0) hg
      simp only [List.length_cons, items, List.append_assoc]
      rw [dec_num (by omega)]
      simp only [keyOf]
      rw [valOf_vals two h2 h3]
      simp only
      rw [show ((x.1.toNat : Nat) : Int) = x.1 by omega, this, hv, bareIf_cons]
      rfl
    · have ha0 := ha a rfl
      simp only [gapsP] at h
      split at h
      · cases h
      · rename_i hle
        simp only [Option.map_eq_some_iff] at h
        obtain ⟨g', hg, rfl⟩ := h
        have := ih (some x.1) g' hU.tail (fun a e => by cases e; exact h0) hg
        simp only [List.length_cons, items, List.append_assoc]
        rw [dec_num (by omega)]
        simp only [keyOf]
        rw [if_neg (by omega)]
        simp only
        rw [valOf_vals two h2 h3]
        simp only
        rw [show a + 1 + (((x.1 - a - 1).toNat : Nat) : Int) = x.1 by omega, this, hv, bareIf_cons]
        rfl
theorem map_some_iff {α β : Type} {f : α → β} {o : Option α} {b : β} : o.map f = some b ↔ ∃ a, o = some a ∧ f a = b := Option.map_eq_some_iff
/-- what is read is what is written of it -/
theorem items_some (two : Bool) : ∀ (n : Nat) (last : Option Int) (q : List Int) (m : List (Int × Int)) (r : List Int), Bytes q → (∀ a, last = some a → 0 ≤ a ∧ a ≤ 18446744073709551615) → items two n last q = some (m, r) →
    ∃ g, gapsP two last m = some g ∧ q = g ++ r ∧ m.length = n ∧ U64P m ∧ bareIf two m = m := by
  intro n
  induction n with
  | zero =>
    intro last q m r _ _ h
    simp only [items, Option.some.injEq, Prod.mk.injEq] at h
    obtain ⟨rfl, rfl⟩ := h
    exact ⟨[], by cases last <;> rfl, rfl, rfl, (fun _ hx => absurd hx (by simp)), bareIf_nil _⟩
  | succ n ih =>
    intro last q m r hB ha h
    simp only [items] at h
    split at h
    · cases h
    · rename_i d s hd
      obtain ⟨hdlt, rfl⟩ := dec_some hB hd
      split at h
      · cases h
      · rename_i k hk
        split at h
        · cases h
        · rename_i v s' hv
          obtain ⟨hvlt, rfl, hv0⟩ := valOf_some hB.right hv
          rw [Option.map_eq_some_iff] at h
          obtain ⟨⟨m', r'⟩, hm, he⟩ := h
          simp only [Prod.mk.injEq] at he
          obtain ⟨rfl, rfl⟩ := he
          rcases last with _ | a
          · simp only [keyOf, Option.some.injEq] at hk
            subst hk
            obtain ⟨g, hg, rfl, hl, hU, hb⟩ := ih (some (d : Int)) s' m' r' hB.right.right (fun a e => by cases e; omega) hm
            refine ⟨(num d ++ vals two v) ++ g, ?_, by simp, by simp [hl], ?_, ?_⟩
            · simp only [gapsP, hg, Option.map_some, Int.toNat_natCast]
            · intro x hx
              rcases List.mem_cons.1 hx with rfl | hx
              · exact ⟨by omega, by omega⟩
              · exact hU x hx
            · rw [bareIf_cons, hb]
              cases two
              · have := hv0 rfl; subst this; rfl
              · rfl
          · obtain ⟨ha0, ha1⟩ := ha a rfl
            simp only [keyOf] at hk
            split at hk
            · cases hk
            · rename_i hno
              simp only [Option.some.injEq] at hk
              subst hk
              obtain ⟨g, hg, rfl, hl, hU, hb⟩ := ih (some (a + 1 + (d : Int))) s' m' r' hB.right.right (fun a' e => by cases e; omega) hm
              refine ⟨(num d ++ vals two v) ++ g, ?_, by simp, by simp [hl], ?_, ?_⟩
              · simp only [gapsP]
                rw [if_neg (by omega), hg, show (a + 1 + (d : Int) - a - 1).toNat = d by omega]
                rfl
              · intro x hx
                rcases List.mem_cons.1 hx with rfl | hx
                · exact ⟨⟨by omega, by omega⟩, by omega, by omega⟩
                · exact hU x hx
              · rw [bareIf_cons, hb]
                cases two
                · have := hv0 rfl; subst this; rfl
                · rfl
/-- what stands behind is left -/
theorem dec_more {l r : List Int} {n : Nat} (s : List Int) (hB : Bytes l) (h : dec l = some (n, r)) : dec (l ++ s) = some (n, r ++ s) := by
  obtain ⟨hn, rfl⟩ := dec_some hB h
  rw [List.append_assoc]
  exact dec_num hn _
theorem items_more (two : Bool) (s : List Int) {n : Nat} {q : List Int} {m : List (Int × Int)} {r : List Int} (hB : Bytes q) (h : items two n none q = some (m, r)) : items two n none (q ++ s) = some (m, r ++ s) := by
  obtain ⟨g, hg, rfl, rfl, hU, hb⟩ := items_some two n none q m r hB (fun a e => by cases e) h
  have := items_gaps two (r ++ s) m none g hU (fun a e => by cases e) hg
  rw [hb] at this
  rw [List.append_assoc]
  exact this

/-- the bytes of pairs, and the error -/
def bytesR (two : Bool) (l : List (Int × Int)) : List Int × Int :=
  match gapsP two none l with
  | none => ([], 8)
  | some g => if 262144 < l.length then ([], 1) else ((if two then 1 else 0) :: (num l.length ++ g), 0)
/-- what bytes are read as -/
def parseR (p : List Int) : Option (Bool × List (Int × Int)) :=
  match p with
  | [] => none
  | b :: q => if 1 < b then none else
    match dec q with
    | none => none
    | some (n, r) => if 262144 < n then none else
      match items (b == 1) n none r with
      | some (m, []) => some (b == 1, m)
      | _ => none
theorem gapsP_bytes (two : Bool) : ∀ (l : List (Int × Int)) (last : Option Int) (g : List Int), gapsP two last l = some g → Bytes g := by
  intro l
  induction l with
  | nil => intro last g h; cases last <;> (simp only [gapsP, Option.some.injEq] at h; subst h; intro x hx; cases hx)
  | cons x l ih =>
    intro last g h
    rcases last with _ | a
    · simp only [gapsP, Option.map_eq_some_iff] at h
      obtain ⟨g', hg, rfl⟩ := h
      exact ((num_bytes _).app (vals_bytes _ _)).app (ih _ _ hg)
    · simp only [gapsP] at h
      split at h
      · cases h
      · simp only [Option.map_eq_some_iff] at h
        obtain ⟨g', hg, rfl⟩ := h
        exact ((num_bytes _).app (vals_bytes _ _)).app (ih _ _ hg)
theorem bytesR_zero {two : Bool} {l : List (Int × Int)} (h : (bytesR two l).2 = 0) : ∃ g, gapsP two none l = some g ∧ l.length ≤ 262144 ∧ (bytesR two l).1 = (if two then 1 else 0) :: (num l.length ++ g) := by
  unfold bytesR at h ⊢
  rcases hg : gapsP two none l with _ | g
  · rw [hg] at h; simp at h
  · rw [hg] at h
    simp only at h ⊢
    split at h
    · simp at h
    · rename_i hl
      exact ⟨g, rfl, by omega, by rw [if_neg hl]⟩
theorem parse_bytes {two : Bool} {l : List (Int × Int)} (hU : U64P l) (h : (bytesR two l).2 = 0) : parseR (bytesR two l).1 = some (two, bareIf two l) := by
  obtain ⟨g, hg, hl, e⟩ := bytesR_zero h
  rw [e]
  simp only [parseR]
  rw [if_neg (by split <;> omega), dec_num (by omega)]
  simp only
  rw [if_neg (by omega)]
  have := items_gaps two [] l none g hU (fun a e => by cases e) hg
  rw [List.append_nil] at this
  cases two
  · rw [show (((if false = true then (1 : Int) else 0) == 1) = false) by rfl, this]
  · rw [show (((if true = true then (1 : Int) else 0) == 1) = true) by rfl, this]
/-- each number has one writing: what is read is what is written of it -/
theorem bytes_parse {p : List Int} (hB : Bytes p) {two : Bool} {m : List (Int × Int)} (h : parseR p = some (two, m)) : bytesR two m = (p, 0) ∧ U64P m ∧ bareIf two m = m ∧ m.length ≤ 262144 := by
  unfold parseR at h
  split at h
  · cases h
  · rename_i b q
    split at h
    · cases h
    · rename_i hb1
      have hb0 := hB b List.mem_cons_self
      have hBq : Bytes q := fun x hx => hB x (List.mem_cons_of_mem _ hx)
      split at h
      · cases h
      · rename_i n r hd
        obtain ⟨hn, rfl⟩ := dec_some hBq hd
        split at h
        · cases h
        · rename_i hmax
          split at h
          · rename_i m' hi
            simp only [Option.some.injEq, Prod.mk.injEq] at h
            obtain ⟨rfl, rfl⟩ := h
            obtain ⟨g, hg, rfl, rfl, hU, hbare⟩ := items_some _ n none r m' [] hBq.right (fun a e => by cases e) hi
            refine ⟨?_, hU, hbare, by omega⟩
            unfold bytesR
            rw [hg]
            simp only [List.append_nil]
            rw [if_neg hmax]
            have : (if (b == 1) = true then (1 : Int) else 0) = b := by
              by_cases h : b = 1
              · subst h; rfl
              · rw [if_neg (by simpa using h)]; omega
            rw [this]
          · cases h
/-- the last key that was read -/
def lastK (done : List (Int × Int)) : Option Int := match done.length with | 0 => none | k + 1 => some (done.getD k (0, 0)).1
theorem lastK_snoc (done : List (Int × Int)) (x : Int × Int) : lastK (done ++ [x]) = some x.1 := by
  simp [lastK, List.getD_eq_getElem?_getD]
theorem lastK_at {done : List (Int × Int)} {k : Nat} (h : done.length = k + 1) : lastK done = some (done.getD k (0, 0)).1 := by
  simp only [lastK, h]
theorem lastK_nil {done : List (Int × Int)} (h : done.length = 0) : lastK done = none := by simp only [lastK, h]
theorem items_step (two : Bool) {n i : Nat} (last : Option Int) (l : List Int) (h : i < n) : items two (n - i) last l = match dec l with
    | none => none
    | some (d, r) => match keyOf last d with
      | none => none
      | some k => match valOf two r with
        | none => none
        | some (v, s) => (items two (n - (i + 1)) (some k) s).map fun y => ((k, (v : Int)) :: y.1, y.2) := by
  rw [show n - i = (n - (i + 1)) + 1 by omega]; rfl
/-- the loop's invariant -/
def Itm (two : Bool) (n i : Nat) (r : List Int) (done : List (Int × Int)) (lr : List Int) : Prop :=
  items two n none r = (items two (n - i) (lastK done) lr).map fun y => (done ++ y.1, y.2)
theorem Itm.none_dec {two : Bool} {n i : Nat} {r : List Int} {done : List (Int × Int)} {lr : List Int} (h : Itm two n i r done lr) (hi : i < n) (hd : dec lr = none) : items two n none r = none := by
  rw [h, items_step two _ _ hi, hd]; rfl
theorem Itm.none_key {two : Bool} {n i : Nat} {r : List Int} {done : List (Int × Int)} {lr s : List Int} {d : Nat} (h : Itm two n i r done lr) (hi : i < n) (hd : dec lr = some (d, s)) (hk : keyOf (lastK done) d = none) : items two n none r = none := by
  rw [h, items_step two _ _ hi, hd]; simp only [hk]; rfl
theorem Itm.none_val {n i : Nat} {r : List Int} {done : List (Int × Int)} {lr s : List Int} {d : Nat} (h : Itm true n i r done lr) (hi : i < n) (hd : dec lr = some (d, s)) (hv : dec s = none) : items true n none r = none := by
  rw [h, items_step true _ _ hi, hd]
  simp only
  cases keyOf (lastK done) d with
  | none => rfl
  | some k => simp only [valOf, if_true, hv]; rfl
theorem Itm.next_bare {n i : Nat} {r : List Int} {done : List (Int × Int)} {lr s : List Int} {d : Nat} {k : Int} (h : Itm false n i r done lr) (hi : i < n) (hd : dec lr = some (d, s)) (hk : keyOf (lastK done) d = some k) : Itm false n (i + 1) r (done ++ [(k, 0)]) s := by
  unfold Itm
  rw [h, items_step false _ _ hi, hd]
  simp [hk, valOf, lastK_snoc, Option.map_map, Function.comp_def, List.append_assoc, List.singleton_append]
theorem Itm.next_two {n i : Nat} {r : List Int} {done : List (Int × Int)} {lr s s' : List Int} {d v : Nat} {k : Int} (h : Itm true n i r done lr) (hi : i < n) (hd : dec lr = some (d, s)) (hk : keyOf (lastK done) d = some k) (hv : dec s = some (v, s')) : Itm true n (i + 1) r (done ++ [(k, (v : Int))]) s' := by
  unfold Itm
  rw [h, items_step true _ _ hi, hd]
  simp only [hk, valOf, if_true, hv, lastK_snoc, Option.map_map, Function.comp_def, List.append_assoc, List.singleton_append]
theorem Itm.done {two : Bool} {n : Nat} {r : List Int} {done : List (Int × Int)} {lr : List Int} (h : Itm two n n r done lr) : items two n none r = some (done, lr) := by
  rw [h, Nat.sub_self]; simp [items]
end Go.Proofs.Ytnlflpcioiieaaa
