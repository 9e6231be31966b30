/-
  Rising lists of integers, in plain Lean: how many lead that are less; with one more.
-/
namespace Go.Proofs.YtpmkcjpifedbkaaGreat
set_option linter.unusedVariables false
set_option linter.unusedSimpArgs false

theorem drop_getD {l : List Int} {k : Nat} (hk : k < l.length) : l.drop k = l.getD k 0 :: l.drop (k + 1) := by
  rw [List.drop_eq_getElem_cons hk]
  simp [List.getD_eq_getElem?_getD, List.getElem?_eq_getElem hk]
/-- how many lead that are less -/
def lowr : List Int → Int → Nat
  | [], _ => 0
  | x :: l, k => if x < k then lowr l k + 1 else 0
theorem lowr_le (l : List Int) (k : Int) : lowr l k ≤ l.length := by
  induction l with
  | nil => exact Nat.le_refl _
  | cons x l ih => simp only [lowr, List.length_cons]; split <;> omega
def isIn (l : List Int) (k : Int) : Bool := decide (lowr l k < l.length) && (l.getD (lowr l k) 0 == k)
def addR (l : List Int) (k : Int) : List Int := if isIn l k then l else l.take (lowr l k) ++ [k] ++ l.drop (lowr l k)
def Rise : List Int → Prop
  | [] => True
  | [_] => True
  | x :: y :: l => x < y ∧ Rise (y :: l)
theorem Rise.tail {x : Int} {l : List Int} (h : Rise (x :: l)) : Rise l := by
  cases l with
  | nil => trivial
  | cons y l => exact h.2
theorem Rise.head_lt {x : Int} {l : List Int} (h : Rise (x :: l)) : ∀ y ∈ l, x < y := by
  induction l generalizing x with
  | nil => intro y hy; cases hy
  | cons z l ih =>
    intro y hy
    rcases List.mem_cons.1 hy with rfl | hy
    · exact h.1
    · exact Int.lt_trans h.1 (ih h.2 y hy)
theorem lowr_lt {l : List Int} {v : Int} : ∀ k, k < lowr l v → l.getD k 0 < v := by
  induction l with
  | nil => intro k hk; simp [lowr] at hk
  | cons x l ih =>
    intro k hk
    simp only [lowr] at hk
    split at hk
    · cases k with
      | zero => simpa using by assumption
      | succ k => simpa using ih k (by omega)
    · omega
theorem lowr_ge {l : List Int} (hR : Rise l) {v : Int} : ∀ k, lowr l v ≤ k → k < l.length → v ≤ l.getD k 0 := by
  induction l with
  | nil => intro k _ hk; simp at hk
  | cons x l ih =>
    intro k h hk
    simp only [lowr] at h
    split at h
    · cases k with
      | zero => omega
      | succ k => simpa using ih hR.tail k (by omega) (by simpa using hk)
    · rename_i hx
      cases k with
      | zero => simp; omega
      | succ k =>
        have h1 := hR.head_lt (l.getD k 0) (by
          simp only [List.length_cons, Nat.add_lt_add_iff_right] at hk
          rw [List.getD_eq_getElem?_getD, List.getElem?_eq_getElem hk]
          exact List.getElem_mem hk)
        simp only [List.getD_cons_succ]
        omega
theorem rise_at {l : List Int} (h : Rise l) : ∀ i, i + 1 < l.length → l.getD i 0 < l.getD (i + 1) 0 := by
  induction l with
  | nil => intro i hi; simp at hi
  | cons x l ih =>
    intro i hi
    cases i with
    | zero =>
      cases l with
      | nil => simp at hi
      | cons y l => exact h.1
    | succ i => simpa using ih h.tail i (by simpa using hi)
end Go.Proofs.YtpmkcjpifedbkaaGreat
