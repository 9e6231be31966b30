/-
  The plain law of CodeBack: what the bytes of keys and pairs are that don't rise, and how many there are.
-/
import Derived.Test.YtnlflpcioiieaaaItems
import Derived.Test.YtnlflpcioiieaaaPrefLaw
namespace Go.Proofs.Ytnlflpcioiieaaa
set_option linter.unusedVariables false
set_option linter.unusedSimpArgs false

theorem gaps_two : ∀ (l : List (Int × Int)) (last : Option Int) (g : List Int), gapsP false last l = some g → ∃ g', gapsP true last l = some g' := by
  intro l
  induction l with
  | nil => intro last g h; cases last <;> exact ⟨[], rfl⟩
  | cons x l ih =>
    intro last g h
    rcases last with _ | a
    · simp only [gapsP, Option.map_eq_some_iff] at h
      obtain ⟨g', hg, _⟩ := h
      obtain ⟨g2, hg2⟩ := ih _ _ hg
      exact ⟨_, by simp only [gapsP, hg2]; rfl⟩
    · simp only [gapsP] at h
      split at h
      · cases h
      · rename_i hx
        simp only [Option.map_eq_some_iff] at h
        obtain ⟨g', hg, _⟩ := h
        obtain ⟨g2, hg2⟩ := ih _ _ hg
        exact ⟨_, by simp only [gapsP]; rw [if_neg hx, hg2]; rfl⟩
theorem gaps_len (two : Bool) : ∀ (l : List (Int × Int)) (last : Option Int) (g : List Int), U64P l → (∀ a, last = some a → 0 ≤ a) → gapsP two last l = some g → g.length ≤ 20 * l.length := by
  intro l
  induction l with
  | nil => intro last g _ _ h; cases last <;> (simp only [gapsP, Option.some.injEq] at h; subst h; simp)
  | cons x l ih =>
    intro last g hU ha h
    have hx := hU.head
    have hv : (vals two x.2).length ≤ 10 := by
      cases two
      · simp [vals]
      · simp only [vals, if_true]; exact num_len10 (by omega)
    rcases last with _ | a
    · simp only [gapsP, Option.map_eq_some_iff] at h
      obtain ⟨g', hg, rfl⟩ := h
      have := ih _ _ hU.tail (fun b e => by cases e; exact hx.1.1) hg
      have h1 := num_len10 (n := x.1.toNat) (by omega)
      simp only [List.length_append, List.length_cons]
      omega
    · have ha0 := ha a rfl
      simp only [gapsP] at h
      split at h
      · cases h
      · simp only [Option.map_eq_some_iff] at h
        obtain ⟨g', hg, rfl⟩ := h
        have := ih _ _ hU.tail (fun b e => by cases e; exact hx.1.1) hg
        have h1 := num_len10 (n := (x.1 - a - 1).toNat) (by omega)
        simp only [List.length_append, List.length_cons]
        omega
theorem bytes_two {l : List (Int × Int)} (h : (bytesR false l).2 = 0) : (bytesR true l).2 = 0 := by
  obtain ⟨g, hg, hl, _⟩ := bytesR_zero h
  obtain ⟨g', hg'⟩ := gaps_two l none g hg
  unfold bytesR
  rw [hg']
  simp only
  rw [if_neg (by omega)]
theorem bytes_good {two : Bool} {l : List (Int × Int)} (hU : U64P l) (hl : l.length ≤ 40) (h : (bytesR two l).2 = 0) : Bytes (bytesR two l).1 ∧ (bytesR two l).1.length ≤ 2000 := by
  obtain ⟨g, hg, _, e⟩ := bytesR_zero h
  rw [e]
  have h1 := gaps_len two l none g hU (fun a e => by cases e) hg
  have h2 := num_len10 (n := l.length) (by omega)
  have h3 := gapsP_bytes two l none g hg
  refine ⟨?_, by simp only [List.length_cons, List.length_append]; omega⟩
  intro x hx
  rcases List.mem_cons.1 hx with rfl | hx
  · cases two <;> simp
  · exact ((num_bytes _).app h3) x hx
theorem bytes_err {two : Bool} {l : List (Int × Int)} (hl : l.length ≤ 40) : (bytesR two l).2 = 0 ∨ (bytesR two l).2 = 8 := by
  unfold bytesR
  split
  · exact .inr rfl
  · rw [if_neg (by omega)]; exact .inl rfl
/-- what is read of the bytes of keys, and of pairs -/
theorem back_reads {l : List (Int × Int)} {p q : List Int} {e f : Int} (hU : U64P l) (hl : l.length ≤ 40) (hp : bytesR false l = (p, e)) (hq : bytesR true l = (q, f)) :
    (p.length ≤ 2000 ∧ q.length ≤ 2000 ∧ (e = 0 ∨ e = 8)) ∧ (e = 0 → f = 0 ∧ Bytes p ∧ Bytes q ∧ parseR p = some (false, l.map fun x => (x.1, (0 : Int))) ∧ parseR q = some (true, l)) := by
  have hp1 : (bytesR false l).1 = p := by rw [hp]
  have hp2 : (bytesR false l).2 = e := by rw [hp]
  have hq1 : (bytesR true l).1 = q := by rw [hq]
  have hq2 : (bytesR true l).2 = f := by rw [hq]
  have nolen : ∀ two, (bytesR two l).2 = 8 → (bytesR two l).1.length ≤ 2000 := by
    intro two h
    unfold bytesR at h ⊢
    split
    · simp
    · rename_i g hg
      rw [hg] at h
      simp only at h
      rw [if_neg (by omega)] at h
      simp at h
  have len : ∀ two, (bytesR two l).1.length ≤ 2000 := by
    intro two
    rcases bytes_err (two := two) hl with h | h
    · exact (bytes_good hU hl h).2
    · exact nolen two h
  refine ⟨⟨hp1 ▸ len false, hq1 ▸ len true, hp2 ▸ bytes_err hl⟩, fun h0 => ?_⟩
  rw [h0] at hp2
  have h2 := bytes_two hp2
  have g1 := (bytes_good hU hl hp2).1
  have g2 := (bytes_good hU hl h2).1
  have r1 := parse_bytes hU hp2
  have r2 := parse_bytes hU h2
  rw [hp1] at g1 r1
  rw [hq1] at g2 r2
  exact ⟨by rw [← hq2, h2], g1, g2, r1, r2⟩
/-- rising keys have bytes -/
theorem rise_zero {l : List (Int × Int)} {p : List Int} {e : Int} (hR : Rise (l.map (·.1))) (hl : l.length ≤ 40) (hp : bytesR false l = (p, e)) : e = 0 := by
  obtain ⟨g, hg⟩ := rise_gaps false l none hR (fun a x e => by cases e)
  unfold bytesR at hp
  rw [hg] at hp
  simp only at hp
  rw [if_neg (by omega)] at hp
  exact (Prod.mk.inj hp).2.symm
end Go.Proofs.Ytnlflpcioiieaaa
