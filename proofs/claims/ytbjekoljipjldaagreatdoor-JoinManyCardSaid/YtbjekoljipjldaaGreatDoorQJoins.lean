/-
  Plain laws of joining (no program): merged lists and joined words against sets.
  join: few, lists, maps, of, walked.
  join: lists, maps, walked.
  join: Or, And, Less, Xor, walked.
  join: Both, Within, Equal, Meet, walked.
-/
import Derived.Test.YtbjekoljipjldaaGreatDoorQBoxF
namespace Go.Proofs.YtbjekoljipjldaaGreatDoor
set_option linter.unusedVariables false
set_option linter.unusedSimpArgs false
open Go.RowKit

theorem mg_mem (s1 s2 s3 : Bool) : ∀ (n : Nat) (a b : List Int) (x : Int), x ∈ mg s1 s2 s3 n a b → x ∈ a ∨ x ∈ b
  | 0, a, b, x, h => by cases h
  | n + 1, [], [], x, h => by cases h
  | n + 1, y :: a, [], x, h => by
    simp only [mg, List.mem_append] at h
    rcases h with h | h
    · unfold opt at h; split at h <;> simp at h; exact .inl (by simp [h])
    · rcases mg_mem s1 s2 s3 n a [] x h with h | h
      · exact .inl (by simp [h])
      · cases h
  | n + 1, [], y :: b, x, h => by
    simp only [mg, List.mem_append] at h
    rcases h with h | h
    · unfold opt at h; split at h <;> simp at h; exact .inr (by simp [h])
    · rcases mg_mem s1 s2 s3 n [] b x h with h | h
      · cases h
      · exact .inr (by simp [h])
  | n + 1, y :: a, z :: b, x, h => by
    simp only [mg] at h
    split at h
    · simp only [List.mem_append] at h
      rcases h with h | h
      · unfold opt at h; split at h <;> simp at h; exact .inl (by simp [h])
      · rcases mg_mem s1 s2 s3 n a (z :: b) x h with h | h
        · exact .inl (by simp [h])
        · exact .inr h
    · split at h
      · simp only [List.mem_append] at h
        rcases h with h | h
        · unfold opt at h; split at h <;> simp at h; exact .inr (by simp [h])
        · rcases mg_mem s1 s2 s3 n (y :: a) b x h with h | h
          · exact .inl h
          · exact .inr (by simp [h])
      · simp only [List.mem_append] at h
        rcases h with h | h
        · unfold opt at h; split at h <;> simp at h; exact .inl (by simp [h])
        · rcases mg_mem s1 s2 s3 n a b x h with h | h
          · exact .inl (by simp [h])
          · exact .inr (by simp [h])
def Jm (s1 s2 s3 : Bool) (a b : List Int) (x : Int) : Prop := (x ∈ a ∧ x ∉ b ∧ s1 = true) ∨ (x ∉ a ∧ x ∈ b ∧ s2 = true) ∨ (x ∈ a ∧ x ∈ b ∧ s3 = true)
theorem mem_opt (s : Bool) (x y : Int) : x ∈ opt s y ↔ s = true ∧ x = y := by
  unfold opt; cases s <;> simp
theorem pw_opt {s : Bool} {y : Int} {l : List Int} (h : l.Pairwise (· < ·)) (hy : ∀ x ∈ l, y < x) : (opt s y ++ l).Pairwise (· < ·) := by
  refine List.pairwise_append.2 ⟨by unfold opt; cases s <;> simp, h, fun a ha b hb => ?_⟩
  rw [((mem_opt s a y).1 ha).2]
  exact hy b hb
theorem mg_spec (s1 s2 s3 : Bool) : ∀ (n : Nat) (a b : List Int), a.Pairwise (· < ·) → b.Pairwise (· < ·) → a.length + b.length ≤ n → (mg s1 s2 s3 n a b).Pairwise (· < ·) ∧ ∀ x, x ∈ mg s1 s2 s3 n a b ↔ Jm s1 s2 s3 a b x
  | 0, a, b, ha, hb, h => by
    have ha : a = [] := by cases a with | nil => rfl | cons x a => simp at h
    have hb : b = [] := by cases b with | nil => rfl | cons x b => simp at h
    subst ha; subst hb
    exact ⟨List.Pairwise.nil, fun x => by simp [mg, Jm]⟩
  | n + 1, [], [], ha, hb, h => ⟨List.Pairwise.nil, fun x => by simp [mg, Jm]⟩
  | n + 1, y :: a, [], ha, hb, h => by
    obtain ⟨h1, h2⟩ := mg_spec s1 s2 s3 n a [] (List.pairwise_cons.1 ha).2 hb (by simp at h ⊢; omega)
    have hy := (List.pairwise_cons.1 ha).1
    refine ⟨?_, fun x => ?_⟩
    · simp only [mg]
      refine pw_opt h1 fun x hx => ?_
      rcases mg_mem _ _ _ _ _ _ _ hx with h | h
      · exact hy x h
      · cases h
    · simp only [mg, List.mem_append, mem_opt, h2]
      unfold Jm
      by_cases e : x = y
      · subst e
        have : x ∉ a := fun hx => by have := hy x hx; omega
        simp [this]
      · simp [e]
  | n + 1, [], y :: b, ha, hb, h => by
    obtain ⟨h1, h2⟩ := mg_spec s1 s2 s3 n [] b ha (List.pairwise_cons.1 hb).2 (by simp at h ⊢; omega)
    have hy := (List.pairwise_cons.1 hb).1
    refine ⟨?_, fun x => ?_⟩
    · simp only [mg]
      refine pw_opt h1 fun x hx => ?_
      rcases mg_mem _ _ _ _ _ _ _ hx with h | h
      · cases h
      · exact hy x h
    · simp only [mg, List.mem_append, mem_opt, h2]
      unfold Jm
      by_cases e : x = y
      · subst e
        have : x ∉ b := fun hx => by have := hy x hx; omega
        simp [this]
      · simp [e]
  | n + 1, y :: a, z :: b, ha, hb, h => by
    have hy := (List.pairwise_cons.1 ha).1
    have hz := (List.pairwise_cons.1 hb).1
    have ha' := (List.pairwise_cons.1 ha).2
    have hb' := (List.pairwise_cons.1 hb).2
    simp only [List.length_cons] at h
    rcases Int.lt_trichotomy y z with hyz | hyz | hyz
    · obtain ⟨h1, h2⟩ := mg_spec s1 s2 s3 n a (z :: b) ha' hb (by simp; omega)
      refine ⟨?_, fun x => ?_⟩
      · simp only [mg, if_pos hyz]
        refine pw_opt h1 fun x hx => ?_
        rcases mg_mem _ _ _ _ _ _ _ hx with h | h
        · exact hy x h
        · rcases List.mem_cons.1 h with h | h
          · omega
          · have := hz x h; omega
      · simp only [mg, if_pos hyz, List.mem_append, mem_opt, h2]
        unfold Jm
        by_cases e : x = y
        · subst e
          have h3 : x ∉ a := fun hx => by have := hy x hx; omega
          have h4 : x ∉ b := fun hx => by have := hz x hx; omega
          have h5 : x ≠ z := by omega
          simp [h3, h4, h5]
        · simp [e]
    · subst hyz
      obtain ⟨h1, h2⟩ := mg_spec s1 s2 s3 n a b ha' hb' (by omega)
      refine ⟨?_, fun x => ?_⟩
      · simp only [mg, Int.lt_irrefl, if_false]
        refine pw_opt h1 fun x hx => ?_
        rcases mg_mem _ _ _ _ _ _ _ hx with h | h
        · exact hy x h
        · exact hz x h
      · simp only [mg, Int.lt_irrefl, if_false, List.mem_append, mem_opt, h2]
        unfold Jm
        by_cases e : x = y
        · subst e
          have h3 : x ∉ a := fun hx => by have := hy x hx; omega
          have h4 : x ∉ b := fun hx => by have := hz x hx; omega
          simp [h3, h4]
        · simp [e]
    · have hn : ¬ y < z := by omega
      obtain ⟨h1, h2⟩ := mg_spec s1 s2 s3 n (y :: a) b ha hb' (by simp; omega)
      refine ⟨?_, fun x => ?_⟩
      · simp only [mg, if_neg hn, if_pos hyz]
        refine pw_opt h1 fun x hx => ?_
        rcases mg_mem _ _ _ _ _ _ _ hx with h | h
        · rcases List.mem_cons.1 h with h | h
          · omega
          · have := hy x h; omega
        · exact hz x h
      · simp only [mg, if_neg hn, if_pos hyz, List.mem_append, mem_opt, h2]
        unfold Jm
        by_cases e : x = z
        · subst e
          have h3 : x ∉ a := fun hx => by have := hy x hx; omega
          have h4 : x ∉ b := fun hx => by have := hz x hx; omega
          have h5 : x ≠ y := by omega
          simp [h3, h4, h5]
        · simp [e]
def joinP (s1 s2 s3 : Bool) (p q : Nat → Bool) : Nat → Bool := fun i => (p i && !q i && s1) || (!p i && q i && s2) || (p i && q i && s3)
theorem mgl_L (s1 s2 s3 : Bool) (p q : Nat → Bool) : mgl s1 s2 s3 (L p) (L q) = L (joinP s1 s2 s3 p q) := by
  obtain ⟨h1, h2⟩ := mg_spec s1 s2 s3 ((L p).length + (L q).length) (L p) (L q) (rise_pw (L_rise p)) (rise_pw (L_rise q)) (Nat.le_refl _)
  refine L_unique h1 fun x => (h2 x).trans ?_
  unfold Jm
  constructor
  · intro h
    have hx : ∃ i : Nat, x = (i : Int) ∧ i < 65536 := by
      rcases h with ⟨h, _⟩ | ⟨_, h, _⟩ | ⟨h, _⟩ <;> (obtain ⟨i, h3, h4, _⟩ := mem_LI.1 h; exact ⟨i, h3, h4⟩)
    obtain ⟨i, rfl, hi⟩ := hx
    refine ⟨i, rfl, hi, ?_⟩
    rw [mem_L hi, mem_L hi] at h
    unfold joinP
    cases hp : p i <;> cases hq : q i <;> simp_all
  · rintro ⟨i, rfl, hi, h⟩
    rw [mem_L hi, mem_L hi]
    unfold joinP at h
    cases hp : p i <;> cases hq : q i <;> simp_all
theorem jn_bit (op : Nat → Nat → Nat) (a b : List Nat) (ha : a.length = 1024) (hb : b.length = 1024) (i : Nat) (hi : i < 65536) : wbit (jn op a b) i = (op (a.getD (i / 64) 0) (b.getD (i / 64) 0)).testBit (i % 64) := by
  unfold wbit jn
  congr 1
  have h1 : i / 64 < 1024 := by omega
  rw [List.getD_eq_getElem?_getD, List.getElem?_zipWith, List.getD_eq_getElem?_getD, List.getD_eq_getElem?_getD, List.getElem?_eq_getElem (by omega), List.getElem?_eq_getElem (by omega)]
  rfl
theorem jn_or {a b : List Nat} (ha : Ws a) (hb : Ws b) (i : Nat) (hi : i < 65536) : wbit (jn orN a b) i = (wbit a i || wbit b i) := by
  rw [jn_bit orN a b ha.1 hb.1 i hi]; unfold orN wbit; exact Nat.testBit_or _ _ _
theorem jn_and {a b : List Nat} (ha : Ws a) (hb : Ws b) (i : Nat) (hi : i < 65536) : wbit (jn andN a b) i = (wbit a i && wbit b i) := by
  rw [jn_bit andN a b ha.1 hb.1 i hi]; unfold andN wbit; exact Nat.testBit_and _ _ _
theorem jn_less {a b : List Nat} (ha : Ws a) (hb : Ws b) (i : Nat) (hi : i < 65536) : wbit (jn andn a b) i = (wbit a i && !wbit b i) := by
  rw [jn_bit andn a b ha.1 hb.1 i hi]; unfold wbit
  exact andn_bit _ _ _ (hb.at_ (by omega)) (Nat.mod_lt _ (by decide))
theorem jn_xor {a b : List Nat} (ha : Ws a) (hb : Ws b) (i : Nat) (hi : i < 65536) : wbit (jn xorN a b) i = (wbit a i != wbit b i) := by
  rw [jn_bit xorN a b ha.1 hb.1 i hi]; unfold xorN wbit; rw [Nat.testBit_xor]
/-- of many -/
def orP (ps : List (Nat → Bool)) : Nat → Bool := fun i => ps.any (fun p => p i)
def andP (ps : List (Nat → Bool)) : Nat → Bool := fun i => !ps.isEmpty && ps.all (fun p => p i)
theorem or_foldL (ps : List (Nat → Bool)) : ∀ (p : Nat → Bool), ps.foldl (fun acc q => mgl true true true acc (L q)) (L p) = L (fun i => p i || orP ps i) := by
  induction ps with
  | nil => intro p; rw [List.foldl_nil]; refine L_congr fun i _ => ?_; simp [orP]
  | cons q ps ih =>
    intro p
    rw [List.foldl_cons, mgl_L, ih]
    refine L_congr fun i _ => ?_
    simp only [orP, joinP, List.any_cons]
    cases p i <;> cases q i <;> simp
theorem and_foldL (ps : List (Nat → Bool)) : ∀ (p : Nat → Bool), ps.foldl (fun acc q => mgl false false true acc (L q)) (L p) = L (fun i => p i && ps.all (fun p => p i)) := by
  induction ps with
  | nil => intro p; rw [List.foldl_nil]; refine L_congr fun i _ => ?_; simp
  | cons q ps ih =>
    intro p
    rw [List.foldl_cons, mgl_L, ih]
    refine L_congr fun i _ => ?_
    simp only [joinP, List.all_cons]
    cases p i <;> cases q i <;> simp
theorem foldl_sl (f : List Int → List Int → List Int) : ∀ (ls : List Sl) (ps : List (Nat → Bool)) (a : List Int), ls.map (·.l) = ps.map L → ls.foldl (fun acc x => f acc x.l) a = ps.foldl (fun acc q => f acc (L q)) a := by
  intro ls
  induction ls with
  | nil =>
    intro ps a h
    rcases ps with _ | ⟨q, ps⟩
    · rfl
    · simp at h
  | cons x ls ih =>
    intro ps a h
    rcases ps with _ | ⟨q, ps⟩
    · simp at h
    · simp only [List.map_cons, List.cons.injEq] at h
      rw [List.foldl_cons, List.foldl_cons, h.1]
      exact ih ps _ h.2
theorem orAll_L (ls : List Sl) (ps : List (Nat → Bool)) (h : ls.map (·.l) = ps.map L) : orAll ls = L (orP ps) := by
  unfold orAll
  rw [foldl_sl _ ls ps _ h, show ([] : List Int) = L noneP from L_noneP.symm, or_foldL]
  exact L_congr fun i _ => by simp [noneP]
theorem andAll_L (ls : List Sl) (ps : List (Nat → Bool)) (h : ls.map (·.l) = ps.map L) : andAll ls = L (andP ps) := by
  rcases ls with _ | ⟨x, ls⟩ <;> rcases ps with _ | ⟨q, ps⟩
  · show [] = _
    rw [← L_noneP]
    exact L_congr fun i _ => by simp [noneP, andP]
  · simp at h
  · simp at h
  · simp only [List.map_cons, List.cons.injEq] at h
    show ls.foldl _ x.l = _
    rw [foldl_sl _ ls ps _ h.2, h.1, and_foldL]
    exact L_congr fun i _ => by simp [andP]
theorem jnAll_fold (op : Nat → Nat → Nat) (g : Bool → Bool → Bool) (hop : ∀ x y, x < 18446744073709551616 → y < 18446744073709551616 → op x y < 18446744073709551616) (hg : ∀ a b : List Nat, Ws a → Ws b → ∀ i, i < 65536 → wbit (jn op a b) i = g (wbit a i) (wbit b i)) : ∀ (r : List (List Nat)) (ps : List (Nat → Bool)) (a : List Nat) (p : Nat → Bool), Ws a → (∀ i, i < 65536 → wbit a i = p i) → r.length = ps.length → (∀ k, k < r.length → Ws (r.getD k []) ∧ ∀ i, i < 65536 → wbit (r.getD k []) i = (ps.getD k noneP) i) → Ws (r.foldl (jn op) a) ∧ ∀ i, i < 65536 → wbit (r.foldl (jn op) a) i = ps.foldl (fun acc q => g acc (q i)) (p i) := by
  intro r
  induction r with
  | nil =>
    intro ps a p ha hp hl hk
    rcases ps with _ | ⟨q, ps⟩
    · exact ⟨ha, hp⟩
    · simp at hl
  | cons b r ih =>
    intro ps a p ha hp hl hk
    rcases ps with _ | ⟨q, ps⟩
    · simp at hl
    · obtain ⟨hb, hq⟩ := hk 0 (by simp)
      simp only [List.getD_cons_zero] at hb hq
      have h1 := ih ps (jn op a b) (fun i => g (p i) (q i)) (jn_ws hop ha hb) (fun i hi => by rw [hg a b ha hb i hi, hp i hi, hq i hi]) (by simpa using hl) (fun k hk2 => by
        have := hk (k + 1) (by simpa using hk2)
        simpa only [List.getD_cons_succ] using this)
      exact ⟨h1.1, fun i hi => h1.2 i hi⟩
end Go.Proofs.YtbjekoljipjldaaGreatDoor
namespace Go.Proofs.YtbjekoljipjldaaGreatDoor
set_option linter.unusedVariables false
set_option linter.unusedSimpArgs false
open Go.RowKit
attribute [local go_sem ↓] Go.wp_at_zero Go.wp_at_succ

/-- boxes in a slice -/
structure BxR where
  v : Value
  p : Nat → Bool
def RdX (w : World) (A : Option Addr) (xs : List BxR) : Prop := ∀ (i : Nat) (hi : i < xs.length), ∃ ad, A = some ad ∧ ad.block < w.heap.size ∧ w.cell? (ad.add i) = some xs[i].v ∧ BoxV w 0 xs[i].v xs[i].p
theorem RdX.below {w w' : World} {A : Option Addr} {xs : List BxR} (h : RdX w A xs) (hb : Below w.heap.size w w') : RdX w' A xs := fun i hi => by
  obtain ⟨ad, e, h1, h2, h3⟩ := h i hi
  exact ⟨ad, e, Nat.lt_of_lt_of_le h1 hb.size, (hb.cell (p := ad.add i) (by rw [block_of_add]; exact h1)).trans h2, h3.below hb⟩
def sumF (f : BxR → Nat) (xs : List BxR) : Nat := (xs.map f).sum
theorem sumF_take (f : BxR → Nat) (xs : List BxR) (k : Nat) (hk : k < xs.length) : sumF f (xs.take (k + 1)) = sumF f (xs.take k) + f xs[k] := by
  unfold sumF
  rw [List.take_succ_eq_append_getElem hk, List.map_append, List.sum_append]
  simp
theorem sumF_bd (f : BxR → Nat) (h : ∀ x, f x ≤ 65536) (xs : List BxR) : sumF f xs ≤ 65536 * xs.length := by
  unfold sumF
  induction xs with
  | nil => simp
  | cons x xs ih =>
    have := h x
    simp only [List.map_cons, List.sum_cons, List.length_cons]
    omega
def lenX (x : BxR) : Nat := (L x.p).length
theorem lenX_eq (x : BxR) : lenX x = (L x.p).length := rfl
def totX (xs : List BxR) : Nat := sumF lenX xs
theorem totX_take (xs : List BxR) (k : Nat) (hk : k < xs.length) : totX (xs.take (k + 1)) = totX (xs.take k) + (L xs[k].p).length := by
  rw [← lenX_eq]; exact sumF_take lenX xs k hk
theorem totX_bd (xs : List BxR) : totX xs ≤ 65536 * xs.length := sumF_bd lenX (fun x => by rw [lenX_eq]; exact L_le x.p) xs
set_option maxRecDepth 100000 in
set_option maxHeartbeats 1000000 in
theorem joinFew (A : Option Addr) (c : Nat) (xs : List BxR) (w : World) (hr : RdX w A xs) (hl : xs.length ≤ 1000) :
    Calls Tryz.prog 35 #[.slice A xs.length c] w fun e w' => e = .returned (.bool (decide (totX xs ≤ 4096))) ∧ Below w.heap.size w w' := by
  have HR := Lib.hid hr
  clear hr
  go_enter Tryz.func35, Tryz.ntmps35
  go_wp2
  go_loopw [3, 8] (fun v3 v8 wr => ∃ k n : Nat, k ≤ xs.length ∧ v8 = .int .i64 k ∧ v3 = .int .i64 n ∧ Hid (n = totX (xs.take k)) ∧ Hid (Below w.heap.size w wr)) (fun _ v8 _ => xs.length - (intOf v8).toNat)
  case atStart => exact ⟨0, 0, Nat.zero_le _, rfl, rfl, rfl, Below.refl _ _⟩
  case round =>
    obtain ⟨k, n, hk, rfl, rfl, HN, HB⟩ := hrel
    by_cases hlt : k < xs.length
    · obtain ⟨ad, rfl, _, hcl, hbx⟩ := (HR.out.below HB.out) k hlt
      have HT := Lib.hid (totX_take xs k hlt)
      have HBX := Lib.hid hbx
      have hn1 : n ≤ 65536000 := by
        have h1 := totX_bd (xs.take k)
        rw [← HN.out] at h1
        simp at h1
        omega
      have hle := L_le xs[k].p
      clear hbx
      generalize xs[k] = x at *
      go_wp2_with fail
      refine (boxLen x.v x.p _ HBX.out).mono ?_
      rintro e w2 ⟨rfl, hb2⟩
      have HN2 := Lib.hid (show n + (L x.p).length = totX (xs.take (k + 1)) by rw [HT.out, HN.out])
      have HB2 := Lib.hid (below_then HB.out hb2)
      clear hb2
      go_wp2
      go_roundw
      case rel => exact ⟨k + 1, n + (L x.p).length, by omega, by go_num, by go_num, HN2.out, HB2.out⟩
      case measure => simp [intOf]; omega
    · obtain rfl : k = xs.length := by omega
      have HN2 := HN.out
      rw [List.take_of_length_le (Nat.le_refl _)] at HN2
      have hb := totX_bd xs
      rw [← HN2] at hb
      replace HN2 := Lib.hid HN2
      by_cases h4 : (n : Int) ≤ 4096
      · have h5 : n ≤ 4096 := by omega
        go_wp2
        go_ret
        exact ⟨by rw [← HN2.out, decide_eq_true h5]; first | rfl | (rw [decide_eq_true h4]), HB.out⟩
      · have h5 : ¬ n ≤ 4096 := by omega
        go_wp2
        go_ret
        exact ⟨by rw [← HN2.out, decide_eq_false h5]; first | rfl | (rw [decide_eq_false h4]), HB.out⟩
set_option maxRecDepth 100000 in
theorem joinOf (b s d : Nat) (ws : List Nat) (p : Nat → Bool) (w : World) (hB : Bm w b s d ws) (hT : Tab64 w) (hp : ∀ i, i < 65536 → wbit ws i = p i) :
    Calls Tryz.prog 38 #[.pointer (some ⟨b, 0, none⟩)] w fun e w' => ∃ x, e = .returned (.pointer (some ⟨x, 0, none⟩)) ∧ Hid (Box w' w.heap.size x (plainK p) p) ∧ Below w.heap.size w w' := by
  have HB := Lib.hid hB
  have HT := Lib.hid hT
  have HP := Lib.hid hp
  clear hB hT hp
  go_enter Tryz.func38, Tryz.ntmps38
  go_wp2_with fail
  refine (bmAllMake b _).mono ?_
  rintro e w1 ⟨rfl, rfl⟩
  have HBW := Lib.hid ((Below.refl w.heap.size w).alloc (Nat.le_refl _) (.cells #[.pointer (some ⟨b, 0, none⟩)] 60))
  go_wp2_with fail
  refine (collectBm w.heap.size b s d ws _ (blk_cell (blk_new _ _ _) 0 rfl) (by simp) (HB.out.below HBW.out) (HT.out.stays HBW.out)).mono ?_
  rintro e w2 ⟨v, rfl, ⟨xs, hxs, ho⟩, hb⟩
  rw [hxs, bl_congr 65536 HP.out, ← LN_eq, ← L_def] at ho
  obtain ⟨A1, c1, rfl, hc1, hr1, _⟩ := ho.formS
  have HR1 := Lib.hid hr1
  have HBB := Lib.hid (below_then HBW.out hb)
  clear hxs ho hb hr1
  go_wp2_with fail
  refine (boxOf A1 c1 p _ HR1.out (HT.out.stays HBB.out)).mono ?_
  rintro e w3 ⟨x, rfl, HX, hb3⟩
  have HB3 := Lib.hid (below_then HBB.out hb3)
  have hz := HBB.out.size
  clear hb3
  go_wp2
  go_ret
  exact ⟨x, rfl, HX.out.mono hz, HB3.out⟩
theorem row_cells {w : World} {base : Nat} {e : TypeId} {v : Value} {n : Nat} {cs : List Value} (h : w.ownsRow base e 1 v n cs) : ∀ g, v.ownBlock = some g → (∃ cur, w.heap[g]? = some (.cells cur e (0, 0))) ∧ base ≤ g := fun g hg => by
  rcases h.2 with ⟨rfl, _⟩ | ⟨g', cap, cur, rfl, hgb, hh, _⟩
  · simp [Value.ownBlock] at hg
  · simp [Value.ownBlock] at hg
    subst hg
    exact ⟨⟨cur, hh⟩, hgb⟩
theorem madeCells_one {z : Value} (m : Nat) : madeCells #[z] m = (List.replicate m z).toArray := by
  apply Array.ext'
  apply List.ext_getElem?
  intro j
  simp only [madeCells, Array.toList_map, Array.toList_range, List.getElem?_map, List.getElem?_replicate]
  by_cases hj : j < m
  · rw [List.getElem?_range (by simpa using hj), if_pos hj]
    simp [Nat.mod_one]
  · rw [if_neg hj, List.getElem?_eq_none (by simpa using hj)]
    rfl
section
variable {P : Program} {ops : Array Oper} {rest : List Oper} {o : Oper} {a : Act} {Q : Exit → Act → World → Prop} {w : World}
theorem wpList_makeRow {z : Value} {e t : TypeId} {i : TypeInfo} (n : Nat) (x y : Operand)
    (hgd : o.guard = none) (ho : o.op = .makeSlice t x y)
    (ht : P.underlying t = some (.slice e)) (hi : P.info? e = some i) (hz : i.zero = some z) (hzc : z.cells = #[z]) (hs1 : i.size = 1)
    (hx : a.eval x = .int .i64 0) (hy : a.eval y = .int .i64 n) (hbytes : i.bytes * n ≤ 281474976710656) (hlen : n ≤ maxLen)
    (h : wpList P ops Q rest (a.put o.dst (.slice (some ⟨w.heap.size, 0, none⟩) 0 n)) (w.alloc (.cells (Array.replicate n z) e))) : wpList P ops Q (o :: rest) a w := by
  refine wpList_plain hgd fun K hK => ?_
  have h63' : (n : Int) ≤ 9223372036854775807 := by
    have h := hlen
    simp [maxLen] at h
    omega
  have hb' : (i.bytes : Int) * (n : Int) ≤ 281474976710656 := by
    have h : ((i.bytes * n : Nat) : Int) ≤ 281474976710656 := by omega
    rwa [Int.natCast_mul] at h
  have hr := run_make (P := P) w t e i _ ht hi hz .i64 .i64 0 n (by omega) (by omega) hb' h63'
  simp only [Int.toNat_natCast, hs1, Nat.mul_one, Int.toNat_zero] at hr
  rw [hzc, madeCells_one, List.toArray_replicate] at hr
  unfold Oper.wp execOp
  simp only [ho, Sem.run_bind, Sem.run_pure, Result.andThen_ok, hx, hy, hr]
  exact hK _ _ h
end
theorem row_made {w : World} {base : Nat} {e : TypeId} (hb : base ≤ w.heap.size) (z : Value) (n : Nat) (hn : n ≤ maxLen) : (w.alloc (.cells (Array.replicate n z) e)).ownsRow base e 1 (.slice (some ⟨w.heap.size, 0, none⟩) 0 n) 0 [] :=
  ⟨rfl, .inr ⟨_, _, _, rfl, hb, heap_alloc_new w _, Nat.zero_le _, hn, by simp, by simp⟩⟩
end Go.Proofs.YtbjekoljipjldaaGreatDoor
namespace Go.Proofs.YtbjekoljipjldaaGreatDoor
set_option linter.unusedVariables false
set_option linter.unusedSimpArgs false
open Go.RowKit
attribute [local go_sem ↓] Go.wp_at_zero Go.wp_at_succ

section
variable {P : Program} {ops : Array Oper} {rest : List Oper} {o : Oper} {a : Act} {Q : Exit → Act → World → Prop} {w : World}
/-- append of one value to a row of the call's own -/
theorem wpList_pushG {e t : TypeId} {i : TypeInfo} {z : Value} {by_ : Nat} (base : Nat) (v : Value) (n : Nat) (cs : List Value) (u : Value) (s y : Operand) (B : Nat)
    (hgd : o.guard = none) (ho : o.op = .call { callee := .builtin .append, args := #[s, y], argTypes := #[t, t] })
    (ht : P.underlying t = some (.slice e)) (hi : P.info? e = some i) (hz : i.zero = some z) (hs1 : i.size = 1) (hby : i.bytes = by_) (hzs : z.cells.size = 1)
    (hs : a.eval s = v) (hy : a.eval y = .slice (some ⟨B, 0, none⟩) 1 1) (hB : w.heap[B]? = some (.cells #[u] e (0, 0))) (hu : u.oneCell' = true)
    (hown : w.ownsRow base e 1 v n cs) (hbase : base ≤ w.heap.size) (hbytes : (n + 1) * by_ ≤ 140737488355328) (hlen : n + 1 ≤ maxLen)
    (h : ∀ v' w', w'.ownsRow base e 1 v' (n + 1) (cs ++ [u]) → w.grownBy w' v.ownBlock → wpList P ops Q rest (a.put o.dst v') w') : wpList P ops Q (o :: rest) a w := by
  refine wpList_append_own_at w hgd s y t ho base e i z 1 by_ ht hi hz hs1 hby hzs (by omega) v n _ hs hown ⟨B, 0, none⟩ 1 1 [u] hy rfl ?_ ?_ hlen hbytes hbase ?_
  · intro j x hx
    have hj : j = 0 := by
      rcases j with _ | j
      · rfl
      · simp at hx
    subst hj
    simp at hx
    subst hx
    rw [add_mk, cell_of_row w B 0 _ e (0, 0) hB]
    rfl
  · intro x hx
    simp at hx
    subst hx
    exact hu
  · intro v' w' h1 h2 _ _
    exact h v' w' h1 h2
end
theorem row_form {w : World} {base : Nat} {e : TypeId} {v : Value} {n : Nat} {cs : List Value} (h : w.ownsRow base e 1 v n cs) : cs.length = n ∧ ∃ A c, v = .slice A n c ∧ n ≤ c ∧ ∀ (i : Nat) (hi : i < cs.length), ∃ ad, A = some ad ∧ ad.block < w.heap.size ∧ w.cell? (ad.add i) = some cs[i] := by
  refine ⟨by simpa using h.1, ?_⟩
  have hl : cs.length = n := by simpa using h.1
  rcases h.2 with ⟨rfl, hn⟩ | ⟨g, cap, cur, rfl, hg, hh, hnc, hcap, hsz, htk⟩
  · exact ⟨none, 0, by rw [hn], by omega, fun i hi => by omega⟩
  · refine ⟨some ⟨g, 0, none⟩, cap, rfl, hnc, fun i hi => ⟨_, rfl, blk_lt hh, ?_⟩⟩
    rw [add_mk, cell_of_row w g i cur e (0, 0) hh]
    have h1 : (cur.toList.take (n * 1))[i]? = some cs[i] := by rw [htk, List.getElem?_eq_getElem hi]
    rw [List.getElem?_take, if_pos (by omega)] at h1
    simpa using h1
theorem row_kept {w w' : World} {base : Nat} {e : TypeId} {v : Value} {n : Nat} {cs : List Value} (h : w.ownsRow base e 1 v n cs) (hb : Below w.heap.size w w') : w'.ownsRow base e 1 v n cs := by
  obtain ⟨h1, h2⟩ := h
  refine ⟨h1, ?_⟩
  rcases h2 with h2 | ⟨g, cap, cur, rfl, hg, hh, hr⟩
  · exact .inl h2
  · exact .inr ⟨g, cap, cur, rfl, hg, by rw [hb.block g (blk_lt hh)]; exact hh, hr⟩
def cellSl (s : Sl) : Value := .slice s.A s.l.length s.c
/-- a slice of slices of the call's own, which are the boxes' lists -/
structure Slown (w : World) (base : Nat) (v : Value) (ls : List Sl) (xs : List BxR) : Prop where
  row : w.ownsRow base 45 1 v ls.length (ls.map cellSl)
  is : ls.map (·.l) = xs.map (fun x => L x.p)
  each : ∀ s ∈ ls, Own .u16 43 w 0 (.slice s.A s.l.length s.c) s.l ∧ s.l.length ≤ s.c
theorem Slown.len {w : World} {base : Nat} {v : Value} {ls : List Sl} {xs : List BxR} (h : Slown w base v ls xs) : ls.length = xs.length := by
  have := congrArg List.length h.is
  simpa using this
theorem Slown.below {w w' : World} {base : Nat} {v : Value} {ls : List Sl} {xs : List BxR} (h : Slown w base v ls xs) (hb : Below w.heap.size w w') : Slown w' base v ls xs :=
  ⟨row_kept h.row hb, h.is, fun s hs => ⟨(h.each s hs).1.below hb, (h.each s hs).2⟩⟩
theorem Slown.form {w : World} {base : Nat} {v : Value} {ls : List Sl} {xs : List BxR} (h : Slown w base v ls xs) : ∃ A c, v = .slice A ls.length c ∧ ls.length ≤ c ∧ RdL w A ls := by
  obtain ⟨_, A, c, h1, h2, h3⟩ := row_form h.row
  refine ⟨A, c, h1, h2, fun i hi => ?_⟩
  obtain ⟨ad, e1, e2, e3⟩ := h3 i (by simpa using hi)
  refine ⟨ad, e1, e2, by rw [e3, List.getElem_map]; rfl, (h.each _ (List.getElem_mem hi)).1.rd, (h.each _ (List.getElem_mem hi)).2⟩
theorem Slown.push {w w' : World} {base : Nat} {v v' : Value} {ls : List Sl} {xs : List BxR} (h : Slown w base v ls xs) (s : Sl) (x : BxR) (hs : Own .u16 43 w 0 (.slice s.A s.l.length s.c) s.l ∧ s.l.length ≤ s.c) (hx : s.l = L x.p) (hr : w'.ownsRow base 45 1 v' (ls.length + 1) (ls.map cellSl ++ [cellSl s])) (hg : w.grownBy w' v.ownBlock) : Slown w' base v' (ls ++ [s]) (xs ++ [x]) := by
  refine ⟨by simpa using hr, by rw [List.map_append, List.map_append, h.is]; simp [hx], fun y hy => ?_⟩
  have key : ∀ y : Sl, Own .u16 43 w 0 (.slice y.A y.l.length y.c) y.l → Own .u16 43 w' 0 (.slice y.A y.l.length y.c) y.l := fun y hy => by
    refine hy.kept hg ?_
    rcases hv : v.ownBlock with _ | g
    · exact .inl rfl
    · refine .inr fun e => ?_
      obtain ⟨⟨cur, hc⟩, _⟩ := row_cells h.row g hv
      obtain ⟨cs, hc2⟩ := hy.cells g e.symm
      exact ty_ne hc hc2 (by decide)
  rcases List.mem_append.1 hy with hy | hy
  · exact ⟨key y (h.each y hy).1, (h.each y hy).2⟩
  · simp at hy
    subst hy
    exact ⟨key _ hs.1, hs.2⟩
def cellBm (b : BmR) : Value := .pointer (some ⟨b.b, 0, none⟩)
/-- a slice of bitmaps of the call's own, which have the boxes' numbers -/
structure BmRown (w : World) (base : Nat) (v : Value) (bs : List BmR) (xs : List BxR) : Prop where
  row : w.ownsRow base 60 1 v bs.length (bs.map cellBm)
  len : bs.length = xs.length
  is : ∀ (i : Nat) (h1 : i < bs.length) (h2 : i < xs.length), ∀ j, j < 65536 → wbit bs[i].ws j = xs[i].p j
  each : ∀ b ∈ bs, Bm w b.b b.s b.d b.ws
theorem BmRown.below {w w' : World} {base : Nat} {v : Value} {bs : List BmR} {xs : List BxR} (h : BmRown w base v bs xs) (hb : Below w.heap.size w w') : BmRown w' base v bs xs :=
  ⟨row_kept h.row hb, h.len, h.is, fun s hs => (h.each s hs).below hb⟩
theorem BmRown.form {w : World} {base : Nat} {v : Value} {bs : List BmR} {xs : List BxR} (h : BmRown w base v bs xs) : ∃ A c, v = .slice A bs.length c ∧ bs.length ≤ c ∧ RdB w A bs := by
  obtain ⟨_, A, c, h1, h2, h3⟩ := row_form h.row
  refine ⟨A, c, h1, h2, fun i hi => ?_⟩
  obtain ⟨ad, e1, e2, e3⟩ := h3 i (by simpa using hi)
  exact ⟨ad, e1, e2, by rw [e3, List.getElem_map]; rfl, h.each _ (List.getElem_mem hi)⟩
theorem BmRown.push {w w' : World} {base : Nat} {v v' : Value} {bs : List BmR} {xs : List BxR} (h : BmRown w base v bs xs) (b : BmR) (x : BxR) (hs : Bm w b.b b.s b.d b.ws) (hx : ∀ j, j < 65536 → wbit b.ws j = x.p j) (hr : w'.ownsRow base 60 1 v' (bs.length + 1) (bs.map cellBm ++ [cellBm b])) (hg : w.grownBy w' v.ownBlock) : BmRown w' base v' (bs ++ [b]) (xs ++ [x]) := by
  have hlen := h.len
  have key : ∀ y : BmR, Bm w y.b y.s y.d y.ws → Bm w' y.b y.s y.d y.ws := fun y hy => by
    have hne : ∀ (g : Nat) (cs : Array Value) (t : TypeId), w.heap[g]? = some (.cells cs t (0, 0)) → 60 ≠ t → ¬ (v.ownBlock = some g) := fun g cs t hh ht e => by
      obtain ⟨⟨cur, hc⟩, _⟩ := row_cells h.row g e
      exact ty_ne hc hh ht
    exact hy.chg (S := fun k => v.ownBlock = some k) (Chg.of_grown hg (fun b e => e)) (hne _ _ _ hy.1 (by decide)) (hne _ _ _ hy.2.1 (by decide)) (hne _ _ _ hy.2.2.1 (by decide))
  refine ⟨by simpa using hr, by simp [hlen], fun i h1 h2 j hj => ?_, fun y hy => ?_⟩
  · simp only [List.length_append, List.length_singleton] at h1 h2
    rcases Nat.lt_or_ge i bs.length with h3 | h3
    · rw [List.getElem_append_left h3, List.getElem_append_left (by omega)]
      exact h.is i h3 (by omega) j hj
    · have e1 : i = bs.length := by omega
      subst e1
      have e2 : (bs ++ [b])[bs.length]'(by simp) = b := by simp
      have e3 : (xs ++ [x])[bs.length]'(by simp; omega) = x := by simp [hlen]
      rw [e2, e3]
      exact hx j hj
  · rcases List.mem_append.1 hy with hy | hy
    · exact key y (h.each y hy)
    · simp at hy
      subst hy
      exact key _ hs
theorem sl_info : (Tryz.prog.info? 45).map (fun i => (i.zero, i.size, i.bytes)) = some (some (.slice none 0 0), 1, 24) := by kernel_rfl
theorem bp_info : (Tryz.prog.info? 60).map (fun i => (i.zero, i.size, i.bytes)) = some (some (.pointer none), 1, 8) := by kernel_rfl
set_option maxRecDepth 100000 in
set_option maxHeartbeats 2000000 in
theorem joinLists (A : Option Addr) (c : Nat) (xs : List BxR) (w : World) (hr : RdX w A xs) (hT : Tab64 w) (hl : xs.length ≤ 1000) :
    Calls Tryz.prog 37 #[.slice A xs.length c] w fun e w' => ∃ A' c' ls, e = .returned (.slice A' ls.length c') ∧ ls.length ≤ c' ∧ Hid (RdL w' A' ls) ∧ Hid (ls.map (·.l) = xs.map (fun x => L x.p)) ∧ Below w.heap.size w w' := by
  obtain ⟨i0, hi, hz0, hz1, hz2⟩ := info_parts sl_info
  have HR := Lib.hid hr
  have HT := Lib.hid hT
  have hbt : i0.bytes * xs.length ≤ 281474976710656 := by rw [hz2]; omega
  have hmx : xs.length ≤ maxLen := by unfold maxLen; omega
  clear hr hT
  go_enter Tryz.func37, Tryz.ntmps37
  go_wp2_with (refine wpList_makeRow xs.length _ _ rfl rfl Tryz.underlying57 hi hz0 rfl hz1 rfl rfl hbt hmx ?_)
  have HOW := Lib.hid (row_made (w := w) (base := w.heap.size) (e := 45) (Nat.le_refl _) (.slice none 0 0) xs.length hmx)
  have HBW := Lib.hid ((Below.refl w.heap.size w).alloc (Nat.le_refl _) (.cells (Array.replicate xs.length (.slice none 0 0)) 45))
  generalize w.alloc (.cells (Array.replicate xs.length (.slice none 0 0)) 45) = w0 at *
  go_loopw [3, 11] (fun v3 v11 wr => ∃ (k : Nat) (ls : List Sl), k ≤ xs.length ∧ v11 = .int .i64 k ∧ Hid (Slown wr w.heap.size v3 ls (xs.take k)) ∧ Hid (Below w.heap.size w wr)) (fun _ v11 _ => xs.length - (intOf v11).toNat)
  case atStart => exact ⟨0, [], Nat.zero_le _, rfl, ⟨HOW.out, rfl, by simp⟩, HBW.out⟩
  case round =>
    obtain ⟨k, ls, hk, rfl, HO, HB⟩ := hrel
    by_cases hlt : k < xs.length
    · obtain ⟨ad, rfl, _, hcl, hbx⟩ := (HR.out.below HB.out) k hlt
      have HTK := Lib.hid (show xs.take (k + 1) = xs.take k ++ [xs[k]] from List.take_succ_eq_append_getElem hlt)
      have HBX := Lib.hid hbx
      have hln : ls.length ≤ 1000 := by rw [HO.out.len]; simp; omega
      clear hbx
      generalize xs[k] = x at *
      go_wp2_with fail
      refine (boxList x.v x.p _ HBX.out (HT.out.stays HB.out)).mono ?_
      rintro e w2 ⟨A2, c2, rfl, hc2, HO2, hb2⟩
      have HOL := Lib.hid (HO.out.below hb2)
      have HB2 := Lib.hid (below_then HB.out hb2)
      have hzw := HB2.out.size
      clear hb2
      go_wp2_with (at_builtin; refine wpList_pushG w.heap.size _ ls.length (ls.map cellSl) (.slice A2 (L x.p).length c2) _ _ _ rfl rfl Tryz.underlying57 hi hz0 hz1 hz2 rfl rfl rfl (heap_alloc_new _ _) rfl (row_kept HOL.out.row ((Below.refl _ _).alloc (Nat.le_refl _) _)) (by simp; omega) (by omega) (by unfold maxLen; omega) ?_; intro v1 w1 ho1 hg1)
      have hba := (Below.refl _ w2).alloc (Nat.le_refl _) (.cells #[.slice A2 (L x.p).length c2] 45)
      have HPU := Lib.hid ((HOL.out.below hba).push ⟨A2, c2, L x.p⟩ x ⟨(HO2.out.below hba).mono (Nat.zero_le _), hc2⟩ rfl ho1 hg1)
      have HGB := Lib.hid ((HB2.out.alloc hzw (.cells #[.slice A2 (L x.p).length c2] 45)).grown hg1 (by simp; omega) (fun g e => (row_cells HOL.out.row g e).2))
      clear ho1 hg1 hba
      go_wp2
      go_roundw
      case rel => exact ⟨k + 1, _, by omega, by go_num, by rw [HTK.out]; exact HPU.out, HGB.out⟩
      case measure => simp [intOf]; omega
    · obtain rfl : k = xs.length := by omega
      have HO2 := HO.out
      rw [List.take_of_length_le (Nat.le_refl _)] at HO2
      obtain ⟨A2, c2, rfl, h2, h3⟩ := HO2.form
      have H3 := Lib.hid h3
      replace HO2 := Lib.hid HO2
      clear h3
      go_wp2
      go_ret
      exact ⟨A2, c2, ls, rfl, h2, H3.out, HO2.out.is, HB.out⟩
set_option maxRecDepth 100000 in
set_option maxHeartbeats 2000000 in
theorem joinMaps (A : Option Addr) (c : Nat) (xs : List BxR) (w : World) (hr : RdX w A xs) (hT : Tab64 w) (hl : xs.length ≤ 1000) :
    Calls Tryz.prog 40 #[.slice A xs.length c] w fun e w' => ∃ A' c' ls, e = .returned (.slice A' ls.length c') ∧ ls.length ≤ c' ∧ Hid (RdB w' A' ls) ∧ Hid (ls.length = xs.length ∧ ∀ (i : Nat) (h1 : i < ls.length) (h2 : i < xs.length), ∀ j, j < 65536 → wbit ls[i].ws j = xs[i].p j) ∧ Below w.heap.size w w' := by
  obtain ⟨i0, hi, hz0, hz1, hz2⟩ := info_parts bp_info
  have HR := Lib.hid hr
  have HT := Lib.hid hT
  have hbt : i0.bytes * xs.length ≤ 281474976710656 := by rw [hz2]; omega
  have hmx : xs.length ≤ maxLen := by unfold maxLen; omega
  clear hr hT
  go_enter Tryz.func40, Tryz.ntmps40
  go_wp2_with (refine wpList_makeRow xs.length _ _ rfl rfl Tryz.underlying62 hi hz0 rfl hz1 rfl rfl hbt hmx ?_)
  have HOW := Lib.hid (row_made (w := w) (base := w.heap.size) (e := 60) (Nat.le_refl _) (.pointer none) xs.length hmx)
  have HBW := Lib.hid ((Below.refl w.heap.size w).alloc (Nat.le_refl _) (.cells (Array.replicate xs.length (.pointer none)) 60))
  generalize w.alloc (.cells (Array.replicate xs.length (.pointer none)) 60) = w0 at *
  go_loopw [3, 11] (fun v3 v11 wr => ∃ (k : Nat) (ls : List BmR), k ≤ xs.length ∧ v11 = .int .i64 k ∧ Hid (BmRown wr w.heap.size v3 ls (xs.take k)) ∧ Hid (Below w.heap.size w wr)) (fun _ v11 _ => xs.length - (intOf v11).toNat)
  case atStart => exact ⟨0, [], Nat.zero_le _, rfl, ⟨HOW.out, rfl, fun i h => absurd h (by simp), by simp⟩, HBW.out⟩
  case round =>
    obtain ⟨k, ls, hk, rfl, HO, HB⟩ := hrel
    by_cases hlt : k < xs.length
    · obtain ⟨ad, rfl, _, hcl, hbx⟩ := (HR.out.below HB.out) k hlt
      have HTK := Lib.hid (show xs.take (k + 1) = xs.take k ++ [xs[k]] from List.take_succ_eq_append_getElem hlt)
      have HBX := Lib.hid hbx
      have hln : ls.length ≤ 1000 := by rw [HO.out.len]; simp; omega
      clear hbx
      generalize xs[k] = x at *
      go_wp2_with fail
      refine (boxList x.v x.p _ HBX.out (HT.out.stays HB.out)).mono ?_
      rintro e w2 ⟨A2, c2, rfl, hc2, HO2, hb2⟩
      have HOL := Lib.hid (HO.out.below hb2)
      have HB2 := Lib.hid (below_then HB.out hb2)
      have hzw := HB2.out.size
      clear hb2
      have HLE := Lib.hid (L_le x.p)
      have HSA := Lib.hid (setAll_L x.p)
      go_wp2_with fail
      refine (bmOf A2 c2 (L x.p) _ HO2.out.rd (fun y hy => L_bd hy) (by have := HLE.out; omega)).mono ?_
      rintro e w3 ⟨b, s, d, rfl, g1, g2, g3, hB3, hb3⟩
      have HBM := Lib.hid hB3
      have HOL3 := Lib.hid (HOL.out.below hb3)
      have HB3 := Lib.hid (below_then HB2.out hb3)
      have hzw3 := HB3.out.size
      clear hB3 hb3
      go_wp2_with (at_builtin; refine wpList_pushG w.heap.size _ ls.length (ls.map cellBm) (.pointer (some ⟨b, 0, none⟩)) _ _ _ rfl rfl Tryz.underlying62 hi hz0 hz1 hz2 rfl rfl rfl (heap_alloc_new _ _) rfl (row_kept HOL3.out.row ((Below.refl _ _).alloc (Nat.le_refl _) _)) (by simp; omega) (by omega) (by unfold maxLen; omega) ?_; intro v1 w1 ho1 hg1)
      have hba := (Below.refl _ w3).alloc (Nat.le_refl _) (.cells #[.pointer (some ⟨b, 0, none⟩)] 60)
      have HPU := Lib.hid ((HOL3.out.below hba).push ⟨b, s, d, _⟩ x (HBM.out.below hba) HSA.out.2 ho1 hg1)
      have HGB := Lib.hid ((HB3.out.alloc hzw3 (.cells #[.pointer (some ⟨b, 0, none⟩)] 60)).grown hg1 (by simp; omega) (fun g e => (row_cells HOL3.out.row g e).2))
      clear ho1 hg1 hba
      go_wp2
      go_roundw
      case rel => exact ⟨k + 1, _, by omega, by go_num, by rw [HTK.out]; exact HPU.out, HGB.out⟩
      case measure => simp [intOf]; omega
    · obtain rfl : k = xs.length := by omega
      have HO2 := HO.out
      rw [List.take_of_length_le (Nat.le_refl _)] at HO2
      obtain ⟨A2, c2, rfl, h2, h3⟩ := HO2.form
      have H3 := Lib.hid h3
      replace HO2 := Lib.hid HO2
      clear h3
      go_wp2
      go_ret
      exact ⟨A2, c2, ls, rfl, h2, H3.out, ⟨HO2.out.len, HO2.out.is⟩, HB.out⟩
end Go.Proofs.YtbjekoljipjldaaGreatDoor
namespace Go.Proofs.YtbjekoljipjldaaGreatDoor
set_option linter.unusedVariables false
set_option linter.unusedSimpArgs false
open Go.RowKit
attribute [local go_sem ↓] Go.wp_at_zero Go.wp_at_succ

theorem joinFewT (A : Option Addr) (c : Nat) (xs : List BxR) (w : World) (hr : RdX w A xs) (hl : xs.length ≤ 1000) (h : totX xs ≤ 4096) :
    Calls Tryz.prog 35 #[.slice A xs.length c] w fun e w' => e = .returned (.bool true) ∧ Below w.heap.size w w' :=
  (joinFew A c xs w hr hl).mono fun e w' ⟨h1, h2⟩ => ⟨by rw [h1, decide_eq_true h], h2⟩
theorem joinFewF (A : Option Addr) (c : Nat) (xs : List BxR) (w : World) (hr : RdX w A xs) (hl : xs.length ≤ 1000) (h : ¬ totX xs ≤ 4096) :
    Calls Tryz.prog 35 #[.slice A xs.length c] w fun e w' => e = .returned (.bool false) ∧ Below w.heap.size w w' :=
  (joinFew A c xs w hr hl).mono fun e w' ⟨h1, h2⟩ => ⟨by rw [h1, decide_eq_false h], h2⟩
def psX (xs : List BxR) : List (Nat → Bool) := xs.map (·.p)
theorem total_X {ls : List Sl} {xs : List BxR} (h : ls.map (·.l) = xs.map (fun x => L x.p)) : total ls = totX xs := by
  unfold total totX sumF
  have h1 : ls.map (·.l.length) = (ls.map (·.l)).map List.length := by rw [List.map_map]; rfl
  rw [h1, h, List.map_map]
  congr 1
theorem len_X {ls : List Sl} {xs : List BxR} (h : ls.map (·.l) = xs.map (fun x => L x.p)) : ls.length = xs.length := by
  have := congrArg List.length h
  simpa using this
theorem map_X {ls : List Sl} {xs : List BxR} (h : ls.map (·.l) = xs.map (fun x => L x.p)) : ls.map (·.l) = (psX xs).map L := by
  rw [h]; unfold psX; rw [List.map_map]; rfl
theorem tot_some {xs : List BxR} (h : ¬ totX xs ≤ 4096) : xs ≠ [] := by
  rintro rfl
  exact h (by simp [totX, sumF])
theorem foldl_or (i : Nat) : ∀ (ps : List (Nat → Bool)) (b : Bool), ps.foldl (fun acc q => acc || q i) b = (b || orP ps i) := by
  intro ps
  induction ps with
  | nil => intro b; simp [orP]
  | cons q ps ih => intro b; rw [List.foldl_cons, ih]; simp [orP, Bool.or_assoc]
theorem foldl_and (i : Nat) : ∀ (ps : List (Nat → Bool)) (b : Bool), ps.foldl (fun acc q => acc && q i) b = (b && ps.all (fun p => p i)) := by
  intro ps
  induction ps with
  | nil => intro b; simp
  | cons q ps ih => intro b; rw [List.foldl_cons, ih]; simp [Bool.and_assoc]
theorem jnAll_bits (op : Nat → Nat → Nat) (g : Bool → Bool → Bool) (hop : ∀ x y, x < 18446744073709551616 → y < 18446744073709551616 → op x y < 18446744073709551616) (hg : ∀ a b : List Nat, Ws a → Ws b → ∀ i, i < 65536 → wbit (jn op a b) i = g (wbit a i) (wbit b i)) (bs : List BmR) (xs : List BxR) (hl : bs.length = xs.length) (hw : ∀ b ∈ bs, Ws b.ws) (hb : ∀ (i : Nat) (h1 : i < bs.length) (h2 : i < xs.length), ∀ j, j < 65536 → wbit bs[i].ws j = xs[i].p j) (h0 : xs ≠ []) : ∃ p ps, psX xs = p :: ps ∧ ∀ i, i < 65536 → wbit (jnAll op (bs.map (·.ws))) i = ps.foldl (fun acc q => g acc (q i)) (p i) := by
  rcases xs with _ | ⟨x, xs⟩
  · exact absurd rfl h0
  rcases bs with _ | ⟨b, bs⟩
  · simp at hl
  refine ⟨x.p, psX xs, rfl, ?_⟩
  show ∀ i, i < 65536 → wbit ((bs.map (·.ws)).foldl (jn op) b.ws) i = _
  have hl' : bs.length = xs.length := by simpa using hl
  refine (jnAll_fold op g hop hg (bs.map (·.ws)) (psX xs) b.ws x.p (hw b (by simp)) (hb 0 (by simp) (by simp)) (by simp [psX, hl']) fun k hk => ?_).2
  have hk1 : k < bs.length := by simpa using hk
  have hk2 : k < xs.length := by omega
  have e1 : (bs.map (·.ws)).getD k [] = bs[k].ws := by rw [List.getD_eq_getElem?_getD, List.getElem?_map, List.getElem?_eq_getElem hk1]; rfl
  have e2 : (psX xs).getD k noneP = xs[k].p := by unfold psX; rw [List.getD_eq_getElem?_getD, List.getElem?_map, List.getElem?_eq_getElem hk2]; rfl
  rw [e1, e2]
  exact ⟨hw _ (by simp), fun i hi => hb (k + 1) (by simpa using hk1) (by simpa using hk2) i hi⟩
theorem orBits (bs : List BmR) (xs : List BxR) (hl : bs.length = xs.length) (hw : ∀ b ∈ bs, Ws b.ws) (hb : ∀ (i : Nat) (h1 : i < bs.length) (h2 : i < xs.length), ∀ j, j < 65536 → wbit bs[i].ws j = xs[i].p j) (h0 : xs ≠ []) : ∀ i, i < 65536 → wbit (jnAll orN (bs.map (·.ws))) i = orP (psX xs) i := fun i hi => by
  obtain ⟨p, ps, h1, h2⟩ := jnAll_bits orN (· || ·) or_lt64 (fun a b ha hb i hi => jn_or ha hb i hi) bs xs hl hw hb h0
  rw [h2 i hi, h1, foldl_or]
  simp [orP]
theorem andBits (bs : List BmR) (xs : List BxR) (hl : bs.length = xs.length) (hw : ∀ b ∈ bs, Ws b.ws) (hb : ∀ (i : Nat) (h1 : i < bs.length) (h2 : i < xs.length), ∀ j, j < 65536 → wbit bs[i].ws j = xs[i].p j) (h0 : xs ≠ []) : ∀ i, i < 65536 → wbit (jnAll andN (bs.map (·.ws))) i = andP (psX xs) i := fun i hi => by
  obtain ⟨p, ps, h1, h2⟩ := jnAll_bits andN (· && ·) (fun x y hx _ => Nat.lt_of_le_of_lt Nat.and_le_left hx) (fun a b ha hb i hi => jn_and ha hb i hi) bs xs hl hw hb h0
  rw [h2 i hi, h1, foldl_and]
  simp [andP]
theorem RdB.ws {w : World} {A : Option Addr} {bs : List BmR} (h : RdB w A bs) : ∀ b ∈ bs, Ws b.ws := fun b hb => by
  obtain ⟨i, hi, rfl⟩ := List.getElem_of_mem hb
  obtain ⟨_, _, _, _, h4⟩ := h i hi
  exact h4.2.2.2
set_option maxRecDepth 100000 in
theorem arrAnd0 (A : Option Addr) (c : Nat) (w : World) : Calls Tryz.prog 41 #[.slice A 0 c] w fun e w' => e = .returned (.slice none 0 0) ∧ Below w.heap.size w w' := by
  go_enter Tryz.func41, Tryz.ntmps41
  go_wp2
  go_ret
  exact ⟨rfl, Below.refl _ _⟩
theorem arrOrP (A : Option Addr) (c : Nat) (ls : List Sl) (xs : List BxR) (w : World) (hr : RdL w A ls) (hlc : ls.length ≤ c) (hm : ls.map (·.l) = xs.map (fun x => L x.p)) (ht : totX xs ≤ 4096) (hl : xs.length ≤ 100) :
    Calls Tryz.prog 36 #[.slice A ls.length c] w fun e w' => ∃ A' c', e = .returned (.slice A' (L (orP (psX xs))).length c') ∧ Hid (Rd .u16 w' A' (L (orP (psX xs)))) ∧ Below w.heap.size w w' :=
  (arrOr A c ls w hr (by rw [total_X hm]; omega) (by rw [len_X hm]; omega)).mono fun e w' ⟨A', c', h1, h2, h3, h4⟩ => by
    rw [orAll_L ls _ (map_X hm)] at h1 h3
    exact ⟨A', c', h1, h3.out.rd, h4⟩
theorem andP_nil : L (andP []) = [] := L_none fun _ _ => by simp [andP]
theorem arrAndP (A : Option Addr) (c : Nat) (ls : List Sl) (xs : List BxR) (w : World) (hr : RdL w A ls) (hlc : ls.length ≤ c) (hm : ls.map (·.l) = xs.map (fun x => L x.p)) (ht : totX xs ≤ 4096) (hl : xs.length ≤ 100) :
    Calls Tryz.prog 41 #[.slice A ls.length c] w fun e w' => ∃ A' c', e = .returned (.slice A' (L (andP (psX xs))).length c') ∧ Hid (Rd .u16 w' A' (L (andP (psX xs)))) ∧ Below w.heap.size w w' := by
  by_cases h0 : ls = []
  · subst h0
    obtain rfl : xs = [] := by
      have := len_X hm
      simpa using this.symm
    refine (arrAnd0 A c w).mono fun e w' ⟨h1, h2⟩ => ⟨none, 0, ?_, ?_, h2⟩
    · show e = .returned (.slice none (L (andP [])).length 0)
      rw [h1, andP_nil]
      rfl
    · show Rd .u16 w' none (L (andP []))
      rw [andP_nil]
      exact Rd.nil _ _ _
  · exact (arrAnd A c ls w hr (by rw [total_X hm]; omega) (by rw [len_X hm]; omega) hlc h0).mono fun e w' ⟨A', c', h1, h2, h3, h4⟩ => by
      rw [andAll_L ls _ (map_X hm)] at h1 h3
      exact ⟨A', c', h1, h3.out.rd, h4⟩
theorem bmOrP (A : Option Addr) (c : Nat) (bs : List BmR) (xs : List BxR) (w : World) (hr : RdB w A bs) (hlc : bs.length ≤ c) (hm : bs.length = xs.length ∧ ∀ (i : Nat) (h1 : i < bs.length) (h2 : i < xs.length), ∀ j, j < 65536 → wbit bs[i].ws j = xs[i].p j) (ht : ¬ totX xs ≤ 4096) (hl : xs.length ≤ 100) :
    Calls Tryz.prog 39 #[.slice A bs.length c] w fun e w' => ∃ b s d ws, e = .returned (.pointer (some ⟨b, 0, none⟩)) ∧ Hid (Bm w' b s d ws) ∧ Hid (∀ i, i < 65536 → wbit ws i = orP (psX xs) i) ∧ Below w.heap.size w w' :=
  (bmOr A c bs w hr (by rw [hm.1]; omega) hlc (fun e => tot_some ht (by rw [e] at hm; simpa using hm.1.symm))).mono fun e w' ⟨b, s, d, h1, _, _, _, h2, h3⟩ => ⟨b, s, d, _, h1, h2, orBits bs xs hm.1 hr.ws hm.2 (tot_some ht), h3⟩
theorem bmAndP (A : Option Addr) (c : Nat) (bs : List BmR) (xs : List BxR) (w : World) (hr : RdB w A bs) (hlc : bs.length ≤ c) (hm : bs.length = xs.length ∧ ∀ (i : Nat) (h1 : i < bs.length) (h2 : i < xs.length), ∀ j, j < 65536 → wbit bs[i].ws j = xs[i].p j) (ht : ¬ totX xs ≤ 4096) (hl : xs.length ≤ 100) :
    Calls Tryz.prog 42 #[.slice A bs.length c] w fun e w' => ∃ b s d ws, e = .returned (.pointer (some ⟨b, 0, none⟩)) ∧ Hid (Bm w' b s d ws) ∧ Hid (∀ i, i < 65536 → wbit ws i = andP (psX xs) i) ∧ Below w.heap.size w w' :=
  (bmAnd A c bs w hr (by rw [hm.1]; omega) hlc (fun e => tot_some ht (by rw [e] at hm; simpa using hm.1.symm))).mono fun e w' ⟨b, s, d, h1, _, _, _, h2, h3⟩ => ⟨b, s, d, _, h1, h2, andBits bs xs hm.1 hr.ws hm.2 (tot_some ht), h3⟩
theorem BoxV.ptr {w : World} {base : Nat} {v : Value} {p : Nat → Bool} (h : BoxV w base v p) : ∃ o, v = .pointer o := by
  rcases h with ⟨rfl, _⟩ | ⟨b, k, rfl, _⟩ <;> exact ⟨_, rfl⟩
theorem rdX_two {w : World} {va vb : Value} {p q : Nat → Bool} (ha : BoxV w 0 va p) (hb : BoxV w 0 vb q) : RdX (w.alloc (.cells #[va, vb] 29)) (some ⟨w.heap.size, 0, none⟩) [⟨va, p⟩, ⟨vb, q⟩] := fun i hi => by
  have hbl : Below w.heap.size w (w.alloc (.cells #[va, vb] 29)) := (Below.refl w.heap.size w).alloc (Nat.le_refl _) _
  rcases i with _ | _ | i
  · exact ⟨_, rfl, by simp, by rw [add_mk]; exact blk_cell (blk_new w _ _) 0 rfl, ha.below hbl⟩
  · exact ⟨_, rfl, by simp, by rw [add_mk]; exact blk_cell (blk_new w _ _) 1 rfl, hb.below hbl⟩
  · simp at hi
    omega
set_option maxRecDepth 100000 in
set_option maxHeartbeats 1000000 in
theorem joinOr (A : Option Addr) (c : Nat) (xs : List BxR) (w : World) (hr : RdX w A xs) (hT : Tab64 w) (hl : xs.length ≤ 100) :
    Calls Tryz.prog 12 #[.slice A xs.length c] w fun e w' => ∃ x, e = .returned (.pointer (some ⟨x, 0, none⟩)) ∧ Hid (Box w' w.heap.size x (plainK (orP (psX xs))) (orP (psX xs))) ∧ Below w.heap.size w w' := by
  have HR := Lib.hid hr
  have HT := Lib.hid hT
  have hl2 : xs.length ≤ 1000 := by omega
  clear hr hT
  go_enter Tryz.func12, Tryz.ntmps12
  go_wp2_with fail
  by_cases h4 : totX xs ≤ 4096
  · have H4 := Lib.hid h4
    refine (joinFewT A c xs _ HR.out hl2 h4).mono ?_
    rintro e w1 ⟨rfl, hb1⟩
    have HB1 := Lib.hid hb1
    clear hb1 h4
    go_wp2_with fail
    refine (joinLists A c xs _ (HR.out.below HB1.out) (HT.out.stays HB1.out) hl2).mono ?_
    rintro e w2 ⟨A2, c2, ls, rfl, hc2, HL2, HM2, hb2⟩
    have HB2 := Lib.hid (below_then HB1.out hb2)
    clear hb2
    go_wp2_with fail
    refine (arrOrP A2 c2 ls xs _ HL2.out hc2 HM2.out H4.out hl).mono ?_
    rintro e w3 ⟨A3, c3, rfl, HR3, hb3⟩
    have HB3 := Lib.hid (below_then HB2.out hb3)
    clear hb3
    go_wp2_with fail
    refine (boxOf A3 c3 _ _ HR3.out (HT.out.stays HB3.out)).mono ?_
    rintro e w4 ⟨x, rfl, HX, hb4⟩
    have HB4 := Lib.hid (below_then HB3.out hb4)
    have hz := HB3.out.size
    clear hb4
    go_wp2
    go_ret
    exact ⟨x, rfl, HX.out.mono hz, HB4.out⟩
  · have H4 := Lib.hid h4
    refine (joinFewF A c xs _ HR.out hl2 h4).mono ?_
    rintro e w1 ⟨rfl, hb1⟩
    have HB1 := Lib.hid hb1
    clear hb1 h4
    go_wp2_with fail
    refine (joinMaps A c xs _ (HR.out.below HB1.out) (HT.out.stays HB1.out) hl2).mono ?_
    rintro e w2 ⟨A2, c2, bs, rfl, hc2, HL2, HM2, hb2⟩
    have HB2 := Lib.hid (below_then HB1.out hb2)
    clear hb2
    go_wp2_with fail
    refine (bmOrP A2 c2 bs xs _ HL2.out hc2 HM2.out H4.out hl).mono ?_
    rintro e w3 ⟨b, s, d, ws, rfl, HM3, HP3, hb3⟩
    have HB3 := Lib.hid (below_then HB2.out hb3)
    clear hb3
    go_wp2_with fail
    refine (joinOf b s d ws _ _ HM3.out (HT.out.stays HB3.out) HP3.out).mono ?_
    rintro e w4 ⟨x, rfl, HX, hb4⟩
    have HB4 := Lib.hid (below_then HB3.out hb4)
    have hz := HB3.out.size
    clear hb4
    go_wp2
    go_ret
    exact ⟨x, rfl, HX.out.mono hz, HB4.out⟩
set_option maxRecDepth 100000 in
set_option maxHeartbeats 1000000 in
theorem joinAnd (A : Option Addr) (c : Nat) (xs : List BxR) (w : World) (hr : RdX w A xs) (hT : Tab64 w) (hl : xs.length ≤ 100) :
    Calls Tryz.prog 13 #[.slice A xs.length c] w fun e w' => ∃ x, e = .returned (.pointer (some ⟨x, 0, none⟩)) ∧ Hid (Box w' w.heap.size x (plainK (andP (psX xs))) (andP (psX xs))) ∧ Below w.heap.size w w' := by
  have HR := Lib.hid hr
  have HT := Lib.hid hT
  have hl2 : xs.length ≤ 1000 := by omega
  clear hr hT
  go_enter Tryz.func13, Tryz.ntmps13
  go_wp2_with fail
  by_cases h4 : totX xs ≤ 4096
  · have H4 := Lib.hid h4
    refine (joinFewT A c xs _ HR.out hl2 h4).mono ?_
    rintro e w1 ⟨rfl, hb1⟩
    have HB1 := Lib.hid hb1
    clear hb1 h4
    go_wp2_with fail
    refine (joinLists A c xs _ (HR.out.below HB1.out) (HT.out.stays HB1.out) hl2).mono ?_
    rintro e w2 ⟨A2, c2, ls, rfl, hc2, HL2, HM2, hb2⟩
    have HB2 := Lib.hid (below_then HB1.out hb2)
    clear hb2
    go_wp2_with fail
    refine (arrAndP A2 c2 ls xs _ HL2.out hc2 HM2.out H4.out hl).mono ?_
    rintro e w3 ⟨A3, c3, rfl, HR3, hb3⟩
    have HB3 := Lib.hid (below_then HB2.out hb3)
    clear hb3
    go_wp2_with fail
    refine (boxOf A3 c3 _ _ HR3.out (HT.out.stays HB3.out)).mono ?_
    rintro e w4 ⟨x, rfl, HX, hb4⟩
    have HB4 := Lib.hid (below_then HB3.out hb4)
    have hz := HB3.out.size
    clear hb4
    go_wp2
    go_ret
    exact ⟨x, rfl, HX.out.mono hz, HB4.out⟩
  · have H4 := Lib.hid h4
    refine (joinFewF A c xs _ HR.out hl2 h4).mono ?_
    rintro e w1 ⟨rfl, hb1⟩
    have HB1 := Lib.hid hb1
    clear hb1 h4
    go_wp2_with fail
    refine (joinMaps A c xs _ (HR.out.below HB1.out) (HT.out.stays HB1.out) hl2).mono ?_
    rintro e w2 ⟨A2, c2, bs, rfl, hc2, HL2, HM2, hb2⟩
    have HB2 := Lib.hid (below_then HB1.out hb2)
    clear hb2
    go_wp2_with fail
    refine (bmAndP A2 c2 bs xs _ HL2.out hc2 HM2.out H4.out hl).mono ?_
    rintro e w3 ⟨b, s, d, ws, rfl, HM3, HP3, hb3⟩
    have HB3 := Lib.hid (below_then HB2.out hb3)
    clear hb3
    go_wp2_with fail
    refine (joinOf b s d ws _ _ HM3.out (HT.out.stays HB3.out) HP3.out).mono ?_
    rintro e w4 ⟨x, rfl, HX, hb4⟩
    have HB4 := Lib.hid (below_then HB3.out hb4)
    have hz := HB3.out.size
    clear hb4
    go_wp2
    go_ret
    exact ⟨x, rfl, HX.out.mono hz, HB4.out⟩
set_option maxRecDepth 100000 in
set_option maxHeartbeats 1000000 in
theorem joinLess (va vb : Value) (p q : Nat → Bool) (w : World) (ha : BoxV w 0 va p) (hb : BoxV w 0 vb q) (hT : Tab64 w) :
    Calls Tryz.prog 20 #[va, vb] w fun e w' => ∃ x, e = .returned (.pointer (some ⟨x, 0, none⟩)) ∧ Hid (Box w' w.heap.size x (plainK (joinP true false false p q)) (joinP true false false p q)) ∧ Below w.heap.size w w' := by
  obtain ⟨oa, rfl⟩ := ha.ptr
  obtain ⟨ob, rfl⟩ := hb.ptr
  have HA := Lib.hid ha
  have HB := Lib.hid hb
  have HT := Lib.hid hT
  have HLP := Lib.hid (L_le p)
  have HLQ := Lib.hid (L_le q)
  have HBP := Lib.hid (fun (x : Int) (hx : x ∈ L p) => L_bd hx)
  have HBQ := Lib.hid (fun (x : Int) (hx : x ∈ L q) => L_bd hx)
  have HSP := Lib.hid (setAll_L p)
  have HSQ := Lib.hid (setAll_L q)
  clear ha hb hT
  go_enter Tryz.func20, Tryz.ntmps20
  go_wp2_with fail
  have HBA := Lib.hid ((Below.refl w.heap.size w).alloc (Nat.le_refl _) (.cells #[(.pointer oa), (.pointer ob)] 29))
  have HRX := Lib.hid (rdX_two HA.out HB.out)
  by_cases h4 : totX [⟨(.pointer oa), p⟩, ⟨(.pointer ob), q⟩] ≤ 4096
  · refine (joinFewT (some ⟨w.heap.size, 0, none⟩) 2 [⟨(.pointer oa), p⟩, ⟨(.pointer ob), q⟩] _ HRX.out (by simp) h4).mono ?_
    rintro e w1 ⟨rfl, hb1⟩
    have HB1 := Lib.hid (below_then HBA.out hb1)
    clear hb1 h4
    go_wp2_with fail
    refine (boxList (.pointer oa) p _ (HA.out.below HB1.out) (HT.out.stays HB1.out)).mono ?_
    rintro e w2 ⟨A2, c2, rfl, hc2, HO2, hb2⟩
    have HB2 := Lib.hid (below_then HB1.out hb2)
    clear hb2
    go_wp2_with fail
    refine (boxList (.pointer ob) q _ (HB.out.below HB2.out) (HT.out.stays HB2.out)).mono ?_
    rintro e w3 ⟨A3, c3, rfl, hc3, HO3, hb3⟩
    have HR2 := Lib.hid (HO2.out.rd.below hb3)
    have HB3 := Lib.hid (below_then HB2.out hb3)
    clear hb3
    go_wp2_with fail
    refine (arrLess A2 A3 c2 c3 (L p) (L q) _ HR2.out HO3.out.rd hc2 hc3 (by have := HLP.out; have := HLQ.out; omega)).mono ?_
    rintro e w4 ⟨A4, c4, rfl, hc4, HO4, hb4⟩
    have HB4 := Lib.hid (below_then HB3.out hb4)
    have HR4 := Lib.hid HO4.out.rd
    rw [mgl_L] at HR4
    rw [mgl_L]
    clear hb4 hc4
    go_wp2_with fail
    refine (boxOf A4 c4 _ _ HR4.out (HT.out.stays HB4.out)).mono ?_
    rintro e w5 ⟨x, rfl, HX, hb5⟩
    have HB5 := Lib.hid (below_then HB4.out hb5)
    have hz := HB4.out.size
    clear hb5
    go_wp2
    go_ret
    exact ⟨x, rfl, HX.out.mono hz, HB5.out⟩
  · refine (joinFewF (some ⟨w.heap.size, 0, none⟩) 2 [⟨(.pointer oa), p⟩, ⟨(.pointer ob), q⟩] _ HRX.out (by simp) h4).mono ?_
    rintro e w1 ⟨rfl, hb1⟩
    have HB1 := Lib.hid (below_then HBA.out hb1)
    clear hb1 h4
    go_wp2_with fail
    refine (boxList (.pointer oa) p _ (HA.out.below HB1.out) (HT.out.stays HB1.out)).mono ?_
    rintro e w2 ⟨A2, c2, rfl, hc2, HO2, hb2⟩
    have HB2 := Lib.hid (below_then HB1.out hb2)
    clear hb2
    go_wp2_with fail
    refine (bmOf A2 c2 (L p) _ HO2.out.rd HBP.out (by have := HLP.out; omega)).mono ?_
    rintro e w3 ⟨m, s, d, rfl, _, _, _, hm3, hb3⟩
    have HM := Lib.hid hm3
    have HB3 := Lib.hid (below_then HB2.out hb3)
    clear hb3 hm3
    go_wp2_with fail
    refine (boxList (.pointer ob) q _ (HB.out.below HB3.out) (HT.out.stays HB3.out)).mono ?_
    rintro e w4 ⟨A4, c4, rfl, hc4, HO4, hb4⟩
    replace HM := Lib.hid (HM.out.below hb4)
    have HB4 := Lib.hid (below_then HB3.out hb4)
    clear hb4
    go_wp2_with fail
    refine (bmOf A4 c4 (L q) _ HO4.out.rd HBQ.out (by have := HLQ.out; omega)).mono ?_
    rintro e w5 ⟨m', s', d', rfl, _, _, _, hm5, hb5⟩
    replace HM := Lib.hid (HM.out.below hb5)
    have HM2 := Lib.hid hm5
    have HB5 := Lib.hid (below_then HB4.out hb5)
    clear hb5 hm5
    go_wp2_with fail
    refine (bmLess ⟨m, s, d, setAll (List.replicate 1024 0) (L p)⟩ ⟨m', s', d', setAll (List.replicate 1024 0) (L q)⟩ _ HM.out HM2.out).mono ?_
    rintro e w6 ⟨m6, s6, d6, rfl, _, _, _, hm6, hb6⟩
    have HM6 := Lib.hid hm6
    have HB6 := Lib.hid (below_then HB5.out hb6)
    clear hb6 hm6
    go_wp2_with fail
    refine (joinOf m6 s6 d6 _ (joinP true false false p q) _ HM6.out (HT.out.stays HB6.out) (fun i hi => ?_)).mono ?_
    · have key := jn_less HSP.out.1 HSQ.out.1 i hi
      rw [HSP.out.2 i hi, HSQ.out.2 i hi] at key
      refine key.trans ?_
      unfold joinP
      cases p i <;> cases q i <;> rfl
    rintro e w7 ⟨x, rfl, HX, hb7⟩
    have HB7 := Lib.hid (below_then HB6.out hb7)
    have hz := HB6.out.size
    clear hb7
    go_wp2
    go_ret
    exact ⟨x, rfl, HX.out.mono hz, HB7.out⟩
set_option maxRecDepth 100000 in
set_option maxHeartbeats 1000000 in
theorem joinXor (va vb : Value) (p q : Nat → Bool) (w : World) (ha : BoxV w 0 va p) (hb : BoxV w 0 vb q) (hT : Tab64 w) :
    Calls Tryz.prog 21 #[va, vb] w fun e w' => ∃ x, e = .returned (.pointer (some ⟨x, 0, none⟩)) ∧ Hid (Box w' w.heap.size x (plainK (joinP true true false p q)) (joinP true true false p q)) ∧ Below w.heap.size w w' := by
  obtain ⟨oa, rfl⟩ := ha.ptr
  obtain ⟨ob, rfl⟩ := hb.ptr
  have HA := Lib.hid ha
  have HB := Lib.hid hb
  have HT := Lib.hid hT
  have HLP := Lib.hid (L_le p)
  have HLQ := Lib.hid (L_le q)
  have HBP := Lib.hid (fun (x : Int) (hx : x ∈ L p) => L_bd hx)
  have HBQ := Lib.hid (fun (x : Int) (hx : x ∈ L q) => L_bd hx)
  have HSP := Lib.hid (setAll_L p)
  have HSQ := Lib.hid (setAll_L q)
  clear ha hb hT
  go_enter Tryz.func21, Tryz.ntmps21
  go_wp2_with fail
  have HBA := Lib.hid ((Below.refl w.heap.size w).alloc (Nat.le_refl _) (.cells #[(.pointer oa), (.pointer ob)] 29))
  have HRX := Lib.hid (rdX_two HA.out HB.out)
  by_cases h4 : totX [⟨(.pointer oa), p⟩, ⟨(.pointer ob), q⟩] ≤ 4096
  · refine (joinFewT (some ⟨w.heap.size, 0, none⟩) 2 [⟨(.pointer oa), p⟩, ⟨(.pointer ob), q⟩] _ HRX.out (by simp) h4).mono ?_
    rintro e w1 ⟨rfl, hb1⟩
    have HB1 := Lib.hid (below_then HBA.out hb1)
    clear hb1 h4
    go_wp2_with fail
    refine (boxList (.pointer oa) p _ (HA.out.below HB1.out) (HT.out.stays HB1.out)).mono ?_
    rintro e w2 ⟨A2, c2, rfl, hc2, HO2, hb2⟩
    have HB2 := Lib.hid (below_then HB1.out hb2)
    clear hb2
    go_wp2_with fail
    refine (boxList (.pointer ob) q _ (HB.out.below HB2.out) (HT.out.stays HB2.out)).mono ?_
    rintro e w3 ⟨A3, c3, rfl, hc3, HO3, hb3⟩
    have HR2 := Lib.hid (HO2.out.rd.below hb3)
    have HB3 := Lib.hid (below_then HB2.out hb3)
    clear hb3
    go_wp2_with fail
    refine (arrXor A2 A3 c2 c3 (L p) (L q) _ HR2.out HO3.out.rd hc2 hc3 (by have := HLP.out; have := HLQ.out; omega)).mono ?_
    rintro e w4 ⟨A4, c4, rfl, hc4, HO4, hb4⟩
    have HB4 := Lib.hid (below_then HB3.out hb4)
    have HR4 := Lib.hid HO4.out.rd
    rw [mgl_L] at HR4
    rw [mgl_L]
    clear hb4 hc4
    go_wp2_with fail
    refine (boxOf A4 c4 _ _ HR4.out (HT.out.stays HB4.out)).mono ?_
    rintro e w5 ⟨x, rfl, HX, hb5⟩
    have HB5 := Lib.hid (below_then HB4.out hb5)
    have hz := HB4.out.size
    clear hb5
    go_wp2
    go_ret
    exact ⟨x, rfl, HX.out.mono hz, HB5.out⟩
  · refine (joinFewF (some ⟨w.heap.size, 0, none⟩) 2 [⟨(.pointer oa), p⟩, ⟨(.pointer ob), q⟩] _ HRX.out (by simp) h4).mono ?_
    rintro e w1 ⟨rfl, hb1⟩
    have HB1 := Lib.hid (below_then HBA.out hb1)
    clear hb1 h4
    go_wp2_with fail
    refine (boxList (.pointer oa) p _ (HA.out.below HB1.out) (HT.out.stays HB1.out)).mono ?_
    rintro e w2 ⟨A2, c2, rfl, hc2, HO2, hb2⟩
    have HB2 := Lib.hid (below_then HB1.out hb2)
    clear hb2
    go_wp2_with fail
    refine (bmOf A2 c2 (L p) _ HO2.out.rd HBP.out (by have := HLP.out; omega)).mono ?_
    rintro e w3 ⟨m, s, d, rfl, _, _, _, hm3, hb3⟩
    have HM := Lib.hid hm3
    have HB3 := Lib.hid (below_then HB2.out hb3)
    clear hb3 hm3
    go_wp2_with fail
    refine (boxList (.pointer ob) q _ (HB.out.below HB3.out) (HT.out.stays HB3.out)).mono ?_
    rintro e w4 ⟨A4, c4, rfl, hc4, HO4, hb4⟩
    replace HM := Lib.hid (HM.out.below hb4)
    have HB4 := Lib.hid (below_then HB3.out hb4)
    clear hb4
    go_wp2_with fail
    refine (bmOf A4 c4 (L q) _ HO4.out.rd HBQ.out (by have := HLQ.out; omega)).mono ?_
    rintro e w5 ⟨m', s', d', rfl, _, _, _, hm5, hb5⟩
    replace HM := Lib.hid (HM.out.below hb5)
    have HM2 := Lib.hid hm5
    have HB5 := Lib.hid (below_then HB4.out hb5)
    clear hb5 hm5
    go_wp2_with fail
    refine (bmXor ⟨m, s, d, setAll (List.replicate 1024 0) (L p)⟩ ⟨m', s', d', setAll (List.replicate 1024 0) (L q)⟩ _ HM.out HM2.out).mono ?_
    rintro e w6 ⟨m6, s6, d6, rfl, _, _, _, hm6, hb6⟩
    have HM6 := Lib.hid hm6
    have HB6 := Lib.hid (below_then HB5.out hb6)
    clear hb6 hm6
    go_wp2_with fail
    refine (joinOf m6 s6 d6 _ (joinP true true false p q) _ HM6.out (HT.out.stays HB6.out) (fun i hi => ?_)).mono ?_
    · have key := jn_xor HSP.out.1 HSQ.out.1 i hi
      rw [HSP.out.2 i hi, HSQ.out.2 i hi] at key
      refine key.trans ?_
      unfold joinP
      cases p i <;> cases q i <;> rfl
    rintro e w7 ⟨x, rfl, HX, hb7⟩
    have HB7 := Lib.hid (below_then HB6.out hb7)
    have hz := HB6.out.size
    clear hb7
    go_wp2
    go_ret
    exact ⟨x, rfl, HX.out.mono hz, HB7.out⟩
end Go.Proofs.YtbjekoljipjldaaGreatDoor
namespace Go.Proofs.YtbjekoljipjldaaGreatDoor
set_option linter.unusedVariables false
set_option linter.unusedSimpArgs false
open Go.RowKit

def bothP (p q : Nat → Bool) : Nat → Bool := fun i => p i && q i
def inL (q : Nat → Bool) (x : Int) : Bool := q x.toNat
theorem both_filter (p q : Nat → Bool) : (L p).filter (inL q) = L (bothP p q) := by
  refine L_unique ((rise_pw (L_rise p)).filter _) fun x => ?_
  rw [List.mem_filter]
  constructor
  · rintro ⟨h1, h2⟩
    obtain ⟨i, rfl, hi, hp⟩ := mem_LI.1 h1
    exact ⟨i, rfl, hi, by unfold inL at h2; unfold bothP; rw [hp]; simpa using h2⟩
  · rintro ⟨i, rfl, hi, h⟩
    unfold bothP at h
    rw [Bool.and_eq_true] at h
    exact ⟨mem_LI.2 ⟨i, rfl, hi, h.1⟩, by unfold inL; simpa using h.2⟩
theorem both_comm (p q : Nat → Bool) : L (bothP p q) = L (bothP q p) := L_congr fun i _ => by unfold bothP; rw [Bool.and_comm]
theorem both_take (p q : Nat → Bool) {k : Nat} (hk : k < (L p).length) : (((L p).take (k + 1)).filter (inL q)).length = (((L p).take k).filter (inL q)).length + if inL q ((L p).getD k 0) = true then 1 else 0 := by
  rw [List.take_succ_eq_append_getElem hk, List.filter_append, List.length_append, List.getD_eq_getElem?_getD, List.getElem?_eq_getElem hk, Option.getD_some]
  congr 1
  by_cases h : inL q (L p)[k] = true
  · rw [if_pos h, List.filter_cons_of_pos h]; rfl
  · rw [if_neg h, List.filter_cons_of_neg h]; rfl
set_option maxRecDepth 100000 in
set_option maxHeartbeats 1000000 in
theorem joinBoth (va vb : Value) (p q : Nat → Bool) (w : World) (ha : BoxV w 0 va p) (hb : BoxV w 0 vb q) (hT : Tab64 w) :
    Calls Tryz.prog 15 #[va, vb] w fun e w' => e = .returned (.int .i64 ((L (bothP p q)).length : Nat)) ∧ Below w.heap.size w w' := by
  have HA := Lib.hid ha
  have HB := Lib.hid hb
  have HT := Lib.hid hT
  have HLP := Lib.hid (L_le p)
  have HLQ := Lib.hid (L_le q)
  have HE := Lib.hid (both_comm p q)
  clear ha hb hT
  go_enter Tryz.func15, Tryz.ntmps15
  go_wp2_with fail
  refine (boxLen va p _ HA.out).mono ?_
  rintro e w1 ⟨rfl, hb1⟩
  have HB1 := Lib.hid hb1
  clear hb1
  go_wp2_with fail
  refine (boxLen vb q _ (HB.out.below HB1.out)).mono ?_
  rintro e w2 ⟨rfl, hb2⟩
  have HB2 := Lib.hid (below_then HB1.out hb2)
  clear hb2
  by_cases hlt : (L q).length < (L p).length
  · have hgt : ((L q).length : Int) < (L p).length := by omega
    go_wp2_with fail
    refine (boxList vb q _ (HB.out.below HB2.out) (HT.out.stays HB2.out)).mono ?_
    rintro e w3 ⟨A3, c3, rfl, hc3, HO3, hb3⟩
    have HB3 := Lib.hid (below_then HB2.out hb3)
    have HRL := Lib.hid HO3.out.rd
    have HW3 := Lib.hid ((HA.out.below HB2.out).below hb3)
    have HF := Lib.hid (show (L q).filter (inL p) = L (bothP p q) from (both_filter q p).trans HE.out.symm)
    clear hb3 hgt hlt
    go_wp2
    go_loopw [5, 7, 18] (fun v5 _ v18 wr => ∃ k n : Nat, k ≤ (L q).length ∧ v18 = .int .i64 k ∧ v5 = .int .i64 n ∧ n ≤ k ∧ Hid (n = (((L q).take k).filter (inL p)).length) ∧ Hid (Below w3.heap.size w3 wr)) (fun _ _ v18 _ => (L q).length - (intOf v18).toNat)
    case atStart => exact ⟨0, 0, Nat.zero_le _, rfl, rfl, Nat.le_refl _, rfl, Below.refl _ _⟩
    case round =>
      obtain ⟨k, n, hk, rfl, rfl, hn, HN, HBR⟩ := hrel
      by_cases hlt : k < (L q).length
      · obtain ⟨ad, rfl, _, hk2⟩ := (HRL.out.below HBR.out) k hlt
        obtain ⟨x, hx, hx6, _⟩ := L_at hlt
        have HTK := Lib.hid (both_take q p hlt)
        rw [hx] at hk2 HTK
        have hl6 := HLP.out
        have hl7 := HLQ.out
        clear hx
        go_wp2_with fail
        refine (boxHas va p x _ (HW3.out.below HBR.out) hx6).mono ?_
        rintro e w4 ⟨rfl, hb4⟩
        have HB4 := Lib.hid (below_then HBR.out hb4)
        have HIN := Lib.hid (show inL p (x : Int) = p x from rfl)
        clear hb4
        generalize p x = b at *
        cases b
        · have HN2 := Lib.hid (show n = (((L q).take (k + 1)).filter (inL p)).length by rw [HTK.out, HIN.out, HN.out]; simp)
          go_wp2
          go_roundw
          case rel => exact ⟨k + 1, n, by omega, by go_num, rfl, by omega, HN2.out, HB4.out⟩
          case measure => simp [intOf]; omega
        · have HN2 := Lib.hid (show n + 1 = (((L q).take (k + 1)).filter (inL p)).length by rw [HTK.out, HIN.out, HN.out]; simp)
          go_wp2
          go_roundw
          case rel => exact ⟨k + 1, n + 1, by omega, by go_num, by go_num, by omega, HN2.out, HB4.out⟩
          case measure => simp [intOf]; omega
      · obtain rfl : k = (L q).length := by omega
        have HN2 := Lib.hid (show n = (L (bothP p q)).length by rw [← HF.out, HN.out, List.take_of_length_le (Nat.le_refl _)])
        go_wp2
        go_ret
        exact ⟨by rw [← HN2.out]; rfl, below_then HB3.out HBR.out⟩
  · have hgt : ¬ ((L q).length : Int) < (L p).length := by omega
    go_wp2_with fail
    refine (boxList va p _ (HA.out.below HB2.out) (HT.out.stays HB2.out)).mono ?_
    rintro e w3 ⟨A3, c3, rfl, hc3, HO3, hb3⟩
    have HB3 := Lib.hid (below_then HB2.out hb3)
    have HRL := Lib.hid HO3.out.rd
    have HW3 := Lib.hid ((HB.out.below HB2.out).below hb3)
    have HF := Lib.hid (show (L p).filter (inL q) = L (bothP p q) from both_filter p q)
    clear hb3 hgt hlt
    go_wp2
    go_loopw [5, 7, 18] (fun v5 _ v18 wr => ∃ k n : Nat, k ≤ (L p).length ∧ v18 = .int .i64 k ∧ v5 = .int .i64 n ∧ n ≤ k ∧ Hid (n = (((L p).take k).filter (inL q)).length) ∧ Hid (Below w3.heap.size w3 wr)) (fun _ _ v18 _ => (L p).length - (intOf v18).toNat)
    case atStart => exact ⟨0, 0, Nat.zero_le _, rfl, rfl, Nat.le_refl _, rfl, Below.refl _ _⟩
    case round =>
      obtain ⟨k, n, hk, rfl, rfl, hn, HN, HBR⟩ := hrel
      by_cases hlt : k < (L p).length
      · obtain ⟨ad, rfl, _, hk2⟩ := (HRL.out.below HBR.out) k hlt
        obtain ⟨x, hx, hx6, _⟩ := L_at hlt
        have HTK := Lib.hid (both_take p q hlt)
        rw [hx] at hk2 HTK
        have hl6 := HLP.out
        have hl7 := HLQ.out
        clear hx
        go_wp2_with fail
        refine (boxHas vb q x _ (HW3.out.below HBR.out) hx6).mono ?_
        rintro e w4 ⟨rfl, hb4⟩
        have HB4 := Lib.hid (below_then HBR.out hb4)
        have HIN := Lib.hid (show inL q (x : Int) = q x from rfl)
        clear hb4
        generalize q x = b at *
        cases b
        · have HN2 := Lib.hid (show n = (((L p).take (k + 1)).filter (inL q)).length by rw [HTK.out, HIN.out, HN.out]; simp)
          go_wp2
          go_roundw
          case rel => exact ⟨k + 1, n, by omega, by go_num, rfl, by omega, HN2.out, HB4.out⟩
          case measure => simp [intOf]; omega
        · have HN2 := Lib.hid (show n + 1 = (((L p).take (k + 1)).filter (inL q)).length by rw [HTK.out, HIN.out, HN.out]; simp)
          go_wp2
          go_roundw
          case rel => exact ⟨k + 1, n + 1, by omega, by go_num, by go_num, by omega, HN2.out, HB4.out⟩
          case measure => simp [intOf]; omega
      · obtain rfl : k = (L p).length := by omega
        have HN2 := Lib.hid (show n = (L (bothP p q)).length by rw [← HF.out, HN.out, List.take_of_length_le (Nat.le_refl _)])
        go_wp2
        go_ret
        exact ⟨by rw [← HN2.out]; rfl, below_then HB3.out HBR.out⟩
set_option maxRecDepth 100000 in
set_option maxHeartbeats 1000000 in
theorem joinWithin (va vb : Value) (p q : Nat → Bool) (w : World) (ha : BoxV w 0 va p) (hb : BoxV w 0 vb q) (hT : Tab64 w) :
    Calls Tryz.prog 16 #[va, vb] w fun e w' => ∃ r : Bool, e = .returned (.bool r) ∧ Hid (r = decide ((L (bothP p q)).length = (L p).length)) ∧ Below w.heap.size w w' := by
  have HA := Lib.hid ha
  have HB := Lib.hid hb
  have HT := Lib.hid hT
  clear ha hb hT
  go_enter Tryz.func16, Tryz.ntmps16
  go_wp2_with fail
  refine (joinBoth va vb p q _ HA.out HB.out HT.out).mono ?_
  rintro e w1 ⟨rfl, hb1⟩
  have HB1 := Lib.hid hb1
  clear hb1
  go_wp2_with fail
  refine (boxLen va p _ (HA.out.below HB1.out)).mono ?_
  rintro e w2 ⟨rfl, hb2⟩
  have HB2 := Lib.hid (below_then HB1.out hb2)
  clear hb2
  by_cases hnm : (L (bothP p q)).length = (L p).length
  · have HNM := Lib.hid hnm
    have h1 : (((L (bothP p q)).length : Int) == ((L p).length : Int)) = true := by simp [hnm]
    clear hnm
    go_wp2
    go_ret
    exact ⟨_, rfl, by show _ = _; rw [decide_eq_true HNM.out], HB2.out⟩
  · have HNM := Lib.hid hnm
    have h1 : (((L (bothP p q)).length : Int) == ((L p).length : Int)) = false := by rw [beq_eq_false_iff_ne]; omega
    clear hnm
    go_wp2
    go_ret
    exact ⟨_, rfl, by show _ = _; rw [decide_eq_false HNM.out], HB2.out⟩
set_option maxRecDepth 100000 in
set_option maxHeartbeats 1000000 in
theorem joinEqual (va vb : Value) (p q : Nat → Bool) (w : World) (ha : BoxV w 0 va p) (hb : BoxV w 0 vb q) (hT : Tab64 w) :
    Calls Tryz.prog 17 #[va, vb] w fun e w' => ∃ r : Bool, e = .returned (.bool r) ∧ Hid (r = decide ((L p).length = (L q).length ∧ (L (bothP p q)).length = (L p).length)) ∧ Below w.heap.size w w' := by
  have HA := Lib.hid ha
  have HB := Lib.hid hb
  have HT := Lib.hid hT
  clear ha hb hT
  go_enter Tryz.func17, Tryz.ntmps17
  go_wp2_with fail
  refine (boxLen va p _ HA.out).mono ?_
  rintro e w1 ⟨rfl, hb1⟩
  have HB1 := Lib.hid hb1
  clear hb1
  go_wp2_with fail
  refine (boxLen vb q _ (HB.out.below HB1.out)).mono ?_
  rintro e w2 ⟨rfl, hb2⟩
  have HB2 := Lib.hid (below_then HB1.out hb2)
  clear hb2
  by_cases hnm : (L p).length = (L q).length
  · have HNM := Lib.hid hnm
    have h1 : (((L p).length : Int) == ((L q).length : Int)) = true := by simp [hnm]
    clear hnm
    go_wp2_with fail
    refine (joinWithin va vb p q _ (HA.out.below HB2.out) (HB.out.below HB2.out) (HT.out.stays HB2.out)).mono ?_
    rintro e w3 ⟨r, rfl, HR, hb3⟩
    have HB3 := Lib.hid (below_then HB2.out hb3)
    clear hb3
    go_wp2
    go_ret
    exact ⟨r, rfl, by show _ = _; rw [HR.out]; simp [HNM.out], HB3.out⟩
  · have HNM := Lib.hid hnm
    have h1 : (((L p).length : Int) == ((L q).length : Int)) = false := by rw [beq_eq_false_iff_ne]; omega
    clear hnm
    go_wp2
    go_ret
    exact ⟨_, rfl, by show _ = _; simp [HNM.out], HB2.out⟩
theorem toldR_some {i : Nat} : toldR (i : Int) = ((i : Int), true) := by unfold toldR; rw [if_neg (by omega)]
theorem toldR_none : toldR (-1) = (0, false) := by unfold toldR; rw [if_pos (by omega)]
set_option maxRecDepth 100000 in
set_option maxHeartbeats 1000000 in
theorem joinMeet (va vb : Value) (p q : Nat → Bool) (w : World) (ha : BoxV w 0 va p) (hb : BoxV w 0 vb q) (hT : Tab64 w) :
    Calls Tryz.prog 18 #[va, vb] w fun e w' => ∃ r : Bool, e = .returned (.bool r) ∧ Hid (r = true ↔ ∃ i, i < 65536 ∧ p i = true ∧ q i = true) ∧ Below w.heap.size w w' := by
  have HA := Lib.hid ha
  have HB := Lib.hid hb
  have HT := Lib.hid hT
  clear ha hb hT
  go_enter Tryz.func18, Tryz.ntmps18
  go_wp2_with fail
  refine (boxNext va p 0 _ HA.out HT.out (by omega)).mono ?_
  rintro e w1 ⟨y, rfl, HY, hb1⟩
  have HB1 := Lib.hid hb1
  clear hb1
  obtain ⟨t, ht⟩ : ∃ t, toldR y = t := ⟨_, rfl⟩
  rw [ht]
  have HTY := Lib.hid ht
  clear ht
  obtain ⟨t1, t2⟩ := t
  go_wp2
  go_loopw [5, 6, 7, 8] (fun v5 v6 _ _ wr => ∃ (f : Nat) (y t1 : Int) (t2 : Bool), v5 = .int .u16 t1 ∧ v6 = .bool t2 ∧ f ≤ 65536 ∧ Hid (toldR y = (t1, t2)) ∧ Hid (NextB p f 65536 y) ∧ Hid (∀ j, j < f → ¬ (p j = true ∧ q j = true)) ∧ Hid (Below w.heap.size w wr)) (fun v5 v6 _ _ _ => match v6 with | .bool true => 65537 - (intOf v5).toNat | _ => 0)
  case atStart => exact ⟨0, y, t1, t2, rfl, rfl, by omega, HTY.out, HY.out, fun j hj => by omega, HB1.out⟩
  case round =>
    obtain ⟨f, y, t1, t2, rfl, rfl, hf, HTR, HN, HF, HW⟩ := hrel
    rcases HN.out with ⟨rfl, hnone⟩ | ⟨i, rfl, hi1, hi2, hpi, hpj⟩
    · have h0 := HTR.out
      rw [toldR_none] at h0
      injection h0 with e1 e2
      subst e1
      subst e2
      have HNO := Lib.hid (show ¬ ∃ i, i < 65536 ∧ p i = true ∧ q i = true by
        rintro ⟨i, hi, h1, h2⟩
        rcases Nat.lt_or_ge i f with h | h
        · exact HF.out i h ⟨h1, h2⟩
        · rw [hnone i h hi] at h1; cases h1)
      clear hnone
      go_wp2
      go_ret
      exact ⟨_, rfl, ⟨fun h => (by cases h), fun h => absurd h HNO.out⟩, HW.out⟩
    · have h0 := HTR.out
      rw [toldR_some] at h0
      injection h0 with e1 e2
      subst e1
      subst e2
      have HPI := Lib.hid hpi
      have HPJ := Lib.hid hpj
      clear hpi hpj
      go_wp2_with fail
      refine (boxNext vb q i _ (HB.out.below HW.out) (HT.out.stays HW.out) hi2).mono ?_
      rintro e w2 ⟨z, rfl, HZ, hb2⟩
      have HW2 := Lib.hid (below_then HW.out hb2)
      clear hb2
      rcases HZ.out with ⟨rfl, hnone⟩ | ⟨k, rfl, hk1, hk2, hqk, hqj⟩
      · rw [toldR_none]
        have HNO := Lib.hid (show ¬ ∃ i, i < 65536 ∧ p i = true ∧ q i = true by
          rintro ⟨j, hj, h1, h2⟩
          rcases Nat.lt_or_ge j i with h | h
          · rcases Nat.lt_or_ge j f with h' | h'
            · exact HF.out j h' ⟨h1, h2⟩
            · rw [HPJ.out j h' h] at h1; cases h1
          · rw [hnone j h hj] at h2; cases h2)
        clear hnone
        go_wp2
        go_ret
        exact ⟨_, rfl, ⟨fun h => (by cases h), fun h => absurd h HNO.out⟩, HW2.out⟩
      · rw [toldR_some]
        have HQK := Lib.hid hqk
        have HQJ := Lib.hid hqj
        clear hqk hqj
        by_cases hki : k = i
        · subst hki
          have h1 : ((k : Int) == (k : Int)) = true := by simp
          go_wp2
          go_ret
          exact ⟨_, rfl, ⟨fun _ => ⟨k, hi2, HPI.out, HQK.out⟩, fun _ => rfl⟩, HW2.out⟩
        · have h1 : ((k : Int) == (i : Int)) = false := by simp; omega
          have HNF := Lib.hid (show ∀ j, j < k → ¬ (p j = true ∧ q j = true) from fun j hj h => by
            rcases Nat.lt_or_ge j i with h2 | h2
            · rcases Nat.lt_or_ge j f with h' | h'
              · exact HF.out j h' h
              · rw [HPJ.out j h' h2] at h; cases h.1
            · rw [HQJ.out j h2 hj] at h; cases h.2)
          go_wp2_with fail
          refine (boxNext va p k _ (HA.out.below HW2.out) (HT.out.stays HW2.out) hk2).mono ?_
          rintro e w3 ⟨z, rfl, HZ2, hb3⟩
          have HW3 := Lib.hid (below_then HW2.out hb3)
          clear hb3
          obtain ⟨t, ht⟩ : ∃ t, toldR z = t := ⟨_, rfl⟩
          rw [ht]
          have HTZ := Lib.hid ht
          clear ht
          obtain ⟨t1, t2⟩ := t
          go_wp2
          go_roundw
          case rel => exact ⟨k, z, t1, t2, rfl, rfl, by omega, HTZ.out, HZ2.out, HNF.out, HW3.out⟩
          case measure =>
            have hm : t2 = true → (i : Int) < t1 := fun h => by
              have h3 := HTZ.out
              rcases HZ2.out with ⟨rfl, _⟩ | ⟨m, rfl, hm1, hm2, _⟩
              · rw [toldR_none] at h3
                injection h3 with _ h4
                rw [← h4] at h
                cases h
              · rw [toldR_some] at h3
                injection h3 with h4 _
                omega
            cases t2
            · simp [intOf]; omega
            · have := hm rfl
              simp [intOf]; omega
end Go.Proofs.YtbjekoljipjldaaGreatDoor
