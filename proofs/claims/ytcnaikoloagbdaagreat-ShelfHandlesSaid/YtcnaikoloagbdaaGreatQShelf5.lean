/-
  package shelf: New, made, Open, Close, Insert; walked.
-/
import Derived.Test.YtcnaikoloagbdaaGreatQShelf2
namespace Go.Proofs.YtcnaikoloagbdaaGreat
set_option linter.unusedVariables false
set_option linter.unusedSimpArgs false
open Go.RowKit Go.Shelf
attribute [local go_sem ↓] Go.wp_at_zero Go.wp_at_succ

set_option maxRecDepth 100000 in
theorem shNew (B : Nat) (w : World) (hB : B ≤ w.heap.size) : Calls Tryz.prog 33 #[] w fun e w' => e = .returned (.pointer (some ⟨w.heap.size, 0, none⟩)) ∧ Hid (SH B w' w.heap.size (fun _ => none)) ∧ Hid (Below w.heap.size w w') := by
  go_enter Tryz.func33, Tryz.ntmps33
  go_wp2
  go_ret
  exact ⟨rfl, ⟨blk_new _ _ _, (fun _ _ h => by cases h), (fun _ _ _ _ _ h => by cases h), (fun _ _ h => by cases h), fun _ _ => rfl, hB, (fun _ _ h => by cases h)⟩, (Below.refl _ _).alloc (Nat.le_refl _) _⟩
set_option maxRecDepth 100000 in
set_option maxHeartbeats 1000000 in
theorem shMade (tag seed lim : Int) (w : World) (ht : tag = 2 ∨ tag = 3 ∨ tag = 4) (h0 : 0 ≤ lim) (h4 : tag = 4 → 11 ≤ lim) (h1 : lim ≤ 1048576) :
    Calls Tryz.prog 67 #[.agg #[.bool false, .int .i64 tag, .int .u64 seed, .int .i64 lim]] w fun e w' => ∃ x : IT, e = .returned (.tuple #[.pointer (some ⟨x.i, 0, none⟩), .int .i64 0]) ∧ Hid (ITok w' x) ∧ Hid (x.tag = tag ∧ x.seed = seed ∧ x.lim = lim ∧ Fresh tag lim x.s) ∧ Hid (∀ q, x.own q → w.heap.size ≤ q) ∧ Hid (Below w.heap.size w w') := by
  have hA := (Below.refl w.heap.size w).alloc (Nat.le_refl _) (.cells #[.bool false, .int .i64 tag, .int .u64 seed, .int .i64 lim] 55)
  have HA := Lib.hid hA
  have hn := blk_new w #[.bool false, .int .i64 tag, .int .u64 seed, .int .i64 lim] 55
  have HN := Lib.hid hn
  have HNEW := Lib.hid (faceNew tag seed lim (w.alloc (.cells #[.bool false, .int .i64 tag, .int .u64 seed, .int .i64 lim] 55)) ht h0 h4 h1)
  have hs1 : (w.alloc (.cells #[.bool false, .int .i64 tag, .int .u64 seed, .int .i64 lim] 55)).heap.size = w.heap.size + 1 := by simp
  have HS1 := Lib.hid hs1
  clear hA hn hs1
  go_enter Tryz.func67, Tryz.ntmps67
  go_wp2_with fail
  refine HNEW.out.mono ?_
  rintro e w1 ⟨s, rfl, HP, HFR, HOW, HB1⟩
  clear HNEW
  have HN1 := Lib.hid (blk_below HN.out HB1.out rfl)
  have hz1 := HB1.out.size
  have o0 := blk_cell HN1.out 0 (v := .bool false) rfl
  have o1 := blk_cell HN1.out 1 (v := .int .i64 tag) rfl
  have o2 := blk_cell HN1.out 2 (v := .int .u64 seed) rfl
  have o3 := blk_cell HN1.out 3 (v := .int .i64 lim) rfl
  have p0 := blk_cell (blk_old HN1.out (.cells #[s.v, .int .u64 0] 75)) 0 (v := .bool false) rfl
  have p1 := blk_cell (blk_old HN1.out (.cells #[s.v, .int .u64 0] 75)) 1 (v := .int .i64 tag) rfl
  have p2 := blk_cell (blk_old HN1.out (.cells #[s.v, .int .u64 0] 75)) 2 (v := .int .u64 seed) rfl
  have p3 := blk_cell (blk_old HN1.out (.cells #[s.v, .int .u64 0] 75)) 3 (v := .int .i64 lim) rfl
  have HFIN := Lib.hid (show ITok ((w1.drew.alloc (.cells #[s.v, .int .u64 0] 75)).alloc (.cells #[.bool false, .int .i64 tag, .int .u64 seed, .int .i64 lim, .pointer (some ⟨w1.heap.size, 0, none⟩), .pointer none, .pointer none, .int .u64 0] 67)) ⟨w1.heap.size + 1, w1.heap.size, tag, seed, lim, 0, s⟩ from
    ⟨by have := blk_new (w1.drew.alloc (.cells #[s.v, .int .u64 0] 75)) #[.bool false, .int .i64 tag, .int .u64 seed, .int .i64 lim, .pointer (some ⟨w1.heap.size, 0, none⟩), .pointer none, .pointer none, .int .u64 0] 67; rw [World.size_alloc] at this; exact this,
     blk_old (blk_new w1.drew _ _) _, SK.below (SK.below (SK.drewn HP.out) ((Below.refl _ w1.drew).alloc (Nat.le_refl _) _)) ((Below.refl _ _).alloc (Nat.le_refl _) _), fun e => by have := SK.lt HP.out _ e; simp only at this; omega, fun e => by have := SK.lt HP.out _ e; simp only at this; omega⟩)
  have HOWN := Lib.hid (show ∀ q, (⟨w1.heap.size + 1, w1.heap.size, tag, seed, lim, 0, s⟩ : IT).own q → w.heap.size ≤ q from fun q hq => by
    have h3 := HS1.out
    rcases hq with e | e | e
    · simp only at e; omega
    · simp only at e; omega
    · have := HOW.out q e; omega)
  have HBW := Lib.hid (show Below w.heap.size w ((w1.drew.alloc (.cells #[s.v, .int .u64 0] 75)).alloc (.cells #[.bool false, .int .i64 tag, .int .u64 seed, .int .i64 lim, .pointer (some ⟨w1.heap.size, 0, none⟩), .pointer none, .pointer none, .int .u64 0] 67)) from
    ((below_then HA.out HB1.out).drew.alloc (by have := HS1.out; show w.heap.size ≤ w1.heap.size; omega) _).alloc (by have := HS1.out; rw [World.size_alloc]; show w.heap.size ≤ w1.heap.size + 1; omega) _)
  go_wp2
  go_region_law (first | ((with_reducible refine gate_scall (f := 94) rfl ?_); refine step_goes rfl Tryz.func94 (by kernel_rfl) rfl #[s.v] rfl (by simp only [List.map_toArray, List.map_cons, List.map_nil]; rfl) (lookKeep s _) ?_; rintro e w5 ⟨rfl, rfl⟩; refine ⟨_, rfl, ?_⟩))
  all_goals
    go_wp2
    go_ret2
    refine ⟨⟨w1.heap.size + 1, w1.heap.size, tag, seed, lim, 0, s⟩, ?_, HFIN.out, ⟨rfl, rfl, rfl, HFR.out⟩, HOWN.out, HBW.out⟩
    first | rfl | simp
theorem SH.put {B : Nat} {w w2 : World} {s n : Nat} {l : Nat → Option IT} (H : SH B w s l) (hn : n < 8) (o : Option IT) (hb : Below w.heap.size w w2) (ho : ∀ x, o = some x → ITok w2 x ∧ ∀ q, x.own q → w.heap.size ≤ q) : SH B (w2.setCell ⟨s, n, none⟩ (encI o)) s (upd l n o) := by
  have hs := blk_lt H.head
  have hB := H.lo.1
  have hne : ∀ (k : Nat) (v : Value), k ≠ s → (w2.setCell ⟨s, n, none⟩ v).heap[k]? = w2.heap[k]? := fun k v e => Below.heap_setCell w2 ⟨s, n, none⟩ v k e
  have old : ∀ h x, h ≠ n → upd l n o h = some x → l h = some x := fun h x e hx => by rwa [upd_other _ _ e] at hx
  have new : ∀ x, upd l n o n = some x → o = some x := fun x hx => by rwa [upd_same] at hx
  refine ⟨?_, fun h x e => ?_, fun h h' x x' hh e e' b hx hx' => ?_, fun h x e hx => ?_, fun h h8 => ?_, hB, fun h x e b hx => ?_⟩
  · have h2 := blk_set ((hb.block s hs).trans H.head) n (encI o)
    match n, hn with
    | 0, _ => simpa [upd] using h2
    | 1, _ => simpa [upd] using h2
    | 2, _ => simpa [upd] using h2
    | 3, _ => simpa [upd] using h2
    | 4, _ => simpa [upd] using h2
    | 5, _ => simpa [upd] using h2
    | 6, _ => simpa [upd] using h2
    | 7, _ => simpa [upd] using h2
  · by_cases eh : h = n
    · subst eh
      obtain ⟨h1, h2⟩ := ho x (new x e)
      exact h1.stay (fun b hb' => hne b _ (fun e => by have := h2 b hb'; omega))
    · have hx := old h x eh e
      exact (H.ok h x hx).stay (fun b hb' => (hne b _ (fun e => by subst e; exact H.hd h x hx hb')).trans (hb.block b ((H.ok h x hx).lt b hb')))
  · by_cases eh : h = n
    · subst eh
      obtain ⟨h1, h2⟩ := ho x (new x e)
      have hx2 := old h' x' (fun e => hh e.symm) e'
      have := (H.ok h' x' hx2).lt b hx'
      have := h2 b hx
      omega
    · have hx1 := old h x eh e
      by_cases eh' : h' = n
      · subst eh'
        obtain ⟨h1, h2⟩ := ho x' (new x' e')
        have := (H.ok h x hx1).lt b hx
        have := h2 b hx'
        omega
      · exact H.dis h h' x x' hh hx1 (old h' x' eh' e') b hx hx'
  · by_cases eh : h = n
    · subst eh
      have := (ho x (new x e)).2 s hx
      omega
    · exact H.hd h x (old h x eh e) hx
  · rw [upd_other _ _ (by omega)]; exact H.big h h8
  · by_cases eh : h = n
    · subst eh
      have := (ho x (new x e)).2 b hx
      omega
    · exact H.lo.2 h x (old h x eh e) b hx
set_option maxRecDepth 100000 in
set_option maxHeartbeats 1000000 in
theorem shOpen {B : Nat} {w : World} {s : Nat} {l : Nat → Option IT} (H : SH B w s l) (n : Nat) (hn : n < 8) (hno : l n = none) (tag seed lim : Int) (ht : tag = 2 ∨ tag = 3 ∨ tag = 4) (h0 : 0 ≤ lim) (h4 : tag = 4 → 11 ≤ lim) (h1 : lim ≤ 1048576) :
    Calls Tryz.prog 31 #[.pointer (some ⟨s, 0, none⟩), .int .i64 n, .agg #[.bool false, .int .i64 tag, .int .u64 seed, .int .i64 lim]] w fun e w' => ∃ x : IT, e = .returned (.int .i64 0) ∧ Hid (SH B w' s (upd l n (some x))) ∧ Hid (x.tag = tag ∧ x.seed = seed ∧ x.lim = lim ∧ Fresh tag lim x.s) ∧ Hid (Chg (fun q => B ≤ q) w w') ∧ Hid (∀ q, x.own q → w.heap.size ≤ q) ∧ Hid (Chg (· = s) w w') := by
  have hA := (Below.refl w.heap.size w).alloc (Nat.le_refl _) (.cells #[.bool false, .int .i64 tag, .int .u64 seed, .int .i64 lim] 55)
  have HA := Lib.hid hA
  have HH := Lib.hid H
  have H1 := Lib.hid (H.below hA)
  have c := (H.below hA).cell n hn
  rw [hno] at c
  simp only [encI] at c
  have hi : (n : Int) < 8 := by omega
  have HN := Lib.hid (blk_new w #[.bool false, .int .i64 tag, .int .u64 seed, .int .i64 lim] 55)
  have HM := Lib.hid (shMade tag seed lim (w.alloc (.cells #[.bool false, .int .i64 tag, .int .u64 seed, .int .i64 lim] 55)) ht h0 h4 h1)
  clear H hA hno
  go_enter Tryz.func31, Tryz.ntmps31
  go_wp2_with fail
  refine HM.out.mono ?_
  rintro e w1 ⟨x, rfl, HOK, HX, HOW, HB1⟩
  have H2 := Lib.hid (H1.out.below HB1.out)
  have f0 := blk_free H2.out.head n
  have c2 := H2.out.cell n hn
  have hz1 : w.heap.size ≤ (w.alloc (.cells #[.bool false, .int .i64 tag, .int .u64 seed, .int .i64 lim] 55)).heap.size := HA.out.size
  have HFIN := Lib.hid (HH.out.put hn (some x) (below_then HA.out HB1.out) (fun y e => by cases e; exact ⟨HOK.out, fun q hq => Nat.le_trans hz1 (HOW.out q hq)⟩))
  have HC := Lib.hid ((Chg.of_below (S := fun q => B ≤ q) (below_then HA.out HB1.out)).set (b := s) (i := n) (encI (some x)) (.inl HH.out.lo.1))
  clear HM c
  go_wp2
  go_ret
  exact ⟨x, rfl, HFIN.out, HX.out, HC.out, fun q hq => Nat.le_trans hz1 (HOW.out q hq), (Chg.of_below (S := (· = s)) (below_then HA.out HB1.out)).set (b := s) (i := n) (encI (some x)) (.inl rfl)⟩
set_option maxRecDepth 100000 in
set_option maxHeartbeats 1000000 in
theorem isClose {B : Nat} {w : World} {s : Nat} {l : Nat → Option IT} (H : SH B w s l) (n : Nat) {x : IT} (hx : lk l n = some x) : Calls Tryz.prog 29 #[.pointer (some ⟨s, 0, none⟩), .int .i64 n] w fun e w' => e = .returned (.int .i64 0) ∧ Hid (SH B w' s (upd l n none)) ∧ Hid (Chg (fun q => B ≤ q) w w') := by
  have HT := Lib.hid (isTaken _ n x.i w (shAtIs H n hx))
  have hn : n < 8 := by have := (lk_some hx).1; omega
  have HFIN := Lib.hid (H.put hn none (Below.refl _ w) (fun y e => by cases e))
  have HC := Lib.hid ((Chg.refl (fun q => B ≤ q) w).set (b := s) (i := n) (encI none) (.inl H.lo.1))
  have f0 := blk_free H.head n
  have c2 := H.cell n hn
  have hi : (n : Int) < 8 := by omega
  clear H hx
  go_enter Tryz.func29, Tryz.ntmps29
  go_wp2_with fail
  refine HT.out.mono ?_
  rintro e w1 ⟨rfl, rfl⟩
  clear HT
  go_wp2
  go_ret
  exact ⟨rfl, HFIN.out, HC.out⟩
set_option maxRecDepth 100000 in
theorem noClose {B : Nat} {w : World} {s : Nat} {l : Nat → Option IT} (H : SH B w s l) (h : Int) (hno : lk l h = none) : Calls Tryz.prog 29 #[.pointer (some ⟨s, 0, none⟩), .int .i64 h] w fun e w' => e = .returned (.int .i64 6) ∧ w' = w := by
  have HT := Lib.hid (noTaken _ h w (shAtNo H h hno))
  clear H hno
  go_enter Tryz.func29, Tryz.ntmps29
  go_wp2_with fail
  refine HT.out.mono ?_
  rintro e w1 ⟨rfl, rfl⟩
  clear HT
  go_wp2
  go_ret
  exact ⟨rfl, rfl⟩
set_option maxRecDepth 100000 in
theorem nilOpen (h : Int) (tag seed lim : Int) (w : World) : Calls Tryz.prog 31 #[.pointer none, .int .i64 h, .agg #[.bool false, .int .i64 tag, .int .u64 seed, .int .i64 lim]] w fun e w' => e = .returned (.int .i64 6) ∧ Hid (Below w.heap.size w w') := by
  go_enter Tryz.func31, Tryz.ntmps31
  go_wp2
  go_ret
  exact ⟨rfl, (Below.refl _ _).alloc (Nat.le_refl _) _⟩
set_option maxRecDepth 100000 in
set_option maxHeartbeats 1000000 in
theorem isInsert {B : Nat} {w : World} {s : Nat} {l : Nat → Option IT} (H : SH B w s l) (n : Nat) (k : Int) {x : IT} (hx : lk l n = some x) (hk : SKI k x.s) : Calls Tryz.prog 21 #[.pointer (some ⟨s, 0, none⟩), .int .i64 n, .int .u64 k] w fun e w' => ∃ (er : Int) (s' : SK) (ver' : Int), e = .returned (.int .i64 er) ∧ Hid (er ≠ 6) ∧ Hid (SKn er x.s s') ∧ Hid (SH B w' s (upd l n (some { x with s := s', ver := ver' }))) ∧ Hid (Chg (fun q => B ≤ q) w w') ∧ Hid (∀ b, ({ x with s := s', ver := ver' } : IT).own b → x.own b ∨ w.heap.size ≤ b) ∧ Hid (Chg x.own w w') := by
  have hx2 : l n = some x := by have := (lk_some hx).2; rwa [Int.toNat_natCast] at this
  have HX2 := Lib.hid hx2
  have HKI := Lib.hid (keptInsert x k w (H.ok _ _ hx2) hk)
  have HA := Lib.hid (shAtIs H n hx)
  have i4 := blk_cell (H.ok _ _ hx2).item 4 (v := .pointer (some ⟨x.k, 0, none⟩)) rfl
  have HH := Lib.hid H
  clear H hx hx2 hk
  go_enter Tryz.func21, Tryz.ntmps21
  go_wp2_with fail
  refine HA.out.mono ?_
  rintro e w1 ⟨rfl, rfl⟩
  clear HA
  go_wp2_with fail
  refine HKI.out.mono ?_
  rintro e w2 ⟨er, s', ver', rfl, HE, HS, HOK, HO, HC⟩
  have HF := Lib.hid (HH.out.item HX2.out HC.out HOK.out rfl HO.out)
  have HCB := Lib.hid (HC.out.mono (T := fun q => B ≤ q) (fun b _ hb => HH.out.lo.2 _ x HX2.out b hb))
  clear HKI
  go_wp2
  go_ret
  exact ⟨er, s', ver', rfl, HE.out, HS.out, HF.out, HCB.out, HO.out, HC.out⟩
end Go.Proofs.YtcnaikoloagbdaaGreat
