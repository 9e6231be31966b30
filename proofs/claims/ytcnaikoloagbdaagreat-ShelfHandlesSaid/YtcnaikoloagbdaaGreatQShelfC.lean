/-
  package shelf: which of some handles isn't open; walked.
  package shelf: Join of one handle's keys, or of one handle's twice; walked.
-/
import Derived.Test.YtcnaikoloagbdaaGreatQShelfA
import Derived.Test.YtcnaikoloagbdaaGreatQShelf2
namespace Go.Proofs.YtcnaikoloagbdaaGreat
set_option linter.unusedVariables false
set_option linter.unusedSimpArgs false
open Go.RowKit Go.Shelf
attribute [local go_sem ↓] Go.wp_at_zero Go.wp_at_succ

set_option maxRecDepth 100000 in
set_option maxHeartbeats 1000000 in
theorem shIndex {B : Nat} {w : World} {s : Nat} {l : Nat → Option IT} (H : SH B w s l) (A : Option Addr) (c : Nat) (hs : List Int) (hr : Rd .i64 w A hs) (hl : hs.length ≤ 100) :
    Calls Tryz.prog 84 #[.slice A hs.length c, .func (.func 60) #[.pointer (some ⟨s, 0, none⟩)] #[]] w fun e w' => ∃ n : Int, e = .returned (.int .i64 n) ∧ Hid (0 ≤ n ↔ ∃ h ∈ hs, lk l h = none) ∧ Hid (Below w.heap.size w w') := by
  have HR := Lib.hid hr
  have HH := Lib.hid H
  clear hr H
  go_enter Tryz.func84, Tryz.ntmps84
  go_wp2
  go_loopw [5, 8] (fun _ v8 wr => ∃ (k : Nat), v8 = .int .i64 k ∧ k ≤ hs.length ∧ Hid (∀ j, j < k → lk l (hs.getD j 0) ≠ none) ∧ Hid (Below w.heap.size w wr)) (fun _ v8 _ => hs.length - (intOf v8).toNat)
  case atStart => exact ⟨0, rfl, Nat.zero_le _, fun j hj => absurd hj (by omega), Below.refl _ _⟩
  case round =>
    obtain ⟨k, rfl, hk, HALL, HBW⟩ := hrel
    by_cases hlt : k < hs.length
    · obtain ⟨a1, rfl, _, hc1⟩ := HR.out.below HBW.out k hlt
      have HMEM := Lib.hid (show hs.getD k 0 ∈ hs by rw [List.getD_eq_getElem?_getD, List.getElem?_eq_getElem hlt]; exact List.getElem_mem hlt)
      obtain ⟨x, hx⟩ : ∃ x, x = hs.getD k 0 := ⟨_, rfl⟩
      have HX := Lib.hid hx
      rw [← hx] at hc1
      clear hx
      have HM := Lib.hid (shMissing (HH.out.below HBW.out) x)
      go_wp2_with fail
      refine HM.out.mono ?_
      rintro e w2 ⟨rfl, rfl⟩
      clear HM
      cases hlk : lk l x with
      | none =>
        simp only [Option.isNone_none]
        have HN := Lib.hid hlk
        clear hlk
        go_wp2
        go_ret
        exact ⟨k, rfl, ⟨fun _ => ⟨x, by rw [HX.out]; exact HMEM.out, HN.out⟩, fun _ => by omega⟩, HBW.out⟩
      | some y =>
        simp only [Option.isNone_some]
        have HN := Lib.hid (show lk l (hs.getD k 0) ≠ none by rw [← HX.out, hlk]; simp)
        clear hlk
        go_wp2
        go_roundw
        case rel => exact ⟨k + 1, by go_num, by omega, fun j hj => by
          rcases Nat.lt_succ_iff_lt_or_eq.1 hj with h | h
          · exact HALL.out j h
          · subst h; exact HN.out, HBW.out⟩
        case measure => simp [intOf]; omega
    · obtain rfl : k = hs.length := by omega
      go_wp2
      go_ret
      refine ⟨-1, rfl, ⟨fun h => absurd h (by decide), fun ⟨h, hh, hn⟩ => ?_⟩, HBW.out⟩
      obtain ⟨j, hj, e⟩ := List.getElem_of_mem hh
      exact absurd (by rw [List.getD_eq_getElem?_getD, List.getElem?_eq_getElem hj]; simpa [e] using hn) (HALL.out j hj)
set_option maxRecDepth 100000 in
theorem shContains {B : Nat} {w : World} {s : Nat} {l : Nat → Option IT} (H : SH B w s l) (A : Option Addr) (c : Nat) (hs : List Int) (hr : Rd .i64 w A hs) (hl : hs.length ≤ 100) :
    Calls Tryz.prog 59 #[.slice A hs.length c, .func (.func 60) #[.pointer (some ⟨s, 0, none⟩)] #[]] w fun e w' => ∃ b : Bool, e = .returned (.bool b) ∧ Hid (b = true ↔ ∃ h ∈ hs, lk l h = none) ∧ Hid (Below w.heap.size w w') := by
  have HI := Lib.hid (shIndex H A c hs hr hl)
  clear H hr
  go_enter Tryz.func59, Tryz.ntmps59
  go_wp2_with fail
  refine HI.out.mono ?_
  rintro e w1 ⟨n, rfl, HN, HB⟩
  clear HI
  go_wp2
  go_ret
  exact ⟨decide (0 ≤ n), rfl, ⟨fun h => HN.out.1 (of_decide_eq_true h), fun h => decide_eq_true (HN.out.2 h)⟩, HB.out⟩
end Go.Proofs.YtcnaikoloagbdaaGreat
namespace Go.Proofs.YtcnaikoloagbdaaGreat
set_option linter.unusedVariables false
set_option linter.unusedSimpArgs false
open Go.RowKit Go.Shelf
attribute [local go_sem ↓] Go.wp_at_zero Go.wp_at_succ

/-- behind what changes an item's own blocks, and new ones -/
theorem SH.item2 {B : Nat} {w w' : World} {s : Nat} {l : Nat → Option IT} (H : SH B w s l) {n : Nat} {x x' : IT} {E : Nat → Prop} (hx : l n = some x) (hc : Chg (fun b => x.own b ∨ E b) w w') (hE : ∀ b, E b → B ≤ b ∧ b ≠ s ∧ ∀ h y, l h = some y → ¬ y.own b) (hok : ITok w' x') (hi : x'.i = x.i) (ho : ∀ b, x'.own b → x.own b ∨ E b ∨ w.heap.size ≤ b) : SH B w' s (upd l n (some x')) := by
  have hB : B ≤ w.heap.size := Nat.le_trans H.lo.1 (Nat.le_of_lt (blk_lt H.head))
  have hn8 : n < 8 := by
    rcases Nat.lt_or_ge n 8 with h | h
    · exact h
    · rw [H.big n h] at hx; cases hx
  have he : ∀ k, encI (upd l n (some x') k) = encI (l k) := fun k => by
    by_cases e : k = n
    · subst e; rw [upd_same, hx]; simp only [encI, hi]
    · rw [upd_other _ _ e]
  refine ⟨?_, fun h y e => ?_, fun h h' y y' hne e e' b hy hy' => ?_, fun h y e hy => ?_, fun h h8 => ?_, H.lo.1, fun h y e b hy => ?_⟩
  · rw [he, he, he, he, he, he, he, he]
    exact (hc.block s (blk_lt H.head) (fun e => e.elim (H.hd n x hx) (fun e => (hE _ e).2.1 rfl))).trans H.head
  · by_cases en : h = n
    · subst en; rw [upd_same] at e; cases e; exact hok
    · rw [upd_other _ _ en] at e
      exact (H.ok h y e).stay (fun b hb => hc.block b ((H.ok h y e).lt b hb) (fun hx' => hx'.elim (fun hx' => H.dis n h x y (Ne.symm en) hx e b hx' hb) (fun e' => (hE b e').2.2 h y e hb)))
  · by_cases en : h = n
    · subst en; rw [upd_same] at e; cases e
      rw [upd_other _ _ (Ne.symm hne)] at e'
      rcases ho b hy with h1 | h1 | h1
      · exact H.dis h h' x y' hne hx e' b h1 hy'
      · exact (hE b h1).2.2 h' y' e' hy'
      · have := (H.ok h' y' e').lt b hy'; omega
    · rw [upd_other _ _ en] at e
      by_cases en' : h' = n
      · subst en'; rw [upd_same] at e'; cases e'
        rcases ho b hy' with h1 | h1 | h1
        · exact H.dis h h' y x hne e hx b hy h1
        · exact (hE b h1).2.2 h y e hy
        · have := (H.ok h y e).lt b hy; omega
      · rw [upd_other _ _ en'] at e'
        exact H.dis h h' y y' hne e e' b hy hy'
  · by_cases en : h = n
    · subst en; rw [upd_same] at e; cases e
      rcases ho s hy with h1 | h1 | h1
      · exact H.hd h x hx h1
      · exact (hE s h1).2.1 rfl
      · have := blk_lt H.head; omega
    · rw [upd_other _ _ en] at e; exact H.hd h y e hy
  · by_cases en : h = n
    · omega
    · rw [upd_other _ _ en]; exact H.big h h8
  · by_cases en : h = n
    · subst en; rw [upd_same] at e; cases e
      rcases ho b hy with h1 | h1 | h1
      · exact H.lo.2 h x hx b h1
      · exact (hE b h1).1
      · omega
    · rw [upd_other _ _ en] at e; exact H.lo.2 h y e b hy
theorem set_info : (Tryz.prog.info? 73).map (fun i => (i.zero, i.size, i.bytes)) = some (some .nilIface, 1, 16) := by kernel_rfl
set_option maxRecDepth 100000 in
set_option maxHeartbeats 4000000 in
theorem shJoin (md : Bool) {B : Nat} {w : World} {s : Nat} {l : Nat → Option IT} (H : SH B w s l) (n : Nat) {x : IT} (hx : lk l n = some x) (g : Int) {y : IT} (hy : lk l g = some y) (m : Nat) (hm : m = 1 ∨ m = 2) (A : Option Addr) (c : Nat) (hr : Rd .i64 w A (List.replicate m g))
    (hmd : Mode x.tag x.lim y.s.S md) (hlim : x.lim ≤ 1048576) (hS2 : m = 2 → ∀ xs, y.s.S xs → xs = [5]) (hN : y.s.N ≤ 100000) (hN1 : x.s.N ≤ 100000) (hN2 : ∀ s', FRes md s' → s'.N ≤ 100000) :
    Calls Tryz.prog 25 #[.pointer (some ⟨s, 0, none⟩), .int .i64 0, .int .i64 n, .slice A m c] w fun e w' => ∃ er : Int, e = .returned (.int .i64 er) ∧ Hid (FQ md er) ∧ Hid (er ≠ 0 → SH B w' s l) ∧ Hid (er = 0 → ∃ x' : IT, SH B w' s (upd l n (some x')) ∧ FRes md x'.s) ∧ Hid (Chg (fun q => B ≤ q) w w') := by
  obtain ⟨i0, hinf, hz0, hz1, hz2⟩ := info_parts set_info
  have HH := Lib.hid H
  have HX := Lib.hid hx
  have HY := Lib.hid hy
  have HR := Lib.hid hr
  have HMD := Lib.hid hmd
  have HS2 := Lib.hid hS2
  have HM12 := Lib.hid hm
  have HN2 := Lib.hid hN2
  have HA := Lib.hid (shAtIs H n hx)
  have HCF := Lib.hid (shContains H A c (List.replicate m g) hr (by rw [List.length_replicate]; omega))
  rw [List.length_replicate] at HCF
  clear H hx hy hr hmd hS2 hm hN2
  go_enter Tryz.func25, Tryz.ntmps25
  go_wp2_with fail
  refine HA.out.mono ?_
  rintro e w1 ⟨rfl, hw1⟩
  rw [hw1]
  clear HA hw1 w1
  go_wp2_with fail
  refine HCF.out.mono ?_
  rintro e w2 ⟨b, rfl, HB, HB2⟩
  obtain rfl : b = false := by
    cases b
    · rfl
    · obtain ⟨h, hh, hn⟩ := HB.out.1 rfl
      rw [(List.mem_replicate.1 hh).2, HY.out] at hn
      cases hn
  have H2 := Lib.hid (HH.out.below HB2.out)
  have i5 := blk_cell (H2.out.ok _ _ (lk_some HX.out).2).item 5 (v := .pointer none) rfl
  clear HCF
  obtain ⟨ty, vy, hsv⟩ := y.s.iface
  have HSV := Lib.hid hsv
  clear hsv
  go_wp2
  go_loopw [10, 12, 33] (fun v10 _ v33 wr => ∃ (k : Nat), v33 = .int .i64 k ∧ k ≤ m ∧ Hid (wr.ownsRow w.heap.size 73 1 v10 k (List.replicate k (.iface ty vy))) ∧ Hid (Below w.heap.size w wr)) (fun _ _ v33 _ => m - (intOf v33).toNat)
  case atStart => exact ⟨0, rfl, Nat.zero_le _, ⟨rfl, .inl ⟨rfl, rfl⟩⟩, HB2.out⟩
  case round =>
    clear HB2 HB i5 H2
    obtain ⟨k, rfl, hk, HROW, HBW⟩ := hrel
    have HHW := Lib.hid (HH.out.below HBW.out)
    have hzw := HBW.out.size
    by_cases hlt : k < m
    · obtain ⟨a1, hA1, _, hc1⟩ := HR.out.below HBW.out k (by rw [List.length_replicate]; exact hlt)
      have hg : (List.replicate m g).getD k 0 = g := by rw [List.getD_eq_getElem?_getD, List.getElem?_replicate, if_pos hlt]; rfl
      rw [hg] at hc1
      have HAT := Lib.hid (shAtIs HHW.out g HY.out)
      have HKY := Lib.hid (itKeys y wr (HHW.out.ok _ _ (lk_some HY.out).2))
      rw [HSV.out] at HKY
      have HA1 := Lib.hid hA1
      have HKM := Lib.hid (show k + 1 ≤ 2 by have := HM12.out; omega)
      have HNB := Lib.hid (blk_new wr #[.iface ty vy] 73)
      have HROW3 := Lib.hid (fun (o2 : Obj) => rowG_chg (w' := wr.alloc o2) (S := fun _ => False) HROW.out ((Chg.refl _ wr).alloc o2) (fun _ _ h => h))
      have HSZ3 := Lib.hid (show ∀ o2, w.heap.size ≤ (wr.alloc o2).heap.size from fun o2 => by simp; omega)
      rw [hA1]
      clear hg hA1
      go_wp2_with fail
      refine HAT.out.mono ?_
      rintro e w3 ⟨rfl, rfl⟩
      clear HAT hc1
      go_wp2_with fail
      refine HKY.out.mono ?_
      rintro e w4 ⟨rfl, rfl⟩
      clear HKY
      go_wp2_with (at_builtin; refine wpList_pushR w.heap.size u10 k (List.replicate k (.iface ty vy)) [.iface ty vy] _ _ _ rfl rfl Tryz.underlying96 hinf hz0 hz1 hz2 rfl (by decide) rfl rfl HNB.out rfl (by intro u hu; rw [List.mem_singleton] at hu; subst hu; rfl) (HROW3.out _) (HSZ3.out _) (by have := HKM.out; omega) (by have := HKM.out; unfold maxLen; omega) ?_; intro v5 w5 ho hg hv; have HO5 := Lib.hid ho; have HG5 := Lib.hid hg; clear ho hg hv)
      have HB5 := Lib.hid ((HBW.out.alloc hzw _).grown HG5.out (by simp; omega) (fun g hg => (rowG_lt HROW.out g hg).1))
      have HO5' := Lib.hid (show w5.ownsRow w.heap.size 73 1 v5 (k + 1) (List.replicate (k + 1) (.iface ty vy)) from by
        rw [List.replicate_succ']; exact HO5.out)
      have hk2 : k ≤ 1 := by have := HKM.out; omega
      have hw : wrap64 ((k : Int) + 1) = ((k + 1 : Nat) : Int) := by unfold wrap64; omega
      have HW := Lib.hid hw
      clear hw HROW HG5 HO5 HROW3 HNB
      go_wp2
      try rw [HW.out]
      refine ⟨⟨k + 1, rfl, by omega, HO5'.out, HB5.out⟩, ?_⟩
      simp only [intOf]
      omega
    · obtain rfl : k = m := by omega
      obtain ⟨g2, cap', e10⟩ : ∃ g2 cap', u10 = .slice (some ⟨g2, 0, none⟩) k cap' := by
        obtain ⟨k', hk'⟩ : ∃ k', k = k' + 1 := ⟨k - 1, by have := HM12.out; omega⟩
        have hr := HROW.out
        rw [hk'] at hr ⊢
        exact row_succ hr
      subst e10
      have HJ := Lib.hid (show Calls Tryz.prog 61 #[.int .i64 0, .int .i64 x.tag, .int .u64 x.seed, .int .i64 x.lim, .slice (some ⟨g2, 0, none⟩) k cap'] wr.drew _ from by
        obtain ⟨hgw, cur, hcur, hcc⟩ := row_cells1 HROW.out
        have hlen : (List.replicate k y.s).length = k := List.length_replicate
        have := faceJoin md x.tag x.seed x.lim (S := y.s.S) (N := y.s.N) HMD.out hlim (List.replicate k y.s) (by rw [hlen]; exact HM12.out) hN y.s.sN (by rw [hlen]; exact HS2.out) y.s.env (fun s hs => by rw [(List.mem_replicate.1 hs).2]; exact ⟨y.s.in_self, fun _ h => h, Nat.le_refl _⟩) g2 cap' wr.drew
          (fun j hj => by
            have hj' : j < k := by rw [hlen] at hj; exact hj
            have h2 := hcc j (by rw [List.length_replicate]; exact hj')
            rw [List.getElem_replicate] at h2
            rw [List.getElem_replicate, HSV.out]
            have hcur' : wr.drew.heap[g2]? = _ := hcur
            simp only [World.cell?, hcur']
            simpa using h2) (blk_lt (show wr.drew.heap[g2]? = _ from hcur)) (SK.drewn (HHW.out.ok _ _ (lk_some HY.out).2).p)
        rw [hlen] at this
        exact this)
      have j1 := blk_cell (HHW.out.ok _ _ (lk_some HX.out).2).item 1 (v := .int .i64 x.tag) rfl
      have j2 := blk_cell (HHW.out.ok _ _ (lk_some HX.out).2).item 2 (v := .int .u64 x.seed) rfl
      have j3 := blk_cell (HHW.out.ok _ _ (lk_some HX.out).2).item 3 (v := .int .i64 x.lim) rfl
      go_wp2
      apply use_sameT
      case main =>
        intro K
        go_region_law (first | ((with_reducible refine gate_scall (f := 61) rfl ?_); refine step_goes rfl Tryz.func61 (by kernel_rfl) rfl #[.int .i64 0, .int .i64 x.tag, .int .u64 x.seed, .int .i64 x.lim, .slice (some ⟨g2, 0, none⟩) k cap'] rfl (by simp only [List.map_toArray, List.map_cons, List.map_nil]; rfl) HJ.out ?_; rintro e w6 ⟨v, er, rfl, HQ, HNI, HRES, HP6, HC6⟩; refine ⟨_, rfl, ?_⟩))
        all_goals
          revert HQ HNI HRES HP6 HC6
          revert v er w6
          exact K
      case rest =>
        intro w6 v er HQ HNI HRES HP6 HC6
        have HC6' := Lib.hid (show Chg y.s.red wr w6 from (Chg.refl _ wr).drew.then HC6.out)
        have H6 := Lib.hid (HHW.out.read (lk_some HY.out).2 HP6.out HC6'.out)
        have HCB := Lib.hid (show Chg (fun q => B ≤ q) w w6 from (Chg.of_below HBW.out).then (HC6'.out.mono (fun b _ hb => HH.out.lo.2 _ y (lk_some HY.out).2 b (.inr (.inr (y.s.red_own b hb))))))
        clear HJ j1 j2 j3 HC6
        by_cases h0 : er = 0
        · subst h0
          obtain ⟨s', rfl, hp', ho', hres⟩ := HRES.out rfl
          have hd : ∀ h z, l h = some z → ∀ q, z.own q → ¬ s'.own q := fun h z hz q hq hq' => by
            have h1 := (HHW.out.ok h z hz).lt q hq
            have h2 := ho' q hq'
            have h3 : wr.drew.heap.size = wr.heap.size := rfl
            omega
          have HSW := Lib.hid (keptSwap x s' w6 (H6.out.ok _ _ (lk_some HX.out).2) hp' (hd _ x (lk_some HX.out).2) hN1 (HN2.out s' hres))
          have hs0 := blk_lt HH.out.head
          have HE := Lib.hid (show ∀ b, s'.own b → B ≤ b ∧ b ≠ s ∧ ∀ h z, l h = some z → ¬ z.own b from fun b hb => by
            have h2 := ho' b hb
            have h3 : wr.drew.heap.size = wr.heap.size := rfl
            have h4 := HH.out.lo.1
            exact ⟨by omega, by omega, fun h z hz hq => hd h z hz b hq hb⟩)
          have HRS := Lib.hid hres
          have i4 := blk_cell (H6.out.ok _ _ (lk_some HX.out).2).item 4 (v := .pointer (some ⟨x.k, 0, none⟩)) rfl
          have HXN := Lib.hid (show l n = some x by have := (lk_some HX.out).2; rwa [Int.toNat_natCast] at this)
          clear hd hp' ho' hres HRES
          go_wp2_with fail
          refine HSW.out.mono ?_
          rintro e w7 ⟨ver', ⟨vv, rfl⟩, HOK, HC7⟩
          have HF := Lib.hid (H6.out.item2 (x' := { x with s := s', ver := ver' }) HXN.out HC7.out HE.out HOK.out rfl (fun b hb => by
            rcases hb with hb | hb | hb
            · exact .inl (.inl hb)
            · exact .inl (.inr (.inl hb))
            · exact .inr (.inl hb)))
          have HC8 := Lib.hid (HCB.out.then (HC7.out.mono (T := fun q => B ≤ q) (fun b _ hb => hb.elim (fun hb => HH.out.lo.2 _ x HXN.out b hb) (fun hb => (HE.out b hb).1))))
          clear HSW i4
          go_wp2
          go_ret
          exact ⟨0, rfl, HQ.out, fun h => absurd rfl h, fun _ => ⟨_, HF.out, HRS.out⟩, HC8.out⟩
        · have h02 : (er == 0) = false := by simpa using h0
          have HN0 := Lib.hid h0
          clear h0
          go_wp2
          go_ret
          exact ⟨er, rfl, HQ.out, fun _ => H6.out, fun h => absurd h HN0.out, HCB.out⟩
end Go.Proofs.YtcnaikoloagbdaaGreat
