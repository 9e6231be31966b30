/-
  sift.Or made, face.joined, face.Join of one set, or of a set twice, by 'or'; walked.
-/
import Derived.Test.YtcnaikoloagbdaaGreatQFaceA
import Derived.Test.YtcnaikoloagbdaaGreatQFace5
namespace Go.Proofs.YtcnaikoloagbdaaGreat
set_option linter.unusedVariables false
set_option linter.unusedSimpArgs false
open Go.RowKit Go.Shelf
attribute [local go_sem ↓] Go.wp_at_zero Go.wp_at_succ

theorem seq_info : (Tryz.prog.info? 119).map (fun i => (i.zero, i.size, i.bytes)) = some (some .nilFunc, 1, 8) := by kernel_rfl
set_option maxRecDepth 100000 in
theorem orMake (A : Option Addr) (m c : Nat) (w : World) : Calls Tryz.prog 119 #[.slice A m c] w fun e w' => e = .returned (.func (.func 147) #[] #[.pointer (some ⟨w.heap.size, 0, none⟩)]) ∧ w' = w.alloc (.cells #[.slice A m c] 139) := by
  go_enter Tryz.func119, Tryz.ntmps119
  go_wp2
  go_ret
  exact ⟨rfl, rfl⟩
set_option maxRecDepth 100000 in
theorem joined0 (A : Option Addr) (m c : Nat) (hm : 1 ≤ m) (w : World) : Calls Tryz.prog 87 #[.int .i64 0, .slice A m c] w fun e w' => e = .returned (.func (.func 147) #[] #[.pointer (some ⟨w.heap.size, 0, none⟩)]) ∧ w' = w.alloc (.cells #[.slice A m c] 139) := by
  have hm0 : ((m : Int) == 0) = false := by rw [beq_eq_false_iff_ne]; omega
  go_enter Tryz.func87, Tryz.ntmps87
  go_wp2_with fail
  refine (orMake A m c w).mono ?_
  rintro e w1 ⟨rfl, rfl⟩
  go_wp2
  go_ret
  exact ⟨rfl, rfl⟩
theorem row_cells1 {w : World} {base : Nat} {e : TypeId} {g n cap : Nat} {cs : List Value} (h : w.ownsRow base e 1 (.slice (some ⟨g, 0, none⟩) n cap) n cs) : base ≤ g ∧ ∃ cur, w.heap[g]? = some (.cells cur e (0, 0)) ∧ ∀ j (hj : j < cs.length), cur[j]? = some cs[j] := by
  rcases h.2 with ⟨h, _⟩ | ⟨g', cap', cur, he, hb, hh, _, _, hsz, htk⟩
  · cases h
  · simp only [Value.slice.injEq, Option.some.injEq, Addr.mk.injEq] at he
    obtain ⟨⟨rfl, _⟩, _, rfl⟩ := he
    refine ⟨hb, cur, hh, fun j hj => ?_⟩
    have h1 : cs[j]? = (cur.toList.take (n * 1))[j]? := by rw [htk]
    rw [List.getElem?_eq_getElem hj, List.getElem?_take] at h1
    split at h1
    · rw [← Array.getElem?_toList]; exact h1.symm
    · cases h1
/-- an iterator of all, and its box -/
def BxOk (w : World) (G : World → Prop) (R F : Nat → Prop) (S : List Int → Prop) (N : Nat) (V : World) (y : Value × Nat × Obj) : Prop :=
  w.heap.size ≤ y.2.1 ∧ V.heap[y.2.1]? = some y.2.2 ∧ It Tryz.prog y.1 k1 (fun V => G V ∧ V.heap[y.2.1]? = some y.2.2) F (fun q => R q ∨ q = y.2.1) S N
theorem BxOk.same {w : World} {G : World → Prop} {R F : Nat → Prop} {S : List Int → Prop} {N : Nat} {V V' : World} {y : Value × Nat × Obj} (h : BxOk w G R F S N V y) (hs : V'.heap[y.2.1]? = V.heap[y.2.1]?) : BxOk w G R F S N V' y := ⟨h.1, hs.trans h.2.1, h.2.2⟩
theorem orItQ {w wr : World} {G : World → Prop} {R F : Nat → Prop} {S : List Int → Prop} {N m g cap : Nat} (bx : List (Value × Nat × Obj)) (E : Env G R F) (hG : G wr) (hb : Below w.heap.size w wr) (hFL : ∀ q, F q → q < w.heap.size) (hm : m = 1 ∨ m = 2) (hN : N ≤ 100000) (hS : ∀ xs, S xs → xs.length ≤ N) (hS2 : m = 2 → ∀ xs, S xs → xs = [5])
    (hlen : bx.length = m) (hbx : ∀ y ∈ bx, BxOk w G R F S N wr y) (hrow : wr.ownsRow w.heap.size 119 1 (.slice (some ⟨g, 0, none⟩) m cap) m (bx.map (·.1))) :
    ∃ (St : World → Prop) (R' : Nat → Prop), ItQ Tryz.prog (.func (.func 147) #[] #[.pointer (some ⟨wr.heap.size, 0, none⟩)]) k1 St F R' S ∧ St (wr.alloc (.cells #[.slice (some ⟨g, 0, none⟩) m cap] 139)) ∧ (∀ V, St V → G V) ∧ (∀ b, R' b → b < (wr.alloc (.cells #[.slice (some ⟨g, 0, none⟩) m cap] 139)).heap.size) := by
  obtain ⟨hgw, cur, hcur, hcc⟩ := row_cells1 hrow
  have hzz := hb.size
  have hil : (bx.map (·.1)).length = m := by simpa using hlen
  have hst1 : ∀ X Y : World, (∀ z ∈ bx, X.heap[z.2.1]? = some z.2.2) → (∀ b, (∃ z ∈ bx, b = z.2.1) → Y.heap[b]? = X.heap[b]?) → ∀ z ∈ bx, Y.heap[z.2.1]? = some z.2.2 := fun X Y hx hs z hz => (hs _ ⟨z, hz, rfl⟩).trans (hx z hz)
  have hlt1 : ∀ X : World, (∀ z ∈ bx, X.heap[z.2.1]? = some z.2.2) → ∀ b, (∃ z ∈ bx, b = z.2.1) → b < X.heap.size := fun X hx b ⟨z, hz, e⟩ => by subst e; exact blk_lt (hx z hz)
  have hst2 : ∀ X Y : World, (X.heap[g]? = some (.cells cur 119 (0, 0)) ∧ X.heap[wr.heap.size]? = some (.cells #[.slice (some ⟨g, 0, none⟩) m cap] 139 (0, 0))) → (∀ b, (b = g ∨ b = wr.heap.size) → Y.heap[b]? = X.heap[b]?) → (Y.heap[g]? = some (.cells cur 119 (0, 0)) ∧ Y.heap[wr.heap.size]? = some (.cells #[.slice (some ⟨g, 0, none⟩) m cap] 139 (0, 0))) := fun X Y hx hs => ⟨(hs _ (.inl rfl)).trans hx.1, (hs _ (.inr rfl)).trans hx.2⟩
  have hlt2 : ∀ X : World, (X.heap[g]? = some (.cells cur 119 (0, 0)) ∧ X.heap[wr.heap.size]? = some (.cells #[.slice (some ⟨g, 0, none⟩) m cap] 139 (0, 0))) → ∀ b, (b = g ∨ b = wr.heap.size) → b < X.heap.size := fun X hx b hb => by
    rcases hb with rfl | rfl
    · exact blk_lt hx.1
    · exact blk_lt hx.2
  refine ⟨fun V => (G V ∧ ∀ z ∈ bx, V.heap[z.2.1]? = some z.2.2) ∧ (V.heap[g]? = some (.cells cur 119 (0, 0)) ∧ V.heap[wr.heap.size]? = some (.cells #[.slice (some ⟨g, 0, none⟩) m cap] 139 (0, 0))), fun q => (R q ∨ ∃ z ∈ bx, q = z.2.1) ∨ (q = g ∨ q = wr.heap.size), ?_, ?_, fun V h => h.1.1, ?_⟩
  · have hstay : ∀ X Y : World, ((G X ∧ ∀ z ∈ bx, X.heap[z.2.1]? = some z.2.2) ∧ (X.heap[g]? = some (.cells cur 119 (0, 0)) ∧ X.heap[wr.heap.size]? = some (.cells #[.slice (some ⟨g, 0, none⟩) m cap] 139 (0, 0)))) → (∀ b, ((R b ∨ ∃ z ∈ bx, b = z.2.1) ∨ (b = g ∨ b = wr.heap.size)) → Y.heap[b]? = X.heap[b]?) → ((G Y ∧ ∀ z ∈ bx, Y.heap[z.2.1]? = some z.2.2) ∧ (Y.heap[g]? = some (.cells cur 119 (0, 0)) ∧ Y.heap[wr.heap.size]? = some (.cells #[.slice (some ⟨g, 0, none⟩) m cap] 139 (0, 0)))) :=
      fun X Y hx hs => ⟨⟨E.stay _ _ hx.1.1 (fun b hb => hs b (.inl (.inl hb))), hst1 X Y hx.1.2 (fun b hb => hs b (.inl (.inr hb)))⟩, hst2 X Y hx.2 (fun b hb => hs b (.inr hb))⟩
    refine ⟨⟨_, _, rfl, enters_of Tryz.func147 (by kernel_rfl) rfl, ?_⟩, hstay, fun b hb => .inl (.inl (E.sub b hb))⟩
    refine or1 wr.heap.size g cap (bx.map (·.1)) (by rw [hil]; exact hm) (R := fun q => (R q ∨ ∃ z ∈ bx, q = z.2.1) ∨ (q = g ∨ q = wr.heap.size)) (N := N) hN hS (by rw [hil]; exact hS2) ?_ ?_ ?_ hstay (fun b hb => .inl (.inl (E.sub b hb)))
    · intro v hv
      obtain ⟨y, hy, rfl⟩ := List.mem_map.1 hv
      have hit := (((hbx y hy).2.2.frame (fun V => ∀ z ∈ bx, V.heap[z.2.1]? = some z.2.2) (fun q => ∃ z ∈ bx, q = z.2.1) hst1 hlt1 (fun b hb hf => by obtain ⟨z, hz, e⟩ := hb; have := (hbx z hz).1; have := hFL b hf; omega)).frame _ (fun q => q = g ∨ q = wr.heap.size) hst2 hlt2 (fun b hb hf => by have := hFL b hf; omega))
      exact hit.weak (fun V => ⟨fun h => ⟨⟨h.1.1.1, h.1.2⟩, h.2⟩, fun h => ⟨⟨⟨h.1.1, h.1.2 y hy⟩, h.1.2⟩, h.2⟩⟩) (fun _ h => h)
        (fun q h => h.elim (fun h => h.elim (fun h => h.elim (fun h => .inl (.inl h)) (fun e => .inl (.inr ⟨y, hy, e⟩))) (fun h => .inl (.inr h))) (fun h => .inr h)) (fun q h => .inl (.inl (E.sub q h))) (fun _ h => h) (Nat.le_refl _)
    · intro V hV
      refine ⟨by rw [hil]; exact hV.2.2, fun j hj => ?_⟩
      rw [add_mk]
      simp only [World.cell?, hV.2.1]
      simpa using hcc j hj
    · intro V hV b hb
      rcases hb with (hb | hb) | hb
      · exact E.lt _ hV.1.1 b hb
      · exact hlt1 V hV.1.2 b hb
      · exact hlt2 V hV.2 b hb
  · have hA := (Below.refl wr.heap.size wr).alloc (Nat.le_refl _) (.cells #[.slice (some ⟨g, 0, none⟩) m cap] 139)
    exact ⟨⟨E.below hG hA, fun z hz => (hA.block _ (blk_lt (hbx z hz).2.1)).trans (hbx z hz).2.1⟩, blk_old hcur _, blk_new _ _ _⟩
  · intro b hb
    rw [World.size_alloc]
    rcases hb with (hb | ⟨z, hz, e⟩) | hb | hb
    · have := E.lt _ hG b hb; omega
    · have := blk_lt (hbx z hz).2.1; omega
    · have := blk_lt hcur; omega
    · omega
set_option maxRecDepth 100000 in
set_option maxHeartbeats 4000000 in
theorem faceJoin (md : Bool) (tag seed limit : Int) {S : List Int → Prop} {N : Nat} (hmd : Mode tag limit S md) (hlim : limit ≤ 1048576) (sks : List SK) (hm : sks.length = 1 ∨ sks.length = 2) (hN : N ≤ 100000) (hS : ∀ xs, S xs → xs.length ≤ N) (hS2 : sks.length = 2 → ∀ xs, S xs → xs = [5])
    {G : World → Prop} {R F : Nat → Prop} (E : Env G R F) (hin : ∀ s ∈ sks, In s G R F ∧ (∀ xs, s.S xs → S xs) ∧ s.N ≤ N) (L cap : Nat) (w : World) (hL : ∀ j (hj : j < sks.length), w.cell? ⟨L, j, none⟩ = some sks[j].v) (hLs : L < w.heap.size) (h : G w) :
    Calls Tryz.prog 61 #[.int .i64 0, .int .i64 tag, .int .u64 seed, .int .i64 limit, .slice (some ⟨L, 0, none⟩) sks.length cap] w fun e w' => ∃ (v : Value) (er : Int), e = .returned (.tuple #[v, .int .i64 er]) ∧ Hid (FQ md er) ∧ Hid (er ≠ 0 → v = .nilIface) ∧ Hid (er = 0 → ∃ s' : SK, v = s'.v ∧ s'.P w' ∧ (∀ q, s'.own q → w.heap.size ≤ q) ∧ FRes md s') ∧ Hid (G w') ∧ Hid (Chg F w w') := by
  obtain ⟨i0, hi, hz0, hz1, hz2⟩ := info_parts seq_info
  have HE := Lib.hid E
  have HIN := Lib.hid hin
  have HL := Lib.hid hL
  have H := Lib.hid h
  have HMD := Lib.hid hmd
  have HSS := Lib.hid hS
  have HS2 := Lib.hid hS2
  have HM12 := Lib.hid hm
  have HFL := Lib.hid (show ∀ q, F q → q < w.heap.size from fun q hq => E.lt w h q (E.sub q hq))
  have HNEW := Lib.hid (faceNew tag seed limit w (by cases md; exact .inr (.inr hmd.1); exact .inr (.inl hmd.1)) (by cases md; have := hmd.2.1; omega; have := hmd.2.1; omega) (fun e => by cases md; exact hmd.2.1; have := hmd.2.1; omega) hlim)
  obtain ⟨m, hml⟩ : ∃ m, m = sks.length := ⟨_, rfl⟩
  have HML := Lib.hid hml
  rw [← hml]
  clear E hin hL h hmd hS hS2 hm hml
  go_enter Tryz.func61, Tryz.ntmps61
  go_wp2_with fail
  refine HNEW.out.mono ?_
  rintro e w1 ⟨s0, rfl, _, _, _, HB1⟩
  have hz1' := HB1.out.size
  obtain ⟨t0, v0, hsv⟩ := s0.iface
  rw [hsv]
  clear HNEW hsv
  go_wp2
  go_loopw [14, 16, 35] (fun v14 _ v35 wr => ∃ (k : Nat) (bx : List (Value × Nat × Obj)), v35 = .int .i64 k ∧ k ≤ m ∧ Hid (wr.ownsRow w.heap.size 119 1 v14 k (bx.map (·.1))) ∧ Hid (bx.length = k) ∧ Hid (∀ y ∈ bx, BxOk w G R F S N wr y ∧ v14.ownBlock ≠ some y.2.1) ∧ Hid (Below w.heap.size w wr)) (fun _ _ v35 _ => m - (intOf v35).toNat)
  case atStart => exact ⟨0, [], rfl, Nat.zero_le _, ⟨rfl, .inl ⟨rfl, rfl⟩⟩, rfl, fun y hy => absurd hy (by simp), HB1.out⟩
  case round =>
    clear HB1
    obtain ⟨k, bx, rfl, hk, HROW, HLEN, HBX, HB⟩ := hrel
    have hzw := HB.out.size
    by_cases hlt : k < m
    · obtain ⟨s, hs, hc⟩ : ∃ s, s ∈ sks ∧ wr.cell? ⟨L, k, none⟩ = some s.v := ⟨sks[k]'(by rw [← HML.out]; exact hlt), List.getElem_mem _, (HB.out.cell (p := ⟨L, k, none⟩) hLs).trans (HL.out k (by rw [← HML.out]; exact hlt))⟩
      obtain ⟨hI, hSs, hNs⟩ := HIN.out s hs
      have HG := Lib.hid (HE.out.below H.out HB.out)
      have HALL := Lib.hid (faceAllG s HE.out hI wr (HE.out.below H.out HB.out))
      have HSS' := Lib.hid hSs
      clear hs hI hSs
      go_wp2_with fail
      refine HALL.out.mono ?_
      rintro e w3 ⟨it, o, rfl, rfl, HIT, HG3⟩
      obtain ⟨fi, ci, li, hfi⟩ := HIT.out.func
      have HNEW := Lib.hid (show BxOk w G R F S N (wr.alloc o) (it, wr.heap.size, o) from ⟨hzw, HG3.out.2, HIT.out.weak (fun V => Iff.rfl) (fun _ h => h) (fun _ h => h) (fun q h => .inl (HE.out.sub q h)) HSS'.out hNs⟩)
      have HROW3 := Lib.hid (fun (o2 : Obj) => rowG_chg (w' := (wr.alloc o).alloc o2) (S := fun _ => False) HROW.out (((Chg.refl _ wr).alloc o).alloc o2) (fun _ _ h => h))
      have HKM := Lib.hid (show k + 1 ≤ 2 by have := HM12.out; have := HML.out; omega)
      have HSZ3 := Lib.hid (show ∀ o2, w.heap.size ≤ ((wr.alloc o).alloc o2).heap.size from fun o2 => by simp; omega)
      have HFI := Lib.hid hfi
      rw [hfi]
      have HNB := Lib.hid (show ((wr.alloc o).alloc (.cells #[.func fi ci li] 119)).heap[wr.heap.size + 1]? = some (.cells #[.func fi ci li] 119 (0, 0)) by have := blk_new (wr.alloc o) #[.func fi ci li] 119; simpa only [World.size_alloc] using this)
      clear hc HALL hfi hNs
      go_wp2_with (at_builtin; refine wpList_pushR w.heap.size u14 k (bx.map (·.1)) [.func fi ci li] _ _ _ rfl rfl Tryz.underlying139 hi hz0 hz1 hz2 rfl (by decide) rfl rfl HNB.out rfl (by intro u hu; rw [List.mem_singleton] at hu; subst hu; rfl) (HROW3.out _) (HSZ3.out _) (by have := HKM.out; omega) (by have := HKM.out; unfold maxLen; omega) ?_; intro v5 w5 ho hg hv; have HO5 := Lib.hid ho; have HG5 := Lib.hid hg; have HV5 := Lib.hid hv; clear ho hg hv)
      have HB5 := Lib.hid (show Below w.heap.size w w5 from ((HB.out.alloc hzw o).alloc (by simp; omega) _).grown HG5.out (by simp; omega) (fun g hg => (rowG_lt HROW.out g hg).1))
      have HBX5 := Lib.hid (show ∀ y ∈ bx ++ [(it, wr.heap.size, o)], BxOk w G R F S N w5 y ∧ v5.ownBlock ≠ some y.2.1 from fun y hy => by
        have key : BxOk w G R F S N (wr.alloc o) y ∧ u14.ownBlock ≠ some y.2.1 ∧ y.2.1 < wr.heap.size + 1 := by
          rcases List.mem_append.1 hy with h | h
          · obtain ⟨h1, h2⟩ := HBX.out y h
            have := blk_lt h1.2.1
            exact ⟨h1.same (heap_alloc_old wr o this), h2, by omega⟩
          · rw [List.mem_singleton] at h; subst h
            exact ⟨HNEW.out, fun e => by have := (rowG_lt HROW.out _ e).2; simp at this, by simp⟩
        obtain ⟨h1, h2, h3⟩ := key
        refine ⟨h1.same ((HG5.out.block _ (by simp; omega) (fun e => h2 e.symm)).trans (heap_alloc_old _ _ (by rw [World.size_alloc]; omega))), fun e => ?_⟩
        rcases HV5.out with h | h
        · exact h2 (by rw [← h]; exact e)
        · rw [h] at e; simp only [World.size_alloc, Option.some.injEq] at e; omega)
      have HO5' := Lib.hid (show w5.ownsRow w.heap.size 119 1 v5 (k + 1) ((bx ++ [(it, wr.heap.size, o)]).map (·.1)) from by
        rw [List.map_append, List.map_cons, List.map_nil, HFI.out]; exact HO5.out)
      have hk2 : k ≤ 1 := by have := HKM.out; omega
      have hw : wrap64 ((k : Int) + 1) = ((k + 1 : Nat) : Int) := by unfold wrap64; omega
      have HW := Lib.hid hw
      clear hw
      clear HROW HBX HG5 HV5 HO5 HNEW HROW3
      go_wp2
      try rw [HW.out]
      go_roundw
      case rel => exact ⟨k + 1, bx ++ [(it, wr.heap.size, o)], by go_num, by omega, HO5'.out, by show _ = _; rw [List.length_append, HLEN.out]; rfl, HBX5.out, HB5.out⟩
      case measure => simp [intOf]; omega
    · obtain rfl : k = m := by omega
      obtain ⟨g, cap', e14⟩ : ∃ g cap', u14 = .slice (some ⟨g, 0, none⟩) k cap' := by
        obtain ⟨k', hk'⟩ : ∃ k', k = k' + 1 := ⟨k - 1, by have := HM12.out; have := HML.out; omega⟩
        have hr := HROW.out
        rw [hk'] at hr ⊢
        exact row_succ hr
      subst e14
      obtain ⟨St, R', hit, hst, hsg, hr'⟩ := orItQ bx HE.out (HE.out.below H.out HB.out) HB.out HFL.out (by rw [HML.out]; exact HM12.out) hN HSS.out (by rw [HML.out]; exact HS2.out) HLEN.out (fun y hy => (HBX.out y hy).1) HROW.out
      have HFILL := Lib.hid (faceFill md tag seed limit HMD.out hlim _ hit _ hst hr')
      have HSG := Lib.hid hsg
      have hk1 : 1 ≤ k := by have := HM12.out; have := HML.out; omega
      clear hit hst hsg hr' HROW HBX
      go_wp2_with fail
      refine (joined0 (some ⟨g, 0, none⟩) k cap' hk1 wr).mono ?_
      rintro e w5 ⟨rfl, rfl⟩
      go_wp2_with fail
      refine HFILL.out.mono ?_
      rintro e w6 ⟨v, er, rfl, HQ, HNI, HRES, HST6, HC6⟩
      have HCF := Lib.hid (((Chg.of_below (S := F) (HB.out)).alloc (.cells #[.slice (some ⟨g, 0, none⟩) k cap'] 139)).then HC6.out)
      clear HFILL
      go_wp2
      go_ret2
      refine ⟨v, er, rfl, HQ.out, HNI.out, fun h0 => ?_, HSG.out _ HST6.out, HCF.out⟩
      obtain ⟨s', e1, e2, e3, e4⟩ := HRES.out h0
      exact ⟨s', e1, e2, fun q hq => by have := e3 q hq; rw [World.size_alloc] at this; omega, e4⟩
end Go.Proofs.YtcnaikoloagbdaaGreat
