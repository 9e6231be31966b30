/-
  The decoder walked: number.
-/
import Derived.Test.YtnlflpcioiieaaaCode2
import Derived.Test.YtnlflpcioiieaaaItems
import Derived.IntWalk
namespace Go.Proofs.Ytnlflpcioiieaaa
set_option linter.unusedVariables false
set_option linter.unusedSimpArgs false
open Go.RowKit

/-- a decoder: the bytes that are left (of memory that was there before), and was there a bad one -/
def Dec (W0 w : World) (b : Nat) (l : List Int) (bad : Bool) : Prop :=
  W0.heap.size ≤ b ∧ Below W0.heap.size W0 w ∧ ∃ A c, w.heap[b]? = some (.cells #[.slice A l.length c, .bool bad] 66 (0, 0)) ∧ l.length ≤ c ∧ Rd .u8 W0 A l

/-- how many bytes the decoder looks at -/
theorem dec_lead {l : List Int} (hB : Bytes l) (k : Nat) (hk : k = min (lead l) 10) : dec l = match dec (l.take (min (k + 1) l.length)) with | some (n, []) => some (n, l.drop (min (k + 1) l.length)) | _ => none := by
  rcases hd : dec l with _ | ⟨n, r⟩
  · rcases ht : dec (l.take (min (k + 1) l.length)) with _ | ⟨n, _ | ⟨x, r⟩⟩
    · rfl
    · have := (dec_more (l.drop (min (k + 1) l.length)) (fun x hx => hB x (List.mem_of_mem_take hx)) ht)
      rw [List.take_append_drop, hd] at this
      cases this
    · rfl
  · obtain ⟨hn, rfl⟩ := dec_some hB hd
    have h1 := lead_num n r
    have h10 := num_len10 hn
    have hk1 : min (k + 1) (num n ++ r).length = (num n).length := by
      rw [List.length_append]
      omega
    rw [hk1, List.take_left' rfl, List.drop_left' rfl]
    have := dec_num hn []
    rw [List.append_nil] at this
    rw [this]

theorem grown_set (W : World) (b i : Nat) (v : Value) : W.grownBy (W.setCell ⟨b, i, none⟩ v) (some b) :=
  ⟨rfl, rfl, rfl, by simp [World.setCell], fun j _ hj => Below.heap_setCell W ⟨b, i, none⟩ v j (by rintro rfl; exact hj rfl)⟩
theorem Dec.set {W0 w : World} {b n c' : Nat} {A' : Option Addr} {x : Value} {bad : Bool} {r : List Int} (hbb : W0.heap.size ≤ b) (hb : Below W0.heap.size W0 w) (hh : w.heap[b]? = some (.cells #[x, .bool bad] 66 (0, 0)))
    (hn : r.length = n) (hc : n ≤ c') (hr : Rd .u8 W0 A' r) : Dec W0 (w.setCell ⟨b, 0, none⟩ (.slice A' n c')) b r bad := by
  subst hn
  exact ⟨hbb, hb.setCell (p := ⟨b, 0, none⟩) hbb _, _, _, blk_set hh 0 _, hc, hr⟩
theorem read_d (A : Option Addr) (c m : Nat) (l : List Int) (w : World) (hm : l.length = m) (hB : Bytes l) (hr : Rd .u8 w A l) (hlen : l.length ≤ 140737488351232) (hc : l.length ≤ c) :
    Calls Try.prog 12 #[.slice A m c] w fun e w' => ∃ (n : Nat) (B : Option Addr) (q d : Nat) (er : Int), e = .returned (.tuple #[.int .u64 n, .slice B q d, .int .i64 er]) ∧
      Hid ((er = 0 ∧ ∃ r, r.length = q ∧ dec l = some (n, r)) ∨ (er = 2 ∧ n = 0 ∧ q = 0 ∧ dec l = none)) ∧ Below w.heap.size w w' := by
  subst hm
  refine (read_any A c l w hB hr hlen hc).mono ?_
  rintro e w' ⟨n, v, r, er, rfl, K, ho, hb⟩
  obtain ⟨B, d, rfl, _, _, hr'⟩ := ho.form
  refine ⟨n, B, _, d, er, rfl, ?_, hb⟩
  rcases K.out with ⟨h1, h2⟩ | ⟨h1, h2, h3, h4⟩
  · exact .inl ⟨h1, r, rfl, h2⟩
  · exact .inr ⟨h1, h2, by rw [h3]; rfl, h4⟩

set_option maxHeartbeats 400000 in
set_option maxRecDepth 100000 in
theorem number_dec (W0 w : World) (b : Nat) (l : List Int) (bad : Bool) (hD : Dec W0 w b l bad) (hB : Bytes l) (hlen : l.length ≤ 140737488351232) :
    Calls Try.prog 28 #[.pointer (some ⟨b, 0, none⟩)] w fun e w' => ∃ n : Nat, e = .returned (.int .u64 n) ∧ w.grownBy w' (some b) ∧
      Hid ((∃ r, dec l = some (n, r) ∧ Dec W0 w' b r bad) ∨ (dec l = none ∧ n = 0 ∧ Dec W0 w' b l true)) := by
  obtain ⟨hbb, hb, A, c, hh, hc, hr⟩ := hD
  have HR := Lib.hid (hr.below hb)
  have HR0 := Lib.hid hr
  have HB := Lib.hid hB
  have HH := Lib.hid hh
  have HBW := Lib.hid hb
  have c0 := blk_cell hh 0 rfl
  have c1 := blk_cell hh 1 rfl
  have f0 := blk_free hh 0
  have f1 := blk_free hh 1
  have hbl := blk_lt hh
  clear hr hB hh hb
  go_enter Try.func28, Try.ntmps28
  go_wp2
  go_loopw [3] (fun v1 wr => ∃ k : Nat, k ≤ 10 ∧ k ≤ l.length ∧ v1 = .int .i64 k ∧ Hid (lead l = k + lead (l.drop k)) ∧ wr = w) (fun v1 _ => l.length - (intOf v1).toNat)
  case atStart => exact ⟨0, by omega, Nat.zero_le _, rfl, by show _ = _; simp, rfl⟩
  case round =>
    obtain ⟨k, hk10, hk, rfl, HL, rfl⟩ := hrel
    by_cases hlt : k < l.length
    · obtain ⟨ad, rfl, had, hcl⟩ := HR.out k hlt
      by_cases h128 : 128 ≤ l.getD k 0
      · by_cases h10 : k < 10
        · have HL2 := Lib.hid (lead_drop l k hlt h128 HL.out)
          generalize l.getD k 0 = x at *
          go_wp2
          go_roundw
          case rel => exact ⟨k + 1, by omega, by omega, by go_num, HL2, by first | rfl | trivial⟩
          case measure => simp [intOf]; omega
        · have HL2 := Lib.hid (show k = min (lead l) 10 by have := HL.out; omega)
          have hki : (10 : Int) ≤ k := by omega
          generalize l.getD k 0 = x at *
          clear h10
          have HT := Lib.hid (show (l.take (k + 1)).length = k + 1 by simp; omega)
          have RT := Lib.hid (HR.out.take (k + 1))
          have HBT := Lib.hid (show Bytes (l.take (k + 1)) from fun y hy => HB.out y (List.mem_of_mem_take hy))
          have HD := Lib.hid (dec_lead HB.out k (by have := HL2.out; omega))
          rw [show min (k + 1) l.length = k + 1 by omega] at HD
          have HDR := Lib.hid (show (l.drop (k + 1)).length = l.length - (k + 1) by simp)
          have hcut := HR0.out.cut (k + 1) (l.length - (k + 1))
          rw [List.take_of_length_le (by simp), show Option.map (fun x => x.add (k + 1)) (some ad) = some (Addr.mk ad.block (ad.off + (k + 1)) none) by simp [Addr.add]] at hcut
          have HC := Lib.hid hcut
          clear hcut HL HL2
          generalize l.take (k + 1) = T at *
          generalize l.drop (k + 1) = S at *
          have g1 : (k : Int) + 1 ≤ c := by omega
          have g2 : (k : Int) + 1 ≤ l.length := by omega
          have hkc : k + 1 ≤ c := by omega
          go_wp2_with fail
          refine (read_d _ _ _ T _ (by first | exact HT.out | (have := HT.out; omega)) HBT.out RT.out (by have := HT.out; omega) (by have := HT.out; omega)).mono ?_
          rintro e w1 ⟨n, B, q, d, er, rfl, K, hb1⟩
          have hh1 := blk_below HH.out hb1 rfl
          have c0 := blk_cell hh1 0 rfl
          have c1 := blk_cell hh1 1 rfl
          have f0 := blk_free hh1 0
          have f1 := blk_free hh1 1
          have HH1 := Lib.hid hh1
          have hbw := Lib.hid (HBW.out.trans (hb1.mono HBW.out.size))
          have hg1 : wr.grownBy w1 (some b) := ⟨hb1.os, hb1.tape, hb1.output, hb1.size, fun i hi _ => hb1.block i hi⟩
          clear hh1 hb1
          rcases K.out with ⟨rfl, r, hr, hdr⟩ | ⟨rfl, rfl, rfl, hdn⟩
          · by_cases hq : q = 0
            · subst hq
              have hr0 : r = [] := List.eq_nil_of_length_eq_zero hr
              subst hr0
              have HDS := Lib.hid (show dec l = some (n, S) by rw [HD.out, hdr])
              clear hr hdr K
              by_cases hcap : c = k + 1
              · have HCAP := Lib.hid hcap
                have hS : S = [] := List.eq_nil_of_length_eq_zero (by have := HDR.out; omega)
                have hc2 : c ≤ k + 1 := by omega
                have hl2 : l.length ≤ k + 1 := by omega
                clear hcap
                subst hS
                go_wp2
                go_ret
                exact ⟨n, rfl, hg1.trans (grown_set _ _ _ _), .inl ⟨[], HDS.out, Dec.set hbb hbw.out HH1.out (by simp <;> omega) (by omega) (Rd.nil _ _ _)⟩⟩
              · have hc2 : k + 1 < c := by omega
                clear hcap
                go_wp2
                go_ret
                exact ⟨n, rfl, hg1.trans (grown_set _ _ _ _), .inl ⟨S, HDS.out, Dec.set hbb hbw.out HH1.out HDR.out (by omega) HC.out⟩⟩
            · have hq0 : (0 : Int) < q := by omega
              have HDS := Lib.hid (show dec l = none by
                rw [HD.out, hdr]
                rcases r with _ | ⟨y, r⟩
                · exact absurd hr.symm hq
                · rfl)
              clear hr hdr K
              go_wp2
              go_ret
              exact ⟨0, rfl, hg1.trans (grown_set _ _ _ _), .inr ⟨HDS.out, rfl, hbb, hbw.out.setCell (p := ⟨b, 1, none⟩) hbb _, _, _, blk_set HH1.out 1 _, hc, HR0.out⟩⟩
          · have HDS := Lib.hid (show dec l = none by rw [HD.out, hdn])
            clear hdn K
            go_wp2
            go_ret
            exact ⟨0, rfl, hg1.trans (grown_set _ _ _ _), .inr ⟨HDS.out, rfl, hbb, hbw.out.setCell (p := ⟨b, 1, none⟩) hbb _, _, _, blk_set HH1.out 1 _, hc, HR0.out⟩⟩
      · have HL2 := Lib.hid (show k = min (lead l) 10 by have := lead_stop l k hlt h128 HL.out; omega)
        generalize l.getD k 0 = x at *
        by_cases h10 : k < 10
        · have HT := Lib.hid (show (l.take (k + 1)).length = k + 1 by simp; omega)
          have RT := Lib.hid (HR.out.take (k + 1))
          have HBT := Lib.hid (show Bytes (l.take (k + 1)) from fun y hy => HB.out y (List.mem_of_mem_take hy))
          have HD := Lib.hid (dec_lead HB.out k (by have := HL2.out; omega))
          rw [show min (k + 1) l.length = k + 1 by omega] at HD
          have HDR := Lib.hid (show (l.drop (k + 1)).length = l.length - (k + 1) by simp)
          have hcut := HR0.out.cut (k + 1) (l.length - (k + 1))
          rw [List.take_of_length_le (by simp), show Option.map (fun x => x.add (k + 1)) (some ad) = some (Addr.mk ad.block (ad.off + (k + 1)) none) by simp [Addr.add]] at hcut
          have HC := Lib.hid hcut
          clear hcut HL HL2
          generalize l.take (k + 1) = T at *
          generalize l.drop (k + 1) = S at *
          have g1 : (k : Int) + 1 ≤ c := by omega
          have g2 : (k : Int) + 1 ≤ l.length := by omega
          have hkc : k + 1 ≤ c := by omega
          go_wp2_with fail
          refine (read_d _ _ _ T _ (by first | exact HT.out | (have := HT.out; omega)) HBT.out RT.out (by have := HT.out; omega) (by have := HT.out; omega)).mono ?_
          rintro e w1 ⟨n, B, q, d, er, rfl, K, hb1⟩
          have hh1 := blk_below HH.out hb1 rfl
          have c0 := blk_cell hh1 0 rfl
          have c1 := blk_cell hh1 1 rfl
          have f0 := blk_free hh1 0
          have f1 := blk_free hh1 1
          have HH1 := Lib.hid hh1
          have hbw := Lib.hid (HBW.out.trans (hb1.mono HBW.out.size))
          have hg1 : wr.grownBy w1 (some b) := ⟨hb1.os, hb1.tape, hb1.output, hb1.size, fun i hi _ => hb1.block i hi⟩
          clear hh1 hb1
          rcases K.out with ⟨rfl, r, hr, hdr⟩ | ⟨rfl, rfl, rfl, hdn⟩
          · by_cases hq : q = 0
            · subst hq
              have hr0 : r = [] := List.eq_nil_of_length_eq_zero hr
              subst hr0
              have HDS := Lib.hid (show dec l = some (n, S) by rw [HD.out, hdr])
              clear hr hdr K
              by_cases hcap : c = k + 1
              · have HCAP := Lib.hid hcap
                have hS : S = [] := List.eq_nil_of_length_eq_zero (by have := HDR.out; omega)
                have hc2 : c ≤ k + 1 := by omega
                have hl2 : l.length ≤ k + 1 := by omega
                clear hcap
                subst hS
                go_wp2
                go_ret
                exact ⟨n, rfl, hg1.trans (grown_set _ _ _ _), .inl ⟨[], HDS.out, Dec.set hbb hbw.out HH1.out (by simp <;> omega) (by omega) (Rd.nil _ _ _)⟩⟩
              · have hc2 : k + 1 < c := by omega
                clear hcap
                go_wp2
                go_ret
                exact ⟨n, rfl, hg1.trans (grown_set _ _ _ _), .inl ⟨S, HDS.out, Dec.set hbb hbw.out HH1.out HDR.out (by omega) HC.out⟩⟩
            · have hq0 : (0 : Int) < q := by omega
              have HDS := Lib.hid (show dec l = none by
                rw [HD.out, hdr]
                rcases r with _ | ⟨y, r⟩
                · exact absurd hr.symm hq
                · rfl)
              clear hr hdr K
              go_wp2
              go_ret
              exact ⟨0, rfl, hg1.trans (grown_set _ _ _ _), .inr ⟨HDS.out, rfl, hbb, hbw.out.setCell (p := ⟨b, 1, none⟩) hbb _, _, _, blk_set HH1.out 1 _, hc, HR0.out⟩⟩
          · have HDS := Lib.hid (show dec l = none by rw [HD.out, hdn])
            clear hdn K
            go_wp2
            go_ret
            exact ⟨0, rfl, hg1.trans (grown_set _ _ _ _), .inr ⟨HDS.out, rfl, hbb, hbw.out.setCell (p := ⟨b, 1, none⟩) hbb _, _, _, blk_set HH1.out 1 _, hc, HR0.out⟩⟩
        · have hki : (10 : Int) ≤ k := by omega
          clear h10
          have HT := Lib.hid (show (l.take (k + 1)).length = k + 1 by simp; omega)
          have RT := Lib.hid (HR.out.take (k + 1))
          have HBT := Lib.hid (show Bytes (l.take (k + 1)) from fun y hy => HB.out y (List.mem_of_mem_take hy))
          have HD := Lib.hid (dec_lead HB.out k (by have := HL2.out; omega))
          rw [show min (k + 1) l.length = k + 1 by omega] at HD
          have HDR := Lib.hid (show (l.drop (k + 1)).length = l.length - (k + 1) by simp)
          have hcut := HR0.out.cut (k + 1) (l.length - (k + 1))
          rw [List.take_of_length_le (by simp), show Option.map (fun x => x.add (k + 1)) (some ad) = some (Addr.mk ad.block (ad.off + (k + 1)) none) by simp [Addr.add]] at hcut
          have HC := Lib.hid hcut
          clear hcut HL HL2
          generalize l.take (k + 1) = T at *
          generalize l.drop (k + 1) = S at *
          have g1 : (k : Int) + 1 ≤ c := by omega
          have g2 : (k : Int) + 1 ≤ l.length := by omega
          have hkc : k + 1 ≤ c := by omega
          go_wp2_with fail
          refine (read_d _ _ _ T _ (by first | exact HT.out | (have := HT.out; omega)) HBT.out RT.out (by have := HT.out; omega) (by have := HT.out; omega)).mono ?_
          rintro e w1 ⟨n, B, q, d, er, rfl, K, hb1⟩
          have hh1 := blk_below HH.out hb1 rfl
          have c0 := blk_cell hh1 0 rfl
          have c1 := blk_cell hh1 1 rfl
          have f0 := blk_free hh1 0
          have f1 := blk_free hh1 1
          have HH1 := Lib.hid hh1
          have hbw := Lib.hid (HBW.out.trans (hb1.mono HBW.out.size))
          have hg1 : wr.grownBy w1 (some b) := ⟨hb1.os, hb1.tape, hb1.output, hb1.size, fun i hi _ => hb1.block i hi⟩
          clear hh1 hb1
          rcases K.out with ⟨rfl, r, hr, hdr⟩ | ⟨rfl, rfl, rfl, hdn⟩
          · by_cases hq : q = 0
            · subst hq
              have hr0 : r = [] := List.eq_nil_of_length_eq_zero hr
              subst hr0
              have HDS := Lib.hid (show dec l = some (n, S) by rw [HD.out, hdr])
              clear hr hdr K
              by_cases hcap : c = k + 1
              · have HCAP := Lib.hid hcap
                have hS : S = [] := List.eq_nil_of_length_eq_zero (by have := HDR.out; omega)
                have hc2 : c ≤ k + 1 := by omega
                have hl2 : l.length ≤ k + 1 := by omega
                clear hcap
                subst hS
                go_wp2
                go_ret
                exact ⟨n, rfl, hg1.trans (grown_set _ _ _ _), .inl ⟨[], HDS.out, Dec.set hbb hbw.out HH1.out (by simp <;> omega) (by omega) (Rd.nil _ _ _)⟩⟩
              · have hc2 : k + 1 < c := by omega
                clear hcap
                go_wp2
                go_ret
                exact ⟨n, rfl, hg1.trans (grown_set _ _ _ _), .inl ⟨S, HDS.out, Dec.set hbb hbw.out HH1.out HDR.out (by omega) HC.out⟩⟩
            · have hq0 : (0 : Int) < q := by omega
              have HDS := Lib.hid (show dec l = none by
                rw [HD.out, hdr]
                rcases r with _ | ⟨y, r⟩
                · exact absurd hr.symm hq
                · rfl)
              clear hr hdr K
              go_wp2
              go_ret
              exact ⟨0, rfl, hg1.trans (grown_set _ _ _ _), .inr ⟨HDS.out, rfl, hbb, hbw.out.setCell (p := ⟨b, 1, none⟩) hbb _, _, _, blk_set HH1.out 1 _, hc, HR0.out⟩⟩
          · have HDS := Lib.hid (show dec l = none by rw [HD.out, hdn])
            clear hdn K
            go_wp2
            go_ret
            exact ⟨0, rfl, hg1.trans (grown_set _ _ _ _), .inr ⟨HDS.out, rfl, hbb, hbw.out.setCell (p := ⟨b, 1, none⟩) hbb _, _, _, blk_set HH1.out 1 _, hc, HR0.out⟩⟩
    · have HL2 := Lib.hid (show k = min (lead l) 10 by
        have := HL.out; rw [List.drop_of_length_le (by omega)] at this; simp [lead] at this; omega)
      have hkl : k = l.length := by omega
      subst hkl
      have HDS := Lib.hid (show dec l = none by
        rcases hd : dec l with _ | ⟨n, r⟩
        · rfl
        · exfalso
          obtain ⟨hn, rfl⟩ := dec_some HB.out hd
          have h1 := lead_num n r
          have h2 := num_len10 hn
          have h3 := HL.out
          rw [List.drop_length] at h3
          simp only [lead, List.length_append] at h3 h1
          omega)
      clear HL HL2
      go_wp2_with fail
      refine (read_d _ _ _ l _ (by first | rfl | omega) HB.out HR.out (by omega) (by omega)).mono ?_
      rintro e w1 ⟨n, B, q, d, er, rfl, K, hb1⟩
      have hh1 := blk_below HH.out hb1 rfl
      have c0 := blk_cell hh1 0 rfl
      have c1 := blk_cell hh1 1 rfl
      have f0 := blk_free hh1 0
      have f1 := blk_free hh1 1
      have HH1 := Lib.hid hh1
      have hbw := Lib.hid (HBW.out.trans (hb1.mono HBW.out.size))
      have hg1 : wr.grownBy w1 (some b) := ⟨hb1.os, hb1.tape, hb1.output, hb1.size, fun i hi _ => hb1.block i hi⟩
      clear hh1 hb1
      rcases K.out with ⟨rfl, r, hr, hdr⟩ | ⟨rfl, rfl, rfl, hdn⟩
      · rw [HDS.out] at hdr; cases hdr
      · clear hdn K
        go_wp2
        go_ret
        exact ⟨0, rfl, hg1.trans (grown_set _ _ _ _), .inr ⟨HDS.out, rfl, hbb, hbw.out.setCell (p := ⟨b, 1, none⟩) hbb _, _, _, blk_set HH1.out 1 _, hc, HR0.out⟩⟩
/-- what a decoder's block holds -/
theorem Dec.cells {W0 w : World} {b : Nat} {l : List Int} {bad : Bool} (h : Dec W0 w b l bad) : ∃ A c, w.heap[b]? = some (.cells #[.slice A l.length c, .bool bad] 66 (0, 0)) ∧ l.length ≤ c ∧ Rd .u8 W0 A l := h.2.2
theorem Dec.kept {W0 w w' : World} {b : Nat} {l : List Int} {bad : Bool} (h : Dec W0 w b l bad) (hb : Below W0.heap.size W0 w') (hh : w'.heap[b]? = w.heap[b]?) : Dec W0 w' b l bad := by
  obtain ⟨h1, _, A, c, h2, h3, h4⟩ := h
  exact ⟨h1, hb, A, c, by rw [hh, h2], h3, h4⟩
end Go.Proofs.Ytnlflpcioiieaaa
