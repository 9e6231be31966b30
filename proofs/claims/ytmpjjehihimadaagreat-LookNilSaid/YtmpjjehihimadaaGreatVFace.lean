/-
  face.New, face.Build of a VEB with the keys 1, 5 and 9; walked.
-/
import Derived.Test.YtmpjjehihimadaaGreatVFill
import Derived.Test.YtmpjjehihimadaaGreatVebA
namespace Go.Proofs.YtmpjjehihimadaaGreat
set_option linter.unusedVariables false
set_option linter.unusedSimpArgs false
open Go.RowKit Go.Shelf

theorem VP.cellsOf {w : World} {d : VD} (h : VP w d) : ∀ b, d.own b → ∃ t, tyV w b t := by
  obtain ⟨h1, h2, h3, h4, h5, h6⟩ := h.tys
  rintro k (rfl | rfl | rfl | rfl | rfl | hk)
  · exact ⟨_, h1⟩
  · exact ⟨_, h2⟩
  · exact ⟨_, h3⟩
  · exact ⟨_, h4⟩
  · exact ⟨_, h5⟩
  · exact ⟨_, h6 k hk⟩
/-- a VEB as a kind of set -/
def kV : Kd VD := ⟨VP, VD.own, fun d => .iface 83 (.pointer (some ⟨d.t, 0, none⟩)), fun h hs => h.stay hs, fun h b hb => by
  obtain ⟨t, cs, hc⟩ := h.cellsOf b hb
  exact ⟨cs, t, hc⟩⟩
set_option maxRecDepth 100000 in
theorem madeV (x : Nat) (w : World) : Calls Tryz.prog 43 #[.pointer (some ⟨x, 0, none⟩), .int .i64 0] w fun e w' => e = .returned (.tuple #[.iface 83 (.pointer (some ⟨x, 0, none⟩)), .int .i64 0]) ∧ w' = w := by
  go_enter Tryz.func43, Tryz.ntmps43
  go_wp2
  go_ret2
  exact ⟨rfl, rfl⟩
set_option maxRecDepth 100000 in
set_option maxHeartbeats 1000000 in
theorem faceNewV (seed limit : Int) (w : World) (h0 : 0 ≤ limit) (h1 : limit ≤ 1048576) :
    Calls Tryz.prog 36 #[.int .i64 1, .int .u64 seed, .int .i64 limit] w fun e w' => ∃ d : VD, e = .returned (.tuple #[.iface 83 (.pointer (some ⟨d.t, 0, none⟩)), .int .i64 0]) ∧ Hid (VP w' d) ∧ Hid (V0 d ∧ d.limit = limit) ∧ Hid (∀ q, d.own q → w.heap.size ≤ q) ∧ Hid (Below w.heap.size w w') := by
  go_enter Tryz.func36, Tryz.ntmps36
  go_wp2_with fail
  refine (vNew seed limit _ h0 h1).mono ?_
  rintro e w1 ⟨d, rfl, HX, HD, HO, HB⟩
  go_wp2_with fail
  refine (madeV d.t w1).mono ?_
  rintro e w2 ⟨rfl, rfl⟩
  go_wp2
  go_ret2
  exact ⟨d, rfl, HX.out, ⟨⟨HD.out.1, HD.out.2.2.2.1, HD.out.2.2.2.2.1, HD.out.2.2.2.2.2⟩, HD.out.2.1⟩, HO.out, HB.out⟩
/-- the tree under way -/
def VIns (limit : Int) (pre : List Int) (d : VD) : Prop := d.limit = limit ∧ ((pre = [] ∧ V0 d) ∨ (pre = [1] ∧ V1 d ∧ d.n = 1) ∨ (pre = [1, 5] ∧ V2 d ∧ d.n = 2) ∨ (pre = [1, 5, 9] ∧ V3 d ∧ d.n = 3))
theorem vIns (limit : Int) (hlim : 3 ≤ limit) (V : World) (d : VD) (pre : List Int) (x : Int) (h : VP V d) (hi : VIns limit pre d) (hy : Yl (fun xs => xs = [1, 5, 9]) pre x) : Calls Tryz.prog 103 #[.pointer (some ⟨d.t, 0, none⟩), .int .u64 x] V fun e V' => ∃ (er : Int) (d' : VD), e = .returned (.int .i64 er) ∧ Hid (er ≠ 5) ∧ Hid (VP V' d') ∧ Hid (VIns limit (pre ++ [x]) d') ∧ Hid (d'.t = d.t) ∧ Hid (∀ q, d'.own q → d.own q ∨ V.heap.size ≤ q) ∧ Hid (Chg d.own V V') := by
  obtain ⟨xs, rfl, hp⟩ := hy
  obtain ⟨hl, hi⟩ := hi
  rcases hi with ⟨rfl, hv⟩ | ⟨rfl, hv, hn⟩ | ⟨rfl, hv, hn⟩ | ⟨rfl, hv, hn⟩
  · obtain rfl : x = 1 := by simpa using hp
    refine (vInsert0 d V h hv (by omega)).mono ?_
    rintro e V' ⟨d', rfl, ho, hv', hn'⟩
    exact ⟨0, d', rfl, Lib.hid (by decide), ho.out.vp, ⟨ho.out.limit.trans hl, .inr (.inl ⟨rfl, hv'.out, hn'.out⟩)⟩, ho.out.t, ho.out.own, ho.out.chg⟩
  · obtain rfl : x = 5 := by simpa using hp
    refine (vInsert1 d V h hv hn (by omega)).mono ?_
    rintro e V' ⟨d', rfl, ho, hv', hn'⟩
    exact ⟨0, d', rfl, Lib.hid (by decide), ho.out.vp, ⟨ho.out.limit.trans hl, .inr (.inr (.inl ⟨rfl, hv'.out, hn'.out⟩))⟩, ho.out.t, ho.out.own, ho.out.chg⟩
  · obtain rfl : x = 9 := by simpa using hp
    refine (vInsert2 d V h hv hn (by omega)).mono ?_
    rintro e V' ⟨d', rfl, ho, hv', hn'⟩
    exact ⟨0, d', rfl, Lib.hid (by decide), ho.out.vp, ⟨ho.out.limit.trans hl, .inr (.inr (.inr ⟨rfl, hv'.out, hn'.out⟩))⟩, ho.out.t, ho.out.own, ho.out.chg⟩
  · have := hp.length_le
    simp at this
set_option maxRecDepth 100000 in
set_option maxHeartbeats 1000000 in
theorem buildV (seed limit : Int) (A : Option Addr) (c : Nat) (w : World) (hr : Rd .u64 w A [1, 5, 9]) (h0 : 3 ≤ limit) (h1 : limit ≤ 1048576) :
    Calls Tryz.prog 26 #[.int .i64 1, .int .u64 seed, .int .i64 limit, .slice A 3 c] w fun e w' => ∃ d : VD, e = .returned (.tuple #[.iface 83 (.pointer (some ⟨d.t, 0, none⟩)), .int .i64 0]) ∧ Hid (VP w' d) ∧ Hid (V3 d ∧ d.n = 3 ∧ d.limit = limit) ∧ Hid (∀ q, d.own q → w.heap.size ≤ q) ∧ Hid (Below w.heap.size w w') := by
  have HR := Lib.hid hr
  have HH := Lib.hid (And.intro h0 h1)
  clear hr h0 h1
  go_enter Tryz.func26, Tryz.ntmps26
  go_wp2_with fail
  refine (siftOf A c [1, 5, 9] w HR.out (by intro i hi; match i, hi with | 0, _ => decide | 1, _ => decide) (by decide)).mono ?_
  rintro e w1 ⟨B, A', c', rfl, HST, HVR, HB1⟩
  have HIT := Lib.hid (show ItQ Tryz.prog (.func (.func 55) #[] #[.pointer (some ⟨B, 0, none⟩)]) k1 (VSt B w.heap.size A' c' [1, 5, 9]) (fun _ => False) (VR B A' c' 3) (fun xs => xs = [1, 5, 9]) from
    ⟨⟨_, _, rfl, enters_of Tryz.func55 (by kernel_rfl) rfl, values1 B w.heap.size A' c' [1, 5, 9] (by decide)⟩, fun X Y h hs => h.stay hs, fun b h => h.elim⟩)
  have HFL := Lib.hid (fillV kV (fun d => d.t) (fun _ => rfl) 1 seed limit (VIns limit) (S := fun xs => xs = [1, 5, 9])
    (fun W => (faceNewV seed limit W (by have := HH.out.1; omega) HH.out.2).mono fun e W' ⟨d, he, hp, hd, ho, hb⟩ => ⟨d, he, hp, ⟨hd.out.2, .inl ⟨rfl, hd.out.1⟩⟩, ho, hb⟩)
    (fun V d pre x hp hi hy => vIns limit HH.out.1 V d pre x hp hi hy) _ HIT.out w1 HST.out (fun b hb => (HVR.out b hb).2))
  clear HIT
  go_wp2_with fail
  refine HFL.out.mono ?_
  rintro e w2 ⟨d, xs, rfl, rfl, HP, HI, HO, HB2⟩
  have HB3 := Lib.hid (below_then HB1.out HB2.out)
  have hz := HB1.out.size
  clear HFL
  simp only [kV]
  go_wp2
  go_ret2
  refine ⟨d, rfl, HP.out, ?_, fun q hq => Nat.le_trans hz (HO.out q hq), HB3.out⟩
  obtain ⟨hl, hi⟩ := HI.out
  rcases hi with ⟨h, _⟩ | ⟨h, _⟩ | ⟨h, _⟩ | ⟨_, h, hn⟩
  · cases h
  · simp at h
  · simp at h
  · exact ⟨h, hn, hl⟩
end Go.Proofs.YtmpjjehihimadaaGreat
