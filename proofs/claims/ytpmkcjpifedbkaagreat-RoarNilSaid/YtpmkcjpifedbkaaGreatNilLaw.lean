/-
  The law RoarNil walked: it answers true.
-/
import Derived.Test.YtpmkcjpifedbkaaGreatNil
import Derived.Test.YtpmkcjpifedbkaaGreatNilAll
namespace Go.Proofs.YtpmkcjpifedbkaaGreat
set_option linter.unusedVariables false
set_option linter.unusedSimpArgs false
open Go.RowKit

set_option maxRecDepth 100000 in
set_option maxHeartbeats 4000000 in
theorem nil_walk (k n : Int) (W : World) : Calls Tryz.prog 3 #[.int .u64 k, .int .i64 n] W fun e W' => e = .returned (.bool true) ∧ Below W.heap.size W W' := by
  go_enter Tryz.func3, Tryz.ntmps3
  go_wp2_with fail
  refine (awake17 _).mono ?_
  rintro e w1 ⟨rfl, hb1⟩
  go_wp2_with fail
  refine (newAny n _).mono ?_
  rintro e w2 ⟨p, er, rfl, HE, hb2⟩
  have HB := Lib.hid (below_then hb1 hb2)
  have her : (0 ≤ n ∧ n ≤ 1048576 ∧ er = 0) ∨ (n < 0 ∧ er = 1) ∨ (1048576 < n ∧ er = 1) := by
    have h := HE.out
    split at h <;> omega
  clear HE hb1 hb2
  rcases her with ⟨h0, h1, rfl⟩ | ⟨h0, rfl⟩ | ⟨h0, rfl⟩
  · go_wp2_with fail
    refine (nil_Next k _).mono ?_
    rintro e w3 ⟨rfl, rfl⟩
    go_wp2_with fail
    refine (nil_Prev k _).mono ?_
    rintro e w4 ⟨rfl, rfl⟩
    go_wp2_with fail
    refine (nil_Min k _).mono ?_
    rintro e w5 ⟨rfl, rfl⟩
    go_wp2_with fail
    refine (nil_Max k _).mono ?_
    rintro e w6 ⟨rfl, rfl⟩
    go_wp2_with fail
    refine (nil_Clear _).mono ?_
    rintro e w7 ⟨rfl, rfl⟩
    go_wp2_with fail
    refine (nil_Insert k _).mono ?_
    rintro e w8 ⟨rfl, rfl⟩
    go_wp2_with fail
    refine (nil_Delete k _).mono ?_
    rintro e w9 ⟨rfl, rfl⟩
    go_wp2_with fail
    refine (nil_Has k _).mono ?_
    rintro e w10 ⟨rfl, rfl⟩
    go_wp2_with fail
    refine (nil_Len k _).mono ?_
    rintro e w11 ⟨rfl, rfl⟩
    go_wp2_with fail
    refine (nil_Used k _).mono ?_
    rintro e w12 ⟨rfl, rfl⟩
    go_wp2_with fail
    refine (nil_Limit k _).mono ?_
    rintro e w13 ⟨rfl, rfl⟩
    go_wp2_with fail
    refine (nil_all _).mono ?_
    rintro e w14 ⟨rfl, hb14⟩
    have HB14 := Lib.hid (below_then HB.out hb14)
    clear hb14
    go_wp2
    go_ret
    exact ⟨rfl, HB14.out⟩
  · go_wp2_with fail
    refine (nil_Next k _).mono ?_
    rintro e w3 ⟨rfl, rfl⟩
    go_wp2_with fail
    refine (nil_Prev k _).mono ?_
    rintro e w4 ⟨rfl, rfl⟩
    go_wp2_with fail
    refine (nil_Min k _).mono ?_
    rintro e w5 ⟨rfl, rfl⟩
    go_wp2_with fail
    refine (nil_Max k _).mono ?_
    rintro e w6 ⟨rfl, rfl⟩
    go_wp2_with fail
    refine (nil_Clear _).mono ?_
    rintro e w7 ⟨rfl, rfl⟩
    go_wp2_with fail
    refine (nil_Insert k _).mono ?_
    rintro e w8 ⟨rfl, rfl⟩
    go_wp2_with fail
    refine (nil_Delete k _).mono ?_
    rintro e w9 ⟨rfl, rfl⟩
    go_wp2_with fail
    refine (nil_Has k _).mono ?_
    rintro e w10 ⟨rfl, rfl⟩
    go_wp2_with fail
    refine (nil_Len k _).mono ?_
    rintro e w11 ⟨rfl, rfl⟩
    go_wp2_with fail
    refine (nil_Used k _).mono ?_
    rintro e w12 ⟨rfl, rfl⟩
    go_wp2_with fail
    refine (nil_Limit k _).mono ?_
    rintro e w13 ⟨rfl, rfl⟩
    go_wp2_with fail
    refine (nil_all _).mono ?_
    rintro e w14 ⟨rfl, hb14⟩
    have HB14 := Lib.hid (below_then HB.out hb14)
    clear hb14
    go_wp2
    go_ret
    exact ⟨rfl, HB14.out⟩
  · have h1 : 0 ≤ n := by omega
    have h2 : decide (n ≤ 1048576) = false := by simp; omega
    go_wp2_with fail
    refine (nil_Next k _).mono ?_
    rintro e w3 ⟨rfl, rfl⟩
    go_wp2_with fail
    refine (nil_Prev k _).mono ?_
    rintro e w4 ⟨rfl, rfl⟩
    go_wp2_with fail
    refine (nil_Min k _).mono ?_
    rintro e w5 ⟨rfl, rfl⟩
    go_wp2_with fail
    refine (nil_Max k _).mono ?_
    rintro e w6 ⟨rfl, rfl⟩
    go_wp2_with fail
    refine (nil_Clear _).mono ?_
    rintro e w7 ⟨rfl, rfl⟩
    go_wp2_with fail
    refine (nil_Insert k _).mono ?_
    rintro e w8 ⟨rfl, rfl⟩
    go_wp2_with fail
    refine (nil_Delete k _).mono ?_
    rintro e w9 ⟨rfl, rfl⟩
    go_wp2_with fail
    refine (nil_Has k _).mono ?_
    rintro e w10 ⟨rfl, rfl⟩
    go_wp2_with fail
    refine (nil_Len k _).mono ?_
    rintro e w11 ⟨rfl, rfl⟩
    go_wp2_with fail
    refine (nil_Used k _).mono ?_
    rintro e w12 ⟨rfl, rfl⟩
    go_wp2_with fail
    refine (nil_Limit k _).mono ?_
    rintro e w13 ⟨rfl, rfl⟩
    go_wp2_with fail
    refine (nil_all _).mono ?_
    rintro e w14 ⟨rfl, hb14⟩
    have HB14 := Lib.hid (below_then HB.out hb14)
    clear hb14
    go_wp2
    go_ret
    exact ⟨rfl, HB14.out⟩
theorem walk_roarNil (k n : Int) (W : World) (w0 : (Lit.int .u64 k).wf = true) (w1 : (Lit.int .i64 n).wf = true) :
    Calls Tryz.prog 3 #[.int .u64 k, .int .i64 n] W fun e W' => e = .returned (.bool true) ∧ Below W.heap.size W W' := nil_walk k n W
end Go.Proofs.YtpmkcjpifedbkaaGreat
