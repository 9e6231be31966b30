/-
  slices' Insert and Replace of one entry; lay, Insert of a Roar of at most one box, walked.
-/
import Derived.Test.YtpmkcjpifedbkaaGreatRoar3
namespace Go.Proofs.YtpmkcjpifedbkaaGreat
set_option linter.unusedVariables false
set_option linter.unusedSimpArgs false
open Go.RowKit

/-- the cells of one entry -/
def ent (b : Nat) : List Value := [.int .u64 0, .pointer (some ⟨b, 0, none⟩)]
/-- a slice of one entry of the call's own -/
def OwE (w : World) (base : Nat) (v : Value) (b : Nat) : Prop := w.ownsRow base 47 2 v 1 (ent b)
theorem OwE.form {w : World} {base : Nat} {v : Value} {b : Nat} (h : OwE w base v b) : ∃ E cap, v = .slice (some ⟨E, 0, none⟩) 1 cap ∧ base ≤ E ∧ 1 ≤ cap ∧ En w E b := by
  rcases h.2 with ⟨_, hn⟩ | ⟨g, cap, cur, rfl, hg, hh, hnc, hcap, hsz, htk⟩
  · cases hn
  · have h2 : ∀ i : Nat, i < 2 → cur[i]? = (ent b)[i]? := fun i hi => by
      rw [← htk, List.getElem?_take, if_pos (by omega)]
      simp
    exact ⟨g, cap, rfl, hg, hnc, cur, hh, h2 0 (by omega), h2 1 (by omega)⟩
theorem OwE.cut0 {w : World} {base : Nat} {A : Option Addr} {n c b : Nat} (h : OwE w base (.slice A n c) b) : w.ownsRow base 47 2 (.slice A 0 c) 0 [] := by
  obtain ⟨h1, h2⟩ := h
  refine ⟨rfl, ?_⟩
  rcases h2 with ⟨h2, h3⟩ | ⟨g, cap, cur, e1, hg, hh, hnc, hcap, hsz, htk⟩
  · injection h2 with a1 a2 a3
    subst a1; subst a3
    exact .inl ⟨rfl, rfl⟩
  · injection e1 with a1 a2 a3
    subst a1; subst a3
    exact .inr ⟨g, _, cur, rfl, hg, hh, Nat.zero_le _, hcap, hsz, by simp⟩
theorem OwE.grown {w w' : World} {base b : Nat} {v : Value} {row : Option Nat} (h : OwE w base v b) (hg : w.grownBy w' row) (hne : row ≠ v.ownBlock ∨ row = none) : OwE w' base v b := by
  obtain ⟨h1, h2⟩ := h
  refine ⟨h1, ?_⟩
  rcases h2 with h2 | ⟨g, cap, cur, rfl, hgb, hh, hr⟩
  · exact .inl h2
  · refine .inr ⟨g, cap, cur, rfl, hgb, ?_, hr⟩
    rw [hg.block g (blk_lt hh) (fun e => by
      rcases hne with h | h
      · exact h (by rw [← e]; rfl)
      · rw [h] at e; cases e)]
    exact hh
theorem ent_info : (Tryz.prog.info? 47).map (fun i => (i.zero, i.size, i.bytes)) = some (some (.agg #[.int .u64 0, .pointer none]), 2, 16) := by kernel_rfl
section
variable {P : Program} {ops : Array Oper} {rest : List Oper} {o : Oper} {a : Act} {Q : Exit → Act → World → Prop} {w : World}
/-- append of one entry to nothing -/
theorem wpList_pushE {t : TypeId} {i : TypeInfo} {z : Value} (base : Nat) (v : Value) (b : Nat) (s y : Operand) (B : Nat)
    (hgd : o.guard = none) (ho : o.op = .call { callee := .builtin .append, args := #[s, y], argTypes := #[t, t] })
    (ht : P.underlying t = some (.slice 47)) (hi : P.info? 47 = some i) (hz : i.zero = some z) (hs1 : i.size = 2) (hby : i.bytes = 16) (hzs : z.cells.size = 2)
    (hs : a.eval s = v) (hy : a.eval y = .slice (some ⟨B, 0, none⟩) 1 1) (hB : w.heap[B]? = some (.cells #[.int .u64 0, .pointer (some ⟨b, 0, none⟩)] 47 (0, 0)))
    (hown : w.ownsRow base 47 2 v 0 []) (hbase : base ≤ w.heap.size)
    (h : ∀ v' w', OwE w' base v' b → w.grownBy w' v.ownBlock → wpList P ops Q rest (a.put o.dst v') w') : wpList P ops Q (o :: rest) a w := by
  refine wpList_append_own_at w hgd s y t ho base 47 i z 2 16 ht hi hz hs1 hby hzs (by omega) v 0 _ hs hown ⟨B, 0, none⟩ 1 1 (ent b) hy rfl ?_ ?_ (by simp [maxLen]) (by omega) hbase ?_
  · intro j u hu
    rw [add_mk, cell_of_row w B j _ _ (0, 0) hB]
    rw [← hu]
    rcases j with _ | _ | j <;> rfl
  · intro u hu
    simp [ent] at hu
    rcases hu with rfl | rfl <;> rfl
  · intro v' w' h1 h2 _ h4
    exact h v' w' h1 h2
end
set_option maxRecDepth 100000 in
set_option maxHeartbeats 1000000 in
theorem insE (base B b : Nat) (w : World) (hB : w.heap[B]? = some (.cells #[.int .u64 0, .pointer (some ⟨b, 0, none⟩)] 47 (0, 0))) (hbase : base ≤ w.heap.size) :
    Calls Tryz.prog 59 #[.slice none 0 0, .int .i64 0, .slice (some ⟨B, 0, none⟩) 1 1] w fun e w' => ∃ v, e = .returned v ∧ OwE w' base v b ∧ Below w.heap.size w w' := by
  obtain ⟨i0, hi, hz0, hz1, hz2⟩ := info_parts ent_info
  have HB := Lib.hid hB
  have HN := Lib.hid (World.ownsRow_nil w base 47 2)
  clear hB
  go_enter Tryz.func59, Tryz.ntmps59
  go_wp2_with (at_builtin; refine wpList_pushE base _ b _ _ _ rfl rfl Tryz.underlying39 hi hz0 hz1 hz2 rfl rfl rfl HB.out HN.out hbase ?_; intro v2 w2 ho2 hg2; have HO := Lib.hid ho2; have HG := Lib.hid hg2; clear ho2 hg2)
  go_ret
  exact ⟨_, rfl, HO.out, ⟨HG.out.os, HG.out.tape, HG.out.output, HG.out.size, fun k hk => HG.out.block k hk (by intro e; cases e)⟩⟩
set_option maxRecDepth 100000 in
set_option maxHeartbeats 1000000 in
theorem repl0 (base B b : Nat) (w : World) (hB : w.heap[B]? = some (.cells #[.int .u64 0, .pointer (some ⟨b, 0, none⟩)] 47 (0, 0))) (hbase : base ≤ w.heap.size) :
    Calls Tryz.prog 44 #[.slice none 0 0, .int .i64 0, .int .i64 0, .slice (some ⟨B, 0, none⟩) 1 1] w fun e w' => ∃ v, e = .returned v ∧ OwE w' base v b ∧ Below w.heap.size w w' := by
  have HB := Lib.hid hB
  clear hB
  go_enter Tryz.func44, Tryz.ntmps44
  go_wp2_with fail
  refine (insE base B b _ HB.out hbase).mono ?_
  rintro e w1 ⟨v, rfl, HO, hb⟩
  go_wp2
  go_ret
  exact ⟨v, rfl, HO, hb⟩
set_option maxRecDepth 100000 in
set_option maxHeartbeats 2000000 in
theorem repl1 (base B b b' E cap : Nat) (w : World) (hB : w.heap[B]? = some (.cells #[.int .u64 0, .pointer (some ⟨b, 0, none⟩)] 47 (0, 0))) (hO : OwE w base (.slice (some ⟨E, 0, none⟩) 1 cap) b') (hcap : 1 ≤ cap) (hbase : base ≤ w.heap.size) :
    Calls Tryz.prog 44 #[.slice (some ⟨E, 0, none⟩) 1 cap, .int .i64 0, .int .i64 1, .slice (some ⟨B, 0, none⟩) 1 1] w fun e w' => ∃ v, e = .returned v ∧ OwE w' base v b ∧ w.grownBy w' (some E) := by
  obtain ⟨i0, hi, hz0, hz1, hz2⟩ := info_parts ent_info
  have HB := Lib.hid hB
  have HN := Lib.hid hO.cut0
  have hc1 : (1 : Int) ≤ cap := by omega
  have hc0 : (0 : Int) ≤ cap := by omega
  clear hB hO
  go_enter Tryz.func44, Tryz.ntmps44
  go_wp2_with (at_builtin; refine wpList_pushE base _ b _ _ _ rfl rfl Tryz.underlying39 hi hz0 hz1 hz2 rfl rfl rfl HB.out HN.out hbase ?_; intro v2 w2 ho2 hg2; obtain ⟨E2, cap2, rfl, hE2, hcap2, hen⟩ := ho2.form; have HO := Lib.hid ho2; have HG : Hid (w.grownBy w2 (some E)) := hg2; clear ho2 hg2 hen)
  go_ret
  exact ⟨_, rfl, HO.out, HG.out⟩
end Go.Proofs.YtpmkcjpifedbkaaGreat
