/-
  package face: made, New, all; walked.
  A world's invariant (Env), a set of it (In); face.Equal; walked.
-/
import Derived.Test.YtcnaikoloagbdaaGreatQSKA
import Derived.Test.YtcnaikoloagbdaaGreatQSiftB
import Derived.Handy
import Derived.Stop.Asserts
namespace Go.Proofs.YtcnaikoloagbdaaGreat
set_option linter.unusedVariables false
set_option linter.unusedSimpArgs false
open Go.RowKit Go.Shelf
attribute [local go_sem ↓] Go.wp_at_zero Go.wp_at_succ

theorem set_iface : ∃ ms, Tryz.prog.underlying 73 = some (.interface ms) := by
  have h : (match Tryz.prog.underlying 73 with | some (.interface _) => true | _ => false) = true := by kernel_rfl
  generalize Tryz.prog.underlying 73 = o at h
  match o, h with
  | some (.interface a), _ => exact ⟨a, rfl⟩
/-- a set isn't nil -/
theorem run_eql_set_nil (t : TypeId) (v : Value) (w : World) : (binOp .eql 73 (.iface t v) .nilIface).run Tryz.prog w = .ok (.bool false) w := by
  obtain ⟨ms, hu⟩ := set_iface
  have h : ∀ d : Nat, (Op.equalIn (d + 1) 73 (.iface t v) .nilIface).run Tryz.prog w = .ok false w := fun d => by simp [Op.equalIn, run_underlying hu]
  simp only [binOp]
  simp [Op.equal, Op.maxDepth, h 9999]
theorem SK.iface (s : SK) : ∃ t v, s.v = .iface t v := by cases s <;> exact ⟨_, _, rfl⟩
theorem run_eql_sk_nil (s : SK) (w : World) : (binOp .eql 73 s.v .nilIface).run Tryz.prog w = .ok (.bool false) w := by
  obtain ⟨t, v, e⟩ := s.iface
  rw [e]
  exact run_eql_set_nil t v w
attribute [local go_sem] run_eql_set_nil
set_option maxRecDepth 100000 in
theorem madeX (x : Nat) (w : World) : Calls Tryz.prog 111 #[.pointer (some ⟨x, 0, none⟩), .int .i64 0] w fun e w' => e = .returned (.tuple #[.iface 178 (.pointer (some ⟨x, 0, none⟩)), .int .i64 0]) ∧ w' = w := by
  go_enter Tryz.func111, Tryz.ntmps111
  go_wp2
  go_ret2
  exact ⟨rfl, rfl⟩
set_option maxRecDepth 100000 in
theorem madeY (x : Nat) (w : World) : Calls Tryz.prog 113 #[.pointer (some ⟨x, 0, none⟩), .int .i64 0] w fun e w' => e = .returned (.tuple #[.iface 182 (.pointer (some ⟨x, 0, none⟩)), .int .i64 0]) ∧ w' = w := by
  go_enter Tryz.func113, Tryz.ntmps113
  go_wp2
  go_ret2
  exact ⟨rfl, rfl⟩
set_option maxRecDepth 100000 in
theorem madeT (x : Nat) (w : World) : Calls Tryz.prog 115 #[.pointer (some ⟨x, 0, none⟩), .int .i64 0] w fun e w' => e = .returned (.tuple #[.iface 186 (.pointer (some ⟨x, 0, none⟩)), .int .i64 0]) ∧ w' = w := by
  go_enter Tryz.func115, Tryz.ntmps115
  go_wp2
  go_ret2
  exact ⟨rfl, rfl⟩
/-- a new set, by its tag: XFast, YFast, Trie -/
def Fresh (tag limit : Int) : SK → Prop
  | .e d => tag = 4 ∧ d.limit = limit
  | .t _ => False
  | .x d => tag = 2 ∧ d.ls = [] ∧ d.limit = limit ∧ d.R = 0
  | .y d => tag = 3 ∧ d.ks = [] ∧ d.limit = limit ∧ d.xd.limit = limit ∧ d.n = 0
set_option maxRecDepth 100000 in
set_option maxHeartbeats 1000000 in
theorem faceNew (tag seed limit : Int) (w : World) (ht : tag = 2 ∨ tag = 3 ∨ tag = 4) (h0 : 0 ≤ limit) (h4 : tag = 4 → 11 ≤ limit) (h1 : limit ≤ 1048576) :
    Calls Tryz.prog 85 #[.int .i64 tag, .int .u64 seed, .int .i64 limit] w fun e w' => ∃ s : SK, e = .returned (.tuple #[s.v, .int .i64 0]) ∧ Hid (s.P w') ∧ Hid (Fresh tag limit s) ∧ Hid (∀ q, s.own q → w.heap.size ≤ q) ∧ Hid (Below w.heap.size w w') := by
  have H4 := Lib.hid h4
  clear h4
  rcases ht with rfl | rfl | rfl
  · go_enter Tryz.func85, Tryz.ntmps85
    go_wp2_with fail
    refine (xNew seed limit _ h0 h1).mono ?_
    rintro e w1 ⟨d, rfl, HX, HD, HO, HB⟩
    go_wp2_with fail
    refine (madeX d.x w1).mono ?_
    rintro e w2 ⟨rfl, rfl⟩
    go_wp2
    go_ret2
    exact ⟨.x d, rfl, HX.out, ⟨rfl, HD.out.1, HD.out.2.1, HD.out.2.2.2⟩, HO.out, HB.out⟩
  · go_enter Tryz.func85, Tryz.ntmps85
    go_wp2_with fail
    refine (yNew seed limit _ h0 h1).mono ?_
    rintro e w1 ⟨d, rfl, HX, HD, HO, HB⟩
    go_wp2_with fail
    refine (madeY d.y w1).mono ?_
    rintro e w2 ⟨rfl, rfl⟩
    have HN := Lib.hid (HX.out.2.cnt.2.2 HD.out.1)
    go_wp2
    go_ret2
    exact ⟨.y d, rfl, HX.out, ⟨rfl, HD.out.1, HD.out.2.1, HD.out.2.2, HN.out⟩, HO.out, HB.out⟩
  · have h11 := H4.out rfl
    go_enter Tryz.func85, Tryz.ntmps85
    go_wp2_with fail
    refine (tNew limit _ h0 h1).mono ?_
    rintro e w1 ⟨d, rfl, HX, HD, HO, HB⟩
    go_wp2_with fail
    refine (madeT d.t w1).mono ?_
    rintro e w2 ⟨rfl, rfl⟩
    go_wp2
    go_ret2
    exact ⟨.e d, rfl, ⟨HX.out, HD.out.2.2.1, HD.out.1, by rw [HD.out.2.1]; exact h11, HD.out.2.2.2⟩, ⟨rfl, HD.out.2.1⟩, HO.out, HB.out⟩
set_option maxRecDepth 100000 in
set_option maxHeartbeats 1000000 in
theorem faceAll (s : SK) (w : World) (h : s.P w) : Calls Tryz.prog 71 #[s.v] w fun e w' => ∃ (it : Value) (o : Obj), e = .returned it ∧ w' = w.alloc o ∧ Hid (It Tryz.prog it k1 (fun V => s.P V ∧ V.heap[w.heap.size]? = some o) s.red (fun b => s.own b ∨ b = w.heap.size) s.S s.N) := by
  have H := Lib.hid h
  clear h
  have stay : ∀ (o : Obj) (X Y : World), (s.P X ∧ X.heap[w.heap.size]? = some o) → (∀ b, (s.own b ∨ b = w.heap.size) → Y.heap[b]? = X.heap[b]?) → s.P Y ∧ Y.heap[w.heap.size]? = some o := fun o X Y hx hs => ⟨SK.stay hx.1 (fun b hb => hs b (.inl hb)), (hs _ (.inr rfl)).trans hx.2⟩
  have HSTAY := Lib.hid stay
  clear stay
  cases s with
  | e d =>
    have HIT := Lib.hid (show It Tryz.prog (.func (.func 404) #[] #[.pointer (some ⟨w.heap.size, 0, none⟩)]) k1 (fun V => (SK.e d).P V ∧ V.heap[w.heap.size]? = some (.cells #[.pointer (some ⟨d.t, 0, none⟩)] 186 (0, 0))) (SK.e d).red (fun b => (SK.e d).own b ∨ b = w.heap.size) (SK.e d).S (SK.e d).N from
      ⟨⟨_, _, rfl, enters_of Tryz.func404 (by kernel_rfl) rfl, tAll0 d w.heap.size⟩, HSTAY.out _, fun b hb => .inl (SK.red_own _ b hb)⟩)
    simp only [SK.v]
    clear HSTAY
    go_enter Tryz.func71, Tryz.ntmps71
    go_wp2_with fail
    refine (tAllMake d.t w).mono ?_
    rintro e w1 ⟨rfl, rfl⟩
    go_wp2
    go_ret
    exact ⟨_, _, rfl, rfl, HIT.out⟩
  | t d =>
    have HIT := Lib.hid (show It Tryz.prog (.func (.func 404) #[] #[.pointer (some ⟨w.heap.size, 0, none⟩)]) k1 (fun V => (SK.t d).P V ∧ V.heap[w.heap.size]? = some (.cells #[.pointer (some ⟨d.t, 0, none⟩)] 186 (0, 0))) (SK.t d).red (fun b => (SK.t d).own b ∨ b = w.heap.size) (SK.t d).S (SK.t d).N from
      ⟨⟨_, _, rfl, enters_of Tryz.func404 (by kernel_rfl) rfl, tAll5 d w.heap.size⟩, HSTAY.out _, fun b hb => .inl (SK.red_own _ b hb)⟩)
    simp only [SK.v]
    clear HSTAY
    go_enter Tryz.func71, Tryz.ntmps71
    go_wp2_with fail
    refine (tAllMake d.t w).mono ?_
    rintro e w1 ⟨rfl, rfl⟩
    go_wp2
    go_ret
    exact ⟨_, _, rfl, rfl, HIT.out⟩
  | x d =>
    have HIT := Lib.hid (show It Tryz.prog (.func (.func 314) #[] #[.pointer (some ⟨w.heap.size, 0, none⟩)]) k1 (fun V => (SK.x d).P V ∧ V.heap[w.heap.size]? = some (.cells #[.pointer (some ⟨d.x, 0, none⟩)] 178 (0, 0))) (SK.x d).red (fun b => (SK.x d).own b ∨ b = w.heap.size) (SK.x d).S (SK.x d).N from
      ⟨⟨_, _, rfl, enters_of Tryz.func314 (by kernel_rfl) rfl, (xAll1 d w.heap.size (fun _ => False) (fun _ h => h)).weak (fun _ h => h.elim) (fun _ h => h) (Nat.le_refl _)⟩, HSTAY.out _, fun b hb => .inl (SK.red_own _ b hb)⟩)
    simp only [SK.v]
    clear HSTAY
    go_enter Tryz.func71, Tryz.ntmps71
    go_wp2_with fail
    refine (xAllMake d.x w).mono ?_
    rintro e w1 ⟨rfl, rfl⟩
    go_wp2
    go_ret
    exact ⟨_, _, rfl, rfl, HIT.out⟩
  | y d =>
    have HYS := Lib.hid (show YF w d from H.out).2
    have HIT := Lib.hid (show It Tryz.prog (.func (.func 361) #[] #[.pointer (some ⟨w.heap.size, 0, none⟩)]) k1 (fun V => (SK.y d).P V ∧ V.heap[w.heap.size]? = some (.cells #[.pointer (some ⟨d.y, 0, none⟩)] 182 (0, 0))) (SK.y d).red (fun b => (SK.y d).own b ∨ b = w.heap.size) (SK.y d).S (SK.y d).N from
      ⟨⟨_, _, rfl, enters_of Tryz.func361 (by kernel_rfl) rfl, (yAll1 d w.heap.size HYS.out).same (fun V => ⟨fun h => ⟨⟨h.1, HYS.out⟩, h.2⟩, fun h => ⟨h.1.1, h.2⟩⟩)⟩, HSTAY.out _, fun b hb => .inl (SK.red_own _ b hb)⟩)
    simp only [SK.v]
    clear HSTAY
    go_enter Tryz.func71, Tryz.ntmps71
    go_wp2_with fail
    refine (yAllMake d.y w).mono ?_
    rintro e w1 ⟨rfl, rfl⟩
    go_wp2
    go_ret
    exact ⟨_, _, rfl, rfl, HIT.out⟩
end Go.Proofs.YtcnaikoloagbdaaGreat
namespace Go.Proofs.YtcnaikoloagbdaaGreat
set_option linter.unusedVariables false
set_option linter.unusedSimpArgs false
open Go.RowKit Go.Shelf
attribute [local go_sem ↓] Go.wp_at_zero Go.wp_at_succ

/-- what holds of the blocks R, of which F may be changed -/
structure Env (G : World → Prop) (R F : Nat → Prop) : Prop where
  lt : ∀ w, G w → ∀ b, R b → b < w.heap.size
  stay : ∀ X Y, G X → (∀ b, R b → Y.heap[b]? = X.heap[b]?) → G Y
  sub : ∀ b, F b → R b
theorem Env.below {G : World → Prop} {R F : Nat → Prop} (E : Env G R F) {X Y : World} (h : G X) (hb : Below X.heap.size X Y) : G Y := E.stay _ _ h (fun b hr => hb.block b (E.lt _ h b hr))
/-- a set of it -/
structure In (s : SK) (G : World → Prop) (R F : Nat → Prop) : Prop where
  p : ∀ w, G w → s.P w
  put : ∀ X Y, G X → s.P Y → Chg s.red X Y → G Y
  red : ∀ b, s.red b → F b
  it : ∀ (B : Nat) (o : Obj) (it : Value), It Tryz.prog it k1 (fun V => s.P V ∧ V.heap[B]? = some o) s.red (fun b => s.own b ∨ b = B) s.S s.N → It Tryz.prog it k1 (fun V => G V ∧ V.heap[B]? = some o) F (fun b => R b ∨ b = B) s.S s.N
theorem SK.env (s : SK) : Env s.P s.own s.red := ⟨fun w h => SK.lt h, fun X Y h hs => SK.stay h hs, s.red_own⟩
theorem SK.in_self (s : SK) : In s s.P s.own s.red := ⟨fun _ h => h, fun _ _ _ h _ => h, fun _ h => h, fun _ _ _ h => h⟩
theorem SK.env2 (a b : SK) : Env (fun V => a.P V ∧ b.P V) (fun q => a.own q ∨ b.own q) (fun q => a.red q ∨ b.red q) :=
  ⟨fun w h q hq => hq.elim (SK.lt h.1 q) (SK.lt h.2 q), fun X Y h hs => ⟨SK.stay h.1 (fun q hq => hs q (.inl hq)), SK.stay h.2 (fun q hq => hs q (.inr hq))⟩, fun q hq => hq.imp (a.red_own q) (b.red_own q)⟩
theorem SK.in_left (a b : SK) (hd : ∀ q, a.own q → ¬ b.own q) : In a (fun V => a.P V ∧ b.P V) (fun q => a.own q ∨ b.own q) (fun q => a.red q ∨ b.red q) :=
  ⟨fun _ h => h.1, fun X Y h hp hc => ⟨hp, SK.chg h.2 hc (fun q hq hr => hd q (a.red_own q hr) hq)⟩, fun _ h => .inl h, fun B o it h =>
    (h.frame b.P b.own (fun X Y hx hs => SK.stay hx hs) (fun X hx => SK.lt hx) (fun q hq hr => hd q (a.red_own q hr) hq)).weak (fun V => ⟨fun h => ⟨⟨h.1.1, h.2⟩, h.1.2⟩, fun h => ⟨⟨h.1.1, h.2⟩, h.1.2⟩⟩) (fun q h => .inl h)
      (fun q h => h.elim (fun h => h.elim (fun h => .inl (.inl h)) (fun h => .inr h)) (fun h => .inl (.inr h))) (fun q h => .inl (h.imp (a.red_own q) (b.red_own q))) (fun _ h => h) (Nat.le_refl _)⟩
theorem SK.in_right (a b : SK) (hd : ∀ q, a.own q → ¬ b.own q) : In b (fun V => a.P V ∧ b.P V) (fun q => a.own q ∨ b.own q) (fun q => a.red q ∨ b.red q) :=
  ⟨fun _ h => h.2, fun X Y h hp hc => ⟨SK.chg h.1 hc (fun q hq hr => hd q hq (b.red_own q hr)), hp⟩, fun _ h => .inr h, fun B o it h =>
    (h.frame a.P a.own (fun X Y hx hs => SK.stay hx hs) (fun X hx => SK.lt hx) (fun q hq hr => hd q hq (b.red_own q hr))).weak (fun V => ⟨fun h => ⟨⟨h.2, h.1.1⟩, h.1.2⟩, fun h => ⟨⟨h.1.2, h.2⟩, h.1.1⟩⟩) (fun q h => .inr h)
      (fun q h => h.elim (fun h => h.elim (fun h => .inl (.inr h)) (fun h => .inr h)) (fun h => .inl (.inl h))) (fun q h => .inl (h.imp (a.red_own q) (b.red_own q))) (fun _ h => h) (Nat.le_refl _)⟩
theorem It.func {it : Value} {St : World → Prop} {F R : Nat → Prop} {S : List Int → Prop} {N : Nat} (h : It Tryz.prog it k1 St F R S N) : ∃ f c l, it = .func f c l := by
  obtain ⟨gf, lb, e, _⟩ := h.seq
  exact ⟨_, _, _, e⟩
/-- one more block beside it -/
theorem It.box {it : Value} {St : World → Prop} {F R : Nat → Prop} {S : List Int → Prop} {N : Nat} (h : It Tryz.prog it k1 St F R S N) (B : Nat) (o : Obj) (hB : ¬ F B) : It Tryz.prog it k1 (fun V => St V ∧ V.heap[B]? = some o) F (fun b => R b ∨ b = B) S N :=
  h.frame (fun V => V.heap[B]? = some o) (· = B) (fun X Y hx hs => (hs B rfl).trans hx) (fun X hx b hb => by subst hb; exact blk_lt hx) (fun b hb => by subst hb; exact hB)
theorem faceAllG (s : SK) {G : World → Prop} {R F : Nat → Prop} (E : Env G R F) (I : In s G R F) (w : World) (h : G w) : Calls Tryz.prog 71 #[s.v] w fun e w' => ∃ (it : Value) (o : Obj), e = .returned it ∧ w' = w.alloc o ∧ Hid (It Tryz.prog it k1 (fun V => G V ∧ V.heap[w.heap.size]? = some o) F (fun b => R b ∨ b = w.heap.size) s.S s.N) ∧ Hid (G w' ∧ w'.heap[w.heap.size]? = some o) := by
  refine (faceAll s w (I.p w h)).mono ?_
  rintro e w1 ⟨it, o, rfl, rfl, HI⟩
  exact ⟨it, o, rfl, rfl, I.it _ _ _ HI.out, E.below h ((Below.refl _ w).alloc (Nat.le_refl _) _), heap_alloc_new w o⟩
set_option maxRecDepth 100000 in
set_option maxHeartbeats 1000000 in
theorem faceEqual (a b : SK) {G : World → Prop} {R F : Nat → Prop} (E : Env G R F) (Ia : In a G R F) (Ib : In b G R F) (hNa : a.N ≤ 100000) (hNb : b.N ≤ 100000) (w : World) (h : G w) :
    Calls Tryz.prog 51 #[a.v, b.v] w fun e w' => ∃ (r : Bool) (u : Unit), e = .returned (.bool r) ∧ Hid (G w') ∧ Hid (Chg F w w') := by
  have HE := Lib.hid E
  have HIa := Lib.hid Ia
  have HIb := Lib.hid Ib
  have H := Lib.hid h
  have HFL := Lib.hid (show ∀ q, F q → q < w.heap.size from fun q hq => E.lt w h q (E.sub q hq))
  clear E Ia Ib h
  go_enter Tryz.func51, Tryz.ntmps51
  go_wp2_with fail
  refine (faceAllG a HE.out HIa.out w H.out).mono ?_
  rintro e w1 ⟨it1, o1, rfl, rfl, HI1, HG1⟩
  go_wp2_with fail
  refine (faceAllG b HE.out HIb.out _ HG1.out.1).mono ?_
  rintro e w2 ⟨it2, o2, rfl, rfl, HI2, HG2⟩
  have HJ1 := Lib.hid (HI1.out.box (w.alloc o1).heap.size o2 (fun e => by have := HFL.out _ e; simp at this; omega))
  have HJ2 := Lib.hid ((HI2.out.box w.heap.size o1 (fun e => by have := HFL.out _ e; omega)).weak (St' := fun V => (G V ∧ V.heap[w.heap.size]? = some o1) ∧ V.heap[(w.alloc o1).heap.size]? = some o2) (R' := fun q => (R q ∨ q = w.heap.size) ∨ q = (w.alloc o1).heap.size) (F' := F) (fun V => ⟨fun h => ⟨⟨h.1.1, h.2⟩, h.1.2⟩, fun h => ⟨⟨h.1.1, h.2⟩, h.1.2⟩⟩) (fun _ h => h)
    (fun q h => h.elim (fun h => h.elim (fun h => .inl (.inl h)) .inr) (fun h => .inl (.inr h))) (fun q h => .inl (.inl (HE.out.sub q h))) (fun _ h => h) (Nat.le_refl _))
  have hst : (G ((w.alloc o1).alloc o2) ∧ ((w.alloc o1).alloc o2).heap[w.heap.size]? = some o1) ∧ ((w.alloc o1).alloc o2).heap[(w.alloc o1).heap.size]? = some o2 := ⟨⟨HG2.out.1, blk_old HG1.out.2 _⟩, HG2.out.2⟩
  have HSE := Lib.hid (sEqual it1 it2 hNa hNb a.sN b.sN HJ1.out HJ2.out _ hst (fun q hq => by
    rcases hq with (hq | hq) | hq
    · exact HE.out.lt _ HG2.out.1 q hq
    · subst hq; simp; omega
    · subst hq; simp))
  clear hst
  go_wp2_with fail
  refine HSE.out.mono ?_
  rintro e w3 ⟨r, _, rfl, HG3, HC3⟩
  have HC4 := Lib.hid ((Chg.refl F w).alloc o1 |>.alloc o2 |>.then HC3.out)
  go_wp2
  go_ret
  exact ⟨r, (), rfl, HG3.out.1.1, HC4.out⟩
end Go.Proofs.YtcnaikoloagbdaaGreat
