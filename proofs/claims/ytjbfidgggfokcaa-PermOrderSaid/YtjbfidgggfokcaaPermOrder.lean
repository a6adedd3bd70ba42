/-
  PermOrder: for every three bytes the law returns true, and each argument reads as it did. Condition: none.
-/
import Derived.Test.YtjbfidgggfokcaaRows
import Derived.Test.YtjbfidgggfokcaaPermJ
set_option linter.unusedVariables false
set_option linter.unusedSimpArgs false
namespace Go.Proofs.Ytjbfidgggfokcaa.PermOrder
open Go.ChangeShapes Go.WideShapes Go.ChangeAt Go.RowKit Go.Proofs.Ytjbfidgggfokcaa

theorem own : ownKnob Try.prog.godebug = none := by kernel_rfl
theorem laidOut : laidOutB Try.prog = true := by kernel_rfl

theorem cases_of (a b c : Nat) (ha : a < 128) (hb : b < 128) (hc : c < 128) : (hasP a b = false) ∨ (hasP a b = true ∧ hasP b a = false ∧ hasP b c = false) ∨ (hasP a b = true ∧ hasP b a = false ∧ hasP b c = true ∧ hasP a c = true) ∨
    (hasP a b = true ∧ hasP b a = true ∧ a = b) := by
  cases h1 : hasP a b with
  | false => exact .inl rfl
  | true =>
    cases h2 : hasP b a with
    | true => exact .inr (.inr (.inr ⟨rfl, rfl, has_anti ha hb h1 h2⟩))
    | false =>
      cases h3 : hasP b c with
      | false => exact .inr (.inl ⟨rfl, rfl, rfl⟩)
      | true => exact .inr (.inr (.inl ⟨rfl, rfl, rfl, has_trans ha hb hc h1 h3⟩))

set_option maxRecDepth 100000 in
set_option maxHeartbeats 3200000 in
theorem walk (x y z : Int) (w : World) (wx : (Lit.int .u8 x).wf = true) (wy : (Lit.int .u8 y).wf = true) (wz : (Lit.int .u8 z).wf = true) :
    Calls Try.prog 5 #[.int .u8 x, .int .u8 y, .int .u8 z] w fun e w' => e = .returned (.bool true) ∧ Below w.heap.size w w' := by
  obtain ⟨a, ha, ea⟩ := and127 (u8_of_wf wx).1 (u8_of_wf wx).2
  obtain ⟨b, hb, eb⟩ := and127 (u8_of_wf wy).1 (u8_of_wf wy).2
  obtain ⟨c, hc, ec⟩ := and127 (u8_of_wf wz).1 (u8_of_wf wz).2
  obtain ⟨x0, x1⟩ := u8_of_wf wx
  obtain ⟨y0, y1⟩ := u8_of_wf wy
  obtain ⟨z0, z1⟩ := u8_of_wf wz
  have f1 := has_self ha
  have f2 := has_all ha
  have f3 := has_none ha
  have h4 := cases_of a b c ha hb hc
  have a1 : (a : Int) ≤ 127 := by omega
  have b1 : (b : Int) ≤ 127 := by omega
  have c1 : (c : Int) ≤ 127 := by omega
  clear ha hb hc wx wy wz
  rcases h4 with g1 | ⟨g1, g2, g3⟩ | ⟨g1, g2, g3, g4⟩ | ⟨g1, g2, rfl⟩
  rotate_right
  · cases g3 : hasP a c
    all_goals
      go_enter Try.func5, Try.ntmps5
      go_wp2_with fail
      refine (head1_true _).mono ?_
      rintro e w1 ⟨rfl, B1⟩
      go_wp2_with (go_at_call 15; refine (has_any _ _ _ (by first | exact ⟨by decide, by decide⟩ | (constructor <;> omega)) (by first | exact ⟨by decide, by decide⟩ | (constructor <;> omega))).mono ?_; rintro e w' ⟨rfl, rfl⟩)
      go_ret
      exact ⟨rfl, B1⟩
  all_goals
    go_enter Try.func5, Try.ntmps5
    go_wp2_with fail
    refine (head1_true _).mono ?_
    rintro e w1 ⟨rfl, B1⟩
    go_wp2_with (go_at_call 15; refine (has_any _ _ _ (by first | exact ⟨by decide, by decide⟩ | (constructor <;> omega)) (by first | exact ⟨by decide, by decide⟩ | (constructor <;> omega))).mono ?_; rintro e w' ⟨rfl, rfl⟩)
    go_ret
    exact ⟨rfl, B1⟩

set_option maxRecDepth 100000 in
theorem lifted (os : Os) (started : os.Started) (H : Type) (enc : TypeId × Value → H) :
    ReturnsInHanded {} Try.checked os 5 .any (Rows.permOrderSpec.pre6 enc Try.prog Try.f5 Rows.permOrderRow.domain false) (Rows.permOrderSpec.post enc Try.prog Try.f5 false true false false) := by
  refine returnsInHanded_of_change (C := Try.checked) own started (by kernel_rfl) Try.func5
    (ChangeSpec.witness6 (enc := enc) (C := Try.checked) false ⟨#[], #[.int .u8 0, .int .u8 0, .int .u8 0], []⟩ 8 (by kernel_rfl) (by kernel_rfl) (by kernel_rfl) (by kernel_rfl)) ?_
  intro W base args ds gs before hval0 hW hcnd _
  have hval : ∀ (j : Nat) t v, Try.f5.params[j]? = some t → args[j]? = some v → Value.okWide Try.prog W .any base t v := hval0
  have hW' := hW
  obtain ⟨p, q, hA0, hV, rfl, hfz, hnd⟩ := hW
  have hA : DataW.TrodAll enc Try.prog W 0 (fun _ => true) true Try.f5.params.toList args.toList ds p := hA0
  rw [Try.params5] at hA hval
  obtain ⟨v0, vs0, d0, ds0, p0, q0, hargs, rfl, rfl, h0, r0⟩ := trodAll_cons hA
  obtain ⟨v1, vs1, d1, ds1, p1, q1, rfl, rfl, rfl, h1, r1⟩ := trodAll_cons r0
  obtain ⟨v2, vs2, d2, ds2, p2, q2, rfl, rfl, rfl, h2, r2⟩ := trodAll_cons r1
  obtain ⟨rfl, rfl, rfl⟩ := trodAll_nil r2
  obtain rfl : args = #[v0, v1, v2] := by cases args; simp_all
  obtain ⟨rfl, rfl⟩ := trodVars_none hV
  have k0 := h0
  have lt0 : ∀ x ∈ p0, x.block < W.heap.size := by obtain ⟨m, hm⟩ := k0; exact DataW.trod_lt m _ _ _ hm
  obtain ⟨x0, rfl, _, _, w0⟩ := open_int Try.underlying5 (hval 0 5 v0 rfl rfl) h0
  have k1 := h1
  have lt1 : ∀ x ∈ p1, x.block < W.heap.size := by obtain ⟨m, hm⟩ := k1; exact DataW.trod_lt m _ _ _ hm
  obtain ⟨x1, rfl, _, _, w1⟩ := open_int Try.underlying5 (hval 1 5 v1 rfl rfl) h1
  have k2 := h2
  have lt2 : ∀ x ∈ p2, x.block < W.heap.size := by obtain ⟨m, hm⟩ := k2; exact DataW.trod_lt m _ _ _ hm
  obtain ⟨x2, rfl, _, _, w2⟩ := open_int Try.underlying5 (hval 2 5 v2 rfl rfl) h2
  clear hA0 hval0
  refine (walk x0 x1 x2 W w0 w1 w2).mono fun e W' ⟨he, bel⟩ => ?_
  subst he
  exact ⟨_, rfl, _, _, _, [], _, [], hW', trodAll_mk1 (shut_bool Try.underlying4 _), (trodAll_cons_mk (Below.trod laidOut (by kernel_rfl) (of_decide_eq_true (by kernel_rfl)) k0 bel lt0) (trodAll_cons_mk (Below.trod laidOut (by kernel_rfl) (of_decide_eq_true (by kernel_rfl)) k1 bel lt1) (trodAll_cons_mk (Below.trod laidOut (by kernel_rfl) (of_decide_eq_true (by kernel_rfl)) k2 bel lt2) trodAll_mk0))), rfl, bel.frame _, fun h => by cases h⟩

theorem over : Rows.permOrderRow.holds Try.pinned (OpenSpec.ofChange Rows.permOrderSpec) :=
  OpenClaim.holds_of_wide 5 Try.f5 rfl rfl rfl rfl rfl rfl rfl ⟨rfl, rfl, rfl, rfl, rfl⟩ rfl rfl rfl rfl rfl (by kernel_rfl) Try.func5 (by kernel_rfl)
    (of_decide_eq_true (by kernel_rfl)) (by unfold Func.isWrapper; rw [if_neg (of_decide_eq_false (by kernel_rfl))]; exact ⟨rfl, rfl⟩)
    (fun os started H enc _ => lifted os started H enc)

/-- The statement. -/
theorem proved : Rows.PermOrderSaid := over

#print axioms proved
end Go.Proofs.Ytjbfidgggfokcaa.PermOrder
