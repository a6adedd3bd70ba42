/-
  AluOrder: for every three 32-bit numbers the law returns true, and each argument reads as it did. Condition: none.
-/
import Derived.Test.YtphkljlbadpknaaRows
import Derived.Test.YtphkljlbadpknaaAluG
set_option linter.unusedVariables false
set_option linter.unusedSimpArgs false
namespace Go.Proofs.Ytphkljlbadpknaa.AluOrder
open Go.ChangeShapes Go.WideShapes Go.ChangeAt Go.RowKit Go.Proofs.Ytphkljlbadpknaa

theorem own : ownKnob Try.prog.godebug = none := by kernel_rfl
theorem laidOut : laidOutB Try.prog = true := by kernel_rfl

theorem order_facts (a b c : Int) (ha : 0 ≤ a ∧ a ≤ 4294967295) (hb : 0 ≤ b ∧ b ≤ 4294967295) (hc : 0 ≤ c ∧ c ≤ 4294967295) :
    (aluV 7 a b = 1 ∧ aluV 7 b a = 0 ∧ aluV 8 a b = 0 ∧ a < b ∧ ((aluV 7 b c = 0) ∨ (aluV 7 b c = 1 ∧ aluV 7 a c = 1))) ∨ (aluV 7 a b = 0 ∧ ¬ a < b ∧ ((aluV 7 b a = 1 ∧ aluV 8 a b = 0) ∨ (aluV 7 b a = 0 ∧ aluV 8 a b = 1))) := by
  have e7 : ∀ x y, aluV 7 x y = if m32 x < m32 y then 1 else 0 := fun x y => by simp [aluV]
  have e8 : ∀ x y, aluV 8 x y = if m32 x = m32 y then 1 else 0 := fun x y => by simp [aluV]
  simp only [e7, e8, m32_id ha, m32_id hb, m32_id hc]
  rcases Int.lt_trichotomy a b with h | h | h
  · left
    refine ⟨if_pos h, if_neg (by omega), if_neg (by omega), h, ?_⟩
    by_cases h2 : b < c
    · right; exact ⟨if_pos h2, if_pos (by omega)⟩
    · left; exact if_neg h2
  · right
    exact ⟨if_neg (by omega), by omega, .inr ⟨if_neg (by omega), if_pos h⟩⟩
  · right
    exact ⟨if_neg (by omega), by omega, .inl ⟨if_pos h, if_neg (by omega)⟩⟩

set_option maxRecDepth 100000 in
set_option maxHeartbeats 1600000 in
theorem walk (a b c : Int) (w : World) (wa : (Lit.int .u32 a).wf = true) (wb : (Lit.int .u32 b).wf = true) (wc : (Lit.int .u32 c).wf = true) :
    Calls Try.prog 8 #[.int .u32 a, .int .u32 b, .int .u32 c] w fun e w' => e = .returned (.bool true) ∧ Below w.heap.size w w' := by
  have Ha := Lib.hid (u32_of_wf wa)
  have Hb := Lib.hid (u32_of_wf wb)
  have Hc := Lib.hid (u32_of_wf wc)
  rcases order_facts a b c Ha.out Hb.out Hc.out with ⟨f1, f2, f3, f4, f5⟩ | ⟨f1, f4, f5⟩
  all_goals
    rcases f5 with f5 | f5
    all_goals
      clear wa wb wc
      try obtain ⟨f6, f7⟩ := f5
      go_enter Try.func8, Try.ntmps8
      go_wp2_with fail
      refine (head20_true _).mono ?_
      rintro e w1 ⟨rfl, B1⟩
      go_wp2_with (go_at_call 18; refine (do_b _ _ _ (w0 := w) _ (by assumption) (by first | exact Ha.out | exact Hb.out | exact Hc.out | exact aluV_in _ _ _) (by first | exact Ha.out | exact Hb.out | exact Hc.out | exact aluV_in _ _ _)).mono ?_; rintro e w' ⟨rfl, hb⟩)
      go_ret
      refine ⟨congrArg Ending.returned (congrArg Value.bool ?_), by assumption⟩
      first | rfl | (simp; done) | (simp; omega)

set_option maxRecDepth 100000 in
theorem lifted (os : Os) (started : os.Started) (H : Type) (enc : TypeId × Value → H) :
    ReturnsInHanded {} Try.checked os 8 .any (Rows.aluOrderSpec.pre6 enc Try.prog Try.f8 Rows.aluOrderRow.domain false) (Rows.aluOrderSpec.post enc Try.prog Try.f8 false true false false) := by
  refine returnsInHanded_of_change (C := Try.checked) own started (by kernel_rfl) Try.func8
    (ChangeSpec.witness6 (enc := enc) (C := Try.checked) false ⟨#[], #[.int .u32 0, .int .u32 0, .int .u32 0], []⟩ 8 (by kernel_rfl) (by kernel_rfl) (by kernel_rfl) (by kernel_rfl)) ?_
  intro W base args ds gs before hval0 hW hcnd _
  have hval : ∀ (j : Nat) t v, Try.f8.params[j]? = some t → args[j]? = some v → Value.okWide Try.prog W .any base t v := hval0
  have hW' := hW
  obtain ⟨p, q, hA0, hV, rfl, hfz, hnd⟩ := hW
  have hA : DataW.TrodAll enc Try.prog W 0 (fun _ => true) true Try.f8.params.toList args.toList ds p := hA0
  rw [Try.params8] at hA hval
  obtain ⟨v0, vs0, d0, ds0, p0, q0, hargs, rfl, rfl, h0, r0⟩ := trodAll_cons hA
  obtain ⟨v1, vs1, d1, ds1, p1, q1, rfl, rfl, rfl, h1, r1⟩ := trodAll_cons r0
  obtain ⟨v2, vs2, d2, ds2, p2, q2, rfl, rfl, rfl, h2, r2⟩ := trodAll_cons r1
  obtain ⟨rfl, rfl, rfl⟩ := trodAll_nil r2
  obtain rfl : args = #[v0, v1, v2] := by cases args; simp_all
  obtain ⟨rfl, rfl⟩ := trodVars_none hV
  have k0 := h0
  have lt0 : ∀ x ∈ p0, x.block < W.heap.size := by obtain ⟨m, hm⟩ := k0; exact DataW.trod_lt m _ _ _ hm
  obtain ⟨x0, rfl, _, _, w0⟩ := open_int Try.underlying31 (hval 0 31 v0 rfl rfl) h0
  have k1 := h1
  have lt1 : ∀ x ∈ p1, x.block < W.heap.size := by obtain ⟨m, hm⟩ := k1; exact DataW.trod_lt m _ _ _ hm
  obtain ⟨x1, rfl, _, _, w1⟩ := open_int Try.underlying31 (hval 1 31 v1 rfl rfl) h1
  have k2 := h2
  have lt2 : ∀ x ∈ p2, x.block < W.heap.size := by obtain ⟨m, hm⟩ := k2; exact DataW.trod_lt m _ _ _ hm
  obtain ⟨x2, rfl, _, _, w2⟩ := open_int Try.underlying31 (hval 2 31 v2 rfl rfl) h2
  clear hA0 hval0
  refine (walk x0 x1 x2 W w0 w1 w2).mono fun e W' ⟨he, bel⟩ => ?_
  subst he
  exact ⟨_, rfl, _, _, _, [], _, [], hW', trodAll_mk1 (shut_bool Try.underlying4 _), (trodAll_cons_mk (Below.trod laidOut (by kernel_rfl) (of_decide_eq_true (by kernel_rfl)) k0 bel lt0) (trodAll_cons_mk (Below.trod laidOut (by kernel_rfl) (of_decide_eq_true (by kernel_rfl)) k1 bel lt1) (trodAll_cons_mk (Below.trod laidOut (by kernel_rfl) (of_decide_eq_true (by kernel_rfl)) k2 bel lt2) trodAll_mk0))), rfl, bel.frame _, fun h => by cases h⟩

theorem over : Rows.aluOrderRow.holds Try.pinned (OpenSpec.ofChange Rows.aluOrderSpec) :=
  OpenClaim.holds_of_wide 8 Try.f8 rfl rfl rfl rfl rfl rfl rfl ⟨rfl, rfl, rfl, rfl, rfl⟩ rfl rfl rfl rfl rfl (by kernel_rfl) Try.func8 (by kernel_rfl)
    (of_decide_eq_true (by kernel_rfl)) (by unfold Func.isWrapper; rw [if_neg (of_decide_eq_false (by kernel_rfl))]; exact ⟨rfl, rfl⟩)
    (fun os started H enc _ => lifted os started H enc)

/-- The statement. -/
theorem proved : Rows.AluOrderSaid := over

#print axioms proved
end Go.Proofs.Ytphkljlbadpknaa.AluOrder
