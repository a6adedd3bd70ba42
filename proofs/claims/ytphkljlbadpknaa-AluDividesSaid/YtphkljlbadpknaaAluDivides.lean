/-
  AluDivides: for every two 32-bit numbers the law returns true, and each argument reads as it did. Condition: none.
-/
import Derived.Test.YtphkljlbadpknaaRows
import Derived.Test.YtphkljlbadpknaaAluG
set_option linter.unusedVariables false
set_option linter.unusedSimpArgs false
namespace Go.Proofs.Ytphkljlbadpknaa.AluDivides
open Go.ChangeShapes Go.WideShapes Go.ChangeAt Go.RowKit Go.Proofs.Ytphkljlbadpknaa

theorem own : ownKnob Try.prog.godebug = none := by kernel_rfl
theorem laidOut : laidOutB Try.prog = true := by kernel_rfl

theorem div_facts (a b : Int) (ha : 0 ≤ a ∧ a ≤ 4294967295) (hb : 0 ≤ b ∧ b ≤ 4294967295) (h0 : b ≠ 0) :
    ∃ q L S : Int, aluV 6 a b = q ∧ aluV 7 a b = L ∧ aluV 8 a b = S ∧ aluE 6 b = 0 ∧ 0 ≤ q ∧ q ≤ 4294967295 ∧ 0 ≤ q * b ∧ q * b ≤ a ∧ a - q * b < b ∧ ((L == 1) = (q == 0)) ∧ ((S == 1) = (a == b)) := by
  have e7 : aluV 7 a b = if a < b then 1 else 0 := by simp [aluV, m32_id ha, m32_id hb]
  have e8 : aluV 8 a b = if a = b then 1 else 0 := by simp [aluV, m32_id ha, m32_id hb]
  have e6 : aluV 6 a b = a / b := by simp [aluV, m32_id ha, m32_id hb, h0]
  have e : aluE 6 b = 0 := by simp [aluE, m32_id hb, h0]
  have hq := div_le ha (y := b) (by omega)
  have hm := Int.emod_nonneg a h0
  have hl := Int.emod_lt_of_pos a (show 0 < b by omega)
  have hd := Int.mul_ediv_add_emod a b
  have hqm : 0 ≤ b * (a / b) := Int.mul_nonneg hb.1 hq.1
  refine ⟨a / b, _, _, e6, e7, e8, e, hq.1, by omega, by rw [Int.mul_comm]; exact hqm, by rw [Int.mul_comm]; omega, by rw [Int.mul_comm]; omega, ?_, ?_⟩
  · by_cases h : a < b
    · rw [if_pos h, Int.ediv_eq_zero_of_lt ha.1 h]; rfl
    · have : a / b ≠ 0 := by
        intro e0
        rw [e0, Int.mul_zero] at hd
        omega
      rw [if_neg h, beq_eq_false_iff_ne.2 this]; rfl
  · by_cases h : a = b
    · rw [if_pos h, beq_iff_eq.2 h]; rfl
    · rw [if_neg h, beq_eq_false_iff_ne.2 h]; rfl

set_option maxRecDepth 100000 in
set_option maxHeartbeats 1600000 in
theorem walk (a b : Int) (w : World) (wa : (Lit.int .u32 a).wf = true) (wb : (Lit.int .u32 b).wf = true) :
    Calls Try.prog 5 #[.int .u32 a, .int .u32 b] w fun e w' => e = .returned (.bool true) ∧ Below w.heap.size w w' := by
  have ha := u32_of_wf wa
  have hb := u32_of_wf wb
  clear wa wb
  by_cases h0 : b = 0
  · subst h0
    obtain ⟨a0, a1⟩ := ha
    have e6 : aluV 6 a 0 = 0 := by simp [aluV, m32]
    have e : aluE 6 0 = 201 := by decide
    clear hb
    go_enter Try.func5, Try.ntmps5
    go_wp2_with fail
    refine (head20_true _).mono ?_
    rintro e w1 ⟨rfl, B1⟩
    go_wp2_with fail
    refine (do_all 6 a 0 _).mono ?_
    rintro e w2 ⟨rfl, b2⟩
    have B2 := below_then B1 B1.size b2
    clear B1 b2
    go_wp2
    go_ret
    exact ⟨rfl, B2⟩
  · obtain ⟨q, L, S, f1, f2, f3, f4, q0, q1, q2, q3, q4, q5, q6⟩ := div_facts a b ha hb h0
    have hz : (b == 0) = false := beq_eq_false_iff_ne.2 h0
    have F1 := Lib.hid f1
    have F2 := Lib.hid f2
    have F3 := Lib.hid f3
    have F4 := Lib.hid f4
    obtain ⟨a0, a1⟩ := ha
    obtain ⟨b0, b1⟩ := hb
    clear f1 f2 f3 f4 h0
    have q7 : a - q * b ≤ 4294967295 := by omega
    have q8 : q * b ≤ 4294967295 := by omega
    go_enter Try.func5, Try.ntmps5
    go_wp2_with fail
    refine (head20_true _).mono ?_
    rintro e w1 ⟨rfl, B1⟩
    go_wp2_with fail
    refine (do_all 6 a b _).mono ?_
    rintro e w2 ⟨rfl, b2⟩
    rw [F1.out, F4.out]
    have B2 := below_then B1 B1.size b2
    clear B1 b2
    go_wp2_with fail
    refine (do_all 7 a b _).mono ?_
    rintro e w3 ⟨rfl, b3⟩
    rw [F2.out]
    have B3 := below_then B2 B2.size b3
    clear B2 b3
    go_wp2_with fail
    refine (do_all 8 a b _).mono ?_
    rintro e w4 ⟨rfl, b4⟩
    rw [F3.out]
    have B4 := below_then B3 B3.size b4
    clear B3 b4
    go_wp2
    go_ret
    exact ⟨rfl, B4⟩

set_option maxRecDepth 100000 in
theorem lifted (os : Os) (started : os.Started) (H : Type) (enc : TypeId × Value → H) :
    ReturnsInHanded {} Try.checked os 5 .any (Rows.aluDividesSpec.pre6 enc Try.prog Try.f5 Rows.aluDividesRow.domain false) (Rows.aluDividesSpec.post enc Try.prog Try.f5 false true false false) := by
  refine returnsInHanded_of_change (C := Try.checked) own started (by kernel_rfl) Try.func5
    (ChangeSpec.witness6 (enc := enc) (C := Try.checked) false ⟨#[], #[.int .u32 0, .int .u32 0], []⟩ 8 (by kernel_rfl) (by kernel_rfl) (by kernel_rfl) (by kernel_rfl)) ?_
  intro W base args ds gs before hval0 hW hcnd _
  have hval : ∀ (j : Nat) t v, Try.f5.params[j]? = some t → args[j]? = some v → Value.okWide Try.prog W .any base t v := hval0
  have hW' := hW
  obtain ⟨p, q, hA0, hV, rfl, hfz, hnd⟩ := hW
  have hA : DataW.TrodAll enc Try.prog W 0 (fun _ => true) true Try.f5.params.toList args.toList ds p := hA0
  rw [Try.params5] at hA hval
  obtain ⟨v0, vs0, d0, ds0, p0, q0, hargs, rfl, rfl, h0, r0⟩ := trodAll_cons hA
  obtain ⟨v1, vs1, d1, ds1, p1, q1, rfl, rfl, rfl, h1, r1⟩ := trodAll_cons r0
  obtain ⟨rfl, rfl, rfl⟩ := trodAll_nil r1
  obtain rfl : args = #[v0, v1] := by cases args; simp_all
  obtain ⟨rfl, rfl⟩ := trodVars_none hV
  have k0 := h0
  have lt0 : ∀ x ∈ p0, x.block < W.heap.size := by obtain ⟨m, hm⟩ := k0; exact DataW.trod_lt m _ _ _ hm
  obtain ⟨x0, rfl, _, _, w0⟩ := open_int Try.underlying31 (hval 0 31 v0 rfl rfl) h0
  have k1 := h1
  have lt1 : ∀ x ∈ p1, x.block < W.heap.size := by obtain ⟨m, hm⟩ := k1; exact DataW.trod_lt m _ _ _ hm
  obtain ⟨x1, rfl, _, _, w1⟩ := open_int Try.underlying31 (hval 1 31 v1 rfl rfl) h1
  clear hA0 hval0
  refine (walk x0 x1 W w0 w1).mono fun e W' ⟨he, bel⟩ => ?_
  subst he
  exact ⟨_, rfl, _, _, _, [], _, [], hW', trodAll_mk1 (shut_bool Try.underlying4 _), (trodAll_cons_mk (Below.trod laidOut (by kernel_rfl) (of_decide_eq_true (by kernel_rfl)) k0 bel lt0) (trodAll_cons_mk (Below.trod laidOut (by kernel_rfl) (of_decide_eq_true (by kernel_rfl)) k1 bel lt1) trodAll_mk0)), rfl, bel.frame _, fun h => by cases h⟩

theorem over : Rows.aluDividesRow.holds Try.pinned (OpenSpec.ofChange Rows.aluDividesSpec) :=
  OpenClaim.holds_of_wide 5 Try.f5 rfl rfl rfl rfl rfl rfl rfl ⟨rfl, rfl, rfl, rfl, rfl⟩ rfl rfl rfl rfl rfl (by kernel_rfl) Try.func5 (by kernel_rfl)
    (of_decide_eq_true (by kernel_rfl)) (by unfold Func.isWrapper; rw [if_neg (of_decide_eq_false (by kernel_rfl))]; exact ⟨rfl, rfl⟩)
    (fun os started H enc _ => lifted os started H enc)

/-- The statement. -/
theorem proved : Rows.AluDividesSaid := over

#print axioms proved
end Go.Proofs.Ytphkljlbadpknaa.AluDivides
