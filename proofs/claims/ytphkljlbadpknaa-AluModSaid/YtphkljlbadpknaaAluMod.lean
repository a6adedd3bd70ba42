/-
  AluMod: for every instruction, every two numbers and every two multiples of 2 to the 32nd the law returns true, and each argument reads as it did. Condition: none.
-/
import Derived.Test.YtphkljlbadpknaaRows
import Derived.Test.YtphkljlbadpknaaAluG
set_option linter.unusedVariables false
set_option linter.unusedSimpArgs false
namespace Go.Proofs.Ytphkljlbadpknaa.AluMod
open Go.ChangeShapes Go.WideShapes Go.ChangeAt Go.RowKit Go.Proofs.Ytphkljlbadpknaa

theorem own : ownKnob Try.prog.godebug = none := by kernel_rfl
theorem laidOut : laidOutB Try.prog = true := by kernel_rfl

theorem i32_of_wf {n : Int} (h : (Lit.int .i32 n).wf = true) : -2147483648 ≤ n ∧ n ≤ 2147483647 := by
  simp [Lit.wf, IntKind.min, IntKind.max, IntKind.signed, IntKind.bits] at h
  omega
theorem i8_of_wf {n : Int} (h : (Lit.int .i8 n).wf = true) : -128 ≤ n ∧ n ≤ 127 := by
  simp [Lit.wf, IntKind.min, IntKind.max, IntKind.signed, IntKind.bits] at h
  omega
theorem u8_wf {n : Int} (h : (Lit.int .u8 n).wf = true) : 0 ≤ n ∧ n ≤ 255 := by
  simp [Lit.wf, IntKind.min, IntKind.max, IntKind.signed, IntKind.bits] at h
  omega
theorem err_is (k b : Int) : (aluE k b != 151) = decide (3 ≤ k ∧ k ≤ 8) := by
  unfold aluE
  by_cases h : 3 ≤ k ∧ k ≤ 8
  · rw [if_pos h, decide_eq_true h]
    split <;> rfl
  · rw [if_neg h, decide_eq_false h]; rfl

set_option maxRecDepth 100000 in
set_option maxHeartbeats 1600000 in
theorem walk (op a b n m : Int) (w : World) (wo : (Lit.int .u8 op).wf = true) (wa : (Lit.int .i32 a).wf = true) (wb : (Lit.int .i32 b).wf = true) (wn : (Lit.int .i8 n).wf = true) (wm : (Lit.int .i8 m).wf = true) :
    Calls Try.prog 6 #[.int .u8 op, .int .i32 a, .int .i32 b, .int .i8 n, .int .i8 m] w fun e w' => e = .returned (.bool true) ∧ Below w.heap.size w w' := by
  obtain ⟨o0, o1⟩ := u8_wf wo
  obtain ⟨a0, a1⟩ := i32_of_wf wa
  obtain ⟨b0, b1⟩ := i32_of_wf wb
  obtain ⟨n0, n1⟩ := i8_of_wf wn
  obtain ⟨m0, m1⟩ := i8_of_wf wm
  clear wo wa wb wn wm
  have hv := aluV_mod (op % 32) a b (a + n * 4294967296) (b + m * 4294967296) (by unfold m32; omega) (by unfold m32; omega)
  have he := aluE_mod (op % 32) b (b + m * 4294967296) (by unfold m32; omega)
  have hi := err_is (op % 32) b
  obtain ⟨v0, v1⟩ := aluV_in (op % 32) a b
  have k0 : 0 ≤ op % 32 := by omega
  have k1 : op % 32 ≤ 31 := by omega
  have d1 := fun w => do_all (op % 32) a b w
  have d2 := fun w => do_all (op % 32) (a + n * 4294967296) (b + m * 4294967296) w
  have d3 := fun w => is_all (op % 32) w
  rw [← hv, ← he] at d2
  rw [← hi] at d3
  generalize aluV (op % 32) a b = V at *
  generalize aluE (op % 32) b = X at *
  clear hv he hi
  have D1 := Lib.hid d1
  have D2 := Lib.hid d2
  have D3 := Lib.hid d3
  clear d1 d2 d3
  go_enter Try.func6, Try.ntmps6
  go_wp2_with fail
  refine (head20_true _).mono ?_
  rintro e w1 ⟨rfl, B1⟩
  go_wp2_with fail
  refine (D1.out _).mono ?_
  rintro e w2 ⟨rfl, b2⟩
  have B2 := below_then B1 B1.size b2
  clear B1 b2
  go_wp2_with fail
  refine (D2.out _).mono ?_
  rintro e w3 ⟨rfl, b3⟩
  have B3 := below_then B2 B2.size b3
  clear B2 b3
  go_wp2_with fail
  refine (D3.out _).mono ?_
  rintro e w4 ⟨rfl, b4⟩
  have B4 := below_then B3 B3.size b4
  clear B3 b4
  go_wp2
  go_ret
  exact ⟨rfl, B4⟩

set_option maxRecDepth 100000 in
theorem lifted (os : Os) (started : os.Started) (H : Type) (enc : TypeId × Value → H) :
    ReturnsInHanded {} Try.checked os 6 .any (Rows.aluModSpec.pre6 enc Try.prog Try.f6 Rows.aluModRow.domain false) (Rows.aluModSpec.post enc Try.prog Try.f6 false true false false) := by
  refine returnsInHanded_of_change (C := Try.checked) own started (by kernel_rfl) Try.func6
    (ChangeSpec.witness6 (enc := enc) (C := Try.checked) false ⟨#[], #[.int .u8 0, .int .i32 0, .int .i32 0, .int .i8 0, .int .i8 0], []⟩ 8 (by kernel_rfl) (by kernel_rfl) (by kernel_rfl) (by kernel_rfl)) ?_
  intro W base args ds gs before hval0 hW hcnd _
  have hval : ∀ (j : Nat) t v, Try.f6.params[j]? = some t → args[j]? = some v → Value.okWide Try.prog W .any base t v := hval0
  have hW' := hW
  obtain ⟨p, q, hA0, hV, rfl, hfz, hnd⟩ := hW
  have hA : DataW.TrodAll enc Try.prog W 0 (fun _ => true) true Try.f6.params.toList args.toList ds p := hA0
  rw [Try.params6] at hA hval
  obtain ⟨v0, vs0, d0, ds0, p0, q0, hargs, rfl, rfl, h0, r0⟩ := trodAll_cons hA
  obtain ⟨v1, vs1, d1, ds1, p1, q1, rfl, rfl, rfl, h1, r1⟩ := trodAll_cons r0
  obtain ⟨v2, vs2, d2, ds2, p2, q2, rfl, rfl, rfl, h2, r2⟩ := trodAll_cons r1
  obtain ⟨v3, vs3, d3, ds3, p3, q3, rfl, rfl, rfl, h3, r3⟩ := trodAll_cons r2
  obtain ⟨v4, vs4, d4, ds4, p4, q4, rfl, rfl, rfl, h4, r4⟩ := trodAll_cons r3
  obtain ⟨rfl, rfl, rfl⟩ := trodAll_nil r4
  obtain rfl : args = #[v0, v1, v2, v3, v4] := by cases args; simp_all
  obtain ⟨rfl, rfl⟩ := trodVars_none hV
  have k0 := h0
  have lt0 : ∀ x ∈ p0, x.block < W.heap.size := by obtain ⟨m, hm⟩ := k0; exact DataW.trod_lt m _ _ _ hm
  obtain ⟨x0, rfl, _, _, w0⟩ := open_int Try.underlying5 (hval 0 5 v0 rfl rfl) h0
  have k1 := h1
  have lt1 : ∀ x ∈ p1, x.block < W.heap.size := by obtain ⟨m, hm⟩ := k1; exact DataW.trod_lt m _ _ _ hm
  obtain ⟨x1, rfl, _, _, w1⟩ := open_int Try.underlying21 (hval 1 21 v1 rfl rfl) h1
  have k2 := h2
  have lt2 : ∀ x ∈ p2, x.block < W.heap.size := by obtain ⟨m, hm⟩ := k2; exact DataW.trod_lt m _ _ _ hm
  obtain ⟨x2, rfl, _, _, w2⟩ := open_int Try.underlying21 (hval 2 21 v2 rfl rfl) h2
  have k3 := h3
  have lt3 : ∀ x ∈ p3, x.block < W.heap.size := by obtain ⟨m, hm⟩ := k3; exact DataW.trod_lt m _ _ _ hm
  obtain ⟨x3, rfl, _, _, w3⟩ := open_int Try.underlying35 (hval 3 35 v3 rfl rfl) h3
  have k4 := h4
  have lt4 : ∀ x ∈ p4, x.block < W.heap.size := by obtain ⟨m, hm⟩ := k4; exact DataW.trod_lt m _ _ _ hm
  obtain ⟨x4, rfl, _, _, w4⟩ := open_int Try.underlying35 (hval 4 35 v4 rfl rfl) h4
  clear hA0 hval0
  refine (walk x0 x1 x2 x3 x4 W w0 w1 w2 w3 w4).mono fun e W' ⟨he, bel⟩ => ?_
  subst he
  exact ⟨_, rfl, _, _, _, [], _, [], hW', trodAll_mk1 (shut_bool Try.underlying4 _), (trodAll_cons_mk (Below.trod laidOut (by kernel_rfl) (of_decide_eq_true (by kernel_rfl)) k0 bel lt0) (trodAll_cons_mk (Below.trod laidOut (by kernel_rfl) (of_decide_eq_true (by kernel_rfl)) k1 bel lt1) (trodAll_cons_mk (Below.trod laidOut (by kernel_rfl) (of_decide_eq_true (by kernel_rfl)) k2 bel lt2) (trodAll_cons_mk (Below.trod laidOut (by kernel_rfl) (of_decide_eq_true (by kernel_rfl)) k3 bel lt3) (trodAll_cons_mk (Below.trod laidOut (by kernel_rfl) (of_decide_eq_true (by kernel_rfl)) k4 bel lt4) trodAll_mk0))))), rfl, bel.frame _, fun h => by cases h⟩

theorem over : Rows.aluModRow.holds Try.pinned (OpenSpec.ofChange Rows.aluModSpec) :=
  OpenClaim.holds_of_wide 6 Try.f6 rfl rfl rfl rfl rfl rfl rfl ⟨rfl, rfl, rfl, rfl, rfl⟩ rfl rfl rfl rfl rfl (by kernel_rfl) Try.func6 (by kernel_rfl)
    (of_decide_eq_true (by kernel_rfl)) (by unfold Func.isWrapper; rw [if_neg (of_decide_eq_false (by kernel_rfl))]; exact ⟨rfl, rfl⟩)
    (fun os started H enc _ => lifted os started H enc)

/-- The statement. -/
theorem proved : Rows.AluModSaid := over

#print axioms proved
end Go.Proofs.Ytphkljlbadpknaa.AluMod
