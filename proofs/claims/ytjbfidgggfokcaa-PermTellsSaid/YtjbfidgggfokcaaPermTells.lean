/-
  PermTells: for every two numbers and every text the law returns true, and each argument reads as it did. Condition: none.
-/
import Derived.Test.YtjbfidgggfokcaaRows
import Derived.Test.YtjbfidgggfokcaaPermJ
set_option linter.unusedVariables false
set_option linter.unusedSimpArgs false
namespace Go.Proofs.Ytjbfidgggfokcaa.PermTells
open Go.ChangeShapes Go.WideShapes Go.ChangeAt Go.RowKit Go.Proofs.Ytjbfidgggfokcaa
open Go.ChangeMaps (open_string)

theorem own : ownKnob Try.prog.godebug = none := by kernel_rfl
theorem laidOut : laidOutB Try.prog = true := by kernel_rfl

set_option maxRecDepth 100000 in
set_option maxHeartbeats 3200000 in
theorem walk (p q : Int) (s : ByteArray) (w : World) (wp : (Lit.int .i64 p).wf = true) (wq : (Lit.int .i64 q).wf = true) (hs : s.size ≤ maxLen) :
    Calls Try.prog 3 #[.int .i64 p, .int .i64 q, .string s] w fun e w' => e = .returned (.bool true) ∧ Below w.heap.size w w' := by
  unfold maxLen at hs
  have hp := Lib.hid (inI_of_wf wp)
  have hq := Lib.hid (inI_of_wf wq)
  clear wp wq
  go_enter Try.func3, Try.ntmps3
  go_wp2_with fail
  refine (head1_true _).mono ?_
  rintro e w1 ⟨rfl, B1⟩
  by_cases h : (s.size : Int) ≤ 900
  · go_wp2_with fail
    refine (parse_any s _ (by omega)).mono ?_
    rintro e w2 ⟨rfl, b2⟩
    have B2 := below_then B1 B1.size b2
    clear B1 b2
    have rp := ref_parse s w2
    obtain ⟨N, hN⟩ : ∃ N, N = pvN s := ⟨_, rfl⟩
    obtain ⟨I, hI⟩ : ∃ I, I = pvB s := ⟨_, rfl⟩
    rw [← hN, ← hI] at rp ⊢
    clear hN hI
    go_wp2_with fail
    refine rp.mono ?_
    rintro e w3 ⟨rfl, rfl⟩
    clear rp
    go_wp2_with fail
    refine (perm_right p _ hp.out).mono ?_
    rintro e w4 ⟨rfl, rfl⟩
    go_wp2_with fail
    refine (ref_perm p _).mono ?_
    rintro e w5 ⟨rfl, rfl⟩
    generalize permB p = X1
    go_wp2_with fail
    refine (has_any p q _ hp.out hq.out).mono ?_
    rintro e w6 ⟨rfl, rfl⟩
    go_wp2_with fail
    refine (ref_has p q _ hp.out hq.out).mono ?_
    rintro e w7 ⟨rfl, rfl⟩
    generalize hasP p q = X2
    go_wp2_with fail
    refine (text_any p _ hp.out).mono ?_
    rintro e w8 ⟨rfl, b8⟩
    have B8 := below_then B2 B2.size b8
    clear B2 b8
    go_wp2_with fail
    refine (ref_text p _ hp.out).mono ?_
    rintro e w9 ⟨rfl, rfl⟩
    generalize strB (textL p) = X3
    go_wp2_with fail
    refine (many_any p _ hp.out).mono ?_
    rintro e w10 ⟨rfl, rfl⟩
    go_wp2_with fail
    refine (ref_many p _ hp.out).mono ?_
    rintro e w11 ⟨rfl, rfl⟩
    generalize manyP p = X4
    go_wp2
    go_ret
    exact ⟨rfl, B8⟩
  · go_wp2
    go_ret
    exact ⟨rfl, B1⟩

set_option maxRecDepth 100000 in
theorem lifted (os : Os) (started : os.Started) (H : Type) (enc : TypeId × Value → H) :
    ReturnsInHanded {} Try.checked os 3 .any (Rows.permTellsSpec.pre6 enc Try.prog Try.f3 Rows.permTellsRow.domain false) (Rows.permTellsSpec.post enc Try.prog Try.f3 false true false false) := by
  refine returnsInHanded_of_change (C := Try.checked) own started (by kernel_rfl) Try.func3
    (ChangeSpec.witness6 (enc := enc) (C := Try.checked) false ⟨#[], #[.int .i64 0, .int .i64 0, .string ByteArray.empty], []⟩ 8 (by kernel_rfl) (by kernel_rfl) (by kernel_rfl) (by kernel_rfl)) ?_
  intro W base args ds gs before hval0 hW hcnd _
  have hval : ∀ (j : Nat) t v, Try.f3.params[j]? = some t → args[j]? = some v → Value.okWide Try.prog W .any base t v := hval0
  have hW' := hW
  obtain ⟨p, q, hA0, hV, rfl, hfz, hnd⟩ := hW
  have hA : DataW.TrodAll enc Try.prog W 0 (fun _ => true) true Try.f3.params.toList args.toList ds p := hA0
  rw [Try.params3] at hA hval
  obtain ⟨v0, vs0, d0, ds0, p0, q0, hargs, rfl, rfl, h0, r0⟩ := trodAll_cons hA
  obtain ⟨v1, vs1, d1, ds1, p1, q1, rfl, rfl, rfl, h1, r1⟩ := trodAll_cons r0
  obtain ⟨v2, vs2, d2, ds2, p2, q2, rfl, rfl, rfl, h2, r2⟩ := trodAll_cons r1
  obtain ⟨rfl, rfl, rfl⟩ := trodAll_nil r2
  obtain rfl : args = #[v0, v1, v2] := by cases args; simp_all
  obtain ⟨rfl, rfl⟩ := trodVars_none hV
  have k0 := h0
  have lt0 : ∀ x ∈ p0, x.block < W.heap.size := by obtain ⟨m, hm⟩ := k0; exact DataW.trod_lt m _ _ _ hm
  obtain ⟨x0, rfl, _, _, w0⟩ := open_int Try.underlying3 (hval 0 3 v0 rfl rfl) h0
  have k1 := h1
  have lt1 : ∀ x ∈ p1, x.block < W.heap.size := by obtain ⟨m, hm⟩ := k1; exact DataW.trod_lt m _ _ _ hm
  obtain ⟨x1, rfl, _, _, w1⟩ := open_int Try.underlying3 (hval 1 3 v1 rfl rfl) h1
  have k2 := h2
  have lt2 : ∀ x ∈ p2, x.block < W.heap.size := by obtain ⟨m, hm⟩ := k2; exact DataW.trod_lt m _ _ _ hm
  obtain ⟨x2, rfl, _, _, hs2⟩ := open_string Try.underlying9 (hval 2 9 v2 rfl rfl) h2
  clear hA0 hval0
  refine (walk x0 x1 x2 W w0 w1 hs2).mono fun e W' ⟨he, bel⟩ => ?_
  subst he
  exact ⟨_, rfl, _, _, _, [], _, [], hW', trodAll_mk1 (shut_bool Try.underlying4 _), (trodAll_cons_mk (Below.trod laidOut (by kernel_rfl) (of_decide_eq_true (by kernel_rfl)) k0 bel lt0) (trodAll_cons_mk (Below.trod laidOut (by kernel_rfl) (of_decide_eq_true (by kernel_rfl)) k1 bel lt1) (trodAll_cons_mk (Below.trod laidOut (by kernel_rfl) (of_decide_eq_true (by kernel_rfl)) k2 bel lt2) trodAll_mk0))), rfl, bel.frame _, fun h => by cases h⟩

theorem over : Rows.permTellsRow.holds Try.pinned (OpenSpec.ofChange Rows.permTellsSpec) :=
  OpenClaim.holds_of_wide 3 Try.f3 rfl rfl rfl rfl rfl rfl rfl ⟨rfl, rfl, rfl, rfl, rfl⟩ rfl rfl rfl rfl rfl (by kernel_rfl) Try.func3 (by kernel_rfl)
    (of_decide_eq_true (by kernel_rfl)) (by unfold Func.isWrapper; rw [if_neg (of_decide_eq_false (by kernel_rfl))]; exact ⟨rfl, rfl⟩)
    (fun os started H enc _ => lifted os started H enc)

/-- The statement. -/
theorem proved : Rows.PermTellsSaid := over

#print axioms proved
end Go.Proofs.Ytjbfidgggfokcaa.PermTells
