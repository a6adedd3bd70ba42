/-
  PermMany: for every two bytes the law returns true, and each argument reads as it did. Condition: none.
-/
import Derived.Test.YtjbfidgggfokcaaRows
import Derived.Test.YtjbfidgggfokcaaPermJ
set_option linter.unusedVariables false
set_option linter.unusedSimpArgs false
namespace Go.Proofs.Ytjbfidgggfokcaa.PermMany
open Go.ChangeShapes Go.WideShapes Go.ChangeAt Go.RowKit Go.Proofs.Ytjbfidgggfokcaa
open Go.ChangeMaps (open_string)

theorem own : ownKnob Try.prog.godebug = none := by kernel_rfl
theorem laidOut : laidOutB Try.prog = true := by kernel_rfl

theorem of2 (a b : Nat) (ha : a < 128) (hb : b < 128) (W : World) : Calls Try.prog 21 #[.slice (some ⟨W.heap.size, 0, none⟩) 2 2] (W.alloc (.cells #[.int .i64 a, .int .i64 b] 3)) fun e w' => e = .returned (.int .i64 (a ||| b : Nat)) ∧ w' = W.alloc (.cells #[.int .i64 a, .int .i64 b] 3) := by
  have r := RowI.blk (Blk.new W (i64s [(a : Int), (b : Int)]).toArray 3) (by intro x hx; simp at hx; rcases hx with rfl | rfl <;> (constructor <;> omega))
  have h := of_row _ _ _ r (by show (2 : Int) ≤ 4611686018427387904; decide)
  rw [ofL_two ha hb] at h
  exact h
theorem of3 (a b c : Nat) (ha : a < 128) (hb : b < 128) (hc : c < 128) (W : World) : Calls Try.prog 21 #[.slice (some ⟨W.heap.size, 0, none⟩) 3 3] (W.alloc (.cells #[.int .i64 a, .int .i64 b, .int .i64 c] 3)) fun e w' => e = .returned (.int .i64 (a ||| b ||| c : Nat)) ∧ w' = W.alloc (.cells #[.int .i64 a, .int .i64 b, .int .i64 c] 3) := by
  have r := RowI.blk (Blk.new W (i64s [(a : Int), (b : Int), (c : Int)]).toArray 3) (by intro x hx; simp at hx; rcases hx with rfl | rfl | rfl <;> (constructor <;> omega))
  have h := of_row _ _ _ r (by show (3 : Int) ≤ 4611686018427387904; decide)
  rw [ofL_three ha hb hc] at h
  exact h

set_option maxRecDepth 100000 in
set_option maxHeartbeats 3200000 in
theorem walk (x y : Int) (w : World) (wx : (Lit.int .u8 x).wf = true) (wy : (Lit.int .u8 y).wf = true) :
    Calls Try.prog 8 #[.int .u8 x, .int .u8 y] w fun e w' => e = .returned (.bool true) ∧ Below w.heap.size w w' := by
  obtain ⟨a, ha, ea⟩ := and127 (u8_of_wf wx).1 (u8_of_wf wx).2
  obtain ⟨b, hb, eb⟩ := and127 (u8_of_wf wy).1 (u8_of_wf wy).2
  obtain ⟨x0, x1⟩ := u8_of_wf wx
  obtain ⟨y0, y1⟩ := u8_of_wf wy
  have P1 := Lib.hid (of2 a b ha hb)
  have hO := or_lt ha hb
  have hand := i64_and_nat a b (by omega) (by omega)
  have hL : a &&& b < 128 := Nat.lt_of_le_of_lt Nat.and_le_left ha
  obtain ⟨n1, n2⟩ := cnt_or ⟨a, ha⟩ ⟨b, hb⟩
  have n3 := cnt_not ⟨a, ha⟩
  simp only at n1 n2 n3
  have n4 := hasP_nat ha hb
  rw [n2] at n4
  have hsub : ((127 : Int) - a) = ((127 - a : Nat) : Int) := by omega
  have m1 := fun W => many_any ((a ||| b : Nat) : Int) W ⟨by omega, by omega⟩
  have m2 := fun W => many_any (a : Int) W ⟨by omega, by omega⟩
  have m3 := fun W => many_any (b : Int) W ⟨by omega, by omega⟩
  have m4 := fun W => many_any ((a &&& b : Nat) : Int) W ⟨by omega, by omega⟩
  have m5 := fun W => many_any ((127 - a : Nat) : Int) W ⟨by omega, by omega⟩
  have h6 := fun W => has_any (a : Int) (b : Int) W ⟨by omega, by omega⟩ ⟨by omega, by omega⟩
  rw [manyP_nat hO] at m1
  rw [manyP_nat ha] at m2
  rw [manyP_nat hb] at m3
  rw [manyP_nat hL] at m4
  rw [manyP_nat (by omega), ← hsub] at m5
  rw [n4] at h6
  have l2 := cnt_le ⟨a, ha⟩
  have l3 := cnt_le ⟨b, hb⟩
  simp only at l2 l3
  have a1 : (a : Int) ≤ 127 := by omega
  clear n2 n4 hsub wx wy
  generalize a ||| b = O at *
  generalize a &&& b = L at *
  generalize cnt O = CO at *
  generalize cnt a = CA at *
  generalize cnt b = CB at *
  generalize cnt L = CL at *
  generalize cnt (127 - a) = CN at *
  have t1 : ((CO : Int) == (CA : Int) + CB - CL) = true := by rw [beq_iff_eq]; omega
  have t2 : ((CN : Int) == 7 - (CA : Int)) = true := by rw [beq_iff_eq]; omega
  have t3 : ((CO : Int) == (CA : Int)) = (CO == CA) := by rw [Bool.eq_iff_iff, beq_iff_eq, beq_iff_eq]; omega
  have k1 : (CA : Int) ≤ 7 := by omega
  have k2 : (CB : Int) ≤ 7 := by omega
  have k3 : (CL : Int) ≤ 14 := by omega
  have M1 := Lib.hid m1
  have M2 := Lib.hid m2
  have M3 := Lib.hid m3
  have M4 := Lib.hid m4
  have M5 := Lib.hid m5
  have M6 := Lib.hid h6
  clear m1 m2 m3 m4 m5 h6 n1 n3 l2 l3 ha hb hO hL
  generalize (CO == CA) = Z at *
  go_enter Try.func8, Try.ntmps8
  go_wp2_with fail
  refine (head1_true _).mono ?_
  rintro e w1 ⟨rfl, B1⟩
  go_wp2_with fail
  refine (P1.out _).mono ?_
  rintro e w2 ⟨rfl, rfl⟩
  have B2 : Below w.heap.size w (w1.alloc (.cells #[.int .i64 a, .int .i64 b] 3)) := B1.alloc B1.size _
  generalize w1.alloc (.cells #[.int .i64 a, .int .i64 b] 3) = w3 at *
  go_wp2_with fail
  refine (M1.out _).mono ?_
  rintro e w2 ⟨rfl, rfl⟩
  go_wp2_with fail
  refine (M2.out _).mono ?_
  rintro e w2 ⟨rfl, rfl⟩
  go_wp2_with fail
  refine (M3.out _).mono ?_
  rintro e w2 ⟨rfl, rfl⟩
  go_wp2_with fail
  refine (M4.out _).mono ?_
  rintro e w2 ⟨rfl, rfl⟩
  go_wp2_with fail
  refine (M5.out _).mono ?_
  rintro e w2 ⟨rfl, rfl⟩
  go_wp2_with fail
  refine (M2.out _).mono ?_
  rintro e w2 ⟨rfl, rfl⟩
  go_wp2_with fail
  refine (M6.out _).mono ?_
  rintro e w5 ⟨rfl, rfl⟩
  go_wp2_with fail
  refine (P1.out _).mono ?_
  rintro e w2 ⟨rfl, rfl⟩
  have B3 : Below w.heap.size w (w5.alloc (.cells #[.int .i64 a, .int .i64 b] 3)) := B2.alloc B2.size _
  generalize w5.alloc (.cells #[.int .i64 a, .int .i64 b] 3) = w6 at *
  go_wp2_with fail
  refine (M1.out _).mono ?_
  rintro e w2 ⟨rfl, rfl⟩
  go_wp2_with fail
  refine (M2.out _).mono ?_
  rintro e w2 ⟨rfl, rfl⟩
  go_wp2
  go_ret
  exact ⟨rfl, B3⟩

set_option maxRecDepth 100000 in
theorem lifted (os : Os) (started : os.Started) (H : Type) (enc : TypeId × Value → H) :
    ReturnsInHanded {} Try.checked os 8 .any (Rows.permManySpec.pre6 enc Try.prog Try.f8 Rows.permManyRow.domain false) (Rows.permManySpec.post enc Try.prog Try.f8 false true false false) := by
  refine returnsInHanded_of_change (C := Try.checked) own started (by kernel_rfl) Try.func8
    (ChangeSpec.witness6 (enc := enc) (C := Try.checked) false ⟨#[], #[.int .u8 0, .int .u8 0], []⟩ 8 (by kernel_rfl) (by kernel_rfl) (by kernel_rfl) (by kernel_rfl)) ?_
  intro W base args ds gs before hval0 hW hcnd _
  have hval : ∀ (j : Nat) t v, Try.f8.params[j]? = some t → args[j]? = some v → Value.okWide Try.prog W .any base t v := hval0
  have hW' := hW
  obtain ⟨p, q, hA0, hV, rfl, hfz, hnd⟩ := hW
  have hA : DataW.TrodAll enc Try.prog W 0 (fun _ => true) true Try.f8.params.toList args.toList ds p := hA0
  rw [Try.params8] at hA hval
  obtain ⟨v0, vs0, d0, ds0, p0, q0, hargs, rfl, rfl, h0, r0⟩ := trodAll_cons hA
  obtain ⟨v1, vs1, d1, ds1, p1, q1, rfl, rfl, rfl, h1, r1⟩ := trodAll_cons r0
  obtain ⟨rfl, rfl, rfl⟩ := trodAll_nil r1
  obtain rfl : args = #[v0, v1] := by cases args; simp_all
  obtain ⟨rfl, rfl⟩ := trodVars_none hV
  have k0 := h0
  have lt0 : ∀ x ∈ p0, x.block < W.heap.size := by obtain ⟨m, hm⟩ := k0; exact DataW.trod_lt m _ _ _ hm
  obtain ⟨x0, rfl, _, _, w0⟩ := open_int Try.underlying5 (hval 0 5 v0 rfl rfl) h0
  have k1 := h1
  have lt1 : ∀ x ∈ p1, x.block < W.heap.size := by obtain ⟨m, hm⟩ := k1; exact DataW.trod_lt m _ _ _ hm
  obtain ⟨x1, rfl, _, _, w1⟩ := open_int Try.underlying5 (hval 1 5 v1 rfl rfl) h1
  clear hA0 hval0
  refine (walk x0 x1 W w0 w1).mono fun e W' ⟨he, bel⟩ => ?_
  subst he
  exact ⟨_, rfl, _, _, _, [], _, [], hW', trodAll_mk1 (shut_bool Try.underlying4 _), (trodAll_cons_mk (Below.trod laidOut (by kernel_rfl) (of_decide_eq_true (by kernel_rfl)) k0 bel lt0) (trodAll_cons_mk (Below.trod laidOut (by kernel_rfl) (of_decide_eq_true (by kernel_rfl)) k1 bel lt1) trodAll_mk0)), rfl, bel.frame _, fun h => by cases h⟩

theorem over : Rows.permManyRow.holds Try.pinned (OpenSpec.ofChange Rows.permManySpec) :=
  OpenClaim.holds_of_wide 8 Try.f8 rfl rfl rfl rfl rfl rfl rfl ⟨rfl, rfl, rfl, rfl, rfl⟩ rfl rfl rfl rfl rfl (by kernel_rfl) Try.func8 (by kernel_rfl)
    (of_decide_eq_true (by kernel_rfl)) (by unfold Func.isWrapper; rw [if_neg (of_decide_eq_false (by kernel_rfl))]; exact ⟨rfl, rfl⟩)
    (fun os started H enc _ => lifted os started H enc)

/-- The statement. -/
theorem proved : Rows.PermManySaid := over

#print axioms proved
end Go.Proofs.Ytjbfidgggfokcaa.PermMany
