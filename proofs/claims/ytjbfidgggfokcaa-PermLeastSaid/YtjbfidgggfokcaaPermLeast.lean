/-
  PermLeast: for every three bytes the law returns true, and each argument reads as it did. Condition: none.
-/
import Derived.Test.YtjbfidgggfokcaaRows
import Derived.Test.YtjbfidgggfokcaaPermJ
set_option linter.unusedVariables false
set_option linter.unusedSimpArgs false
namespace Go.Proofs.Ytjbfidgggfokcaa.PermLeast
open Go.ChangeShapes Go.WideShapes Go.ChangeAt Go.RowKit Go.Proofs.Ytjbfidgggfokcaa
open Go.ChangeMaps (open_string)

theorem own : ownKnob Try.prog.godebug = none := by kernel_rfl
theorem laidOut : laidOutB Try.prog = true := by kernel_rfl

theorem of2 (a b : Nat) (ha : a < 128) (hb : b < 128) (W : World) : Calls Try.prog 21 #[.slice (some ⟨W.heap.size, 0, none⟩) 2 2] (W.alloc (.cells #[.int .i64 a, .int .i64 b] 3)) fun e w' => e = .returned (.int .i64 (a ||| b : Nat)) ∧ w' = W.alloc (.cells #[.int .i64 a, .int .i64 b] 3) := by
  have r := RowI.blk (Blk.new W (i64s [(a : Int), (b : Int)]).toArray 3) (by intro x hx; simp at hx; rcases hx with rfl | rfl <;> (constructor <;> omega))
  have h := of_row _ _ _ r (by show (2 : Int) ≤ 4611686018427387904; decide)
  rw [ofL_two ha hb] at h
  exact h
theorem of3 (a b c : Nat) (ha : a < 128) (hb : b < 128) (hc : c < 128) (W : World) : Calls Try.prog 21 #[.slice (some ⟨W.heap.size, 0, none⟩) 3 3] (W.alloc (.cells #[.int .i64 a, .int .i64 b, .int .i64 c] 3)) fun e w' => e = .returned (.int .i64 (a ||| b ||| c : Nat)) ∧ w' = W.alloc (.cells #[.int .i64 a, .int .i64 b, .int .i64 c] 3) := by
  have r := RowI.blk (Blk.new W (i64s [(a : Int), (b : Int), (c : Int)]).toArray 3) (by intro x hx; simp at hx; rcases hx with rfl | rfl | rfl <;> (constructor <;> omega))
  have h := of_row _ _ _ r (by show (3 : Int) ≤ 4611686018427387904; decide)
  rw [ofL_three ha hb hc] at h
  exact h

theorem has_keep (p q : Nat) (W : World) (hp : (p : Int) ≤ 127) (hq : (q : Int) ≤ 127) : Calls Try.prog 15 #[.int .i64 p, .int .i64 q] W fun e w' => e = .returned (.bool (hasP p q)) ∧ W = w' :=
  (has_any (p : Int) (q : Int) W ⟨by omega, by omega⟩ ⟨by omega, by omega⟩).mono fun e w' ⟨h1, h2⟩ => ⟨h1, h2.symm⟩

set_option maxRecDepth 100000 in
set_option maxHeartbeats 3200000 in
theorem walk (x y z : Int) (w : World) (wx : (Lit.int .u8 x).wf = true) (wy : (Lit.int .u8 y).wf = true) (wz : (Lit.int .u8 z).wf = true) :
    Calls Try.prog 6 #[.int .u8 x, .int .u8 y, .int .u8 z] w fun e w' => e = .returned (.bool true) ∧ Below w.heap.size w w' := by
  obtain ⟨a, ha, ea⟩ := and127 (u8_of_wf wx).1 (u8_of_wf wx).2
  obtain ⟨b, hb, eb⟩ := and127 (u8_of_wf wy).1 (u8_of_wf wy).2
  obtain ⟨c, hc, ec⟩ := and127 (u8_of_wf wz).1 (u8_of_wf wz).2
  obtain ⟨x0, x1⟩ := u8_of_wf wx
  obtain ⟨y0, y1⟩ := u8_of_wf wy
  obtain ⟨z0, z1⟩ := u8_of_wf wz
  have f1 := has_or_left ha hb
  have f2 := has_or_right ha hb
  have f3 := has_or ha hb hc
  have o1 := of2 a b ha hb
  have o2 := of2 b a hb ha
  have o3 := of3 a b c ha hb hc
  have o4 := of2 (a ||| b) c (or_lt ha hb) hc
  have o1b := or_lt ha hb
  rw [Nat.or_comm b a] at o2
  generalize a ||| b = O at *
  generalize O ||| c = T at *
  have a1 : (a : Int) ≤ 127 := by omega
  have b1 : (b : Int) ≤ 127 := by omega
  have c1 : (c : Int) ≤ 127 := by omega
  have O1 : (O : Int) ≤ 127 := by omega
  have P1 := Lib.hid o1
  have P2 := Lib.hid o2
  have P3 := Lib.hid o3
  have P4 := Lib.hid o4
  clear ha hb hc wx wy wz o1 o2 o3 o4 o1b
  have k1 := fun W => has_keep O a W (by omega) (by omega)
  have k2 := fun W => has_keep O b W (by omega) (by omega)
  have k3 := fun W => has_keep c O W (by omega) (by omega)
  have k4 := fun W => has_keep c a W (by omega) (by omega)
  have k5 := fun W => has_keep c b W (by omega) (by omega)
  rw [f1] at k1
  rw [f2] at k2
  rw [f3] at k3
  clear f1 f2 f3
  cases g1 : hasP c a
  all_goals
    cases g2 : hasP c b
    all_goals
      rw [g1, g2] at k3
      rw [g1] at k4
      rw [g2] at k5
      simp only [Bool.false_and, Bool.true_and] at k3
      have K1 := Lib.hid k1
      have K2 := Lib.hid k2
      have K3 := Lib.hid k3
      have K4 := Lib.hid k4
      have K5 := Lib.hid k5
      clear k1 k2 k3 k4 k5 g1 g2
      go_enter Try.func6, Try.ntmps6
      go_wp2_with fail
      refine (head1_true _).mono ?_
      rintro e w1 ⟨rfl, B1⟩
      go_wp2_with fail
      refine (P1.out _).mono ?_
      rintro e w2 ⟨rfl, rfl⟩
      have B2 : Below w.heap.size w (w1.alloc (.cells #[.int .i64 a, .int .i64 b] 3)) := B1.alloc B1.size _
      generalize w1.alloc (.cells #[.int .i64 a, .int .i64 b] 3) = w3 at *
      go_wp2_with fail
      refine (K1.out _).mono ?_
      rintro e w' ⟨rfl, rfl⟩
      go_wp2_with fail
      refine (K2.out _).mono ?_
      rintro e w' ⟨rfl, rfl⟩
      go_wp2_with fail
      refine (K3.out _).mono ?_
      rintro e w' ⟨rfl, rfl⟩
      go_wp2_with fail
      refine (K4.out _).mono ?_
      rintro e w' ⟨rfl, rfl⟩
      go_wp2_with fail
      (try (refine (K5.out _).mono ?_; rintro e w' ⟨rfl, rfl⟩; go_wp2_with fail))
      refine (P2.out _).mono ?_
      rintro e w2 ⟨rfl, rfl⟩
      have B4 : Below w.heap.size w (w3.alloc (.cells #[.int .i64 b, .int .i64 a] 3)) := B2.alloc B2.size _
      generalize w3.alloc (.cells #[.int .i64 b, .int .i64 a] 3) = w4 at *
      go_wp2_with fail
      refine (P3.out _).mono ?_
      rintro e w2 ⟨rfl, rfl⟩
      have B5 : Below w.heap.size w (w4.alloc (.cells #[.int .i64 a, .int .i64 b, .int .i64 c] 3)) := B4.alloc B4.size _
      generalize w4.alloc (.cells #[.int .i64 a, .int .i64 b, .int .i64 c] 3) = w5 at *
      go_wp2_with fail
      refine (P1.out _).mono ?_
      rintro e w2 ⟨rfl, rfl⟩
      have B6 : Below w.heap.size w (w5.alloc (.cells #[.int .i64 a, .int .i64 b] 3)) := B5.alloc B5.size _
      generalize w5.alloc (.cells #[.int .i64 a, .int .i64 b] 3) = w6 at *
      go_wp2_with fail
      refine (P4.out _).mono ?_
      rintro e w2 ⟨rfl, rfl⟩
      have B7 : Below w.heap.size w (w6.alloc (.cells #[.int .i64 O, .int .i64 c] 3)) := B6.alloc B6.size _
      generalize w6.alloc (.cells #[.int .i64 O, .int .i64 c] 3) = w7 at *
      go_wp2
      go_ret
      exact ⟨rfl, B7⟩

set_option maxRecDepth 100000 in
theorem lifted (os : Os) (started : os.Started) (H : Type) (enc : TypeId × Value → H) :
    ReturnsInHanded {} Try.checked os 6 .any (Rows.permLeastSpec.pre6 enc Try.prog Try.f6 Rows.permLeastRow.domain false) (Rows.permLeastSpec.post enc Try.prog Try.f6 false true false false) := by
  refine returnsInHanded_of_change (C := Try.checked) own started (by kernel_rfl) Try.func6
    (ChangeSpec.witness6 (enc := enc) (C := Try.checked) false ⟨#[], #[.int .u8 0, .int .u8 0, .int .u8 0], []⟩ 8 (by kernel_rfl) (by kernel_rfl) (by kernel_rfl) (by kernel_rfl)) ?_
  intro W base args ds gs before hval0 hW hcnd _
  have hval : ∀ (j : Nat) t v, Try.f6.params[j]? = some t → args[j]? = some v → Value.okWide Try.prog W .any base t v := hval0
  have hW' := hW
  obtain ⟨p, q, hA0, hV, rfl, hfz, hnd⟩ := hW
  have hA : DataW.TrodAll enc Try.prog W 0 (fun _ => true) true Try.f6.params.toList args.toList ds p := hA0
  rw [Try.params6] at hA hval
  obtain ⟨v0, vs0, d0, ds0, p0, q0, hargs, rfl, rfl, h0, r0⟩ := trodAll_cons hA
  obtain ⟨v1, vs1, d1, ds1, p1, q1, rfl, rfl, rfl, h1, r1⟩ := trodAll_cons r0
  obtain ⟨v2, vs2, d2, ds2, p2, q2, rfl, rfl, rfl, h2, r2⟩ := trodAll_cons r1
  obtain ⟨rfl, rfl, rfl⟩ := trodAll_nil r2
  obtain rfl : args = #[v0, v1, v2] := by cases args; simp_all
  obtain ⟨rfl, rfl⟩ := trodVars_none hV
  have k0 := h0
  have lt0 : ∀ x ∈ p0, x.block < W.heap.size := by obtain ⟨m, hm⟩ := k0; exact DataW.trod_lt m _ _ _ hm
  obtain ⟨x0, rfl, _, _, w0⟩ := open_int Try.underlying5 (hval 0 5 v0 rfl rfl) h0
  have k1 := h1
  have lt1 : ∀ x ∈ p1, x.block < W.heap.size := by obtain ⟨m, hm⟩ := k1; exact DataW.trod_lt m _ _ _ hm
  obtain ⟨x1, rfl, _, _, w1⟩ := open_int Try.underlying5 (hval 1 5 v1 rfl rfl) h1
  have k2 := h2
  have lt2 : ∀ x ∈ p2, x.block < W.heap.size := by obtain ⟨m, hm⟩ := k2; exact DataW.trod_lt m _ _ _ hm
  obtain ⟨x2, rfl, _, _, w2⟩ := open_int Try.underlying5 (hval 2 5 v2 rfl rfl) h2
  clear hA0 hval0
  refine (walk x0 x1 x2 W w0 w1 w2).mono fun e W' ⟨he, bel⟩ => ?_
  subst he
  exact ⟨_, rfl, _, _, _, [], _, [], hW', trodAll_mk1 (shut_bool Try.underlying4 _), (trodAll_cons_mk (Below.trod laidOut (by kernel_rfl) (of_decide_eq_true (by kernel_rfl)) k0 bel lt0) (trodAll_cons_mk (Below.trod laidOut (by kernel_rfl) (of_decide_eq_true (by kernel_rfl)) k1 bel lt1) (trodAll_cons_mk (Below.trod laidOut (by kernel_rfl) (of_decide_eq_true (by kernel_rfl)) k2 bel lt2) trodAll_mk0))), rfl, bel.frame _, fun h => by cases h⟩

theorem over : Rows.permLeastRow.holds Try.pinned (OpenSpec.ofChange Rows.permLeastSpec) :=
  OpenClaim.holds_of_wide 6 Try.f6 rfl rfl rfl rfl rfl rfl rfl ⟨rfl, rfl, rfl, rfl, rfl⟩ rfl rfl rfl rfl rfl (by kernel_rfl) Try.func6 (by kernel_rfl)
    (of_decide_eq_true (by kernel_rfl)) (by unfold Func.isWrapper; rw [if_neg (of_decide_eq_false (by kernel_rfl))]; exact ⟨rfl, rfl⟩)
    (fun os started H enc _ => lifted os started H enc)

/-- The statement. -/
theorem proved : Rows.PermLeastSaid := over

#print axioms proved
end Go.Proofs.Ytjbfidgggfokcaa.PermLeast
