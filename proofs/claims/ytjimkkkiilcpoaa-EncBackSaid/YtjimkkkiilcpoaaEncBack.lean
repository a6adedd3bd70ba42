/-
  EncBack: for every capability the law returns true, and the argument reads as it did. Condition: none.
-/
import Derived.Test.YtjimkkkiilcpoaaRows
import Derived.Test.YtjimkkkiilcpoaaEncM
import Derived.Test.YtjimkkkiilcpoaaArg
import Derived.ChangeOld
set_option linter.unusedVariables false
set_option linter.unusedSimpArgs false
namespace Go.Proofs.Ytjimkkkiilcpoaa.EncBack
open Go.ChangeShapes Go.WideShapes Go.ChangeAt Go.RowKit Go.Proofs.Ytjimkkkiilcpoaa

theorem own : ownKnob Try.prog.godebug = none := by kernel_rfl
theorem laidOut : laidOutB Try.prog = true := by kernel_rfl

set_option maxRecDepth 100000 in
set_option maxHeartbeats 3200000 in
theorem walk (t : Bool) (b p a q y : Int) (w : World) (_ : inI b) (_ : inI p) (_ : inI a) (hq : inI q) (_ : inI y) :
    Calls Try.prog 4 #[.agg #[.bool (t), .int .i64 (b), .int .i64 (p), .int .i64 (a), .int .i64 (q), .int .i64 (y)]] w fun e w' => e = .returned (.bool true) ∧ Below w.heap.size w w' := by
  go_enter Try.func4, Try.ntmps4
  go_wp2_with fail
  refine (head3_true _).mono ?_
  rintro e w1 ⟨rfl, hb1⟩
  have hb0 : Below w.heap.size w (w.alloc (.cells #[.bool (t), .int .i64 (b), .int .i64 (p), .int .i64 (a), .int .i64 (q), .int .i64 (y)] 23)) := by go_grown
  have C1 := (Blk.new w #[.bool (t), .int .i64 (b), .int .i64 (p), .int .i64 (a), .int .i64 (q), .int .i64 (y)] 23).below hb1 (by first | omega | (simp only [World.size_alloc, World.size_drew, World.size_setCell]; omega) | (simp; done) | (simp; omega))
  have HB1 := below_then hb0 (by first | omega | (simp only [World.size_alloc, World.size_drew, World.size_setCell]; omega) | (simp; done) | (simp; omega)) hb1
  have l1 := C1.lt
  have L1 := C1.cell
  clear hb0 hb1
  go_wp2_with fail
  refine (put_row t b p a q y _ hq).mono ?_
  rintro e w2 ⟨v2, rfl, r2, hb2⟩
  have C2 := C1.below hb2 l1
  have HB2 := below_then HB1 (by omega) hb2
  have l2 := C2.lt
  clear hb2 C1 HB1 L1 l1
  have L2 := C2.cell
  cases hr : rightB t b p a q y with
  | false =>
    rw [putL_nil hr] at r2
    obtain ⟨A, c, hv, _⟩ := r2
    have hv : v2 = .slice A 0 c := hv
    subst hv
    go_wp2_with fail
    refine (ref_right t b p a q y _).mono ?_
    rintro e w3 ⟨rfl, hb3⟩
    rw [hr]
    have HB3 := below_then HB2 (by omega) hb3
    clear hb3 C2 HB2 L2 hr
    go_wp2
    go_ret
    exact ⟨rfl, HB3⟩
  | true =>
    obtain ⟨A, c, hv, q2⟩ := r2
    rw [putL_len hr] at hv
    subst hv
    have r2 : RowU w2 (.slice A 16 c) (putL t b p a q y) := ⟨A, c, by rw [putL_len hr], q2⟩
    clear q2
    have HR := Lib.hid hr
    go_wp2_with fail
    refine (ref_right t b p a q y _).mono ?_
    rintro e w3 ⟨rfl, hb3⟩
    rw [hr]
    clear hr
    have r3 := r2.below hb3
    have C3 := C2.below hb3 l2
    have HB3 := below_then HB2 (by omega) hb3
    have l3 := C3.lt
    clear hb3 C2 HB2 L2 l2 r2
    have L3 := C3.cell
    go_wp2_with fail
    refine (get_put HR.out t _ _ r3).mono ?_
    rintro e w4 ⟨rfl, hb4⟩
    rw [right_tag HR.out]
    have r4 := r3.below hb4
    have C4 := C3.below hb4 l3
    have HB4 := below_then HB3 (by omega) hb4
    have l4 := C4.lt
    clear hb4 C3 HB3 L3 l3 r3
    go_wp2_with fail
    refine (get_put HR.out false _ _ (r4.below ((Below.refl _ _).alloc (Nat.le_refl _) _))).mono ?_
    rintro e w5 ⟨rfl, hb5⟩
    rw [Bool.false_and]
    have C5 := (C4.alloc _).below hb5 (C4.alloc _).lt
    have X5 := (Blk.new w4 #[.bool (t), .int .i64 (b), .int .i64 (p), .int .i64 (a), .int .i64 (q), .int .i64 (y)] 23).below hb5 (by first | omega | (simp only [World.size_alloc, World.size_drew, World.size_setCell]; omega) | (simp; done) | (simp; omega))
    have HB5 := below_then (HB4.alloc (by omega) _) (by first | omega | (simp only [World.size_alloc, World.size_drew, World.size_setCell]; omega) | (simp; done) | (simp; omega)) hb5
    have l5 := X5.lt
    clear hb5 C4 HB4 r4
    have L5 := C5.cell
    have LX := X5.cell
    have n5 : w.heap.size < w5.heap.size := by omega
    go_wp2
    go_ret
    exact ⟨rfl, by (repeat (first | exact HB5 | refine Below.alloc ?_ (by first | omega | (simp only [World.size_alloc, World.size_drew, World.size_setCell]; omega) | (simp; done) | (simp; omega)) _))⟩

set_option maxRecDepth 100000 in
theorem lifted (os : Os) (started : os.Started) (H : Type) (enc : TypeId × Value → H) :
    ReturnsInHanded {} Try.checked os 4 .any (Rows.encBackSpec.pre6 enc Try.prog Try.f4 Rows.encBackRow.domain false) (Rows.encBackSpec.post enc Try.prog Try.f4 false true false false) := by
  refine returnsInHanded_of_change (C := Try.checked) own started (by kernel_rfl) Try.func4
    (ChangeSpec.witness6 (enc := enc) (C := Try.checked) false ⟨#[], #[.agg #[.bool (false), .int .i64 (0), .int .i64 (0), .int .i64 (0), .int .i64 (0), .int .i64 (0)]], []⟩ 8 (by kernel_rfl) (by kernel_rfl) (by kernel_rfl) (by kernel_rfl)) ?_
  intro W base args ds gs before hval0 hW hcnd _
  have hval : ∀ (j : Nat) t v, Try.f4.params[j]? = some t → args[j]? = some v → Value.okWide Try.prog W .any base t v := hval0
  have hW' := hW
  obtain ⟨p, q, hA0, hV, rfl, hfz, hnd⟩ := hW
  have hA : DataW.TrodAll enc Try.prog W 0 (fun _ => true) true Try.f4.params.toList args.toList ds p := hA0
  rw [Try.params4] at hA hval
  obtain ⟨v0, vs0, d0, ds0, p0, q0, hargs, rfl, rfl, h0, r0⟩ := trodAll_cons hA
  obtain ⟨rfl, rfl, rfl⟩ := trodAll_nil r0
  obtain rfl : args = #[v0] := by cases args; simp_all
  obtain ⟨rfl, rfl⟩ := trodVars_none hV
  have k0 := h0
  have lt0 : ∀ x ∈ p0, x.block < W.heap.size := by obtain ⟨m, hm⟩ := k0; exact DataW.trod_lt m _ _ _ hm
  obtain ⟨t0, b0, e0, a0, g0, y0, rfl, ib0, ie0, ia0, ig0, iy0⟩ := open_cap (hval 0 23 v0 rfl rfl) h0
  clear hA0 hval0
  refine (walk t0 b0 e0 a0 g0 y0 W ib0 ie0 ia0 ig0 iy0).mono fun e W' ⟨he, bel⟩ => ?_
  subst he
  exact ⟨_, rfl, _, _, _, [], _, [], hW', trodAll_mk1 (shut_bool Try.underlying4 _), (trodAll_cons_mk (Below.trod laidOut (by kernel_rfl) (of_decide_eq_true (by kernel_rfl)) k0 bel lt0) trodAll_mk0), rfl, bel.frame _, fun h => by cases h⟩

theorem over : Rows.encBackRow.holds Try.pinned (OpenSpec.ofChange Rows.encBackSpec) :=
  OpenClaim.holds_of_wide 4 Try.f4 rfl rfl rfl rfl rfl rfl rfl ⟨rfl, rfl, rfl, rfl, rfl⟩ rfl rfl rfl rfl rfl (by kernel_rfl) Try.func4 (by kernel_rfl)
    (of_decide_eq_true (by kernel_rfl)) (by unfold Func.isWrapper; rw [if_neg (of_decide_eq_false (by kernel_rfl))]; exact ⟨rfl, rfl⟩)
    (fun os started H enc _ => lifted os started H enc)

/-- The statement. -/
theorem proved : Rows.EncBackSaid := over
#print axioms proved
end Go.Proofs.Ytjimkkkiilcpoaa.EncBack
