/- == on capabilities. -/
import Derived.Test.YtjimkkkiilcpoaaChecked
import Derived.Test.YtjimkkkiilcpoaaFlow
set_option linter.unusedVariables false
set_option linter.unusedSimpArgs false
namespace Go.Proofs.Ytjimkkkiilcpoaa
open Go.RowKit

/-- Are two the same, tags and all? -/
def capEq (t : Bool) (b p a q y : Int) (t' : Bool) (b' p' a' q' y' : Int) : Bool := decide (t = t' ∧ b = b' ∧ p = p' ∧ a = a' ∧ q = q' ∧ y = y')

set_option maxRecDepth 100000 in
set_option maxHeartbeats 1600000 in
theorem run_eql_cap (X Y : Operand) (t : Bool) (b p a q y : Int) (t' : Bool) (b' p' a' q' y' : Int) (w : World) :
    (do eqGuard .eql 23 X Y (.agg #[.bool (t), .int .i64 (b), .int .i64 (p), .int .i64 (a), .int .i64 (q), .int .i64 (y)] : Value) (.agg #[.bool (t'), .int .i64 (b'), .int .i64 (p'), .int .i64 (a'), .int .i64 (q'), .int .i64 (y')] : Value); binOp .eql 23 (.agg #[.bool (t), .int .i64 (b), .int .i64 (p), .int .i64 (a), .int .i64 (q), .int .i64 (y)] : Value) (.agg #[.bool (t'), .int .i64 (b'), .int .i64 (p'), .int .i64 (a'), .int .i64 (q'), .int .i64 (y')] : Value) : Sem Value).run Try.prog w = .ok (.bool (capEq t b p a q y t' b' p' a' q' y')) w := by
  simp [go_sem]
  unfold capEq
  by_cases h1 : t = t' <;> simp only [h1, if_true, if_false, true_and, false_and, decide_false]
  by_cases h2 : b = b' <;> simp only [h2, if_true, if_false, true_and, false_and, decide_false]
  by_cases h3 : p = p' <;> simp only [h3, if_true, if_false, true_and, false_and, decide_false]
  by_cases h4 : a = a' <;> simp only [h4, if_true, if_false, true_and, false_and, decide_false]
  by_cases h5 : q = q' <;> simp only [h5, if_true, if_false, true_and, false_and, decide_false]
  by_cases h6 : y = y' <;> simp only [h6, if_true, if_false, decide_true, decide_false]

theorem capEq_same (t : Bool) (b p a q y : Int) (b' p' a' q' y' : Int) : capEq t b p a q y t b' p' a' q' y' = decide (b = b' ∧ p = p' ∧ a = a' ∧ q = q' ∧ y = y') := by simp [capEq]

variable {ops : Array Oper}
theorem opOk_capeq {o : Oper} {A : Act} {w : World} {X Y : Operand} {T : TypeId} {t : Bool} {b p a q y : Int} {t' : Bool} {b' p' a' q' y' : Int} (hg : Region.wanted o (yielded ops A.tmps) = true) (ho : o.op = .binOp .eql 23 X Y T)
    (hX : A.eval X = .agg #[.bool (t), .int .i64 (b), .int .i64 (p), .int .i64 (a), .int .i64 (q), .int .i64 (y)]) (hY : A.eval Y = .agg #[.bool (t'), .int .i64 (b'), .int .i64 (p'), .int .i64 (a'), .int .i64 (q'), .int .i64 (y')]) {m : Bool} (hm : capEq t b p a q y t' b' p' a' q' y' = m) : opOk Try.prog ops o A w (fun u _ => u = .bool m) := by
  subst hm
  unfold opOk
  rw [if_pos hg]
  have hr := run_eql_cap X Y t b p a q y t' b' p' a' q' y' w
  have e : (execOp A.eval o).run Try.prog w = .ok (.value (.bool (capEq t b p a q y t' b' p' a' q' y'))) w := by
    unfold execOp
    simp only [ho, hX, hY]
    rw [Sem.run_bind, hr]
    rfl
  rw [e]
  exact ⟨Below.refl _ _, rfl⟩
end Go.Proofs.Ytjimkkkiilcpoaa
