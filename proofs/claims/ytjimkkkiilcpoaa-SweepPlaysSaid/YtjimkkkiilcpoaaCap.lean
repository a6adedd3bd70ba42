/- What perm.Right, cap.Right and the reference's Right answer; numbers and structs by value alone. -/
import Derived.Test.YtjimkkkiilcpoaaChecked
import Derived.Test.YtjimkkkiilcpoaaNum
import Derived.Outline
set_option linter.unusedVariables false
set_option linter.unusedSimpArgs false
namespace Go.Proofs.Ytjimkkkiilcpoaa
open Go.RowKit

/-- Where a number may stand. -/
def inI (p : Int) : Prop := -9223372036854775808 ≤ p ∧ p ≤ 9223372036854775807
def addrB (p : Int) : Bool := decide (0 ≤ p ∧ p ≤ 4294967295)
def spanB (b p : Int) : Bool := decide (0 ≤ b ∧ b ≤ 4294967295 ∧ 0 ≤ p ∧ p ≤ 4294967295)
def hasB (b p c q : Int) : Bool := decide (b ≤ c ∧ c ≤ q ∧ q ≤ p)
def rightB (t : Bool) (b p a q y : Int) : Bool :=
  decide (0 ≤ b ∧ b ≤ 4294967295 ∧ 0 ≤ p ∧ p ≤ 4294967295 ∧ 0 ≤ a ∧ a ≤ 4294967295 ∧ 0 ≤ q ∧ q ≤ 127 ∧ 0 ≤ y ∧ y ≤ 255 ∧ (t = true → b ≤ p ∧ p ≤ 16777216))

theorem bcell {W w1 : World} (hb : Below W.heap.size W w1) : (∀ b o, b < W.heap.size → w1.cell? ⟨b, o, none⟩ = W.cell? ⟨b, o, none⟩) ∧ (∀ b o, b < W.heap.size → w1.frozen? ⟨b, o, none⟩ = W.frozen? ⟨b, o, none⟩) ∧ W.heap.size ≤ w1.heap.size :=
  ⟨fun b o h => hb.cell (p := ⟨b, o, none⟩) h, fun b o h => hb.frozen (p := ⟨b, o, none⟩) h, hb.size⟩

theorem perm_right (p : Int) (w : World) (h : inI p) : Calls Try.prog 108 #[.int .i64 p] w fun e w' => e = .returned (.bool (permB p)) ∧ w' = w := by
  go_enter Try.func108, Try.ntmps108
  go_wp2
  go_ret
  exact ⟨congrArg Ending.returned (congrArg Value.bool (andNot127 p h.1 h.2)), rfl⟩

theorem ref_addr (p : Int) (w : World) : Calls Try.prog 96 #[.int .i64 p] w fun e w' => e = .returned (.bool (addrB p)) ∧ w' = w := by
  go_enter Try.func96, Try.ntmps96
  go_wp2
  all_goals (go_ret; refine ⟨?_, rfl⟩; (refine congrArg Ending.returned (congrArg Value.bool ?_); rw [Bool.eq_iff_iff]; first | (simp [addrB]; done) | (simp [addrB]; omega) | (simp [addrB] at *; omega) | (simp_all [addrB]; done) | (simp_all [addrB]; omega)))

theorem ref_perm (p : Int) (w : World) : Calls Try.prog 97 #[.int .i64 p] w fun e w' => e = .returned (.bool (permB p)) ∧ w' = w := by
  go_enter Try.func97, Try.ntmps97
  go_wp2
  all_goals (go_ret; refine ⟨?_, rfl⟩; (refine congrArg Ending.returned (congrArg Value.bool ?_); rw [Bool.eq_iff_iff]; first | (simp [permB]; done) | (simp [permB]; omega) | (simp [permB] at *; omega) | (simp_all [permB]; done) | (simp_all [permB]; omega)))

theorem span_right (b p : Int) (w : World) : Calls Try.prog 107 #[.agg #[.int .i64 b, .int .i64 p]] w fun e w' => e = .returned (.bool (spanB b p)) ∧ Below w.heap.size w w' := by
  go_enter Try.func107, Try.ntmps107
  go_wp2
  all_goals (go_ret; refine ⟨?_, (Below.refl _ _).alloc (Nat.le_refl _) _⟩; (refine congrArg Ending.returned (congrArg Value.bool ?_); rw [Bool.eq_iff_iff]; first | (simp [spanB]; done) | (simp [spanB]; omega) | (simp [spanB] at *; omega) | (simp_all [spanB]; done) | (simp_all [spanB]; omega)))

theorem span_has (b p c q : Int) (w : World) : Calls Try.prog 109 #[.agg #[.int .i64 b, .int .i64 p], .agg #[.int .i64 c, .int .i64 q]] w fun e w' => e = .returned (.bool (hasB b p c q)) ∧ Below w.heap.size w w' := by
  go_enter Try.func109, Try.ntmps109
  go_wp2
  all_goals (go_ret; refine ⟨?_, by go_grown⟩; (refine congrArg Ending.returned (congrArg Value.bool ?_); rw [Bool.eq_iff_iff]; first | (simp [hasB]; done) | (simp [hasB]; omega) | (simp [hasB] at *; omega) | (simp_all [hasB]; done) | (simp_all [hasB]; omega)))

theorem cap_of (t : Bool) (b p a q y : Int) (w : World) :
    Calls Try.prog 106 #[.agg #[.bool (t), .int .i64 (b), .int .i64 (p), .int .i64 (a), .int .i64 (q), .int .i64 (y)]] w fun e w' => e = .returned (.agg #[.int .i64 b, .int .i64 p, .bool t, .int .i64 b, .int .i64 p, .int .i64 a, .int .i64 q, .int .i64 y]) ∧ Below w.heap.size w w' := by
  go_enter Try.func106, Try.ntmps106
  go_wp2
  go_returns
  exact ⟨rfl, by go_grown⟩

set_option maxHeartbeats 400000 in
theorem cap_right (t : Bool) (b p a q y : Int) (w : World) (hq : inI q) :
    Calls Try.prog 91 #[.agg #[.bool (t), .int .i64 (b), .int .i64 (p), .int .i64 (a), .int .i64 (q), .int .i64 (y)]] w fun e w' => e = .returned (.bool (rightB t b p a q y)) ∧ Below w.heap.size w w' := by
  have hb := andNot127 q hq.1 hq.2
  go_enter Try.func91, Try.ntmps91
  go_wp2
  all_goals (go_ret; refine ⟨?_, by go_grown⟩; (refine congrArg Ending.returned (congrArg Value.bool ?_); rw [Bool.eq_iff_iff]; first | (simp [rightB, permB]; done) | (simp [rightB, permB]; omega) | (simp [rightB, permB] at *; omega) | (simp_all [rightB, permB]; done) | (simp_all [rightB, permB]; omega)))
set_option maxHeartbeats 400000 in
theorem ref_right (t : Bool) (b p a q y : Int) (w : World) :
    Calls Try.prog 30 #[.agg #[.bool (t), .int .i64 (b), .int .i64 (p), .int .i64 (a), .int .i64 (q), .int .i64 (y)]] w fun e w' => e = .returned (.bool (rightB t b p a q y)) ∧ Below w.heap.size w w' := by
  go_enter Try.func30, Try.ntmps30
  go_wp2
  all_goals (go_ret; refine ⟨?_, by go_grown⟩; (refine congrArg Ending.returned (congrArg Value.bool ?_); rw [Bool.eq_iff_iff]; first | (simp [rightB, permB]; done) | (simp [rightB, permB]; omega) | (simp [rightB, permB] at *; omega) | (simp_all [rightB, permB]; done) | (simp_all [rightB, permB]; omega)))
end Go.Proofs.Ytjimkkkiilcpoaa
