/- The arithmetic of 32 bits: the table of rules. -/
import Derived.Test.YtphkljlbadpknaaMapI
import Derived.Test.YtphkljlbadpknaaChecked
import Derived.Outline
import Derived.Laws.EntriesVeiled
set_option linter.unusedVariables false
set_option linter.unusedSimpArgs false
namespace Go.Proofs.Ytphkljlbadpknaa
open Go.RowKit

/-- The table. -/
def aluRule (f : Nat) (d : Bool) : Value := .agg #[.func (.func f) #[] #[], .bool d]
def aluEntry (k : Int) (f : Nat) (d : Bool) (born : Nat) : MapEntry := { key := .int .i64 k, val := .agg #[.func (.func f) #[] #[], .bool d], born := born }
def aluEs : Array MapEntry := #[aluEntry 3 21 false 0, aluEntry 4 22 false 1, aluEntry 5 23 false 2, aluEntry 6 24 true 3, aluEntry 7 25 false 4, aluEntry 8 27 false 5]

set_option maxRecDepth 100000 in
set_option maxHeartbeats 800000 in
theorem rules_any (w : World) : Calls Try.prog 19 #[] w fun e w' => ∃ b, e = .returned (.map (some b)) ∧ MapO w w.heap.size w' b aluEs 6 := by
  have hmm := @run_makeMap Try.prog
  have h0 := MapO.new w
  go_enter Try.func19, Try.ntmps19
  go_wp2_with (refine map_insert rfl _ _ _ 43 rfl 3 41 .i64 Try.underlying43 Try.underlying3 _ _ _ _ _ rfl rfl rfl (by assumption) (by rfl) ?_; intro w1 h1)
  go_ret
  exact ⟨_, rfl, by assumption⟩
end Go.Proofs.Ytphkljlbadpknaa
