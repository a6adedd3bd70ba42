/- The live question of layer 10: what is reckoned in it. -/
import Derived.Test.YtjimkkkiilcpoaaSwF
set_option linter.unusedVariables false
set_option linter.unusedSimpArgs false
namespace Go.Proofs.Ytjimkkkiilcpoaa
open Go.RowKit

def s0 : List Int × List Bool × List Bool := (List.replicate 1024 0, List.replicate 64 false, List.replicate 4 false)
def s1 : List Int × List Bool × List Bool := (scD 4 s0.1 0 true 512 544 512 3 0, scT 4 s0.2.1 0 true 512 544 512 3 0, scP s0.2.2 0 true 512 544 512 3 0)
def s2 : List Int × List Bool × List Bool := (scD 4 s1.1 16 true 544 560 512 3 0, scT 4 s1.2.1 16 true 544 560 512 3 0, scP s1.2.2 16 true 544 560 512 3 0)
def s3 : List Int × List Bool × List Bool := (scD 4 s2.1 768 true 512 544 512 3 0, scT 4 s2.2.1 768 true 512 544 512 3 0, scP s2.2.2 768 true 512 544 512 3 0)
def sQ : List Bool := paintL (List.replicate 64 false) 512 544 true
def s4 : List Bool × List Bool × Nat := swS s3.1 sQ [0] (s3.2.1, s3.2.2, 0)
def s5 : List Bool × List Bool × Nat := swS s3.1 sQ [3] s4
set_option maxRecDepth 100000 in
theorem s_facts : scB 4 0 true 512 544 512 3 0 = true ∧ scB 4 16 true 544 560 512 3 0 = true ∧ scB 4 768 true 512 544 512 3 0 = true ∧ dirtyL s3.2.2 = [0, 3] ∧ s4.2.2 = 1 ∧ s5.2.2 = 2 ∧ tagsL s5.1 = [16] ∧ dirtyL s5.2.1 = [0] ∧
    hitsB sQ true 512 544 = true ∧ hitsB sQ true 544 560 = false ∧ s1.2.2.length = 4 ∧ s2.2.2.length = 4 ∧ s3.2.2.length = 4 ∧ s4.2.1.length = 4 ∧ s5.2.1.length = 4 := by
  refine ⟨?_, ?_, ?_, ?_, ?_, ?_, ?_, ?_, ?_, ?_, ?_, ?_, ?_, ?_, ?_⟩ <;> decide +kernel
end Go.Proofs.Ytjimkkkiilcpoaa
