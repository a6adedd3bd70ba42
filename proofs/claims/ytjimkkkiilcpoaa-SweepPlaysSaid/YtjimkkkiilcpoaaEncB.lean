/- What enc.Get and the reference's Get answer: the capability of sixteen bytes. -/
import Derived.Test.YtjimkkkiilcpoaaEncA
import Derived.Deep.QuietTactic
import Derived.BigQuiet
set_option linter.unusedVariables false
set_option linter.unusedSimpArgs false
namespace Go.Proofs.Ytjimkkkiilcpoaa
open Go.RowKit

def word4 (g : Nat → Int) (i : Nat) : Int := 16777216 * g i + 65536 * g (i + 1) + 256 * g (i + 2) + g (i + 3)

set_option maxRecDepth 100000 in
set_option maxHeartbeats 800000 in
theorem word_0 (g : Nat → Int) (hg : ∀ j, 0 ≤ g j ∧ g j ≤ 255) (w : World) :
    Calls Try.prog 89 #[.agg #[.int .u8 (g 0), .int .u8 (g 1), .int .u8 (g 2), .int .u8 (g 3), .int .u8 (g 4), .int .u8 (g 5), .int .u8 (g 6), .int .u8 (g 7), .int .u8 (g 8), .int .u8 (g 9), .int .u8 (g 10), .int .u8 (g 11), .int .u8 (g 12), .int .u8 (g 13), .int .u8 (g 14), .int .u8 (g 15)], .int .i64 0] w fun e w' => e = .returned (.int .i64 (word4 g 0)) ∧ Below w.heap.size w w' := by
  have g0 := hg 0
  have g1 := hg 1
  have g2 := hg 2
  have g3 := hg 3
  clear hg
  go_enter Try.func89, Try.ntmps89
  go_wp2_with fail
  go_quiet (fail)
  go_wp2
  go_ret
  refine ⟨congrArg Ending.returned (congrArg (Value.int .i64) (or_word g0 g1 g2 g3)), (by (repeat (first | exact Below.refl _ _ | refine below_drewN ?_ _ | refine Below.drew ?_ | refine Below.alloc ?_ (by first | omega | (simp only [World.size_alloc, World.size_drew, World.size_setCell]; omega) | (simp; done) | (simp; omega)) _ | assumption)))⟩

set_option maxRecDepth 100000 in
set_option maxHeartbeats 800000 in
theorem word_4 (g : Nat → Int) (hg : ∀ j, 0 ≤ g j ∧ g j ≤ 255) (w : World) :
    Calls Try.prog 89 #[.agg #[.int .u8 (g 0), .int .u8 (g 1), .int .u8 (g 2), .int .u8 (g 3), .int .u8 (g 4), .int .u8 (g 5), .int .u8 (g 6), .int .u8 (g 7), .int .u8 (g 8), .int .u8 (g 9), .int .u8 (g 10), .int .u8 (g 11), .int .u8 (g 12), .int .u8 (g 13), .int .u8 (g 14), .int .u8 (g 15)], .int .i64 4] w fun e w' => e = .returned (.int .i64 (word4 g 4)) ∧ Below w.heap.size w w' := by
  have g0 := hg 4
  have g1 := hg 5
  have g2 := hg 6
  have g3 := hg 7
  clear hg
  go_enter Try.func89, Try.ntmps89
  go_wp2_with fail
  go_quiet (fail)
  go_wp2
  go_ret
  refine ⟨congrArg Ending.returned (congrArg (Value.int .i64) (or_word g0 g1 g2 g3)), (by (repeat (first | exact Below.refl _ _ | refine below_drewN ?_ _ | refine Below.drew ?_ | refine Below.alloc ?_ (by first | omega | (simp only [World.size_alloc, World.size_drew, World.size_setCell]; omega) | (simp; done) | (simp; omega)) _ | assumption)))⟩

set_option maxRecDepth 100000 in
set_option maxHeartbeats 800000 in
theorem word_8 (g : Nat → Int) (hg : ∀ j, 0 ≤ g j ∧ g j ≤ 255) (w : World) :
    Calls Try.prog 89 #[.agg #[.int .u8 (g 0), .int .u8 (g 1), .int .u8 (g 2), .int .u8 (g 3), .int .u8 (g 4), .int .u8 (g 5), .int .u8 (g 6), .int .u8 (g 7), .int .u8 (g 8), .int .u8 (g 9), .int .u8 (g 10), .int .u8 (g 11), .int .u8 (g 12), .int .u8 (g 13), .int .u8 (g 14), .int .u8 (g 15)], .int .i64 8] w fun e w' => e = .returned (.int .i64 (word4 g 8)) ∧ Below w.heap.size w w' := by
  have g0 := hg 8
  have g1 := hg 9
  have g2 := hg 10
  have g3 := hg 11
  clear hg
  go_enter Try.func89, Try.ntmps89
  go_wp2_with fail
  go_quiet (fail)
  go_wp2
  go_ret
  refine ⟨congrArg Ending.returned (congrArg (Value.int .i64) (or_word g0 g1 g2 g3)), (by (repeat (first | exact Below.refl _ _ | refine below_drewN ?_ _ | refine Below.drew ?_ | refine Below.alloc ?_ (by first | omega | (simp only [World.size_alloc, World.size_drew, World.size_setCell]; omega) | (simp; done) | (simp; omega)) _ | assumption)))⟩


set_option maxRecDepth 100000 in
theorem plain_any (g : Nat → Int) (hg : ∀ j, 0 ≤ g j ∧ g j ≤ 255) (w : World) :
    Calls Try.prog 90 #[.agg #[.int .u8 (g 0), .int .u8 (g 1), .int .u8 (g 2), .int .u8 (g 3), .int .u8 (g 4), .int .u8 (g 5), .int .u8 (g 6), .int .u8 (g 7), .int .u8 (g 8), .int .u8 (g 9), .int .u8 (g 10), .int .u8 (g 11), .int .u8 (g 12), .int .u8 (g 13), .int .u8 (g 14), .int .u8 (g 15)]] w fun e w' => e = .returned (.bool (decide (g 12 = 0 ∧ g 14 = 0 ∧ g 13 ≤ 127))) ∧ Below w.heap.size w w' := by
  have g0 := hg 12
  have g1 := hg 13
  have g2 := hg 14
  have hz := u8_or_zero g0 g2
  clear hg
  go_enter Try.func90, Try.ntmps90
  go_wp2
  all_goals (go_ret; refine ⟨?_, by go_grown⟩; (refine congrArg Ending.returned (congrArg Value.bool ?_); rw [Bool.eq_iff_iff]; first | (simp [hz]; done) | (simp [hz]; omega) | (simp [hz] at *; omega) | (simp_all [hz]; done) | (simp_all [hz]; omega)))

set_option maxRecDepth 100000 in
set_option maxHeartbeats 800000 in
/-- Four bytes that are read: their number. -/
theorem unfour_any (c : Nat) (x0 x1 x2 x3 : Int) (h0 : 0 ≤ x0 ∧ x0 ≤ 255) (h1 : 0 ≤ x1 ∧ x1 ≤ 255) (h2 : 0 ≤ x2 ∧ x2 ≤ 255) (h3 : 0 ≤ x3 ∧ x3 ≤ 255) (w : World) (b o : Nat)
    (c0 : w.cell? ⟨b, o, none⟩ = some (.int .u8 x0)) (c1 : w.cell? ⟨b, o + 1, none⟩ = some (.int .u8 x1)) (c2 : w.cell? ⟨b, o + 2, none⟩ = some (.int .u8 x2)) (c3 : w.cell? ⟨b, o + 3, none⟩ = some (.int .u8 x3)) :
    Calls Try.prog 92 #[.slice (some ⟨b, o, none⟩) 4 c] w fun e w' => e = .returned (.int .i64 (16777216 * x0 + 65536 * x1 + 256 * x2 + x3)) ∧ ∃ n, w' = w.drewN n := by
  go_enter Try.func92, Try.ntmps92
  go_wp2_with fail
  go_quiet (fail)
  go_wp2
  go_ret
  exact ⟨rfl, _, rfl⟩
end Go.Proofs.Ytjimkkkiilcpoaa
