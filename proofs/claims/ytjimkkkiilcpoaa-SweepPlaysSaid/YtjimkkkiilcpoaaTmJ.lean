/- The parts of pages that so many bytes are: the program's iterator. -/
import Derived.Test.YtjimkkkiilcpoaaTmG
import Derived.Shelf.Abstract
import Derived.Shelf.RegionOpen
import Derived.OwnWalkIn
import Derived.LoopNIn
import Derived.LoopIn
set_option linter.unusedVariables false
set_option linter.unusedSimpArgs false
namespace Go.Proofs.Ytjimkkkiilcpoaa
open Go.RowKit Go.Shelf
attribute [local go_sem] Oper.semAt_some

set_option maxRecDepth 100000 in
set_option maxHeartbeats 1600000 in
theorem tm_in (b bP : Nat) (D : List Int) (T P : List Bool) (a k : Int) (w : World) (h : TmM w b bP D T P) (ha : inI a) (hk : inI k) :
    Calls Try.prog 102 #[.pointer (some ⟨b, 0, none⟩), .int .i64 a, .int .i64 k] w fun e w' => e = .returned (.bool (inB P.length a k)) ∧ w = w' := by
  have L := h.2.2.1.cell
  have hlt := h.lt.1
  have hle := h.1.2.2.1
  generalize P.length = n at *
  obtain ⟨a0, a1⟩ := ha
  obtain ⟨k0, k1⟩ := hk
  by_cases hc : 0 ≤ a ∧ 0 ≤ k ∧ a ≤ n * 256 ∧ k ≤ n * 256 - a
  · obtain ⟨h1, h2, h3, h4⟩ := hc
    have e : inB n a k = true := by rw [inB, decide_eq_true_eq]; exact ⟨h1, h2, h3, h4⟩
    rw [e]
    obtain ⟨x, rfl⟩ := Int.eq_ofNat_of_zero_le h1
    obtain ⟨y, rfl⟩ := Int.eq_ofNat_of_zero_le h2
    clear h e h1 h2
    go_enter Try.func102, Try.ntmps102
    go_wp2
    go_ret
    exact ⟨rfl, rfl⟩
  · have e : inB n a k = false := by rw [inB, decide_eq_false_iff_not]; exact hc
    rw [e]
    rcases (show a < 0 ∨ (¬ a < 0 ∧ k < 0) ∨ (¬ a < 0 ∧ ¬ k < 0 ∧ ¬ a ≤ (n : Int) * 256) ∨ (¬ a < 0 ∧ ¬ k < 0 ∧ a ≤ (n : Int) * 256 ∧ ¬ k ≤ (n : Int) * 256 - a) by omega) with h1 | ⟨h1, h2⟩ | ⟨h1, h2, h3⟩ | ⟨h1, h2, h3, h4⟩
    · clear h e hc
      have h5 : ¬ 0 ≤ a := by omega
      go_enter Try.func102, Try.ntmps102
      go_wp2
      go_ret
      exact ⟨rfl, rfl⟩
    · clear h e hc
      have h5 : ¬ 0 ≤ k := by omega
      obtain ⟨x, rfl⟩ := Int.eq_ofNat_of_zero_le (show 0 ≤ a by omega)
      clear h1
      go_enter Try.func102, Try.ntmps102
      go_wp2
      go_ret
      exact ⟨rfl, rfl⟩
    · clear h e hc
      obtain ⟨x, rfl⟩ := Int.eq_ofNat_of_zero_le (show 0 ≤ a by omega)
      obtain ⟨y, rfl⟩ := Int.eq_ofNat_of_zero_le (show 0 ≤ k by omega)
      clear h1 h2
      go_enter Try.func102, Try.ntmps102
      go_wp2
      go_ret
      exact ⟨rfl, rfl⟩
    · clear h e hc
      obtain ⟨x, rfl⟩ := Int.eq_ofNat_of_zero_le (show 0 ≤ a by omega)
      obtain ⟨y, rfl⟩ := Int.eq_ofNat_of_zero_le (show 0 ≤ k by omega)
      clear h1 h2
      go_enter Try.func102, Try.ntmps102
      go_wp2
      go_ret
      exact ⟨rfl, rfl⟩

set_option maxRecDepth 100000 in
set_option maxHeartbeats 1600000 in
theorem tm_runs (p : Option Addr) (a k : Int) (w : World) :
    Calls Try.prog 103 #[.pointer p, .int .i64 a, .int .i64 k] w fun e w' => e = .returned (.func (.func 111) #[] #[.pointer (some ⟨w.heap.size + 2, 0, none⟩), .pointer (some ⟨w.heap.size + 1, 0, none⟩), .pointer (some ⟨w.heap.size, 0, none⟩)]) ∧
      w' = ((w.alloc (.cells #[.pointer p] 56)).alloc (.cells #[.int .i64 a] 3)).alloc (.cells #[.int .i64 k] 3) := by
  go_enter Try.func103, Try.ntmps103
  go_wp2
  go_ret
  exact ⟨rfl, rfl⟩
end Go.Proofs.Ytjimkkkiilcpoaa
