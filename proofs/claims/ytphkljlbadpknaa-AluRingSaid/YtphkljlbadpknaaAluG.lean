/- Plain facts on what is made of two numbers; the laws' own 'do'. -/
import Derived.Test.YtphkljlbadpknaaAluF
import Derived.ChangeOld
set_option linter.unusedVariables false
set_option linter.unusedSimpArgs false
namespace Go.Proofs.Ytphkljlbadpknaa
open Go.RowKit

theorem aluV_in (k a b : Int) : 0 ≤ aluV k a b ∧ aluV k a b ≤ 4294967295 := by
  unfold aluV
  split
  · exact m32_in _
  split
  · exact m32_in _
  split
  · exact m32_in _
  split
  · split
    · omega
    · have h1 := m32_in a
      have h2 := m32_in b
      have := div_le h1 (y := m32 b) (by omega)
      omega
  split
  · split <;> omega
  split
  · split <;> omega
  · omega
theorem m32_id {x : Int} (h : 0 ≤ x ∧ x ≤ 4294967295) : m32 x = x := by unfold m32; omega
theorem aluV_mod (k a b a' b' : Int) (ha : m32 a = m32 a') (hb : m32 b = m32 b') : aluV k a b = aluV k a' b' := by
  have h3 : m32 (a + b) = m32 (a' + b') := by unfold m32 at *; omega
  have h4 : m32 (a - b) = m32 (a' - b') := by unfold m32 at *; omega
  have h5 : m32 (a * b) = m32 (a' * b') := by rw [← mul_mod a b, ← mul_mod a' b', ha, hb]
  unfold aluV
  rw [h3, h4, h5, ha, hb]
theorem aluE_mod (k b b' : Int) (hb : m32 b = m32 b') : aluE k b = aluE k b' := by unfold aluE; rw [hb]

set_option maxRecDepth 100000 in
theorem do_b (k x y : Int) {w0 : World} (w : World) (HB : Below w0.heap.size w0 w) (hx : 0 ≤ x ∧ x ≤ 4294967295) (hy : 0 ≤ y ∧ y ≤ 4294967295) :
    Calls Try.prog 18 #[.int .i64 k, .int .u32 x, .int .u32 y] w fun e w' => e = .returned (.int .u32 (aluV k x y)) ∧ Below w0.heap.size w0 w' := by
  obtain ⟨x0, x1⟩ := hx
  obtain ⟨y0, y1⟩ := hy
  have hd := do_all k x y w
  obtain ⟨v0, v1⟩ := aluV_in k x y
  generalize aluV k x y = V at *
  generalize aluE k y = X at *
  go_enter Try.func18, Try.ntmps18
  go_wp2_with fail
  refine hd.mono ?_
  rintro e w1 ⟨rfl, hb⟩
  have HB1 := below_then HB HB.size hb
  clear hd hb HB
  go_wp2
  go_ret
  exact ⟨rfl, HB1⟩

theorem u32_of_wf {n : Int} (h : (Lit.int .u32 n).wf = true) : 0 ≤ n ∧ n ≤ 4294967295 := by
  simp [Lit.wf, IntKind.min, IntKind.max, IntKind.signed, IntKind.bits] at h
  omega

theorem ring_facts (a b c : Int) (ha : 0 ≤ a ∧ a ≤ 4294967295) :
    (aluV 3 a b == aluV 3 b a) = true ∧ (aluV 3 (aluV 3 a b) c == aluV 3 a (aluV 3 b c)) = true ∧ (aluV 5 a b == aluV 5 b a) = true ∧ (aluV 5 a (aluV 3 b c) == aluV 3 (aluV 5 a b) (aluV 5 a c)) = true ∧
      (aluV 4 (aluV 3 a b) b == a) = true ∧ (aluV 5 a 1 == a) = true := by
  have e3 : ∀ x y, aluV 3 x y = m32 (x + y) := fun x y => by simp [aluV]
  have e4 : ∀ x y, aluV 4 x y = m32 (x - y) := fun x y => by simp [aluV]
  have e5 : ∀ x y, aluV 5 x y = m32 (x * y) := fun x y => by simp [aluV]
  have mm : ∀ x, m32 (m32 x) = m32 x := fun x => m32_id (m32_in x)
  simp only [e3, e4, e5, beq_iff_eq]
  refine ⟨by rw [Int.add_comm], by unfold m32; omega, by rw [Int.mul_comm], ?_, by unfold m32; omega, by rw [Int.mul_one]; exact m32_id ha⟩
  have h1 : m32 (a * m32 (b + c)) = m32 (a * (b + c)) := by rw [← mul_mod a (m32 (b + c)), mm, mul_mod]
  rw [h1, Int.mul_add]
  unfold m32
  omega
end Go.Proofs.Ytphkljlbadpknaa
