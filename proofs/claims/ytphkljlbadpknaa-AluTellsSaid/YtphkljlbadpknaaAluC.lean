/- The reference's answers: the remainder, what an instruction makes. -/
import Derived.Test.YtphkljlbadpknaaAluB
set_option linter.unusedVariables false
set_option linter.unusedSimpArgs false
namespace Go.Proofs.Ytphkljlbadpknaa
open Go.RowKit

set_option maxRecDepth 100000 in
theorem mod_any (n : Int) (w : World) : Calls Try.prog 20 #[.int .i64 n] w fun e w' => e = .returned (.int .i64 (m32 n)) ∧ w = w' := by
  unfold m32
  by_cases h0 : 0 ≤ n
  · go_enter Try.func20, Try.ntmps20
    go_wp2
    go_ret
    exact ⟨by first | rfl | (refine congrArg Ending.returned (congrArg (Value.int .i64) ?_); omega), rfl⟩
  · have ht : n.tmod 4294967296 = -((-n) % 4294967296) := by
      rw [← Int.tmod_eq_emod_of_nonneg (show 0 ≤ -n by omega), Int.neg_tmod, Int.neg_neg]
    have hb : 0 ≤ (-n) % 4294967296 ∧ (-n) % 4294967296 < 4294967296 := by omega
    by_cases hz : (-n) % 4294967296 = 0
    · have hlt : ¬ n.tmod 4294967296 < 0 := by omega
      have hg : n.tmod 4294967296 = n % 4294967296 := by omega
      have Hg := Lib.hid hg
      clear hz hb ht hg
      go_enter Try.func20, Try.ntmps20
      go_wp2
      go_ret
      exact ⟨by first | rfl | (refine congrArg Ending.returned (congrArg (Value.int .i64) ?_); exact Hg.out), rfl⟩
    · have hlt : n.tmod 4294967296 < 0 := by omega
      have hlo : -4294967296 < n.tmod 4294967296 := by omega
      have hg : n.tmod 4294967296 + 4294967296 = n % 4294967296 := by omega
      have Hg := Lib.hid hg
      clear hz hb ht hg
      go_enter Try.func20, Try.ntmps20
      go_wp2
      go_ret
      exact ⟨by first | rfl | (refine congrArg Ending.returned (congrArg (Value.int .i64) ?_); exact Hg.out), rfl⟩

theorem mul_hi (x y : Int) : m32 (m32 (x * (y / 65536)) * 65536 + x * (y % 65536)) = m32 (x * y) := by
  have e : x * y = x * (y / 65536) * 65536 + x * (y % 65536) := by
    rw [Int.mul_assoc, ← Int.mul_add, Int.mul_comm (y / 65536) 65536, Int.mul_ediv_add_emod]
  rw [e]
  unfold m32
  omega
theorem mul_mod (a b : Int) : m32 (m32 a * m32 b) = m32 (a * b) := (Int.mul_emod a b 4294967296).symm
theorem mul_bd {x z : Int} (B : Int) (hx : 0 ≤ x ∧ x ≤ 4294967295) (hz : 0 ≤ z ∧ z ≤ B) : 0 ≤ x * z ∧ x * z ≤ 4294967295 * B :=
  ⟨Int.mul_nonneg hx.1 hz.1, Int.le_trans (Int.mul_le_mul_of_nonneg_right hx.2 hz.1) (Int.mul_le_mul_of_nonneg_left hz.2 (by omega))⟩

set_option maxRecDepth 100000 in
set_option maxHeartbeats 1600000 in
theorem ref_do_mul (a b : Int) (w : World) : Calls Try.prog 11 #[.int .i64 5, .int .i64 a, .int .i64 b] w fun e w' => e = .returned (.tuple #[.int .i64 (m32 (a * b)), .int .i64 0]) ∧ w = w' := by
  obtain ⟨x0, x1⟩ := m32_in a
  obtain ⟨y0, y1⟩ := m32_in b
  have hg : m32 (m32 (m32 a * (m32 b / 65536)) * 65536 + m32 a * (m32 b % 65536)) = m32 (a * b) := by rw [mul_hi, mul_mod]
  obtain ⟨p0, p1⟩ := mul_bd 65535 (m32_in a) (z := m32 b / 65536) (by omega)
  obtain ⟨q0, q1⟩ := mul_bd 65535 (m32_in a) (z := m32 b % 65536) (by omega)
  obtain ⟨r0, r1⟩ := m32_in (m32 a * (m32 b / 65536))
  have Hg := Lib.hid hg
  clear hg
  go_enter Try.func11, Try.ntmps11
  go_wp2_with (go_at_call 20; refine (mod_any _ _).mono ?_; rintro e w' ⟨rfl, rfl⟩)
  go_ret2
  exact ⟨tup2 Hg.out, rfl⟩
set_option maxRecDepth 100000 in theorem ref_do_3 (a b : Int) (w : World)  : Calls Try.prog 11 #[.int .i64 3, .int .i64 a, .int .i64 b] w fun e w' => e = .returned (.tuple #[.int .i64 (m32 (a + b)), .int .i64 0]) ∧ w = w' := by (obtain ⟨x0, x1⟩ := m32_in a; obtain ⟨y0, y1⟩ := m32_in b; (skip); (try clear hz); go_enter Try.func11, Try.ntmps11; go_wp2_with (go_at_call 20; refine (mod_any _ _).mono ?_; rintro e w' ⟨rfl, rfl⟩); go_ret2; exact ⟨(tup2 (by unfold m32; omega)), rfl⟩)
set_option maxRecDepth 100000 in theorem ref_do_4 (a b : Int) (w : World)  : Calls Try.prog 11 #[.int .i64 4, .int .i64 a, .int .i64 b] w fun e w' => e = .returned (.tuple #[.int .i64 (m32 (a - b)), .int .i64 0]) ∧ w = w' := by (obtain ⟨x0, x1⟩ := m32_in a; obtain ⟨y0, y1⟩ := m32_in b; (skip); (try clear hz); go_enter Try.func11, Try.ntmps11; go_wp2_with (go_at_call 20; refine (mod_any _ _).mono ?_; rintro e w' ⟨rfl, rfl⟩); go_ret2; exact ⟨(tup2 (by unfold m32; omega)), rfl⟩)
set_option maxRecDepth 100000 in theorem ref_do_6z (a b : Int) (w : World) (hz : m32 b = 0) : Calls Try.prog 11 #[.int .i64 6, .int .i64 a, .int .i64 b] w fun e w' => e = .returned (.tuple #[.int .i64 (0), .int .i64 201]) ∧ w = w' := by (obtain ⟨x0, x1⟩ := m32_in a; obtain ⟨y0, y1⟩ := m32_in b; (have hz' : (m32 b == 0) = true := (by rw [beq_iff_eq]; exact hz)); (try clear hz); go_enter Try.func11, Try.ntmps11; go_wp2_with (go_at_call 20; refine (mod_any _ _).mono ?_; rintro e w' ⟨rfl, rfl⟩); go_ret2; exact ⟨rfl, rfl⟩)
set_option maxRecDepth 100000 in theorem ref_do_6 (a b : Int) (w : World) (hz : ¬ m32 b = 0) : Calls Try.prog 11 #[.int .i64 6, .int .i64 a, .int .i64 b] w fun e w' => e = .returned (.tuple #[.int .i64 (m32 a / m32 b), .int .i64 0]) ∧ w = w' := by (obtain ⟨x0, x1⟩ := m32_in a; obtain ⟨y0, y1⟩ := m32_in b; ((have hz' : (m32 b == 0) = false := (by rw [beq_eq_false_iff_ne]; exact hz); have hz2 : 1 ≤ m32 b := by omega)); (try clear hz); go_enter Try.func11, Try.ntmps11; go_wp2_with (go_at_call 20; refine (mod_any _ _).mono ?_; rintro e w' ⟨rfl, rfl⟩); go_ret2; exact ⟨(tup2 (by first | rfl | exact div_in (m32_in a) (by have := (m32_in b).1; omega))), rfl⟩)
set_option maxRecDepth 100000 in theorem ref_do_7t (a b : Int) (w : World) (hz : m32 a < m32 b) : Calls Try.prog 11 #[.int .i64 7, .int .i64 a, .int .i64 b] w fun e w' => e = .returned (.tuple #[.int .i64 (1), .int .i64 0]) ∧ w = w' := by (obtain ⟨x0, x1⟩ := m32_in a; obtain ⟨y0, y1⟩ := m32_in b; (have hz' := hz); (try clear hz); go_enter Try.func11, Try.ntmps11; go_wp2_with (go_at_call 20; refine (mod_any _ _).mono ?_; rintro e w' ⟨rfl, rfl⟩); go_ret2; exact ⟨rfl, rfl⟩)
set_option maxRecDepth 100000 in theorem ref_do_7f (a b : Int) (w : World) (hz : ¬ m32 a < m32 b) : Calls Try.prog 11 #[.int .i64 7, .int .i64 a, .int .i64 b] w fun e w' => e = .returned (.tuple #[.int .i64 (0), .int .i64 0]) ∧ w = w' := by (obtain ⟨x0, x1⟩ := m32_in a; obtain ⟨y0, y1⟩ := m32_in b; (have hz' := hz); (try clear hz); go_enter Try.func11, Try.ntmps11; go_wp2_with (go_at_call 20; refine (mod_any _ _).mono ?_; rintro e w' ⟨rfl, rfl⟩); go_ret2; exact ⟨rfl, rfl⟩)
set_option maxRecDepth 100000 in theorem ref_do_8t (a b : Int) (w : World) (hz : m32 a = m32 b) : Calls Try.prog 11 #[.int .i64 8, .int .i64 a, .int .i64 b] w fun e w' => e = .returned (.tuple #[.int .i64 (1), .int .i64 0]) ∧ w = w' := by (obtain ⟨x0, x1⟩ := m32_in a; obtain ⟨y0, y1⟩ := m32_in b; (have hz' : (m32 a == m32 b) = true := (by rw [beq_iff_eq]; exact hz)); (try clear hz); go_enter Try.func11, Try.ntmps11; go_wp2_with (go_at_call 20; refine (mod_any _ _).mono ?_; rintro e w' ⟨rfl, rfl⟩); go_ret2; exact ⟨rfl, rfl⟩)
set_option maxRecDepth 100000 in theorem ref_do_8f (a b : Int) (w : World) (hz : ¬ m32 a = m32 b) : Calls Try.prog 11 #[.int .i64 8, .int .i64 a, .int .i64 b] w fun e w' => e = .returned (.tuple #[.int .i64 (0), .int .i64 0]) ∧ w = w' := by (obtain ⟨x0, x1⟩ := m32_in a; obtain ⟨y0, y1⟩ := m32_in b; (have hz' : (m32 a == m32 b) = false := (by rw [beq_eq_false_iff_ne]; exact hz)); (try clear hz); go_enter Try.func11, Try.ntmps11; go_wp2_with (go_at_call 20; refine (mod_any _ _).mono ?_; rintro e w' ⟨rfl, rfl⟩); go_ret2; exact ⟨rfl, rfl⟩)
set_option maxRecDepth 100000 in
theorem ref_do_none (k a b : Int) (w : World) (h : ¬ (3 ≤ k ∧ k ≤ 8)) : Calls Try.prog 11 #[.int .i64 k, .int .i64 a, .int .i64 b] w fun e w' => e = .returned (.tuple #[.int .i64 0, .int .i64 151]) ∧ w = w' := by
  have h3 : (k == 3) = false := by rw [beq_eq_false_iff_ne]; omega
  have h4 : (k == 4) = false := by rw [beq_eq_false_iff_ne]; omega
  have h5 : (k == 5) = false := by rw [beq_eq_false_iff_ne]; omega
  have h6 : (k == 6) = false := by rw [beq_eq_false_iff_ne]; omega
  have h7 : (k == 7) = false := by rw [beq_eq_false_iff_ne]; omega
  have h8 : (k == 8) = false := by rw [beq_eq_false_iff_ne]; omega
  clear h
  go_enter Try.func11, Try.ntmps11
  go_wp2_with (go_at_call 20; refine (mod_any _ _).mono ?_; rintro e w' ⟨rfl, rfl⟩)
  go_ret2
  exact ⟨rfl, rfl⟩

theorem ref_do_all (k a b : Int) (w : World) : Calls Try.prog 11 #[.int .i64 k, .int .i64 a, .int .i64 b] w fun e w' => e = .returned (.tuple #[.int .i64 (aluV k a b), .int .i64 (aluE k b)]) ∧ w = w' := by
  by_cases h : 3 ≤ k ∧ k ≤ 8
  · have : k = 3 ∨ k = 4 ∨ k = 5 ∨ k = 6 ∨ k = 7 ∨ k = 8 := by omega
    rcases this with rfl | rfl | rfl | rfl | rfl | rfl
    · exact ref_do_3 a b w
    · exact ref_do_4 a b w
    · exact ref_do_mul a b w
    · by_cases hz : m32 b = 0
      · exact (ref_do_6z a b w hz).mono fun e w' ⟨h1, h2⟩ => ⟨by rw [h1]; exact tup2' (by simp [aluV, hz]) (by simp [aluE, hz]), h2⟩
      · exact (ref_do_6 a b w hz).mono fun e w' ⟨h1, h2⟩ => ⟨by rw [h1]; exact tup2' (by simp [aluV, hz]) (by simp [aluE, hz]), h2⟩
    · by_cases hz : m32 a < m32 b
      · exact (ref_do_7t a b w hz).mono fun e w' ⟨h1, h2⟩ => ⟨by rw [h1]; exact tup2' (by simp [aluV, hz]) (by simp [aluE]), h2⟩
      · exact (ref_do_7f a b w hz).mono fun e w' ⟨h1, h2⟩ => ⟨by rw [h1]; exact tup2' (by simp [aluV, hz]) (by simp [aluE]), h2⟩
    · by_cases hz : m32 a = m32 b
      · exact (ref_do_8t a b w hz).mono fun e w' ⟨h1, h2⟩ => ⟨by rw [h1]; exact tup2' (by simp [aluV, hz]) (by simp [aluE]), h2⟩
      · exact (ref_do_8f a b w hz).mono fun e w' ⟨h1, h2⟩ => ⟨by rw [h1]; exact tup2' (by simp [aluV, hz]) (by simp [aluE]), h2⟩
  · have e1 : aluV k a b = 0 := by rw [aluV, if_neg (by omega), if_neg (by omega), if_neg (by omega), if_neg (by omega), if_neg (by omega), if_neg (by omega)]
    have e2 : aluE k b = 151 := by rw [aluE, if_neg h]
    rw [e1, e2]
    exact ref_do_none k a b w h

set_option maxRecDepth 100000 in
theorem ref_is_all (k : Int) (w : World) : Calls Try.prog 13 #[.int .i64 k] w fun e w' => e = .returned (.bool (decide (3 ≤ k ∧ k ≤ 8))) ∧ w = w' := by
  by_cases h : 3 ≤ k ∧ k ≤ 8
  · rw [decide_eq_true h]
    obtain ⟨h1, h2⟩ := h
    go_enter Try.func13, Try.ntmps13
    go_wp2
    go_ret
    exact ⟨rfl, rfl⟩
  · rw [decide_eq_false h]
    by_cases h1 : 3 ≤ k
    · have h2 : ¬ k ≤ 8 := fun e => h ⟨h1, e⟩
      clear h
      go_enter Try.func13, Try.ntmps13
      go_wp2
      go_ret
      exact ⟨rfl, rfl⟩
    · clear h
      go_enter Try.func13, Try.ntmps13
      go_wp2
      go_ret
      exact ⟨rfl, rfl⟩
end Go.Proofs.Ytphkljlbadpknaa
