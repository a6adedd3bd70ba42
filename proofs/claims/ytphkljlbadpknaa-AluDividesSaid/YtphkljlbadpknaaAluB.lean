/- What an instruction makes of two numbers. -/
import Derived.Test.YtphkljlbadpknaaAluA
set_option linter.unusedVariables false
set_option linter.unusedSimpArgs false
namespace Go.Proofs.Ytphkljlbadpknaa
open Go.RowKit

theorem zeroRule (w : World) : (zeroValue 41).run Try.prog w = .ok (.agg #[.nilFunc, .bool false]) w := by kernel_rfl
theorem get_rule {w : World} {b : Nat} {k : Int} {f : Nat} {d : Bool} {i : Nat} (h : MapB w b aluEs 6) (hf : Instr.findNow (.int .i64) (.int .i64 k) aluEs.toList 0 = some (some (i, .agg #[.func (.func f) #[] #[], .bool d]))) :
    (Instr.lookup 43 (.map (some b)) (.int .i64 k) true).run Try.prog w = .ok (.tuple #[.agg #[.func (.func f) #[] #[], .bool d], .bool true]) w :=
  run_map_get Try.underlying43 Try.underlying3 h hf
theorem get_none {w : World} {b : Nat} {k : Int} (h : MapB w b aluEs 6) (hk : ¬ (3 ≤ k ∧ k ≤ 8)) :
    (Instr.lookup 43 (.map (some b)) (.int .i64 k) true).run Try.prog w = .ok (.tuple #[.agg #[.nilFunc, .bool false], .bool false]) w := by
  refine run_map_none Try.underlying43 Try.underlying3 h ?_ (zeroRule w)
  have h3 : (k == 3) = false := by rw [beq_eq_false_iff_ne]; omega
  have h4 : (k == 4) = false := by rw [beq_eq_false_iff_ne]; omega
  have h5 : (k == 5) = false := by rw [beq_eq_false_iff_ne]; omega
  have h6 : (k == 6) = false := by rw [beq_eq_false_iff_ne]; omega
  have h7 : (k == 7) = false := by rw [beq_eq_false_iff_ne]; omega
  have h8 : (k == 8) = false := by rw [beq_eq_false_iff_ne]; omega
  simp [aluEs, aluEntry, Instr.findNow, Instr.sameNow, h3, h4, h5, h6, h7, h8]

set_option maxRecDepth 100000 in
set_option maxHeartbeats 800000 in
theorem is_none (k : Int) (w : World) (hk : ¬ (3 ≤ k ∧ k ≤ 8)) : Calls Try.prog 12 #[.int .i64 k] w fun e w' => e = .returned (.bool false) ∧ Below w.heap.size w w' := by
  have Hk := Lib.hid hk
  clear hk
  go_enter Try.func12, Try.ntmps12
  go_wp2_with fail
  refine (rules_any _).mono ?_
  rintro e w1 ⟨b, rfl, hM, hB, _⟩
  have hl := get_none hM Hk.out
  clear hM
  go_wp2
  go_ret
  exact ⟨rfl, hB.alloc hB.size _⟩

set_option maxRecDepth 100000 in set_option maxHeartbeats 800000 in theorem is_3 (w : World) : Calls Try.prog 12 #[.int .i64 3] w fun e w' => e = .returned (.bool true) ∧ Below w.heap.size w w' := by (go_enter Try.func12, Try.ntmps12; go_wp2_with fail; refine (rules_any _).mono ?_; rintro e w1 ⟨b, rfl, hM, hB, _⟩; have hl := get_rule (k := 3) (f := 21) (d := false) (i := 0) hM rfl; clear hM; go_wp2; go_ret; exact ⟨rfl, hB.alloc hB.size _⟩)
set_option maxRecDepth 100000 in set_option maxHeartbeats 800000 in theorem is_4 (w : World) : Calls Try.prog 12 #[.int .i64 4] w fun e w' => e = .returned (.bool true) ∧ Below w.heap.size w w' := by (go_enter Try.func12, Try.ntmps12; go_wp2_with fail; refine (rules_any _).mono ?_; rintro e w1 ⟨b, rfl, hM, hB, _⟩; have hl := get_rule (k := 4) (f := 22) (d := false) (i := 1) hM rfl; clear hM; go_wp2; go_ret; exact ⟨rfl, hB.alloc hB.size _⟩)
set_option maxRecDepth 100000 in set_option maxHeartbeats 800000 in theorem is_5 (w : World) : Calls Try.prog 12 #[.int .i64 5] w fun e w' => e = .returned (.bool true) ∧ Below w.heap.size w w' := by (go_enter Try.func12, Try.ntmps12; go_wp2_with fail; refine (rules_any _).mono ?_; rintro e w1 ⟨b, rfl, hM, hB, _⟩; have hl := get_rule (k := 5) (f := 23) (d := false) (i := 2) hM rfl; clear hM; go_wp2; go_ret; exact ⟨rfl, hB.alloc hB.size _⟩)
set_option maxRecDepth 100000 in set_option maxHeartbeats 800000 in theorem is_6 (w : World) : Calls Try.prog 12 #[.int .i64 6] w fun e w' => e = .returned (.bool true) ∧ Below w.heap.size w w' := by (go_enter Try.func12, Try.ntmps12; go_wp2_with fail; refine (rules_any _).mono ?_; rintro e w1 ⟨b, rfl, hM, hB, _⟩; have hl := get_rule (k := 6) (f := 24) (d := true) (i := 3) hM rfl; clear hM; go_wp2; go_ret; exact ⟨rfl, hB.alloc hB.size _⟩)
set_option maxRecDepth 100000 in set_option maxHeartbeats 800000 in theorem is_7 (w : World) : Calls Try.prog 12 #[.int .i64 7] w fun e w' => e = .returned (.bool true) ∧ Below w.heap.size w w' := by (go_enter Try.func12, Try.ntmps12; go_wp2_with fail; refine (rules_any _).mono ?_; rintro e w1 ⟨b, rfl, hM, hB, _⟩; have hl := get_rule (k := 7) (f := 25) (d := false) (i := 4) hM rfl; clear hM; go_wp2; go_ret; exact ⟨rfl, hB.alloc hB.size _⟩)
set_option maxRecDepth 100000 in set_option maxHeartbeats 800000 in theorem is_8 (w : World) : Calls Try.prog 12 #[.int .i64 8] w fun e w' => e = .returned (.bool true) ∧ Below w.heap.size w w' := by (go_enter Try.func12, Try.ntmps12; go_wp2_with fail; refine (rules_any _).mono ?_; rintro e w1 ⟨b, rfl, hM, hB, _⟩; have hl := get_rule (k := 8) (f := 27) (d := false) (i := 5) hM rfl; clear hM; go_wp2; go_ret; exact ⟨rfl, hB.alloc hB.size _⟩)

theorem is_all (k : Int) (w : World) : Calls Try.prog 12 #[.int .i64 k] w fun e w' => e = .returned (.bool (decide (3 ≤ k ∧ k ≤ 8))) ∧ Below w.heap.size w w' := by
  by_cases h : 3 ≤ k ∧ k ≤ 8
  · rw [decide_eq_true h]
    have : k = 3 ∨ k = 4 ∨ k = 5 ∨ k = 6 ∨ k = 7 ∨ k = 8 := by omega
    rcases this with rfl | rfl | rfl | rfl | rfl | rfl
    · exact is_3 w
    · exact is_4 w
    · exact is_5 w
    · exact is_6 w
    · exact is_7 w
    · exact is_8 w
  · rw [decide_eq_false h]
    exact is_none k w h

/-- The numbers modulo 2^32. -/
def m32 (x : Int) : Int := x % 4294967296
theorem m32_in (x : Int) : 0 ≤ m32 x ∧ m32 x ≤ 4294967295 := by unfold m32; omega
theorem tup2 {x y e : Int} (h : x = y) : Ending.returned (.tuple #[.int .i64 x, .int .i64 e]) = .returned (.tuple #[.int .i64 y, .int .i64 e]) := by rw [h]
theorem div_le {x y : Int} (hx : 0 ≤ x ∧ x ≤ 4294967295) (hy : 1 ≤ y) : 0 ≤ x / y ∧ x / y ≤ x := ⟨Int.ediv_nonneg hx.1 (by omega), Int.ediv_le_self _ hx.1⟩
theorem div_in {x y : Int} (hx : 0 ≤ x ∧ x ≤ 4294967295) (hy : 1 ≤ y) : wrap64 (x / y) = x / y := by
  have := div_le hx hy
  exact IntWalk.wrap64_in _ ⟨by omega, by omega⟩
set_option maxRecDepth 100000 in
set_option maxHeartbeats 800000 in
theorem do_none (k a b : Int) (w : World) (hk : ¬ (3 ≤ k ∧ k ≤ 8)) : Calls Try.prog 10 #[.int .i64 k, .int .i64 a, .int .i64 b] w fun e w' => e = .returned (.tuple #[.int .i64 0, .int .i64 151]) ∧ Below w.heap.size w w' := by
  have Hk := Lib.hid hk
  clear hk
  go_enter Try.func10, Try.ntmps10
  go_wp2_with fail
  refine (rules_any _).mono ?_
  rintro e w1 ⟨b, rfl, hM, hB, _⟩
  have hl := get_none hM Hk.out
  clear hM
  go_wp2
  go_ret2
  exact ⟨rfl, hB.alloc hB.size _⟩
set_option maxRecDepth 100000 in
set_option maxHeartbeats 800000 in
theorem do_3 (a b : Int) (w : World) : Calls Try.prog 10 #[.int .i64 3, .int .i64 a, .int .i64 b] w fun e w' => e = .returned (.tuple #[.int .i64 (m32 (a + b)), .int .i64 0]) ∧ Below w.heap.size w w' := by
  go_enter Try.func10, Try.ntmps10
  go_wp2_with fail
  refine (rules_any _).mono ?_
  rintro e w1 ⟨bm, rfl, hM, hB, _⟩
  have hl := get_rule (k := 3) (f := 21) (d := false) (i := 0) hM rfl
  clear hM
  go_wp2
  go_ret2
  exact ⟨rfl, hB.alloc hB.size _⟩

set_option maxRecDepth 100000 in
set_option maxHeartbeats 800000 in
theorem do_4 (a b : Int) (w : World) : Calls Try.prog 10 #[.int .i64 4, .int .i64 a, .int .i64 b] w fun e w' => e = .returned (.tuple #[.int .i64 (m32 (a - b)), .int .i64 0]) ∧ Below w.heap.size w w' := by
  go_enter Try.func10, Try.ntmps10
  go_wp2_with fail
  refine (rules_any _).mono ?_
  rintro e w1 ⟨bm, rfl, hM, hB, _⟩
  have hl := get_rule (k := 4) (f := 22) (d := false) (i := 1) hM rfl
  clear hM
  go_wp2
  go_ret2
  exact ⟨rfl, hB.alloc hB.size _⟩

set_option maxRecDepth 100000 in
set_option maxHeartbeats 800000 in
theorem do_5 (a b : Int) (w : World) : Calls Try.prog 10 #[.int .i64 5, .int .i64 a, .int .i64 b] w fun e w' => e = .returned (.tuple #[.int .i64 (m32 (a * b)), .int .i64 0]) ∧ Below w.heap.size w w' := by
  go_enter Try.func10, Try.ntmps10
  go_wp2_with fail
  refine (rules_any _).mono ?_
  rintro e w1 ⟨bm, rfl, hM, hB, _⟩
  have hl := get_rule (k := 5) (f := 23) (d := false) (i := 2) hM rfl
  clear hM
  go_wp2
  go_ret2
  exact ⟨tup2 (Int.mul_emod a b 4294967296).symm, hB.alloc hB.size _⟩

set_option maxRecDepth 100000 in
set_option maxHeartbeats 800000 in
theorem do_6z (a b : Int) (w : World) (hz : m32 b = 0) : Calls Try.prog 10 #[.int .i64 6, .int .i64 a, .int .i64 b] w fun e w' => e = .returned (.tuple #[.int .i64 (0), .int .i64 201]) ∧ Below w.heap.size w w' := by
  unfold m32 at hz
  go_enter Try.func10, Try.ntmps10
  go_wp2_with fail
  refine (rules_any _).mono ?_
  rintro e w1 ⟨bm, rfl, hM, hB, _⟩
  have hl := get_rule (k := 6) (f := 24) (d := true) (i := 3) hM rfl
  clear hM
  go_wp2
  go_ret2
  exact ⟨rfl, hB.alloc hB.size _⟩

set_option maxRecDepth 100000 in
set_option maxHeartbeats 800000 in
theorem do_6 (a b : Int) (w : World) (hz : ¬ m32 b = 0) : Calls Try.prog 10 #[.int .i64 6, .int .i64 a, .int .i64 b] w fun e w' => e = .returned (.tuple #[.int .i64 (m32 a / m32 b), .int .i64 0]) ∧ Below w.heap.size w w' := by
  unfold m32 at hz
  have h1 : 1 ≤ b % 4294967296 := by omega
  have h2 : (b % 4294967296 == 0) = false := by rw [beq_eq_false_iff_ne]; exact hz
  clear hz
  go_enter Try.func10, Try.ntmps10
  go_wp2_with fail
  refine (rules_any _).mono ?_
  rintro e w1 ⟨bm, rfl, hM, hB, _⟩
  have hl := get_rule (k := 6) (f := 24) (d := true) (i := 3) hM rfl
  clear hM
  go_wp2
  go_ret2
  exact ⟨tup2 (div_in (m32_in a) h1), hB.alloc hB.size _⟩

set_option maxRecDepth 100000 in
set_option maxHeartbeats 800000 in
theorem do_7t (a b : Int) (w : World) (h : m32 a < m32 b) : Calls Try.prog 10 #[.int .i64 7, .int .i64 a, .int .i64 b] w fun e w' => e = .returned (.tuple #[.int .i64 (1), .int .i64 0]) ∧ Below w.heap.size w w' := by
  unfold m32 at h
  go_enter Try.func10, Try.ntmps10
  go_wp2_with fail
  refine (rules_any _).mono ?_
  rintro e w1 ⟨bm, rfl, hM, hB, _⟩
  have hl := get_rule (k := 7) (f := 25) (d := false) (i := 4) hM rfl
  clear hM
  go_wp2
  go_ret2
  exact ⟨rfl, hB.alloc hB.size _⟩

set_option maxRecDepth 100000 in
set_option maxHeartbeats 800000 in
theorem do_7f (a b : Int) (w : World) (h : ¬ m32 a < m32 b) : Calls Try.prog 10 #[.int .i64 7, .int .i64 a, .int .i64 b] w fun e w' => e = .returned (.tuple #[.int .i64 (0), .int .i64 0]) ∧ Below w.heap.size w w' := by
  unfold m32 at h
  go_enter Try.func10, Try.ntmps10
  go_wp2_with fail
  refine (rules_any _).mono ?_
  rintro e w1 ⟨bm, rfl, hM, hB, _⟩
  have hl := get_rule (k := 7) (f := 25) (d := false) (i := 4) hM rfl
  clear hM
  go_wp2
  go_ret2
  exact ⟨rfl, hB.alloc hB.size _⟩

set_option maxRecDepth 100000 in
set_option maxHeartbeats 800000 in
theorem do_8t (a b : Int) (w : World) (h : m32 a = m32 b) : Calls Try.prog 10 #[.int .i64 8, .int .i64 a, .int .i64 b] w fun e w' => e = .returned (.tuple #[.int .i64 (1), .int .i64 0]) ∧ Below w.heap.size w w' := by
  have h2 : (a % 4294967296 == b % 4294967296) = true := by rw [beq_iff_eq]; exact h
  clear h
  go_enter Try.func10, Try.ntmps10
  go_wp2_with fail
  refine (rules_any _).mono ?_
  rintro e w1 ⟨bm, rfl, hM, hB, _⟩
  have hl := get_rule (k := 8) (f := 27) (d := false) (i := 5) hM rfl
  clear hM
  go_wp2
  go_ret2
  exact ⟨rfl, hB.alloc hB.size _⟩

set_option maxRecDepth 100000 in
set_option maxHeartbeats 800000 in
theorem do_8f (a b : Int) (w : World) (h : ¬ m32 a = m32 b) : Calls Try.prog 10 #[.int .i64 8, .int .i64 a, .int .i64 b] w fun e w' => e = .returned (.tuple #[.int .i64 (0), .int .i64 0]) ∧ Below w.heap.size w w' := by
  have h2 : (a % 4294967296 == b % 4294967296) = false := by rw [beq_eq_false_iff_ne]; exact h
  clear h
  go_enter Try.func10, Try.ntmps10
  go_wp2_with fail
  refine (rules_any _).mono ?_
  rintro e w1 ⟨bm, rfl, hM, hB, _⟩
  have hl := get_rule (k := 8) (f := 27) (d := false) (i := 5) hM rfl
  clear hM
  go_wp2
  go_ret2
  exact ⟨rfl, hB.alloc hB.size _⟩

/-- What an instruction makes of two numbers, and what is wrong. -/
def aluV (k a b : Int) : Int :=
  if k = 3 then m32 (a + b) else if k = 4 then m32 (a - b) else if k = 5 then m32 (a * b) else if k = 6 then (if m32 b = 0 then 0 else m32 a / m32 b) else if k = 7 then (if m32 a < m32 b then 1 else 0) else if k = 8 then (if m32 a = m32 b then 1 else 0) else 0
def aluE (k b : Int) : Int := if 3 ≤ k ∧ k ≤ 8 then (if k = 6 ∧ m32 b = 0 then 201 else 0) else 151
theorem tup2' {x y e f : Int} (h : x = y) (h' : e = f) : Ending.returned (.tuple #[.int .i64 x, .int .i64 e]) = .returned (.tuple #[.int .i64 y, .int .i64 f]) := by rw [h, h']
theorem do_all (k a b : Int) (w : World) : Calls Try.prog 10 #[.int .i64 k, .int .i64 a, .int .i64 b] w fun e w' => e = .returned (.tuple #[.int .i64 (aluV k a b), .int .i64 (aluE k b)]) ∧ Below w.heap.size w w' := by
  by_cases h : 3 ≤ k ∧ k ≤ 8
  · have : k = 3 ∨ k = 4 ∨ k = 5 ∨ k = 6 ∨ k = 7 ∨ k = 8 := by omega
    rcases this with rfl | rfl | rfl | rfl | rfl | rfl
    · exact do_3 a b w
    · exact do_4 a b w
    · exact do_5 a b w
    · by_cases hz : m32 b = 0
      · exact (do_6z a b w hz).mono fun e w' ⟨h1, h2⟩ => ⟨by rw [h1]; exact tup2' (by simp [aluV, hz]) (by simp [aluE, hz]), h2⟩
      · exact (do_6 a b w hz).mono fun e w' ⟨h1, h2⟩ => ⟨by rw [h1]; exact tup2' (by simp [aluV, hz]) (by simp [aluE, hz]), h2⟩
    · by_cases hz : m32 a < m32 b
      · exact (do_7t a b w hz).mono fun e w' ⟨h1, h2⟩ => ⟨by rw [h1]; exact tup2' (by simp [aluV, hz]) (by simp [aluE]), h2⟩
      · exact (do_7f a b w hz).mono fun e w' ⟨h1, h2⟩ => ⟨by rw [h1]; exact tup2' (by simp [aluV, hz]) (by simp [aluE]), h2⟩
    · by_cases hz : m32 a = m32 b
      · exact (do_8t a b w hz).mono fun e w' ⟨h1, h2⟩ => ⟨by rw [h1]; exact tup2' (by simp [aluV, hz]) (by simp [aluE]), h2⟩
      · exact (do_8f a b w hz).mono fun e w' ⟨h1, h2⟩ => ⟨by rw [h1]; exact tup2' (by simp [aluV, hz]) (by simp [aluE]), h2⟩
  · have e1 : aluV k a b = 0 := by rw [aluV, if_neg (by omega), if_neg (by omega), if_neg (by omega), if_neg (by omega), if_neg (by omega), if_neg (by omega)]
    have e2 : aluE k b = 151 := by rw [aluE, if_neg h]
    rw [e1, e2]
    exact do_none k a b w h
end Go.Proofs.Ytphkljlbadpknaa
