/- The live question of layer 20. -/
import Derived.Test.YtphkljlbadpknaaAluE
set_option linter.unusedVariables false
set_option linter.unusedSimpArgs false
namespace Go.Proofs.Ytphkljlbadpknaa
open Go.RowKit

theorem RowU.str {w : World} {A : Option Addr} {n c : Nat} {xs : List Int} (h : RowU w (.slice A n c) xs) : (convert 22 9 (.slice A n c)).run Try.prog w = .ok (.string (strOfNums xs)) w := by
  obtain ⟨_, _, hv, hR, _⟩ := h
  cases hv
  exact run_str (P := Try.prog) Try.underlying22 Try.underlying5 Try.underlying9 c rfl hR
theorem RowU.form {w : World} {v : Value} {xs : List Int} (h : RowU w v xs) : ∃ A c, v = .slice A xs.length c ∧ xs.length ≤ c := by
  obtain ⟨A, c, h1, _, h2⟩ := h
  exact ⟨A, c, h1, h2⟩

theorem head20_facts : aluV 4 0 1 = 4294967295 ∧ aluE 4 1 = 0 ∧ aluV 5 65537 65537 = 131073 ∧ aluE 5 65537 = 0 ∧ aluE 6 4294967296 = 201 ∧ aluV 7 (-1) 1 = 0 ∧ aluE 7 1 = 0 ∧ aluE 9 1 = 151 ∧
    bytesN 258 3 = [0, 1, 2] ∧ bytesN 1 5 = [] ∧ numT [9, 0, 0, 1, 2] = 258 := by decide
theorem str_012 : strOfNums [0, 1, 2] = ⟨#[0, 1, 2]⟩ := rfl

set_option maxRecDepth 100000 in
set_option maxHeartbeats 1600000 in
theorem head20_true (w : World) : Calls Try.prog 9 #[] w fun e w' => e = .returned (.bool true) ∧ Below w.heap.size w w' := by
  obtain ⟨f1, f2, f3, f4, f5, f6, f7, f8, f9, f10, f11⟩ := head20_facts
  have F1 := Lib.hid f1
  have F2 := Lib.hid f2
  have F3 := Lib.hid f3
  have F4 := Lib.hid f4
  have F5 := Lib.hid f5
  have F6 := Lib.hid f6
  have F7 := Lib.hid f7
  have F8 := Lib.hid f8
  clear f1 f2 f3 f4 f5 f6 f7 f8
  have F9 := Lib.hid f9
  have F10 := Lib.hid f10
  have F11 := Lib.hid f11
  clear f9 f10 f11
  go_enter Try.func9, Try.ntmps9
  go_wp2_with fail
  refine (do_all 4 0 1 _).mono ?_
  rintro e w1 ⟨rfl, B1⟩
  rw [F1.out, F2.out]
  go_wp2_with fail
  refine (do_all 5 65537 65537 _).mono ?_
  rintro e w2 ⟨rfl, b2⟩
  rw [F3.out, F4.out]
  have B2 := below_then B1 B1.size b2
  clear B1 b2
  go_wp2_with fail
  refine (do_all 6 1 4294967296 _).mono ?_
  rintro e w3 ⟨rfl, b3⟩
  rw [F5.out]
  have B3 := below_then B2 B2.size b3
  clear B2 b3
  go_wp2_with fail
  refine (do_all 7 (-1) 1 _).mono ?_
  rintro e w4 ⟨rfl, b4⟩
  rw [F6.out, F7.out]
  have B4 := below_then B3 B3.size b4
  clear B3 b4
  go_wp2_with fail
  refine (do_all 9 1 1 _).mono ?_
  rintro e w5 ⟨rfl, b5⟩
  rw [F8.out]
  have B5 := below_then B4 B4.size b5
  clear B4 b5
  go_wp2_with fail
  refine (bytes_all 258 3 _).mono ?_
  rintro e w6 ⟨v, rfl, r6, b6⟩
  rw [F9.out] at r6
  obtain ⟨A, c, hv, _⟩ := r6.form
  have hv : v = .slice A 3 c := hv
  subst hv
  have k6 := r6.str
  rw [str_012] at k6
  have B6 := below_then B5 B5.size b6
  clear B5 b6 r6
  go_wp2_with fail
  have hA : Below w6.heap.size w6 (w6.alloc (.cells (u8s [9, 0, 0, 1, 2]).toArray 5)) := by go_grown
  have r7 := RowU.blk (Blk.new w6 (u8s [9, 0, 0, 1, 2]).toArray 5)
  have B7 := below_then B6 B6.size hA
  clear k6 B6 hA
  refine (number_row _ _ _ r7 (by unfold isB; decide) (by decide)).mono ?_
  rintro e w7 ⟨rfl, rfl⟩
  rw [F11.out]
  clear r7
  go_wp2_with fail
  refine (is_all 8 _).mono ?_
  rintro e w8 ⟨rfl, b8⟩
  rw [decide_eq_true (by decide)]
  have B8 := below_then B7 B7.size b8
  clear B7 b8
  go_wp2_with fail
  refine (is_all 17 _).mono ?_
  rintro e w9 ⟨rfl, b9⟩
  rw [decide_eq_false (by decide)]
  have B9 := below_then B8 B8.size b9
  clear B8 b9
  go_wp2_with fail
  refine (bytes_all 1 5 _).mono ?_
  rintro e w10 ⟨v, rfl, r10, b10⟩
  rw [F10.out] at r10
  obtain ⟨A, c, hv, _⟩ := r10.form
  have hv : v = .slice A 0 c := hv
  subst hv
  have B10 := below_then B9 B9.size b10
  clear B9 b10 r10
  go_wp2
  go_ret
  exact ⟨rfl, B10⟩

theorem rowU_le {w : World} {A : Option Addr} {n c : Nat} {xs : List Int} (h : RowU w (.slice A n c) xs) : xs.length = n := by
  obtain ⟨_, _, hv, _⟩ := h; cases hv; rfl
def RowS (xs : List Int) : Value → World → Prop := fun v w => RowU w v xs
theorem rowS_stab (xs : List Int) : ∀ v w w', RowS xs v w → Below w.heap.size w w' → RowS xs v w' := fun _ _ _ h hb => RowU.below h hb
end Go.Proofs.Ytphkljlbadpknaa
