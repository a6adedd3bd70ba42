/- The live question. -/
import Derived.Test.YtjimkkkiilcpoaaShH
set_option linter.unusedVariables false
set_option linter.unusedSimpArgs false
namespace Go.Proofs.Ytjimkkkiilcpoaa
open Go.RowKit

def hP0 : List Bool := List.replicate 70 false
def hP1 : List Bool := paintR hP0 1 3 true
def hP2 : List Bool := paintR hP1 63 66 true
def hP3 : List Bool := paintR hP2 64 65 false
theorem hP_facts : manyL hP3 = 4 ∧ isB' hP3 47 = true ∧ isB' hP3 48 = false ∧ isB' hP3 (-1) = false ∧ isB' hP3 1099511627776 = false ∧ hitsB hP3 true 31 99 = true ∧ hitsB hP3 false 31 0 = false ∧ runsL hP3 = [(16, 48), (1008, 1024), (1040, 1056)] := by decide +kernel
theorem hP_len : hP0.length = 70 ∧ hP1.length = 70 ∧ hP2.length = 70 ∧ hP3.length = 70 := by decide +kernel

theorem ShM.grown {w w1 : World} {b bW : Nat} {P : List Bool} {row : Option Nat} (h : ShM w b bW P) (hg : w.grownBy w1 row) (h1 : some b ≠ row) (h2 : some bW ≠ row) : ShM w1 b bW P := by
  obtain ⟨hg', hB, xs, hx, hW⟩ := h
  exact ⟨hg', hB.grown hg h1, xs, hx, hW.grown hg h2⟩

set_option maxRecDepth 100000 in
set_option maxHeartbeats 3200000 in
theorem head8_true (w : World) : Calls Try.prog 31 #[] w fun e w' => e = .returned (.bool true) ∧ Below w.heap.size w w' := by
  go_enter Try.func31, Try.ntmps31
  go_wp2_with fail
  refine (new_any 70 w (by decide) (by decide)).mono ?_
  rintro e w1 ⟨b, bW, rfl, m0, gW, gb, hne, B1⟩
  have m0 : ShM w1 b bW hP0 := m0
  go_wp2_with fail
  refine (new_none 0 w1 (by decide)).mono ?_
  rintro e w2 ⟨rfl, rfl⟩
  go_wp2_with fail
  refine (new_none 1048577 _ (by decide)).mono ?_
  rintro e w3 ⟨rfl, rfl⟩
  go_wp2_with fail
  refine (paint_yes b bW hP0 16 48 true _ ⟨by decide, by decide⟩ ⟨by decide, by decide⟩ m0 hne.symm (by decide +kernel)).mono ?_
  rintro e w4 ⟨rfl, m1, G1⟩
  have m1 : ShM w4 b bW hP1 := m1
  have B2 := B1.grown G1 B1.size (by intro k hk; cases hk; exact gW)
  clear m0 B1 G1
  go_wp2_with fail
  refine (paint_yes b bW hP1 1008 1056 true _ ⟨by decide, by decide⟩ ⟨by decide, by decide⟩ m1 hne.symm (by decide +kernel)).mono ?_
  rintro e w5 ⟨rfl, m2, G2⟩
  have m2 : ShM w5 b bW hP2 := m2
  have B3 := B2.grown G2 B2.size (by intro k hk; cases hk; exact gW)
  clear m1 B2 G2
  go_wp2_with fail
  refine (paint_no b bW hP2 8 48 true _ ⟨by decide, by decide⟩ ⟨by decide, by decide⟩ m2 (by decide +kernel)).mono ?_
  rintro e w6 ⟨rfl, rfl⟩
  go_wp2_with fail
  refine (paint_no b bW hP2 1104 1136 true _ ⟨by decide, by decide⟩ ⟨by decide, by decide⟩ m2 (by decide +kernel)).mono ?_
  rintro e w7 ⟨rfl, rfl⟩
  go_wp2_with fail
  refine (paint_yes b bW hP2 1024 1040 false _ ⟨by decide, by decide⟩ ⟨by decide, by decide⟩ m2 hne.symm (by decide +kernel)).mono ?_
  rintro e w8 ⟨rfl, m5, G5⟩
  have m5 : ShM w8 b bW hP3 := m5
  have B6 := B3.grown G5 B3.size (by intro k hk; cases hk; exact gW)
  clear m2 B3 G5
  obtain ⟨f1, f2, f3, f4, f5, f6, f7, f8⟩ := hP_facts
  go_wp2_with fail
  refine (many_any b bW hP3 _ m5).mono ?_
  rintro e w9 ⟨rfl, rfl⟩
  rw [f1]
  go_wp2_with fail
  refine (is_any b bW hP3 47 _ ⟨by decide, by decide⟩ m5).mono ?_
  rintro e w10 ⟨rfl, rfl⟩
  rw [f2]
  go_wp2_with fail
  refine (is_any b bW hP3 48 _ ⟨by decide, by decide⟩ m5).mono ?_
  rintro e w11 ⟨rfl, rfl⟩
  rw [f3]
  go_wp2_with fail
  refine (is_any b bW hP3 (-1) _ ⟨by decide, by decide⟩ m5).mono ?_
  rintro e w12 ⟨rfl, rfl⟩
  rw [f4]
  go_wp2_with fail
  refine (is_any b bW hP3 1099511627776 _ ⟨by decide, by decide⟩ m5).mono ?_
  rintro e w13 ⟨rfl, rfl⟩
  rw [f5]
  go_wp2_with fail
  refine (hits_any b bW hP3 true 31 99 0 0 0 _ ⟨by decide, by decide⟩ ⟨by decide, by decide⟩ m5).mono ?_
  rintro e w20 ⟨rfl, h20⟩
  rw [f6]
  have B20 := below_then B6 B6.size h20
  have m20 := m5.below h20 m5.lt.1 m5.lt.2
  clear h20 B6 m5
  go_wp2_with fail
  refine (hits_any b bW hP3 false 31 0 0 0 0 _ ⟨by decide, by decide⟩ ⟨by decide, by decide⟩ m20).mono ?_
  rintro e w21 ⟨rfl, h21⟩
  rw [f7]
  have B21 := below_then B20 B20.size h21
  have m21 := m20.below h21 m20.lt.1 m20.lt.2
  clear h21 B20 m20
  go_wp2_with fail
  refine (runs_any b bW hP3 _ m21).mono ?_
  rintro e w22 ⟨v, rfl, r22, h22⟩
  have B22 := below_then B21 B21.size h22
  rw [f8] at r22
  have r22 := RowR.own r22
  clear h22 B21 m21
  go_wp2_with fail
  have hA : Below w22.heap.size w22 (w22.alloc (.cells (rowCells [(16, 48), (1008, 1024), (1040, 1056)]).toArray 50)) := by go_grown
  have B23 := below_then B22 B22.size hA
  refine (same_rows v _ [(16, 48), (1008, 1024), (1040, 1056)] [(16, 48), (1008, 1024), (1040, 1056)] _ (r22.below hA) ⟨some ⟨w22.heap.size, 0, none⟩, 3, rfl, RdL.new w22 (rowCells [(16, 48), (1008, 1024), (1040, 1056)]).toArray _, .inr ⟨_, rfl⟩⟩ (by decide)).mono ?_
  rintro e w24 ⟨rfl, n, rfl⟩
  rw [decide_eq_true rfl]
  have B24 := below_drewN B23 n
  clear hA B22 B23 r22
  go_wp2
  go_ret
  exact ⟨rfl, B24⟩
end Go.Proofs.Ytjimkkkiilcpoaa
