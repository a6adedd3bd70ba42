/- Painting, whether it goes or not; what is painted behind it. -/
import Derived.Test.YtjimkkkiilcpoaaShJ
set_option linter.unusedVariables false
set_option linter.unusedSimpArgs false
namespace Go.Proofs.Ytjimkkkiilcpoaa
open Go.RowKit

/-- Behind a paint. -/
def paintL (P : List Bool) (f t : Int) (is : Bool) : List Bool := if paintOk P.length f t then paintR P (f / 16).toNat (t / 16).toNat is else P
theorem paintL_len (P : List Bool) (f t : Int) (is : Bool) : (paintL P f t is).length = P.length := by
  unfold paintL
  split
  · exact paintR_len _ _ _ _
  · rfl

theorem paint_all (b bW : Nat) (P : List Bool) (f t : Int) (is : Bool) (w : World) (hf : inI f) (ht : inI t) (h : ShM w b bW P) (hne : b ≠ bW) :
    Calls Try.prog 34 #[.pointer (some ⟨b, 0, none⟩), .int .i64 f, .int .i64 t, .bool is] w fun e w' => e = .returned (.bool (decide (paintOk P.length f t))) ∧ ShM w' b bW (paintL P f t is) ∧ w.grownBy w' (some bW) := by
  by_cases hy : paintOk P.length f t
  · rw [paintL, if_pos hy, decide_eq_true hy]
    exact paint_yes b bW P f t is w hf ht h hne hy
  · rw [paintL, if_neg hy, decide_eq_false hy]
    exact (paint_no b bW P f t is w hf ht h hy).mono fun e w' ⟨he, hw⟩ => ⟨he, by rw [hw]; exact h, by rw [hw]; exact World.grownBy.refl _ _⟩
theorem ref_paint_all (b bP : Nat) (P : List Bool) (f t : Int) (is : Bool) (w : World) (hf : inI f) (ht : inI t) (h : RfM w b bP P) (hne : b ≠ bP) :
    Calls Try.prog 35 #[.pointer (some ⟨b, 0, none⟩), .int .i64 f, .int .i64 t, .bool is] w fun e w' => e = .returned (.bool (decide (paintOk P.length f t))) ∧ RfM w' b bP (paintL P f t is) ∧ w.grownBy w' (some bP) := by
  by_cases hy : paintOk P.length f t
  · rw [paintL, if_pos hy, decide_eq_true hy]
    exact ref_paint_yes b bP P f t is w hf ht h hne hy
  · rw [paintL, if_neg hy, decide_eq_false hy]
    exact (ref_paint_no b bP P f t is w hf ht h hy).mono fun e w' ⟨he, hw⟩ => ⟨he, by rw [hw]; exact h, by rw [hw]; exact World.grownBy.refl _ _⟩

theorem paintR_at (P : List Bool) (lo hi m : Nat) (is : Bool) : (paintR P lo hi is).getD m false = if lo ≤ m ∧ m < hi ∧ m < P.length then is else P.getD m false := by
  rw [List.getD_eq_getElem?_getD, List.getD_eq_getElem?_getD, paintR, List.getElem?_mapIdx]
  rcases Nat.lt_or_ge m P.length with h | h
  · rw [List.getElem?_eq_getElem h]
    by_cases h2 : lo ≤ m ∧ m < hi
    · rw [if_pos ⟨h2.1, h2.2, h⟩]; simp [h2]
    · rw [if_neg (fun k => h2 ⟨k.1, k.2.1⟩)]; simp [h2]
  · rw [List.getElem?_eq_none h, if_neg (by omega)]
    rfl
/-- An address's granule behind a paint that goes. -/
theorem paintL_at {P : List Bool} {f t : Int} (is : Bool) {k : Int} (hy : paintOk P.length f t) (h0 : 0 ≤ k) : isB' (paintL P f t is) k = if f ≤ k / 16 * 16 ∧ k < t then is else isB' P k := by
  obtain ⟨y1, y2, y3, y4, y5⟩ := hy
  have hy : paintOk P.length f t := ⟨y1, y2, y3, y4, y5⟩
  rw [isB', isB', decide_eq_true h0, Bool.true_and, Bool.true_and, paintL, if_pos hy, paintR_at]
  by_cases h : f ≤ k / 16 * 16 ∧ k < t
  · rw [if_pos h, if_pos (by omega)]
  · rw [if_neg h, if_neg (by omega)]

theorem ShM.kept {w w1 : World} {b bW base : Nat} {P : List Bool} {row : Option Nat} (h : ShM w b bW P) (hg : w.grownBy w1 row) (h1 : some b ≠ row) (h2 : some bW ≠ row) : ShM w1 b bW P := h.grown hg h1 h2

theorem OpsR.form {w : World} {v : Value} {L : List Pnt} (h : OpsR w v L) : ∃ A c, v = .slice A L.length c := by
  rcases h with ⟨A, c, e, h0⟩ | ⟨b, o, c, e, _⟩
  · subst h0; exact ⟨A, c, e⟩
  · exact ⟨_, c, e⟩
/-- The paint at j. -/
theorem OpsR.at_lt {w : World} {A : Option Addr} {n c : Nat} {L : List Pnt} (h : OpsR w (.slice A n c) L) (j : Nat) (hj : j < L.length) :
    ∃ bo o f t is, A = some ⟨bo, o, none⟩ ∧ L[j]? = some (f, t, is) ∧ inI f ∧ inI t ∧ bo < w.heap.size ∧ w.cell? ⟨bo, o + j * 3, none⟩ = some (.int .i64 f) ∧ w.cell? ⟨bo, o + j * 3 + 1, none⟩ = some (.int .i64 t) ∧ w.cell? ⟨bo, o + j * 3 + 2, none⟩ = some (.bool is) := by
  rcases h with ⟨A', c', e, h0⟩ | ⟨b, o, c', e, _, h⟩
  · subst h0; cases hj
  · cases e
    have hq := List.getElem?_eq_getElem hj
    generalize L[j] = q at hq
    obtain ⟨f, t, is⟩ := q
    exact ⟨b, o, f, t, is, rfl, hq, h j f t is hq⟩
end Go.Proofs.Ytjimkkkiilcpoaa
