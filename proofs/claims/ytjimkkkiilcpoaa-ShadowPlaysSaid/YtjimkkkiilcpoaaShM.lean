/- What growth keeps of the document's map, and of a paint in memory. -/
import Derived.Test.YtjimkkkiilcpoaaShL
set_option linter.unusedVariables false
set_option linter.unusedSimpArgs false
namespace Go.Proofs.Ytjimkkkiilcpoaa
open Go.RowKit

theorem RfM.grown {w w1 : World} {b bP : Nat} {P : List Bool} {row : Option Nat} (h : RfM w b bP P) (hg : w.grownBy w1 row) (h1 : some b ≠ row) (h2 : some bP ≠ row) : RfM w1 b bP P :=
  ⟨h.1, h.2.1.grown hg h1, h.2.2.grown hg h2⟩
theorem PntAt.grown {w w1 : World} {bo o j : Nat} {f t : Int} {is : Bool} {row : Option Nat} (h : PntAt w bo o j f t is) (hg : w.grownBy w1 row) (hne : some bo ≠ row) : PntAt w1 bo o j f t is := by
  obtain ⟨h0, h1, h2, h3⟩ := h
  have hc : ∀ o, w1.cell? ⟨bo, o, none⟩ = w.cell? ⟨bo, o, none⟩ := fun o => by simp only [World.cell?, hg.block bo h0 hne]
  exact ⟨Nat.lt_of_lt_of_le h0 hg.size, (hc _).trans h1, (hc _).trans h2, (hc _).trans h3⟩

end Go.Proofs.Ytjimkkkiilcpoaa
