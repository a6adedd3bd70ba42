/- The document's Load and Store. -/
import Derived.Test.YtjimkkkiilcpoaaTmG
set_option linter.unusedVariables false
set_option linter.unusedSimpArgs false
namespace Go.Proofs.Ytjimkkkiilcpoaa
open Go.RowKit

/-- Are so many bytes there? -/
def inB (n : Nat) (a k : Int) : Bool := decide (0 ≤ a ∧ 0 ≤ k ∧ a ≤ n * 256 ∧ k ≤ n * 256 - a)
/-- So many bytes from a on. -/
def partL (D : List Int) (a k : Nat) : List Int := (D.drop a).take k
theorem partL_len (D : List Int) (a k : Nat) (h : a + k ≤ D.length) : (partL D a k).length = k := by simp [partL]; omega
theorem u8s_take (D : List Int) (k : Nat) : u8s (D.take k) = (u8s D).take k := by simp [u8s, List.map_take]
theorem TrM.rd {w : World} {b bB bT bP : Nat} {D : List Int} {T P : List Bool} (h : TrM w b bB bT bP D T P) (a k : Nat) : RdL w (some ⟨bB, a, none⟩) (u8s (partL D a k)) := fun j u hu => by
  refine ⟨_, rfl, ?_⟩
  rw [add_plain, h.2.2.2.1.cell, List.getElem?_toArray]
  simp only [partL, u8s, List.getElem?_map, List.getElem?_take, List.getElem?_drop] at hu ⊢
  split at hu
  · exact hu
  · cases hu

set_option maxRecDepth 100000 in
set_option maxHeartbeats 1600000 in
theorem tr_load (b bB bT bP : Nat) (D : List Int) (T P : List Bool) (a k : Nat) (w : World) (h : TrM w b bB bT bP D T P) (hin : a + k ≤ 256 * P.length) :
    Calls Try.prog 56 #[.pointer (some ⟨b, 0, none⟩), .int .i64 a, .int .i64 k] w fun e w' => ∃ v, e = .returned (.tuple #[v, .bool true]) ∧ w'.ownsRow w.heap.size 5 1 v k (u8s (partL D a k)) ∧ Below w.heap.size w w' := by
  have hlD := h.1.1
  have hle := h.1.2.2.1
  have L := h.2.2.1.cell
  have hlt := h.lt.1
  have HP := Lib.hid (partL_len D a k (by omega))
  have h1 : ¬ ((256 * P.length : Nat) : Int) < (a : Int) := by omega
  have h2 : ¬ ((256 * P.length : Nat) : Int) - (a : Int) < (k : Int) := by omega
  have h3 : (a : Int) + k ≤ ((256 * P.length : Nat) : Int) := by omega
  have HR := Lib.hid ((h.rd a k).below (by go_grown : Below w.heap.size w (w.alloc (.cells #[] 5))))
  rw [hlD] at L
  have h4 : ((256 * P.length : Nat) : Int) ≤ 16777216 := by omega
  have HO : Hid ((w.alloc (.cells #[] 5)).ownsRow w.heap.size 5 1 (.slice (some ⟨w.heap.size, 0, none⟩) 0 0) 0 []) := Lib.hid (World.ownsRow_made w #[] 0 (Nat.le_refl _) (by decide) rfl)
  generalize partL D a k = xs at *
  generalize 256 * P.length = m at *
  clear h hlD hle
  have hk : (k : Int) ≤ 16777216 := by omega
  rcases Nat.eq_zero_or_pos k with h0 | h0
  · subst h0
    have e : xs = [] := List.eq_nil_of_length_eq_zero HP.out
    subst e
    go_enter Try.func56, Try.ntmps56
    go_wp2
    all_goals (go_ret2; exact ⟨_, rfl, HO.out, by go_grown⟩)
  · have i1 : ¬ m = a := by omega
    have i2 : ¬ k = 0 := by omega
    go_enter Try.func56, Try.ntmps56
    go_wp2_with (first
      | (at_builtin; (refine app (w0 := w) (W := w.alloc _) w.heap.size rfl _ _ 24 5 (.int .u8 0) 1 1 rfl Try.underlying24 infoU8' rfl (by decide) (by decide) _ _ _ (u8s xs) (some ⟨bB, a, none⟩) (a + k - a) _ rfl rfl (by rw [u8s, List.length_map, HP.out]; omega) (by intro u hu; simp [u8s] at hu; obtain ⟨x, _, rfl⟩ := hu; rfl) HO.out HR.out ((Below.refl _ w).alloc (Nat.le_refl _) _) (by first | omega | (simp only [World.size_alloc, World.size_drew, World.size_setCell]; omega) | (simp; done) | (simp; omega)) (by omega) ?_; intro v1 w3 hown1 hb2 _)))
    go_ret2
    refine ⟨_, rfl, ?_, hb2⟩
    rw [List.nil_append, show 0 + (a + k - a) = k by omega] at hown1
    exact hown1
end Go.Proofs.Ytjimkkkiilcpoaa
