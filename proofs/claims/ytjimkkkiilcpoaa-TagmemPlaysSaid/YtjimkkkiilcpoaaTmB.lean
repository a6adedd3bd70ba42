/- Memory with tags: places, tags, Strip, Clean; the program's. -/
import Derived.Test.YtjimkkkiilcpoaaTmA
set_option linter.unusedVariables false
set_option linter.unusedSimpArgs false
namespace Go.Proofs.Ytjimkkkiilcpoaa
open Go.RowKit

/-- Is that a place? -/
def plB (n : Nat) (a : Int) : Bool := decide (0 ≤ a ∧ a < n * 256 ∧ a % 16 = 0)
theorem pl_split {n : Nat} {a : Int} (h : plB n a = true) : ∃ i k : Nat, i < n ∧ k < 16 ∧ a = ((i * 256 + k * 16 : Nat) : Int) := by
  simp only [plB, decide_eq_true_eq] at h
  exact ⟨(a / 256).toNat, (a % 256 / 16).toNat, by omega, by omega, by omega⟩

set_option maxRecDepth 100000 in
set_option maxHeartbeats 800000 in
theorem tm_granule (b bP : Nat) (D : List Int) (T P : List Bool) (i k : Nat) (w : World) (h : TmM w b bP D T P) (hi : i < P.length) (hk : k < 16) :
    Calls Try.prog 99 #[.pointer (some ⟨b, 0, none⟩), .int .i64 ((i * 256 + k * 16 : Nat) : Int)] w fun e w' => e = .returned (.tuple #[.pointer (some ⟨bP, i * 273, none⟩), .int .i64 k]) ∧ w = w' := by
  obtain ⟨⟨_, _, hn, _⟩, _, hB, _⟩ := h
  have L := hB.cell
  have hlt := hB.lt
  clear hB
  generalize P.length = n at *
  obtain ⟨a, ha⟩ : ∃ a : Nat, a = i * 256 + k * 16 := ⟨_, rfl⟩
  rw [← ha]
  have h1 : (a : Int) < (n : Int) * 256 := by omega
  have h2 : ((a : Int) % 16 != 0) = false := by rw [bne_eq_false_iff_eq]; omega
  have h6 : ¬ (n : Int) * 256 ≤ a := by omega
  have h3 : (a : Int) / 256 = (i : Int) := by omega
  have h4 : (a : Int) % 256 / 16 = (k : Int) := by omega
  have h5 : (i : Int) < n := by omega
  clear ha
  go_enter Try.func99, Try.ntmps99
  go_wp2
  go_ret2
  exact ⟨rfl, rfl⟩
set_option maxRecDepth 100000 in
set_option maxHeartbeats 800000 in
theorem tm_granule_no (b bP : Nat) (D : List Int) (T P : List Bool) (a : Int) (w : World) (h : TmM w b bP D T P) (ha : inI a) (hn : plB P.length a = false) :
    Calls Try.prog 99 #[.pointer (some ⟨b, 0, none⟩), .int .i64 a] w fun e w' => e = .returned (.tuple #[.pointer none, .int .i64 0]) ∧ w = w' := by
  obtain ⟨⟨_, _, hle, _⟩, _, hB, _⟩ := h
  have L := hB.cell
  have hlt := hB.lt
  clear hB
  generalize P.length = n at *
  obtain ⟨a0, a1⟩ := ha
  have hc : a < 0 ∨ (¬ a < 0 ∧ (n : Int) * 256 ≤ a) ∨ (¬ a < 0 ∧ a < (n : Int) * 256 ∧ (a % 16 != 0) = true) := by
    simp only [plB, decide_eq_false_iff_not] at hn
    rcases (show a < 0 ∨ (¬ a < 0 ∧ (n : Int) * 256 ≤ a) ∨ (¬ a < 0 ∧ a < (n : Int) * 256 ∧ ¬ a % 16 = 0) by omega) with h | h | ⟨h1, h2, h3⟩
    · exact .inl h
    · exact .inr (.inl h)
    · exact .inr (.inr ⟨h1, h2, by simpa using h3⟩)
  clear hn
  rcases hc with h | ⟨h, h1⟩ | ⟨h, h1, h2⟩
  · go_enter Try.func99, Try.ntmps99
    go_wp2
    go_ret2
    exact ⟨rfl, rfl⟩
  · obtain ⟨m, rfl⟩ := Int.eq_ofNat_of_zero_le (show 0 ≤ a by omega)
    clear h
    go_enter Try.func99, Try.ntmps99
    go_wp2
    go_ret2
    exact ⟨rfl, rfl⟩
  · obtain ⟨m, rfl⟩ := Int.eq_ofNat_of_zero_le (show 0 ≤ a by omega)
    clear h
    have h3 : ¬ (n : Int) * 256 ≤ m := by omega
    go_enter Try.func99, Try.ntmps99
    go_wp2
    go_ret2
    exact ⟨rfl, rfl⟩

/-- The tag at an address. -/
def tagL (T : List Bool) (a : Int) : Bool := T.getD (a / 16).toNat false
theorem tag_at (T : List Bool) (i k : Nat) : tagL T ((i * 256 + k * 16 : Nat) : Int) = T.getD (i * 16 + k) false := by
  unfold tagL; congr 1; omega
theorem tag_ix (i k : Nat) : ((((i * 256 + k * 16 : Nat) : Int)) / 16).toNat = i * 16 + k := by omega
theorem TmM.tag {w : World} {b bP : Nat} {D : List Int} {T P : List Bool} (h : TmM w b bP D T P) {i k : Nat} (hi : i < P.length) (hk : k < 16) :
    w.cell? ⟨bP, i * 273 + 256 + k, none⟩ = some (.bool (T.getD (i * 16 + k) false)) ∧ w.frozen? ⟨bP, i * 273 + 256 + k, none⟩ = false :=
  ⟨by rw [h.2.2.2.cell, Nat.add_assoc, pg_tag D T P i k hi hk], h.2.2.2.frozen _⟩
theorem TmM.dirty {w : World} {b bP : Nat} {D : List Int} {T P : List Bool} (h : TmM w b bP D T P) {i : Nat} (hi : i < P.length) :
    w.cell? ⟨bP, i * 273 + 272, none⟩ = some (.bool (P.getD i false)) ∧ w.frozen? ⟨bP, i * 273 + 272, none⟩ = false :=
  ⟨by rw [h.2.2.2.cell, pg_dirty D T P i hi], h.2.2.2.frozen _⟩
theorem TmM.setTag {w : World} {b bP : Nat} {D : List Int} {T P : List Bool} (h : TmM w b bP D T P) {i k : Nat} (hi : i < P.length) (hk : k < 16) (v : Bool) :
    TmM (w.setCell ⟨bP, i * 273 + 256 + k, none⟩ (.bool v)) b bP D (T.set (i * 16 + k) v) P := by
  obtain ⟨⟨h1, h2, h3, h4⟩, hne, hB, hP⟩ := h
  refine ⟨⟨h1, by rw [List.length_set]; exact h2, h3, h4⟩, hne, hB.set_other hne _ _, ?_⟩
  rw [← pg_set_tag D T P i k v hi hk h2, Nat.add_assoc]
  exact hP.set _ _
theorem TmM.setDirty {w : World} {b bP : Nat} {D : List Int} {T P : List Bool} (h : TmM w b bP D T P) {i : Nat} (hi : i < P.length) (v : Bool) :
    TmM (w.setCell ⟨bP, i * 273 + 272, none⟩ (.bool v)) b bP D T (P.set i v) := by
  obtain ⟨⟨h1, h2, h3, h4⟩, hne, hB, hP⟩ := h
  refine ⟨⟨by rw [List.length_set]; exact h1, by rw [List.length_set]; exact h2, by rw [List.length_set]; exact h3, h4⟩, hne, ?_, ?_⟩
  · rw [List.length_set]; exact hB.set_other hne _ _
  · rw [← pg_set_dirty D T P i v hi]
    exact hP.set _ _

set_option maxRecDepth 100000 in
set_option maxHeartbeats 800000 in
theorem tm_tag (b bP : Nat) (D : List Int) (T P : List Bool) (a : Int) (w : World) (h : TmM w b bP D T P) (ha : inI a) :
    Calls Try.prog 66 #[.pointer (some ⟨b, 0, none⟩), .int .i64 a] w fun e w' => e = .returned (.bool (plB P.length a && tagL T a)) ∧ w = w' := by
  cases hp : plB P.length a with
  | false =>
    have g := tm_granule_no b bP D T P a w h ha hp
    clear h hp ha
    go_enter Try.func66, Try.ntmps66
    go_wp2_with fail
    refine g.mono ?_
    rintro e w1 ⟨rfl, rfl⟩
    go_wp2
    go_ret
    exact ⟨rfl, rfl⟩
  | true =>
    obtain ⟨i, k, hi, hk, rfl⟩ := pl_split hp
    have g := tm_granule b bP D T P i k w h hi hk
    obtain ⟨c1, c2⟩ := h.tag hi hk
    have hlt := h.lt.2
    rw [tag_at, Bool.true_and]
    generalize T.getD (i * 16 + k) false = t at *
    generalize hz : ((i * 256 + k * 16 : Nat) : Int) = z at *
    clear h hp ha hz
    go_enter Try.func66, Try.ntmps66
    go_wp2_with fail
    refine g.mono ?_
    rintro e w1 ⟨rfl, rfl⟩
    clear g
    go_wp2
    go_ret
    exact ⟨rfl, rfl⟩

set_option maxRecDepth 100000 in
set_option maxHeartbeats 800000 in
theorem tm_strip (b bP : Nat) (D : List Int) (T P : List Bool) (a : Int) (w : World) (h : TmM w b bP D T P) (ha : inI a) :
    Calls Try.prog 51 #[.pointer (some ⟨b, 0, none⟩), .int .i64 a] w fun e w' => e = .returned (.bool (plB P.length a && tagL T a)) ∧ TmM w' b bP D (if plB P.length a then T.set (a / 16).toNat false else T) P ∧ Turns [bP] w w' := by
  cases hp : plB P.length a with
  | false =>
    have g := tm_granule_no b bP D T P a w h ha hp
    have H := Lib.hid h
    clear h hp ha
    go_enter Try.func51, Try.ntmps51
    go_wp2_with fail
    refine g.mono ?_
    rintro e w1 ⟨rfl, rfl⟩
    go_wp2
    go_ret
    exact ⟨rfl, H.out, Turns.refl _ _⟩
  | true =>
    obtain ⟨i, k, hi, hk, rfl⟩ := pl_split hp
    have g := tm_granule b bP D T P i k w h hi hk
    obtain ⟨c1, c2⟩ := h.tag hi hk
    have hlt := h.lt.2
    have H := Lib.hid (h.setTag hi hk false)
    rw [tag_at, Bool.true_and, tag_ix, if_pos rfl]
    generalize T.getD (i * 16 + k) false = t at *
    generalize hz : ((i * 256 + k * 16 : Nat) : Int) = z at *
    clear h hp ha hz
    go_enter Try.func51, Try.ntmps51
    go_wp2_with fail
    refine g.mono ?_
    rintro e w1 ⟨rfl, rfl⟩
    clear g
    go_wp2
    go_ret
    exact ⟨rfl, H.out, Turns.set _ (List.mem_singleton.2 rfl) _ _⟩
end Go.Proofs.Ytjimkkkiilcpoaa
