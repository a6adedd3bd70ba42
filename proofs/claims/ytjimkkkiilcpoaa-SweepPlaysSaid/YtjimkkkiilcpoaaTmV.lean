/- Loads of a memory, one contract for a call, refused or not; the document's like the program's. -/
import Derived.Test.YtjimkkkiilcpoaaTmS
import Derived.Test.YtjimkkkiilcpoaaTmQ2
set_option linter.unusedVariables false
set_option linter.unusedSimpArgs false
namespace Go.Proofs.Ytjimkkkiilcpoaa
open Go.RowKit

set_option maxRecDepth 100000 in
theorem tr_new_nil (n : Int) (w : World) (hn : n < 1 ∨ 65536 < n) :
    Calls Try.prog 48 #[.int .i64 n] w fun e w' => e = .returned (.pointer none) ∧ w' = w := by
  rcases (show n < 1 ∨ (¬ n < 1 ∧ 65536 < n) by omega) with h | ⟨h1, h2⟩
  all_goals (go_enter Try.func48, Try.ntmps48; go_wp2; go_ret; exact ⟨rfl, rfl⟩)

set_option maxRecDepth 100000 in
theorem tr_size (b bB bT bP : Nat) (D : List Int) (T P : List Bool) (w : World) (h : TrM w b bB bT bP D T P) :
    Calls Try.prog 69 #[.pointer (some ⟨b, 0, none⟩)] w fun e w' => e = .returned (.int .i64 ((P.length : Int) * 256)) ∧ w = w' := by
  have L := h.2.2.1.cell
  have hlt := h.lt.1
  have hle := h.1.2.2.1
  have hD := h.1.1
  rw [hD] at L
  obtain ⟨z, hz⟩ : ∃ z, 256 * P.length = z := ⟨_, rfl⟩
  have e : (P.length : Int) * 256 = (z : Int) := by omega
  rw [e]
  rw [hz] at L
  clear h hD e hz
  go_enter Try.func69, Try.ntmps69
  go_wp2
  go_ret
  exact ⟨rfl, rfl⟩

/-- What LoadCap gives. -/
def capL (n : Nat) (D : List Int) (T : List Bool) (a : Int) : Bool × Int × Int × Int × Int × Int := if plB n a then ldC D T a.toNat else (false, 0, 0, 0, 0, 0)
theorem tm_loadcapA (mb bP : Nat) (D : List Int) (T P : List Bool) (a : Int) (w : World) (h : TmM w mb bP D T P) (ha : inI a) :
    Calls Try.prog 57 #[.pointer (some ⟨mb, 0, none⟩), .int .i64 a] w fun e w' => e = .returned (.tuple #[capV (capL P.length D T a), .bool (plB P.length a)]) ∧ Below w.heap.size w w' := by
  cases hp : plB P.length a with
  | false => rw [capL, hp, if_neg (by decide)]; exact tm_loadcap_no mb bP D T P a w h ha hp
  | true =>
    rw [capL, hp, if_pos rfl]
    obtain ⟨i, k, hi, hk, rfl⟩ := pl_split hp
    rw [Int.toNat_natCast]
    exact tm_loadcap mb bP D T P i k w h hi hk
theorem tr_loadcapA (mb bB bT bP : Nat) (D : List Int) (T P : List Bool) (a : Int) (w : World) (h : TrM w mb bB bT bP D T P) (ha : inI a) :
    Calls Try.prog 58 #[.pointer (some ⟨mb, 0, none⟩), .int .i64 a] w fun e w' => e = .returned (.tuple #[capV (capL P.length D T a), .bool (plB P.length a)]) ∧ Below w.heap.size w w' := by
  cases hp : plB P.length a with
  | false => rw [capL, hp, if_neg (by decide)]; exact tr_loadcap_no mb bB bT bP D T P a w h ha hp
  | true =>
    rw [capL, hp, if_pos rfl]
    obtain ⟨i, k, hi, hk, rfl⟩ := pl_split hp
    rw [Int.toNat_natCast]
    exact tr_loadcap mb bB bT bP D T P i k w h hi hk

/-- What Load gives. -/
def ldL (n : Nat) (D : List Int) (a k : Int) : List Int := if inB n a k then partL D a.toNat k.toNat else []
theorem inB_splitZ {n : Nat} {a k : Int} (h : inB n a k = true) : ∃ i j : Nat, a = i ∧ k = j ∧ i + j ≤ 256 * n := by
  simp only [inB, decide_eq_true_eq] at h
  exact ⟨a.toNat, k.toNat, by omega, by omega, by omega⟩
theorem ldL_len {n : Nat} {D : List Int} (hD : D.length = 256 * n) (a k : Int) : (ldL n D a k).length = if inB n a k then k.toNat else 0 := by
  unfold ldL
  split
  · rename_i h
    obtain ⟨i, j, rfl, rfl, hij⟩ := inB_splitZ h
    rw [Int.toNat_natCast, Int.toNat_natCast, partL_len _ _ _ (by omega)]
  · rfl
theorem tm_loadA (b bP : Nat) (D : List Int) (T P : List Bool) (a k : Int) (w : World) (h : TmM w b bP D T P) (ha : inI a) (hk : inI k) :
    Calls Try.prog 55 #[.pointer (some ⟨b, 0, none⟩), .int .i64 a, .int .i64 k] w fun e w' => ∃ v, e = .returned (.tuple #[v, .bool (inB P.length a k)]) ∧ RowU w' v (ldL P.length D a k) ∧ Below w.heap.size w w' := by
  cases hi : inB P.length a k with
  | false =>
    rw [ldL, hi, if_neg (by decide)]
    exact (tm_load_no b bP D T P a k w h ha hk hi).mono fun e w' ⟨he, hw⟩ => ⟨_, he, RowU.nil _, by subst hw; exact Below.refl _ _⟩
  | true =>
    rw [ldL, hi, if_pos rfl]
    obtain ⟨i, j, rfl, rfl, hij⟩ := inB_splitZ hi
    rw [Int.toNat_natCast, Int.toNat_natCast]
    exact (tm_load b bP D T P i j w h hij).mono fun e w' ⟨v, he, ho, hb⟩ => ⟨v, he, RowU.own ho, hb⟩
theorem tr_loadA (b bB bT bP : Nat) (D : List Int) (T P : List Bool) (a k : Int) (w : World) (h : TrM w b bB bT bP D T P) (ha : inI a) (hk : inI k) :
    Calls Try.prog 56 #[.pointer (some ⟨b, 0, none⟩), .int .i64 a, .int .i64 k] w fun e w' => ∃ v, e = .returned (.tuple #[v, .bool (inB P.length a k)]) ∧ RowU w' v (ldL P.length D a k) ∧ Below w.heap.size w w' := by
  cases hi : inB P.length a k with
  | false =>
    rw [ldL, hi, if_neg (by decide)]
    exact (tr_load_no b bB bT bP D T P a k w h ha hk hi).mono fun e w' ⟨he, hw⟩ => ⟨_, he, RowU.nil _, by subst hw; exact Below.refl _ _⟩
  | true =>
    rw [ldL, hi, if_pos rfl]
    obtain ⟨i, j, rfl, rfl, hij⟩ := inB_splitZ hi
    rw [Int.toNat_natCast, Int.toNat_natCast]
    exact (tr_load b bB bT bP D T P i j w h hij).mono fun e w' ⟨v, he, ho, hb⟩ => ⟨v, he, RowU.own ho, hb⟩

/-- The program's memory and the document's, alike; what was there. -/
def Al (w : World) (b bP r rB rT rP : Nat) (D : List Int) (T P : List Bool) (D' : List Int) (T' P' : List Bool) (W : World) : Prop :=
  TmM W b bP D T P ∧ TrM W r rB rT rP D' T' P' ∧ Below w.heap.size w W
/-- Seven blocks apart, all new. -/
def ApR (w : World) (b bP r rB rT rP : Nat) : Prop :=
  w.heap.size ≤ bP ∧ (w.heap.size ≤ rB ∧ w.heap.size ≤ rT ∧ w.heap.size ≤ rP) ∧ (r ≠ bP ∧ rB ≠ bP ∧ rT ≠ bP ∧ rP ≠ bP) ∧ (b ≠ rB ∧ b ≠ rT ∧ b ≠ rP)
theorem Al.grow {w : World} {b bP r rB rT rP : Nat} {D D' : List Int} {T P T' P' : List Bool} {W W1 : World} (h : Al w b bP r rB rT rP D T P D' T' P' W) (hb : Below W.heap.size W W1) : Al w b bP r rB rT rP D T P D' T' P' W1 :=
  ⟨h.1.grow hb, h.2.1.grow hb, below_then h.2.2 h.2.2.size hb⟩
theorem Al.one {w : World} {b bP r rB rT rP : Nat} {D D' D1 : List Int} {T P T' P' T1 P1 : List Bool} {W W1 : World} (h : Al w b bP r rB rT rP D T P D' T' P' W) (ha : ApR w b bP r rB rT rP) (h1 : TmM W1 b bP D1 T1 P1) (ht : Turns [bP] W W1) : Al w b bP r rB rT rP D1 T1 P1 D' T' P' W1 :=
  ⟨h1, h.2.1.turns ht (by simpa using ha.2.2.1.1) (by simpa using ha.2.2.1.2.1) (by simpa using ha.2.2.1.2.2.1) (by simpa using ha.2.2.1.2.2.2), below_turns h.2.2 ht (by simpa using ha.1)⟩
theorem Al.two {w : World} {b bP r rB rT rP : Nat} {D D' D1 : List Int} {T P T' P' T1 P1 : List Bool} {W W1 : World} (h : Al w b bP r rB rT rP D T P D' T' P' W) (ha : ApR w b bP r rB rT rP) (h1 : TrM W1 r rB rT rP D1 T1 P1) (ht : Turns [rB, rT, rP] W W1) : Al w b bP r rB rT rP D T P D1 T1 P1 W1 :=
  ⟨h.1.turns ht (by have := ha.2.2.2; simp; omega) (by have := ha.2.2.1; simp; omega), h1, below_turns h.2.2 ht (by have := ha.2.1; simp; omega)⟩
end Go.Proofs.Ytjimkkkiilcpoaa
