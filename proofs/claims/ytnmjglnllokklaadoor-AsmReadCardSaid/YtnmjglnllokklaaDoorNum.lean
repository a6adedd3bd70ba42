/- Numbers and lists alone: bit operations on Go's integers written as divisions, bytes of numbers. No program in it. -/
import Derived.WalkKit
import Derived.Handy
namespace Go.Proofs.YtnmjglnllokklaaDoor
open Go.RowKit

theorem bv_andNot127 (x : BitVec 64) : x &&& ~~~(127#64) = (x >>> 7) <<< 7 := by
  apply BitVec.eq_of_getLsbD_eq
  intro i hi
  have h127 : (127#64).getLsbD i = decide (i < 7) := by
    have : (127 : Nat) = 2 ^ 7 - 1 := rfl
    rw [BitVec.getLsbD_ofNat, this, Nat.testBit_two_pow_sub_one]
    simp; omega
  simp only [BitVec.getLsbD_and, BitVec.getLsbD_not, h127, BitVec.getLsbD_shiftLeft, BitVec.getLsbD_ushiftRight]
  by_cases h : i < 7
  · simp [h, hi]
  · have : 7 + (i - 7) = i := by omega
    simp [h, hi, this]

def permB (p : Int) : Bool := decide (0 ≤ p ∧ p ≤ 127)

theorem andNot127 (p : Int) (h0 : -9223372036854775808 ≤ p) (h1 : p ≤ 9223372036854775807) : (bits .andNot .i64 p 127 == 0) = permB p := by
  have hb : bits .andNot .i64 p 127 = IntKind.i64.wrap (((BitVec.ofInt 64 p) >>> 7) <<< 7 : BitVec 64).toNat := by
    rw [← bv_andNot127]; rfl
  have hn : (BitVec.ofInt 64 p).toNat = (p % 18446744073709551616).toNat := by simp [BitVec.toNat_ofInt]
  have hm : ((((BitVec.ofInt 64 p) >>> 7) <<< 7 : BitVec 64).toNat : Int) = (p % 18446744073709551616) / 128 * 128 := by
    rw [BitVec.toNat_shiftLeft, BitVec.toNat_ushiftRight, hn, Nat.shiftLeft_eq, Nat.shiftRight_eq_div_pow]
    omega
  unfold permB
  rw [hb, hm, IntKind.wrap_i64, Bool.eq_iff_iff]
  simp only [beq_iff_eq, decide_eq_true_eq]
  omega

theorem i64_or_nat (a b : Nat) (ha : a < 4611686018427387904) (hb : b < 4611686018427387904) : bits .or .i64 (a : Int) (b : Int) = ((a ||| b : Nat) : Int) := by
  have e : bits .or .i64 (a : Int) (b : Int) = IntKind.i64.wrap ((BitVec.ofInt 64 (a : Int)) ||| (BitVec.ofInt 64 (b : Int)) : BitVec 64).toNat := rfl
  have h : a ||| b < 2 ^ 62 := Nat.or_lt_two_pow (by omega) (by omega)
  rw [e, BitVec.toNat_or, BitVec.ofInt_natCast, BitVec.ofInt_natCast, BitVec.toNat_ofNat, BitVec.toNat_ofNat, Nat.mod_eq_of_lt (by omega), Nat.mod_eq_of_lt (by omega), IntKind.wrap_i64]
  omega

theorem nat_or_add (k a b : Nat) (ha : a % 2 ^ k = 0) (hb : b < 2 ^ k) : a ||| b = a + b := by
  have e : a = 2 ^ k * (a / 2 ^ k) := by have := Nat.div_add_mod a (2 ^ k); omega
  rw [e, ← Nat.two_pow_add_eq_or_of_lt hb]

/-- An 'or' of a number whose low bits are 0, and one that has but these, is their sum. -/
theorem i64_or8 {x y : Int} (hx : 0 ≤ x) (hx1 : x < 4611686018427387904) (hm : x % 256 = 0) (hy : 0 ≤ y) (hy1 : y < 256) : bits .or .i64 x y = x + y := by
  obtain ⟨a, rfl⟩ := Int.eq_ofNat_of_zero_le hx
  obtain ⟨b, rfl⟩ := Int.eq_ofNat_of_zero_le hy
  rw [i64_or_nat _ _ (by omega) (by omega), nat_or_add 8 a b (by omega) (by omega)]
  omega
theorem i64_or16 {x y : Int} (hx : 0 ≤ x) (hx1 : x < 4611686018427387904) (hm : x % 65536 = 0) (hy : 0 ≤ y) (hy1 : y < 65536) : bits .or .i64 x y = x + y := by
  obtain ⟨a, rfl⟩ := Int.eq_ofNat_of_zero_le hx
  obtain ⟨b, rfl⟩ := Int.eq_ofNat_of_zero_le hy
  rw [i64_or_nat _ _ (by omega) (by omega), nat_or_add 16 a b (by omega) (by omega)]
  omega
theorem i64_or24 {x y : Int} (hx : 0 ≤ x) (hx1 : x < 4611686018427387904) (hm : x % 16777216 = 0) (hy : 0 ≤ y) (hy1 : y < 16777216) : bits .or .i64 x y = x + y := by
  obtain ⟨a, rfl⟩ := Int.eq_ofNat_of_zero_le hx
  obtain ⟨b, rfl⟩ := Int.eq_ofNat_of_zero_le hy
  rw [i64_or_nat _ _ (by omega) (by omega), nat_or_add 24 a b (by omega) (by omega)]
  omega
theorem or_word {a b c d : Int} (ha : 0 ≤ a ∧ a ≤ 255) (hb : 0 ≤ b ∧ b ≤ 255) (hc : 0 ≤ c ∧ c ≤ 255) (hd : 0 ≤ d ∧ d ≤ 255) :
    bits .or .i64 (bits .or .i64 (bits .or .i64 (a * 16777216) (b * 65536)) (c * 256)) d = 16777216 * a + 65536 * b + 256 * c + d := by
  rw [i64_or24 (x := a * 16777216) (y := b * 65536) (by omega) (by omega) (by omega) (by omega) (by omega),
    i64_or16 (x := a * 16777216 + b * 65536) (y := c * 256) (by omega) (by omega) (by omega) (by omega) (by omega),
    i64_or8 (y := d) (by omega) (by omega) (by omega) (by omega) (by omega)]
  omega
theorem u8_or_zero {a b : Int} (ha : 0 ≤ a ∧ a ≤ 255) (hb : 0 ≤ b ∧ b ≤ 255) : bits .or .u8 a b = 0 ↔ a = 0 ∧ b = 0 := by
  rw [u8_or a b ha.1 (by omega) hb.1 (by omega)]
  have : (a.toNat ||| b.toNat = 0) ↔ a.toNat = 0 ∧ b.toNat = 0 := Nat.or_eq_zero_iff
  omega
end Go.Proofs.YtnmjglnllokklaaDoor
