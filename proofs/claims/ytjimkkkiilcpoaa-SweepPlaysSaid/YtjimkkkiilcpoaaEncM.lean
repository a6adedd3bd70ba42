/- Plain facts on a capability's bytes. No program in it. -/
import Derived.Test.YtjimkkkiilcpoaaEncF
set_option linter.unusedVariables false
set_option linter.unusedSimpArgs false
namespace Go.Proofs.Ytjimkkkiilcpoaa
open Go.RowKit

theorem right_bounds {t : Bool} {b p a q y : Int} (h : rightB t b p a q y = true) :
    0 ≤ b ∧ b ≤ 4294967295 ∧ 0 ≤ p ∧ p ≤ 4294967295 ∧ 0 ≤ a ∧ a ≤ 4294967295 ∧ 0 ≤ q ∧ q ≤ 127 ∧ 0 ≤ y ∧ y ≤ 255 ∧ (t = true → b ≤ p ∧ p ≤ 16777216) := by
  simpa only [rightB, decide_eq_true_eq] using h

theorem rdn_put (b p a q y : Int) : rdn (putBytes b p a q y) 0 = a / 16777216 % 256 ∧ rdn (putBytes b p a q y) 1 = a / 65536 % 256 ∧ rdn (putBytes b p a q y) 2 = a / 256 % 256 ∧ rdn (putBytes b p a q y) 3 = a % 256 ∧
    rdn (putBytes b p a q y) 4 = b / 16777216 % 256 ∧ rdn (putBytes b p a q y) 5 = b / 65536 % 256 ∧ rdn (putBytes b p a q y) 6 = b / 256 % 256 ∧ rdn (putBytes b p a q y) 7 = b % 256 ∧
    rdn (putBytes b p a q y) 8 = p / 16777216 % 256 ∧ rdn (putBytes b p a q y) 9 = p / 65536 % 256 ∧ rdn (putBytes b p a q y) 10 = p / 256 % 256 ∧ rdn (putBytes b p a q y) 11 = p % 256 ∧
    rdn (putBytes b p a q y) 12 = 0 ∧ rdn (putBytes b p a q y) 13 = q ∧ rdn (putBytes b p a q y) 14 = 0 ∧ rdn (putBytes b p a q y) 15 = y :=
  ⟨rfl, rfl, rfl, rfl, rfl, rfl, rfl, rfl, rfl, rfl, rfl, rfl, rfl, rfl, rfl, rfl⟩

theorem word_back {x : Int} (h0 : 0 ≤ x) (h1 : x ≤ 4294967295) : 16777216 * (x / 16777216 % 256) + 65536 * (x / 65536 % 256) + 256 * (x / 256 % 256) + x % 256 = x := by omega

theorem word_put {b p a q y : Int} (hb : 0 ≤ b ∧ b ≤ 4294967295) (hp : 0 ≤ p ∧ p ≤ 4294967295) (ha : 0 ≤ a ∧ a ≤ 4294967295) :
    word4 (rdn (putBytes b p a q y)) 0 = a ∧ word4 (rdn (putBytes b p a q y)) 4 = b ∧ word4 (rdn (putBytes b p a q y)) 8 = p :=
  ⟨word_back ha.1 ha.2, word_back hb.1 hb.2, word_back hp.1 hp.2⟩

/-- What is got of a right one's bytes. -/
theorem got_put {t : Bool} {b p a q y : Int} (hr : rightB t b p a q y = true) (tag : Bool) :
    gotT tag (putL t b p a q y) = (tag && rightB true b p a q y) ∧ gotB (putL t b p a q y) = b ∧ gotP (putL t b p a q y) = p ∧ gotA (putL t b p a q y) = a ∧ gotQ (putL t b p a q y) = q ∧ gotY (putL t b p a q y) = y ∧
      decide ((putL t b p a q y).length = 16) = true := by
  have hl := putL_len hr
  obtain ⟨b0, b1, p0, p1, a0, a1, q0, q1, y0, y1, _⟩ := right_bounds hr
  have he : putL t b p a q y = putBytes b p a q y := by rw [putL, if_pos hr]
  rw [he] at hl ⊢
  obtain ⟨w0, w4, w8⟩ := word_put (q := q) (y := y) ⟨b0, b1⟩ ⟨p0, p1⟩ ⟨a0, a1⟩
  have e13 : rdn (putBytes b p a q y) 13 = q := rfl
  have e15 : rdn (putBytes b p a q y) 15 = y := rfl
  have e12 : rdn (putBytes b p a q y) 12 = 0 := rfl
  have e14 : rdn (putBytes b p a q y) 14 = 0 := rfl
  have eq7 : low7 q = q := by unfold low7; omega
  refine ⟨?_, by rw [gotB, if_pos hl, w4], by rw [gotP, if_pos hl, w8], by rw [gotA, if_pos hl, w0], by rw [gotQ, if_pos hl, e13, eq7], by rw [gotY, if_pos hl, e15], decide_eq_true hl⟩
  unfold gotT tagB
  rw [decide_eq_true hl, w0, w4, w8, e12, e13, e14, e15, eq7]
  simp [q1]

theorem right_tag {t : Bool} {b p a q y : Int} (hr : rightB t b p a q y = true) : (t && rightB true b p a q y) = t := by
  cases t with
  | false => rfl
  | true => rw [hr]; rfl

/-- Bytes are the same just where all but the tags are. -/
theorem putL_inj {t : Bool} {b p a q y : Int} {t' : Bool} {b' p' a' q' y' : Int} (h : rightB t b p a q y = true) (h' : rightB t' b' p' a' q' y' = true) :
    putL t b p a q y = putL t' b' p' a' q' y' ↔ b = b' ∧ p = p' ∧ a = a' ∧ q = q' ∧ y = y' := by
  obtain ⟨_, g1, g2, g3, g4, g5, _⟩ := got_put h true
  obtain ⟨_, g1', g2', g3', g4', g5', _⟩ := got_put h' true
  constructor
  · intro e
    rw [e] at g1 g2 g3 g4 g5
    exact ⟨g1.symm.trans g1', g2.symm.trans g2', g3.symm.trans g3', g4.symm.trans g4', g5.symm.trans g5'⟩
  · rintro ⟨rfl, rfl, rfl, rfl, rfl⟩
    rw [putL, putL, if_pos h, if_pos h']

theorem sameB_right {t : Bool} {b p a q y : Int} {t' : Bool} {b' p' a' q' y' : Int} (h : rightB t b p a q y = true) (h' : rightB t' b' p' a' q' y' = true) :
    sameB t b p a q y t' b' p' a' q' y' = decide (b = b' ∧ p = p' ∧ a = a' ∧ q = q' ∧ y = y') := by
  rw [sameB, h, Bool.true_and, Bool.eq_iff_iff, decide_eq_true_eq, decide_eq_true_eq]
  exact putL_inj h h'
theorem sameB_wrong {t : Bool} {b p a q y : Int} {t' : Bool} {b' p' a' q' y' : Int} (h : rightB t b p a q y = false ∨ rightB t' b' p' a' q' y' = false) : sameB t b p a q y t' b' p' a' q' y' = false := by
  rw [sameB]
  cases hr : rightB t b p a q y with
  | false => rfl
  | true =>
    have h' : rightB t' b' p' a' q' y' = false := by
      rcases h with h | h
      · rw [hr] at h; cases h
      · exact h
    have hl := putL_len hr
    rw [putL_nil h', Bool.true_and, decide_eq_false_iff_not]
    intro e
    rw [e] at hl
    cases hl

/-- What Get answers at a right one's bytes. -/
theorem get_put {t : Bool} {b p a q y : Int} (hr : rightB t b p a q y = true) (tag : Bool) (v : Value) (w : World) (h : RowU w v (putL t b p a q y)) :
    Calls Try.prog 24 #[v, .bool tag] w fun e w' => e = .returned (.tuple #[.agg #[.bool (tag && rightB true b p a q y), .int .i64 (b), .int .i64 (p), .int .i64 (a), .int .i64 (q), .int .i64 (y)], .bool true]) ∧ Below w.heap.size w w' := by
  have hc := get_row v _ tag w h (isB_putL _ _ _ _ _ _)
  obtain ⟨e1, e2, e3, e4, e5, e6, e7⟩ := got_put hr tag
  rw [e1, e2, e3, e4, e5, e6, e7] at hc
  exact hc
end Go.Proofs.Ytjimkkkiilcpoaa
