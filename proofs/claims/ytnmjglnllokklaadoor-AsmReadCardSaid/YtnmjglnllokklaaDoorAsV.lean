/- number; the document's. -/
import Derived.Test.YtnmjglnllokklaaDoorAsU
set_option linter.unusedVariables false
set_option linter.unusedSimpArgs false
namespace Go.Proofs.YtnmjglnllokklaaDoor
open Go.RowKit

def numSt (acc : Int) (b : UInt8) : Int := if 48 ≤ b.toNat ∧ b.toNat ≤ 57 then 10 * acc + (b.toNat : Int) - 48 else acc
def numF (l : List UInt8) : Int := l.foldl numSt 0
/-- What the document's number makes of a text. -/
def numR (l : List UInt8) : Int := if l.head? = some 45 then -numF (l.take 7) else numF (l.take 7)
theorem numF_bound : ∀ (l : List UInt8) (acc : Int) (k : Nat), 0 ≤ acc → acc < 10 ^ k → 0 ≤ l.foldl numSt acc ∧ l.foldl numSt acc < 10 ^ (k + l.length)
  | [], acc, k, h0, h1 => ⟨h0, h1⟩
  | b :: l, acc, k, h0, h1 => by
    have hp : (0 : Int) < 10 ^ k := Int.pow_pos (by decide)
    have hs : (10 : Int) ^ (k + 1) = 10 ^ k * 10 := Int.pow_succ ..
    have h : 0 ≤ numSt acc b ∧ numSt acc b < 10 ^ (k + 1) := by
      rw [hs]
      generalize (10 : Int) ^ k = p at *
      unfold numSt
      split <;> omega
    have := numF_bound l (numSt acc b) (k + 1) h.1 h.2
    rw [List.foldl_cons, List.length_cons, show k + (l.length + 1) = k + 1 + l.length by omega]
    exact this
theorem numF_in (l : List UInt8) (hl : l.length ≤ 7) : 0 ≤ numF l ∧ numF l < 10000000 := by
  have h := numF_bound l 0 0 (by decide) (by decide)
  have h2 : (10 : Int) ^ (0 + l.length) ≤ 10000000 := by
    rcases (show l.length = 0 ∨ l.length = 1 ∨ l.length = 2 ∨ l.length = 3 ∨ l.length = 4 ∨ l.length = 5 ∨ l.length = 6 ∨ l.length = 7 by omega) with h | h | h | h | h | h | h | h <;> rw [h] <;> decide
  exact ⟨h.1, Int.lt_of_lt_of_le h.2 h2⟩
theorem numR_in (l : List UInt8) : inI (numR l) := by
  have := numF_in (l.take 7) (by rw [List.length_take]; omega)
  unfold numR inI
  split <;> omega
theorem numF_take {l : List UInt8} {j : Nat} (hj : j < l.length) : numF (l.take (j + 1)) = numSt (numF (l.take j)) (l.getD j 0) := by
  rw [List.take_add_one, List.getElem?_eq_getElem hj]
  unfold numF
  rw [List.foldl_append, List.getD_eq_getElem?_getD, List.getElem?_eq_getElem hj]
  rfl

set_option maxRecDepth 100000 in
set_option maxHeartbeats 1600000 in
theorem number_any (s : ByteArray) (w : World) (hs : s.size ≤ 100000) : Calls Tryd.prog 30 #[.string s] w fun e w' => e = .returned (.int .i64 (numR s.data.toList)) ∧ w = w' := by
  have HS := Lib.hid hs
  have hs1 : (s.size : Int) ≤ 100000 := by omega
  have HL := Lib.hid (show s.data.toList.length = s.size by rw [Array.length_toList]; rfl)
  have HG := Lib.hid (fun j h => congrArg (fun b : UInt8 => (b.toNat : Int)) (get_data s j h))
  obtain ⟨l, hl⟩ : ∃ l, s.data.toList = l := ⟨_, rfl⟩
  rw [hl] at HL HG ⊢
  clear hs hl
  go_enter Tryd.func30, Tryd.ntmps30
  go_wp2
  go_loopg [3, 4] 8 (fun gk v3 v4 wr => ∃ j : Nat, j + gk = 8 ∧ j ≤ 7 ∧ j ≤ s.size ∧ v4 = .int .i64 j ∧ v3 = .int .i64 (numF (l.take j)) ∧ wr = w)
  case atStart => exact ⟨0, by omega, by omega, by omega, rfl, rfl, rfl⟩
  case round =>
    obtain ⟨j, hj, hj7, hjs, rfl, rfl, rfl⟩ := hrel
    have HJ := Lib.hid hj
    have HB := Lib.hid (numF_in (l.take j) (by rw [List.length_take]; omega))
    by_cases hlt : j < s.size ∧ j < 7
    · obtain ⟨l1, l2⟩ := hlt
      have i1 : (j : Int) < s.size := by omega
      have i2 : (j : Int) < 7 := by omega
      have HX := Lib.hid (And.intro l1 l2)
      have hget := HG.out j
      have HT := Lib.hid (numF_take (l := l) (j := j) (by rw [HL.out]; exact l1))
      obtain ⟨b, hb⟩ : ∃ b, l.getD j 0 = b := ⟨_, rfl⟩
      rw [hb] at hget HT
      obtain ⟨x, hx⟩ : ∃ x, numF (l.take j) = x := ⟨_, rfl⟩
      rw [hx] at HT HB ⊢
      obtain ⟨x0, x1⟩ := HB.out
      have hb255 := b.toNat_lt
      try dsimp only at hget
      obtain ⟨c, hc⟩ : ∃ c : Nat, b.toNat = c := ⟨_, rfl⟩
      have HT2 := Lib.hid HT.out
      unfold numSt at HT2
      rw [hc] at hget hb255 HT2
      have hc255 : (c : Int) ≤ 255 := by omega
      clear hb hx hc HT hb255 hj hj7 hjs
      by_cases hd : 48 ≤ c ∧ c ≤ 57
      · have HT3 := HT2.out
        rw [if_pos hd] at HT3
        have HT4 := Lib.hid HT3
        obtain ⟨d1, d2⟩ := hd
        have d3 : (48 : Int) ≤ c := by omega
        have d4 : (c : Int) ≤ 57 := by omega
        clear HT2 HT3 d1 d2
        go_wp2
        go_roundg (gk - 1)
        case measure => have := HJ.out; have := HX.out; omega
        case rel => exact ⟨j + 1, by have := HJ.out; have := HX.out; omega, by have := HX.out; omega, by have := HX.out; omega, by go_num, by rw [HT4.out], rfl⟩
      · have HT3 := HT2.out
        rw [if_neg hd] at HT3
        have HT4 := Lib.hid HT3
        clear HT2 HT3
        rcases (show c < 48 ∨ 57 < c by omega) with d | d
        · have d3 : ¬ (48 : Int) ≤ c := by omega
          clear hd d
          go_wp2
          go_roundg (gk - 1)
          case measure => have := HJ.out; have := HX.out; omega
          case rel => exact ⟨j + 1, by have := HJ.out; have := HX.out; omega, by have := HX.out; omega, by have := HX.out; omega, by go_num, by rw [HT4.out], rfl⟩
        · have d3 : (48 : Int) ≤ c := by omega
          have d4 : ¬ (c : Int) ≤ 57 := by omega
          clear hd d
          go_wp2
          go_roundg (gk - 1)
          case measure => have := HJ.out; have := HX.out; omega
          case rel => exact ⟨j + 1, by have := HJ.out; have := HX.out; omega, by have := HX.out; omega, by have := HX.out; omega, by go_num, by rw [HT4.out], rfl⟩
    · have HT := Lib.hid (show l.take j = l.take 7 by
        rcases (show j = 7 ∨ s.size ≤ j by omega) with h | h
        · rw [h]
        · rw [List.take_of_length_le (by rw [HL.out]; exact h), List.take_of_length_le (by rw [HL.out]; omega)])
      rw [HT.out] at HB ⊢
      have HR := Lib.hid (show numR l = if l.head? = some 45 then -numF (l.take 7) else numF (l.take 7) from rfl)
      generalize numF (l.take 7) = x at *
      obtain ⟨x0, x1⟩ := HB.out
      clear HT
      have hcond : ¬ (j : Int) < s.size ∨ ((j : Int) < s.size ∧ ¬ (j : Int) < 7) := by omega
      rcases Nat.eq_zero_or_pos s.size with h0 | h0
      · have hnil : l = [] := List.length_eq_zero_iff.1 (by rw [HL.out]; exact h0)
        have HR2 := HR.out
        rw [show l.head? = none by rw [hnil]; rfl, if_neg (by simp)] at HR2
        have HR3 := Lib.hid HR2
        have j0 : j = 0 := by omega
        subst j0
        have h0i : ¬ (0 : Int) < s.size := by omega
        clear HR2 hnil HR hcond hlt hj7 hjs
        go_wp2
        go_ret
        exact ⟨by rw [HR3.out]; rfl, rfl⟩
      · have h0i : (0 : Int) < s.size := by omega
        have hget := HG.out 0
        have hhead : l.head? = some (l.getD 0 0) := by
          cases l with
          | nil => have := HL.out; simp at this; omega
          | cons b r => rfl
        rw [hhead] at HR
        obtain ⟨b, hb⟩ : ∃ b, l.getD 0 0 = b := ⟨_, rfl⟩
        rw [hb] at hget HR
        try dsimp only at hget
        have hb45 : (some b = some (45 : UInt8)) ↔ (b.toNat : Int) = 45 := by
          constructor
          · intro h; cases h; rfl
          · intro h
            have : b.toNat = (45 : UInt8).toNat := by show _ = 45; omega
            rw [UInt8.toNat_inj.1 this]
        obtain ⟨c, hc⟩ : ∃ c : Int, (b.toNat : Int) = c := ⟨_, rfl⟩
        rw [hc] at hget hb45
        clear hb hhead hc
        by_cases h45 : c = 45
        · have HR3 := Lib.hid (HR.out.trans (if_pos (hb45.2 h45)))
          subst h45
          clear HR hb45 hlt
          rcases hcond with q | ⟨q1, q2⟩
          · go_wp2
            go_ret
            exact ⟨by rw [HR3.out]; rfl, rfl⟩
          · go_wp2
            go_ret
            exact ⟨by rw [HR3.out]; rfl, rfl⟩
        · have HR3 := Lib.hid (HR.out.trans (if_neg (fun e => h45 (hb45.1 e))))
          have q3 : (c == 45) = false := by simpa using h45
          clear HR hb45 hlt h45
          rcases hcond with q | ⟨q1, q2⟩
          · go_wp2
            go_ret
            exact ⟨by rw [HR3.out]; rfl, rfl⟩
          · go_wp2
            go_ret
            exact ⟨by rw [HR3.out]; rfl, rfl⟩
end Go.Proofs.YtnmjglnllokklaaDoor
