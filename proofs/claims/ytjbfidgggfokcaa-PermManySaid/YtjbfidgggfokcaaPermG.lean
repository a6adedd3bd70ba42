/- How permissions are written, the document's. -/
import Derived.Test.YtjbfidgggfokcaaPermF
set_option linter.unusedVariables false
set_option linter.unusedSimpArgs false
namespace Go.Proofs.Ytjbfidgggfokcaa
open Go.RowKit

theorem extract_letter (j : Nat) (hj : j < 7) : letterB.extract j (j + 1) = strB [letters.getD j 0] := by
  have : j = 0 ∨ j = 1 ∨ j = 2 ∨ j = 3 ∨ j = 4 ∨ j = 5 ∨ j = 6 := by omega
  rcases this with rfl | rfl | rfl | rfl | rfl | rfl | rfl <;> decide +kernel
theorem strB_append (a b : List UInt8) : strB a ++ strB b = strB (a ++ b) := by
  apply ByteArray.ext
  simp [strB]

theorem text_empty : ∀ n : Fin 128, (strB (textTo n.val 7)).toList.isEmpty = decide (n.val = 0) := by decide +kernel
set_option maxRecDepth 100000 in
set_option maxHeartbeats 1600000 in
theorem ref_text (p : Int) (w : World) (hp : inI p) : Calls Try.prog 18 #[.int .i64 p] w fun e w' => e = .returned (.string (strB (textL p))) ∧ w' = w := by
  cases h1 : permB p with
  | false =>
    have c1 := fun w => ref_perm p w
    rw [h1] at c1
    have E : strB (textL p) = ⟨#[]⟩ := by rw [textL, h1]; rfl
    rw [E]
    clear E h1
    go_enter Try.func18, Try.ntmps18
    go_wp2_with fail
    refine (c1 _).mono ?_
    rintro e w1 ⟨rfl, rfl⟩
    go_wp2
    go_ret
    exact ⟨rfl, rfl⟩
  | true =>
    have c1 := fun w => ref_perm p w
    rw [h1] at c1
    obtain ⟨n, rfl, hn⟩ := permB_nat h1
    have C1 := Lib.hid c1
    have Hn := Lib.hid hn
    have H1 := Lib.hid h1
    clear h1 c1 hn
    go_enter Try.func18, Try.ntmps18
    go_wp2_with fail
    refine (C1.out _).mono ?_
    rintro e w1 ⟨rfl, rfl⟩
    go_wp2
    go_loopg [3, 4] 7 (fun k s i wr => ∃ j : Nat, j + k = 7 ∧ i = .int .i64 j ∧ s = .string (strB (textTo n j)) ∧ wr = w1)
    case atStart => exact ⟨0, by omega, rfl, rfl, rfl⟩
    case round =>
      obtain ⟨j, hj, rfl, rfl, rfl⟩ := hrel
      have Hj := Lib.hid hj
      clear hj
      have hst : textTo n (j + 1) = if n.testBit j = true then textTo n j ++ [letters.getD j 0] else textTo n j := rfl
      rcases Nat.lt_or_ge j 7 with hlt | hge
      · have i1 : (j : Int) < 7 := by omega
        have Hlt := Lib.hid hlt
        have hex := Lib.hid (extract_letter j hlt)
        clear hlt
        go_wp2_with fail
        refine (ref_bit (n : Int) j _ (by omega) hp).mono ?_
        rintro e w2 ⟨rfl, rfl⟩
        rw [bitV_nat]
        cases hbit : n.testBit j with
        | false =>
          rw [hbit, if_neg Bool.false_ne_true] at hst
          have Hst := Lib.hid hst
          clear hst hbit
          go_wp2
          go_roundg (gk - 1)
          case measure => have := Hj.out; have := Hlt.out; omega
          case rel => exact ⟨j + 1, by have := Hj.out; have := Hlt.out; omega, by go_num, by rw [Hst.out], rfl⟩
        | true =>
          rw [hbit, if_pos rfl] at hst
          have Hst := Lib.hid hst
          clear hst hbit
          have hsl : ∀ W, (Instr.slice 9 (.string { data := #[114, 119, 120, 108, 115, 101, 117] }) (some (.int .i64 (j : Int))) (some (.int .i64 ((j : Int) + 1))) none).run Try.prog W = .ok (.string (strB [letters.getD j 0])) W := fun W => by
            have := run_slice_string (P := Try.prog) (w := W) 9 letterB .i64 .i64 (j : Int) ((j : Int) + 1) Try.underlying9 (by omega) (by omega) (by show (j : Int) + 1 ≤ 7; omega)
            rw [show ((j : Int)).toNat = j by omega, show ((j : Int) + 1).toNat = j + 1 by omega, hex.out] at this
            exact this
          have z1 : (strB (textTo n j)).size ≤ 7 := by have h := textTo_len n j; have h2 : (strB (textTo n j)).size = (textTo n j).length := rfl; have := Hlt.out; omega
          have z2 : (strB [letters.getD j 0]).size ≤ 1 := Nat.le_refl _
          have hap := strB_append (textTo n j) [letters.getD j 0]
          generalize strB [letters.getD j 0] = C at *
          have Hap := Lib.hid hap
          clear hap
          generalize hA : strB (textTo n j) = A at *
          have HA := Lib.hid hA
          clear hA
          go_wp2
          go_roundg (gk - 1)
          case measure => have := Hj.out; have := Hlt.out; omega
          case rel => exact ⟨j + 1, by have := Hj.out; have := Hlt.out; omega, by go_num, by rw [Hst.out, ← Hap.out], rfl⟩
      · have i1 : ¬ (j : Int) < 7 := by omega
        have e7 : j = 7 := by have := Hj.out; omega
        subst e7
        have he : (strB (textTo n 7)).toList.isEmpty = decide (n = 0) := text_empty ⟨n, Hn.out⟩
        clear hge hst
        by_cases h0 : n = 0
        · subst h0
          rw [decide_eq_true rfl] at he
          go_wp2
          go_ret
          exact ⟨rfl, rfl⟩
        · have E : Hid (strB (textL (n : Int)) = strB (textTo n 7)) := Lib.hid (by rw [textL, H1.out, if_pos rfl, if_neg (by omega), Int.toNat_natCast])
          rw [decide_eq_false h0] at he
          clear h0
          go_wp2
          go_ret
          exact ⟨by rw [E.out]; rfl, rfl⟩
end Go.Proofs.Ytjbfidgggfokcaa
