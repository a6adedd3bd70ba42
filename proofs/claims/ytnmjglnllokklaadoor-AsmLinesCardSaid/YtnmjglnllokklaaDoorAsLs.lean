/-
  AsmLines: for every instructions and every string the law returns true, and each argument reads as it did. Condition: none.
-/
import Derived.Test.YtnmjglnllokklaaDoorAsL
import Derived.Test.YtnmjglnllokklaaDoorAsY
import Derived.Test.YtnmjglnllokklaaDoorAsZ
set_option linter.unusedVariables false
set_option linter.unusedSimpArgs false
namespace Go.Proofs.YtnmjglnllokklaaDoor.AsmLines
open Go.RowKit Go.Proofs.YtnmjglnllokklaaDoor

theorem rdT_len (xs : List ByteArray) : (rdT xs).length ≤ xs.length := by
  unfold rdT
  split
  · rw [List.length_map]; exact Nat.le_refl _
  · exact Nat.zero_le _
theorem rd_ins {s : ByteArray} {w : World} {B : Nat} {v : Value} (h : w.ownsRow B 23 4 v (rdT (linesB s)).length (i4s (rdT (linesB s)))) (hs : s.size ≤ 90000) : InsM w v (rdT (linesB s)) ∧ (rdT (linesB s)).length ≤ 90000 := by
  have h1 := rdT_len (linesB s)
  have h2 := linesB_len s
  exact ⟨InsM.own h (Head.rdT_in _) (by simp only [maxLen]; omega), by omega⟩

set_option maxRecDepth 100000 in
set_option maxHeartbeats 3200000 in
theorem walk (w : World) (v : Value) (L : List I4) (s : ByteArray) (hE : Env w) (hL : InsM w v L) (hs : s.size ≤ maxLen) :
    Calls Tryd.prog 7 #[v, .string s] w fun e w' => e = .returned (.bool true) ∧ Below w.heap.size w w' := by
  obtain ⟨A, c, rfl⟩ := hL.form
  have HE := Lib.hid hE
  have HL := Lib.hid hL
  have hn2 : (L.length : Int) ≤ 9223372036854775807 := by have := hL.1; simp only [maxLen] at this; omega
  have hs2 : (s.size : Int) ≤ 9223372036854775807 := by simp only [maxLen] at hs; omega
  clear hE hL hs
  obtain ⟨n, hn⟩ : ∃ n, L.length = n := ⟨_, rfl⟩
  rw [hn] at HL hn2 ⊢
  have Hn := Lib.hid hn
  clear hn
  go_enter Tryd.func7, Tryd.ntmps7
  go_wp2_with fail
  refine (Head.head_any w HE.out).mono ?_
  rintro e' w1 ⟨rfl, b1⟩
  have B1 := Lib.hid b1
  have L1 := Lib.hid (HL.out.below b1)
  clear b1 HL
  by_cases h2 : n ≤ 200
  · have h2' : ¬ 200 < (n : Int) := by omega
    have H2 := Lib.hid h2
    clear h2
    by_cases h3 : s.size ≤ 3000
    · have h3' : ¬ 3000 < (s.size : Int) := by omega
      have h39 := Lib.hid (show s.size ≤ 90000 by omega)
      clear h3
      go_wp2_with fail
      refine (read_any s w1 (HE.out.grow B1.out) h39.out).mono ?_
      rintro e' w2 ⟨va, rfl, ra, b2⟩
      have B2 := Lib.hid (below_then B1.out B1.out.size b2)
      have L2 := Lib.hid (L1.out.below b2)
      have R2 := Lib.hid (rd_ins ra h39.out)
      clear b2 ra B1 L1
      go_wp2_with fail
      have g := rread_any s w2 (HE.out.grow B2.out) h39.out
      have HRL := Lib.hid (show (rdT (linesB s)).length ≤ 1048576 by have := R2.out.2; omega)
      have HR := Lib.hid (fun (W : World) (v1 v2 : Value) h1 h2 => rsame_any v1 v2 (rdT (linesB s)) (rdT (linesB s)) W h1 h2 HRL.out)
      have h90 := h39.out
      refine g.mono ?_
      clear g
      rintro e' w3 ⟨vb, rfl, rb, b3⟩
      have B3 := Lib.hid (below_then B2.out B2.out.size b3)
      have L3 := Lib.hid (L2.out.below b3)
      have R3 := Lib.hid (R2.out.1.below b3)
      have S3 := Lib.hid (rd_ins rb h90).1
      clear b3 rb B2 L2 R2 h90
      obtain ⟨R, hR⟩ : ∃ R, rdT (linesB s) = R := ⟨_, rfl⟩
      rw [hR] at R3 S3 HR HRL
      clear hR
      generalize rdN (linesB s) = rn at *
      generalize rdOk (linesB s) = rk at *
      obtain ⟨A1, c1, rfl⟩ := R3.out.form
      obtain ⟨A2, c2, rfl⟩ := S3.out.form
      have HRR := Lib.hid (show decide (R = R) = true by simp)
      rw [HRR.out] at HR
      have GL := Lib.hid (fun W hW hV => lines_any (.slice A n c) L W hW hV (by rw [Hn.out]; exact H2.out))
      have GM := Lib.hid (fun W hW hV => rlines_any (.slice A n c) L W hW hV (by rw [Hn.out]; exact H2.out))
      obtain ⟨sx, hsx⟩ : ∃ sx : ByteArray, ⟨(lnS L).toArray⟩ = sx := ⟨_, rfl⟩
      rw [hsx] at GL GM
      clear hsx
      have q1 : (sx.toList == sx.toList) = true := (Lib.bytes_beq_iff _ _).2 rfl
      have HEW := Lib.hid (HE.out.grow B3.out)
      go_wp2_with fail
      refine (GL.out _ HEW.out L3.out).mono ?_
      rintro e' w4 ⟨rfl, b4⟩
      have B4 := Lib.hid (below_then B3.out B3.out.size b4)
      have L4 := Lib.hid (L3.out.below b4)
      have R4 := Lib.hid (R3.out.below b4)
      have S4 := Lib.hid (S3.out.below b4)
      clear b4 B3 L3 R3 S3 HEW
      go_wp2_with fail
      refine (GM.out _ (HE.out.grow B4.out) L4.out).mono ?_
      rintro e' w5 ⟨rfl, b5⟩
      have B5 := Lib.hid (below_then B4.out B4.out.size b5)
      have R5 := Lib.hid (R4.out.below b5)
      have S5 := Lib.hid (S4.out.below b5)
      clear b5 B4 L4 R4 S4
      go_wp2_with fail
      refine (HR.out _ _ _ R5.out S5.out).mono ?_
      rintro e' w6 ⟨rfl, k6, rfl⟩
      have B6 := Lib.hid (below_drewN B5.out k6)
      clear B5 R5 S5
      go_wp2
      go_ret
      exact ⟨rfl, B6.out⟩
    · have h3' : 3000 < (s.size : Int) := by omega
      clear h3
      go_wp2
      go_ret
      exact ⟨rfl, B1.out⟩
  · have h2' : 200 < (n : Int) := by omega
    clear h2
    go_wp2
    go_ret
    exact ⟨rfl, B1.out⟩
end Go.Proofs.YtnmjglnllokklaaDoor.AsmLines
