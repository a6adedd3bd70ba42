/- Whether two slices of rows are the same; the live question. -/
import Derived.Test.YtjimkkkiilcpoaaShG
set_option linter.unusedVariables false
set_option linter.unusedSimpArgs false
namespace Go.Proofs.Ytjimkkkiilcpoaa
open Go.RowKit

/-- A slice of rows. -/
def RowR (w : World) (v : Value) (R : List (Int × Int)) : Prop := ∃ A c, v = .slice A R.length c ∧ RdL w A (rowCells R) ∧ (R = [] ∨ ∃ g, A = some ⟨g, 0, none⟩) 
theorem RowR.own {w : World} {base : Nat} {e : TypeId} {v : Value} {R : List (Int × Int)} (h : w.ownsRow base e 2 v R.length (rowCells R)) : RowR w v R := by
  obtain ⟨A, c, rfl⟩ := own_form h
  refine ⟨A, c, rfl, RdL.own h, ?_⟩
  rcases h.2 with ⟨_, h0⟩ | ⟨g, cap, cur, hv, _⟩
  · exact .inl (List.eq_nil_of_length_eq_zero h0)
  · cases hv; exact .inr ⟨g, rfl⟩
theorem RowR.below {w w1 : World} {v : Value} {R : List (Int × Int)} (h : RowR w v R) (hb : Below w.heap.size w w1) : RowR w1 v R := by
  obtain ⟨A, c, e, h1, h2⟩ := h
  exact ⟨A, c, e, h1.below hb, h2⟩
theorem rowCells_at (R : List (Int × Int)) (j : Nat) (r : Int × Int) (h : R[j]? = some r) : (rowCells R)[j * 2]? = some (.int .i64 r.1) ∧ (rowCells R)[j * 2 + 1]? = some (.int .i64 r.2) := by
  induction R generalizing j with
  | nil => simp at h
  | cons a R ih =>
    cases j with
    | zero => simp at h; subst h; exact ⟨rfl, rfl⟩
    | succ j =>
      have := ih j (by simpa using h)
      rw [show (j + 1) * 2 = j * 2 + 1 + 1 by omega]
      simpa [rowCells] using this
theorem RowR.at {w : World} {g n c : Nat} {R : List (Int × Int)} (h : RowR w (.slice (some ⟨g, 0, none⟩) n c) R) (j : Nat) (r : Int × Int) (hj : R[j]? = some r) :
    w.cell? ⟨g, j * 2, none⟩ = some (.int .i64 r.1) ∧ w.cell? ⟨g, j * 2 + 1, none⟩ = some (.int .i64 r.2) := by
  obtain ⟨A, c', e, h1, h2⟩ := h
  cases e
  obtain ⟨k1, k2⟩ := rowCells_at R j r hj
  obtain ⟨_, e1, c1⟩ := h1 _ _ k1
  obtain ⟨_, e2, c2⟩ := h1 _ _ k2
  cases e1
  cases e2
  rw [add_plain, Nat.zero_add] at c1 c2
  exact ⟨c1, c2⟩

set_option maxRecDepth 100000 in
theorem run_eq_pair (x y x' y' : Int) (w : World) : (Op.equalIn 10000 50 (.agg #[.int .i64 x, .int .i64 y]) (.agg #[.int .i64 x', .int .i64 y'])).run Try.prog w = .ok (decide (x = x' ∧ y = y')) w := by
  have u3 := Try.underlying3
  have a3 := Try.isAgg3
  have z3 := Try.sizeOf3
  rw [show (10000 : Nat) = 9999 + 1 from rfl, Op.equalIn]
  simp only [Sem.run_bind, run_underlying Try.underlying50, Result.andThen_ok]
  simp only [Std.Legacy.Range.forIn_eq_forIn_range', Std.Legacy.Range.size, Nat.sub_zero, Nat.add_sub_cancel, Nat.div_one, List.range'_succ, List.range'_zero, List.forIn_cons, List.forIn_nil]
  go_simp
  by_cases h1 : x = x' <;> by_cases h2 : y = y' <;> simp [h1, h2]

set_option maxRecDepth 100000 in
set_option maxHeartbeats 1600000 in
theorem same_rows (v1 v2 : Value) (R S : List (Int × Int)) (w : World) (h1 : RowR w v1 R) (h2 : RowR w v2 S) (hR : R.length ≤ 1048576) :
    Calls Try.prog 42 #[v1, v2] w fun e w' => e = .returned (.bool (decide (R = S))) ∧ ∃ n, w' = w.drewN n := by
  obtain ⟨A1, c1, rfl, k1, a1⟩ := h1
  obtain ⟨A2, c2, rfl, k2, a2⟩ := h2
  have H1 : Hid (RowR w (.slice A1 R.length c1) R) := Lib.hid ⟨A1, c1, rfl, k1, a1⟩
  have H2 : Hid (RowR w (.slice A2 S.length c2) S) := Lib.hid ⟨A2, c2, rfl, k2, a2⟩
  clear k1 k2
  by_cases hl : R.length = S.length
  · have Ha1 := Lib.hid a1
    have Ha2 := Lib.hid a2
    have HL := Lib.hid hl
    clear a1 a2
    rw [← hl] at H2 ⊢
    clear hl
    generalize hn : R.length = n at *
    have Hn := Lib.hid hn
    have hR' : (n : Int) ≤ 1048576 := by omega
    clear hn hR
    go_enter Try.func42, Try.ntmps42
    go_wp2
    go_loopg [5] n (fun k i wr => ∃ j : Nat, j + k = n ∧ i = .int .i64 j ∧ R.take j = S.take j ∧ ∃ d, wr = w.drewN d)
    case atStart => exact ⟨0, by omega, rfl, by rw [List.take_zero, List.take_zero], 0, rfl⟩
    case round =>
      obtain ⟨j, hjk, rfl, ht, d, rfl⟩ := hrel
      have Hjk := Lib.hid hjk
      have Ht := Lib.hid ht
      clear hjk ht
      rcases Nat.lt_or_ge j n with hlt | hge
      · have i1 : (j : Int) < n := by omega
        obtain ⟨⟨r1, r2⟩, hr⟩ : ∃ r, R[j]? = some r := ⟨_, List.getElem?_eq_getElem (show j < R.length by rw [Hn.out]; exact hlt)⟩
        obtain ⟨⟨s1, s2⟩, hs⟩ : ∃ r, S[j]? = some r := ⟨_, List.getElem?_eq_getElem (show j < S.length by rw [← HL.out]; exact hlt)⟩
        obtain ⟨g1, rfl⟩ : ∃ g, A1 = some ⟨g, 0, none⟩ := by
          rcases Ha1.out with h | h
          · rw [h] at Hn; have := Hn.out; simp at this; omega
          · exact h
        obtain ⟨g2, rfl⟩ : ∃ g, A2 = some ⟨g, 0, none⟩ := by
          rcases Ha2.out with h | h
          · have := HL.out; rw [h] at this; simp at this; omega
          · exact h
        obtain ⟨c10, c11⟩ := H1.out.at j _ hr
        obtain ⟨c20, c21⟩ := H2.out.at j _ hs
        dsimp only at c10 c11 c20 c21
        have Hr := Lib.hid hr
        have Hs := Lib.hid hs
        have Hlt := Lib.hid hlt
        clear hlt hr hs
        go_upto_region 6 with fail
        have hq := fun w => run_eq_pair r1 r2 s1 s2 w
        by_cases he : r1 = s1 ∧ r2 = s2
        · rw [decide_eq_true he] at hq
          obtain ⟨rfl, rfl⟩ := he
          go_quiet (fail)
          go_wp2
          go_roundg (gk - 1)
          case measure => have := Hjk.out; have := Hlt.out; omega
          case rel =>
            refine ⟨j + 1, by have := Hjk.out; have := Hlt.out; omega, by go_num, ?_, _, rfl⟩
            rw [List.take_add_one, List.take_add_one, Ht.out, Hr.out, Hs.out]
        · rw [decide_eq_false he] at hq
          have hne : ¬ R = S := by
            intro e
            have h1 := Hr.out
            rw [e, Hs.out] at h1
            cases h1
            exact he ⟨rfl, rfl⟩
          have Hne := Lib.hid hne
          clear he hne
          go_quiet (fail)
          go_wp2
          go_ret
          exact ⟨by rw [decide_eq_false Hne.out]; rfl, _, World.drewN_drewN ..⟩
      · have i1 : ¬ (j : Int) < n := by omega
        have e : R = S := by
          rw [List.take_of_length_le (by rw [Hn.out]; exact hge), List.take_of_length_le (by rw [← HL.out]; exact hge)] at Ht
          exact Ht.out
        have He := Lib.hid e
        clear hge e
        go_wp2
        go_ret
        exact ⟨by rw [decide_eq_true He.out]; rfl, d, rfl⟩
  · have e : ¬ R = S := fun e => hl (by rw [e])
    rw [decide_eq_false e]
    have hl' : ¬ (R.length : Int) = S.length := by omega
    clear e hl H1 H2 a1 a2
    generalize R.length = n at *
    generalize S.length = m at *
    go_enter Try.func42, Try.ntmps42
    go_wp2
    go_ret
    exact ⟨rfl, 0, rfl⟩
end Go.Proofs.Ytjimkkkiilcpoaa
