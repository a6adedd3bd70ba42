/- Numbers alike; the document's Load. -/
import Derived.Test.YtjimkkkiilcpoaaTmF
import Derived.Test.YtjimkkkiilcpoaaEncF
import Derived.Test.YtjimkkkiilcpoaaShH
set_option linter.unusedVariables false
set_option linter.unusedSimpArgs false
namespace Go.Proofs.Ytjimkkkiilcpoaa
open Go.RowKit

/-- A slice whose cells are these numbers. -/
def RowI (w : World) (v : Value) (xs : List Int) : Prop := ∃ A c, v = .slice A xs.length c ∧ RdL w A (i64s xs)
theorem RowI.below {w w1 : World} {v : Value} {xs : List Int} (h : RowI w v xs) (hb : Below w.heap.size w w1) : RowI w1 v xs := by
  obtain ⟨A, c, h1, h2⟩ := h
  exact ⟨A, c, h1, h2.below hb⟩
theorem RowI.own {w : World} {base : Nat} {e : TypeId} {v : Value} {n : Nat} {xs : List Int} (h : w.ownsRow base e 1 v n (i64s xs)) : RowI w v xs := by
  have hn : xs.length = n := by have := h.1; simpa [i64s] using this
  obtain ⟨A, c, rfl⟩ := own_form h
  exact ⟨A, c, by rw [hn], RdL.own h⟩
def rdi (xs : List Int) (j : Nat) : Int := xs.getD j 0
theorem RowI.cellsA {w : World} {A : Option Addr} {n c : Nat} {xs : List Int} (h : RowI w (.slice A n c) xs) (hl : 0 < xs.length) : ∃ b o, A = some ⟨b, o, none⟩ ∧ ∀ j, j < xs.length → w.cell? ⟨b, o + j, none⟩ = some (.int .i64 (rdi xs j)) := by
  obtain ⟨A', c', hv, hR⟩ := h
  cases hv
  have hget : ∀ j, j < xs.length → (i64s xs)[j]? = some (.int .i64 (rdi xs j)) := fun j hj => by
    simp [i64s, rdi, List.getElem?_eq_getElem hj, List.getD_eq_getElem?_getD]
  obtain ⟨ad, hA, h0⟩ := hR 0 _ (hget 0 hl)
  subst hA
  have hsp := spot_of_cell h0
  obtain ⟨b, o, s⟩ := ad
  simp only at hsp
  subst hsp
  refine ⟨b, o, rfl, fun j hj => ?_⟩
  obtain ⟨ad', h1, h2⟩ := hR j _ (hget j hj)
  cases h1
  rwa [add_plain] at h2
theorem take_snoc_i (xs : List Int) (j : Nat) (hj : j < xs.length) : xs.take (j + 1) = xs.take j ++ [rdi xs j] := by
  rw [List.take_add_one, rdi, List.getD_eq_getElem?_getD, List.getElem?_eq_getElem hj]; rfl

set_option maxRecDepth 100000 in
set_option maxHeartbeats 1600000 in
theorem same_ints (v1 v2 : Value) (R S : List Int) (w : World) (h1 : RowI w v1 R) (h2 : RowI w v2 S) (hR : R.length ≤ 1048576) :
    Calls Try.prog 61 #[v1, v2] w fun e w' => e = .returned (.bool (decide (R = S))) ∧ ∃ n, w' = w.drewN n := by
  obtain ⟨A1, c1, rfl, k1⟩ := h1
  obtain ⟨A2, c2, rfl, k2⟩ := h2
  have H1 : Hid (RowI w (.slice A1 R.length c1) R) := Lib.hid ⟨A1, c1, rfl, k1⟩
  have H2 : Hid (RowI w (.slice A2 S.length c2) S) := Lib.hid ⟨A2, c2, rfl, k2⟩
  clear k1 k2
  by_cases hl : R.length = S.length
  · have HL := Lib.hid hl
    rw [← hl] at H2 ⊢
    clear hl
    generalize hn : R.length = n at *
    have Hn := Lib.hid hn
    have hR' : (n : Int) ≤ 1048576 := by omega
    clear hn hR
    go_enter Try.func61, Try.ntmps61
    go_wp2
    go_loopg [5] n (fun k i wr => ∃ j : Nat, j + k = n ∧ i = .int .i64 j ∧ R.take j = S.take j ∧ ∃ d, wr = w.drewN d)
    case atStart => exact ⟨0, by omega, rfl, by rw [List.take_zero, List.take_zero], 0, rfl⟩
    case round =>
      obtain ⟨j, hjk, rfl, ht, d, rfl⟩ := hrel
      have Hjk := Lib.hid hjk
      have Ht := Lib.hid ht
      clear hjk ht
      rcases Nat.lt_or_ge j n with hlt | hge
      · have i1 : (j : Int) < n := by omega
        obtain ⟨g1, o1, rfl, hc1⟩ := H1.out.cellsA (by rw [Hn.out]; omega)
        obtain ⟨g2, o2, rfl, hc2⟩ := H2.out.cellsA (by rw [← HL.out]; omega)
        have c10 := hc1 j (by rw [Hn.out]; exact hlt)
        have c20 := hc2 j (by rw [← HL.out]; exact hlt)
        have Hr := Lib.hid (take_snoc_i R j (by rw [Hn.out]; exact hlt))
        have Hs := Lib.hid (take_snoc_i S j (by rw [← HL.out]; exact hlt))
        have Hne : Hid (¬ rdi R j = rdi S j → ¬ R = S) := Lib.hid fun h e => h (by rw [e])
        generalize rdi R j = x at *
        generalize rdi S j = y at *
        have Hlt := Lib.hid hlt
        clear hlt hc1 hc2
        by_cases he : x = y
        · subst he
          have h0 : (x != x) = false := by simp
          go_upto_region 6 with fail
          go_quiet (fail)
          go_wp2
          go_roundg (gk - 1)
          case measure => have := Hjk.out; have := Hlt.out; omega
          case rel => exact ⟨j + 1, by have := Hjk.out; have := Hlt.out; omega, by go_num, by rw [Hr.out, Hs.out, Ht.out], _, rfl⟩
        · have hne := Lib.hid (Hne.out he)
          have h0 : (x != y) = true := by simpa using he
          clear he
          go_upto_region 6 with fail
          go_quiet (fail)
          go_wp2
          go_ret
          exact ⟨by rw [decide_eq_false hne.out]; rfl, _, World.drewN_drewN ..⟩
      · have i1 : ¬ (j : Int) < n := by omega
        have he : R = S := by
          have h := Ht.out
          rwa [List.take_of_length_le (by rw [Hn.out]; omega), List.take_of_length_le (by rw [← HL.out]; omega)] at h
        have He := Lib.hid he
        clear he hge
        go_wp2
        go_ret
        exact ⟨by rw [decide_eq_true He.out]; rfl, d, rfl⟩
  · have hne : ¬ R = S := fun e => hl (by rw [e])
    rw [decide_eq_false hne]
    have h0 : ¬ (R.length : Int) = S.length := by omega
    generalize R.length = n at *
    generalize S.length = m at *
    have hR' : (n : Int) ≤ 1048576 := by omega
    clear hne hl H1 H2
    go_enter Try.func61, Try.ntmps61
    go_wp2
    go_ret
    exact ⟨rfl, 0, rfl⟩
end Go.Proofs.Ytjimkkkiilcpoaa
