/- How many are painted. -/
import Derived.Test.YtjimkkkiilcpoaaShD
set_option linter.unusedVariables false
set_option linter.unusedSimpArgs false
namespace Go.Proofs.Ytjimkkkiilcpoaa
open Go.RowKit

def manyL (P : List Bool) : Nat := P.count true
theorem take_step (P : List Bool) (i : Nat) (hi : i < P.length) : P.take (i + 1) = P.take i ++ [P.getD i false] := by
  rw [List.take_add_one, List.getD_eq_getElem?_getD, List.getElem?_eq_getElem hi]
  rfl
theorem many_step (P : List Bool) (i : Nat) (hi : i < P.length) : manyL (P.take (i + 1)) = manyL (P.take i) + (if P.getD i false = true then 1 else 0) := by
  rw [take_step P i hi, manyL, List.count_append, List.count_singleton]
  cases P.getD i false <;> rfl
theorem many_le (P : List Bool) : manyL P ≤ P.length := List.count_le_length

set_option maxRecDepth 100000 in
set_option maxHeartbeats 1600000 in
theorem many_any (b bW : Nat) (P : List Bool) (w : World) (h : ShM w b bW P) :
    Calls Try.prog 36 #[.pointer (some ⟨b, 0, none⟩)] w fun e w' => e = .returned (.int .i64 (manyL P)) ∧ w' = w := by
  have H := Lib.hid h
  have hl := h.1
  have L := h.2.1.cell
  have gl : (P.length : Int) ≤ 1048576 := by omega
  generalize nWords P.length = m at *
  generalize hg : P.length = g at *
  have Hg := Lib.hid hg
  clear hl h hg
  go_enter Try.func36, Try.ntmps36
  go_wp2
  go_loopg [3, 4, 9] g (fun k n v i wr => ∃ j : Nat, j + k = g ∧ i = .int .i64 j ∧ n = .int .i64 (manyL (P.take j)) ∧ wr = w)
  case atStart => exact ⟨0, by omega, rfl, rfl, rfl⟩
  case round =>
    obtain ⟨j, hjk, rfl, rfl, rfl⟩ := hrel
    have hm := many_le (P.take j)
    have hm2 : (P.take j).length ≤ P.length := by rw [List.length_take]; omega
    have m1 : (manyL (P.take j) : Int) ≤ 1048576 := by have := Hg.out; omega
    have Hjk := Lib.hid hjk
    clear hjk hm hm2
    rcases Nat.lt_or_ge j g with hlt | hge
    · have i1 : (j : Int) < g := by omega
      have hs := Lib.hid (many_step P j (by rw [Hg.out]; exact hlt))
      have Hlt := Lib.hid hlt
      clear hlt
      go_wp2_with fail
      refine (painted_any b bW P j _ (by omega) H.out).mono ?_
      rintro e w1 ⟨rfl, rfl⟩
      cases hv : P.getD j false with
      | true =>
        have HV := Lib.hid hv
        clear hv
        generalize hn : manyL (P.take j) = n at *
        have Hn := Lib.hid hn
        clear hn
        go_wp2
        go_roundg (gk - 1)
        case measure => have := Hjk.out; have := Hlt.out; omega
        case rel => exact ⟨j + 1, by have := Hjk.out; have := Hlt.out; omega, by go_num, by have := hs.out; rw [HV.out] at this; rw [this, if_pos rfl]; go_num, rfl⟩
      | false =>
        have HV := Lib.hid hv
        clear hv
        generalize hn : manyL (P.take j) = n at *
        have Hn := Lib.hid hn
        clear hn
        go_wp2
        go_roundg (gk - 1)
        case measure => have := Hjk.out; have := Hlt.out; omega
        case rel => exact ⟨j + 1, by have := Hjk.out; have := Hlt.out; omega, by go_num, by have := hs.out; rw [HV.out] at this; rw [this, if_neg Bool.false_ne_true]; go_num, rfl⟩
    · have i1 : ¬ (j : Int) < g := by omega
      have e : P.take j = P := List.take_of_length_le (by rw [Hg.out]; omega)
      rw [e]
      clear hge e
      go_wp2
      go_ret
      exact ⟨rfl, rfl⟩

set_option maxRecDepth 100000 in
set_option maxHeartbeats 1600000 in
theorem ref_many_any (b bP : Nat) (P : List Bool) (w : World) (h : RfM w b bP P) :
    Calls Try.prog 37 #[.pointer (some ⟨b, 0, none⟩)] w fun e w' => e = .returned (.int .i64 (manyL P)) ∧ w' = w := by
  have H := Lib.hid h
  have hl := h.1
  have L := h.2.1.cell
  have gl : (P.length : Int) ≤ 1048576 := by omega
  generalize hg : P.length = g at *
  have Hg := Lib.hid hg
  clear hl h hg
  go_enter Try.func37, Try.ntmps37
  go_wp2
  go_loopg [3, 4] g (fun k n i wr => ∃ j : Nat, j + k = g ∧ i = .int .i64 j ∧ n = .int .i64 (manyL (P.take j)) ∧ wr = w)
  case atStart => exact ⟨0, by omega, rfl, rfl, rfl⟩
  case round =>
    obtain ⟨j, hjk, rfl, rfl, rfl⟩ := hrel
    have hm := many_le (P.take j)
    have hm2 : (P.take j).length ≤ P.length := by rw [List.length_take]; omega
    have m1 : (manyL (P.take j) : Int) ≤ 1048576 := by have := Hg.out; omega
    have Hjk := Lib.hid hjk
    clear hjk hm hm2
    rcases Nat.lt_or_ge j g with hlt | hge
    · have i1 : (j : Int) < g := by omega
      have hs := Lib.hid (many_step P j (by rw [Hg.out]; exact hlt))
      have c := H.out.2.2.cell j
      rw [bools_at _ _ (by rw [Hg.out]; exact hlt)] at c
      have Hlt := Lib.hid hlt
      clear hlt
      cases hv : P.getD j false with
      | true =>
        rw [hv] at c
        have HV := Lib.hid hv
        clear hv
        generalize hn : manyL (P.take j) = n at *
        have Hn := Lib.hid hn
        clear hn
        go_wp2
        go_roundg (gk - 1)
        case measure => have := Hjk.out; have := Hlt.out; omega
        case rel => exact ⟨j + 1, by have := Hjk.out; have := Hlt.out; omega, by go_num, by have := hs.out; rw [HV.out] at this; rw [this, if_pos rfl]; go_num, rfl⟩
      | false =>
        rw [hv] at c
        have HV := Lib.hid hv
        clear hv
        generalize hn : manyL (P.take j) = n at *
        have Hn := Lib.hid hn
        clear hn
        go_wp2
        go_roundg (gk - 1)
        case measure => have := Hjk.out; have := Hlt.out; omega
        case rel => exact ⟨j + 1, by have := Hjk.out; have := Hlt.out; omega, by go_num, by have := hs.out; rw [HV.out] at this; rw [this, if_neg Bool.false_ne_true]; go_num, rfl⟩
    · have i1 : ¬ (j : Int) < g := by omega
      have e : P.take j = P := List.take_of_length_le (by rw [Hg.out]; omega)
      rw [e]
      clear hge e
      go_wp2
      go_ret
      exact ⟨rfl, rfl⟩
end Go.Proofs.Ytjimkkkiilcpoaa
