/- The number of bytes: the loops; the live question. -/
import Derived.Test.YtphkljlbadpknaaAluD
import Derived.WalkLawsBesides
set_option linter.unusedVariables false
set_option linter.unusedSimpArgs false
namespace Go.Proofs.Ytphkljlbadpknaa
open Go.RowKit

theorem u32_or8 {x y : Int} (hx : 0 ≤ x ∧ x ≤ 4294967295) (hy : 0 ≤ y ∧ y ≤ 255) : bits .or .u32 ((x * 256) % 4294967296) y = m32 (256 * x + y) := by
  obtain ⟨a, rfl⟩ := Int.eq_ofNat_of_zero_le hx.1
  obtain ⟨b, rfl⟩ := Int.eq_ofNat_of_zero_le hy.1
  have e : ((a : Int) * 256) % 4294967296 = ((a * 256 % 4294967296 : Nat) : Int) := by omega
  rw [e, u32_or_nat _ _ (by omega) (by omega), nat_or_add 8 _ _ (by omega) (by omega)]
  unfold m32
  omega

set_option maxRecDepth 100000 in
set_option maxHeartbeats 1600000 in
theorem number_row (v : Value) (xs : List Int) (w : World) (h : RowU w v xs) (hx : isB xs) (hl : (xs.length : Int) ≤ 4611686018427387904) :
    Calls Try.prog 16 #[v] w fun e w' => e = .returned (.int .i64 (numT xs)) ∧ w = w' := by
  obtain ⟨A, c, rfl, hR, hc⟩ := id h
  have H := Lib.hid h
  clear h hR
  generalize hn : xs.length = n at *
  have Hn := Lib.hid hn
  clear hn
  go_enter Try.func16, Try.ntmps16
  go_wp2
  go_loopg [3, 5, 8] n (fun k t u i wr => ∃ j : Nat, j + k = n ∧ i = .int .i64 j ∧ t = .int .u32 (numT (xs.take j)) ∧ w = wr)
  case atStart => exact ⟨0, by omega, rfl, rfl, rfl⟩
  case round =>
    obtain ⟨j, hj, rfl, rfl, rfl⟩ := hrel
    obtain ⟨t0, t1⟩ := numT_in (xs.take j)
    have Hj := Lib.hid hj
    clear hj
    rcases Nat.lt_or_ge j n with hlt | hge
    · have i1 : (j : Int) < n := by omega
      obtain ⟨b, o, rfl, _, _, hcell⟩ := H.out.cellsA (by rw [Hn.out]; omega)
      have hcj := hcell j (by rw [Hn.out]; exact hlt)
      obtain ⟨d0, d1⟩ := isB_rdn hx j
      have hs : xs.take (j + 1) = xs.take j ++ [rdn xs j] := by
        rw [List.take_add_one, rdn, List.getD_eq_getElem?_getD, List.getElem?_eq_getElem (by rw [Hn.out]; exact hlt)]; rfl
      have Hs := Lib.hid hs
      have Hlt := Lib.hid hlt
      clear hs hlt hcell
      generalize hz : numT (xs.take j) = z at *
      have Hz := Lib.hid hz
      generalize rdn xs j = d at *
      clear hz
      go_wp2
      go_roundg (gk - 1)
      case measure => have := Hj.out; have := Hlt.out; omega
      case rel => exact ⟨j + 1, by have := Hj.out; have := Hlt.out; omega, by go_num, by rw [Hs.out, numT_snoc, Hz.out, u32_or8 ⟨t0, t1⟩ ⟨d0, d1⟩], rfl⟩
    · have i1 : ¬ (j : Int) < n := by omega
      have e : xs.take j = xs := List.take_of_length_le (by rw [Hn.out]; exact hge)
      rw [e]
      obtain ⟨t0, t1⟩ := numT_in xs
      clear e hge
      go_wp2
      go_ret
      exact ⟨rfl, rfl⟩

set_option maxRecDepth 100000 in
set_option maxHeartbeats 1600000 in
theorem ref_number_row (v : Value) (xs : List Int) (w : World) (h : RowU w v xs) (hx : isB xs) (hl : (xs.length : Int) ≤ 4611686018427387904) :
    Calls Try.prog 17 #[v] w fun e w' => e = .returned (.int .i64 (numR (xs.drop (xs.length - 4)))) ∧ w = w' := by
  obtain ⟨A, c, rfl, hR, hc⟩ := id h
  have H := Lib.hid h
  clear h hR
  have hyl : (xs.drop (xs.length - 4)).length = xs.length - (xs.length - 4) := List.length_drop
  have hyb : isB (xs.drop (xs.length - 4)) := fun x h => hx x (List.mem_of_mem_drop h)
  have hyr : ∀ j, rdn (xs.drop (xs.length - 4)) j = rdn xs (xs.length - 4 + j) := fun j => by rw [rdn, rdn, List.getD_eq_getElem?_getD, List.getD_eq_getElem?_getD, List.getElem?_drop]
  generalize hy : xs.drop (xs.length - 4) = ys at *
  have Hyl := Lib.hid hyl
  have Hyr := Lib.hid hyr
  clear hy hyl hyr
  generalize hn : xs.length = n at *
  have Hn := Lib.hid hn
  clear hn
  have hlo : ∃ lo : Nat, lo = n - 4 := ⟨_, rfl⟩
  obtain ⟨lo, hlo⟩ := hlo
  have Hlo := Lib.hid hlo
  clear hlo
  have h4 : 4 < (n : Int) ∨ (n : Int) ≤ 4 := by omega
  rcases h4 with h4 | h4
  all_goals
    go_enter Try.func17, Try.ntmps17
    go_wp2
    go_loopg [3, 4] (n - lo) (fun k t i wr => ∃ j q : Nat, j + k = n - lo ∧ q = lo + j ∧ i = .int .i64 q ∧ t = .int .i64 (numR (ys.take j)) ∧ w = wr)
    case atStart => exact ⟨0, lo, by omega, rfl, congrArg (Value.int .i64) (by have := Hlo.out; omega), rfl, rfl⟩
    case round =>
      obtain ⟨j, q, hj, hq, rfl, rfl, rfl⟩ := hrel
      have hql : q ≤ n := by have := Hlo.out; omega
      have hyj : isB (ys.take j) := fun x h => hyb x (List.mem_of_mem_take h)
      obtain ⟨t0, t1, t2⟩ := numR_bd (ys.take j) hyj (by rw [List.length_take, Hyl.out]; omega)
      have Hj := Lib.hid hj
      have Hq := Lib.hid hq
      clear hj hyj hq
      rcases Nat.lt_or_ge q n with hlt | hge
      · have i1 : (q : Int) < n := by omega
        have t2 := t2 (by rw [List.length_take]; have := Hj.out; have := Hlo.out; have := Hq.out; omega)
        obtain ⟨b, o, rfl, _, _, hcell⟩ := H.out.cellsA (by rw [Hn.out]; omega)
        have hcj := hcell q (by rw [Hn.out]; exact hlt)
        obtain ⟨d0, d1⟩ := isB_rdn hx q
        have hs : ys.take (j + 1) = ys.take j ++ [rdn xs q] := by
          have e : rdn xs q = rdn ys j := by rw [Hyr.out, ← Hlo.out, Hq.out]
          rw [e, List.take_add_one, rdn, List.getD_eq_getElem?_getD, List.getElem?_eq_getElem (by rw [Hyl.out]; have := Hlo.out; have := Hq.out; omega)]; rfl
        have Hs := Lib.hid hs
        have Hlt := Lib.hid hlt
        clear hs hlt hcell
        generalize hz : numR (ys.take j) = z at *
        have Hz := Lib.hid hz
        generalize rdn xs q = d at *
        clear hz
        go_wp2
        go_roundg (gk - 1)
        case measure => have := Hj.out; have := Hlt.out; have := Hq.out; have := Hlo.out; omega
        case rel => exact ⟨j + 1, q + 1, by have := Hj.out; have := Hlt.out; have := Hq.out; have := Hlo.out; omega, by rw [Hq.out]; rfl, by go_num, by rw [Hs.out, numR_snoc, Hz.out], rfl⟩
      · have i1 : ¬ (q : Int) < n := by omega
        have e : ys.take j = ys := List.take_of_length_le (by rw [Hyl.out]; have := Hlo.out; have := Hq.out; omega)
        rw [e]
        clear e hge
        go_wp2
        go_ret
        exact ⟨rfl, rfl⟩
end Go.Proofs.Ytphkljlbadpknaa
