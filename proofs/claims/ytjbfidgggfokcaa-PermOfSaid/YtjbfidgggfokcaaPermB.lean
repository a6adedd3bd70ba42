/- How many there are, and the set of some. -/
import Derived.Test.YtjbfidgggfokcaaPermA
set_option linter.unusedVariables false
set_option linter.unusedSimpArgs false
namespace Go.Proofs.Ytjbfidgggfokcaa
open Go.RowKit

def cnt (n : Nat) : Nat := (List.range 7).countP fun i => n.testBit i
def manyP (p : Int) : Nat := if permB p then cnt p.toNat else 0
theorem cnt_step : ∀ n : Fin 128, n.val ≠ 0 → cnt (n.val &&& (n.val - 1)) + 1 = cnt n.val ∧ (n.val &&& (n.val - 1)) < n.val := by decide +kernel
theorem cnt_le : ∀ n : Fin 128, cnt n.val ≤ 7 := by decide +kernel
theorem i64_and_nat (a b : Nat) (ha : a < 4611686018427387904) (hb : b < 4611686018427387904) : bits .and .i64 (a : Int) (b : Int) = ((a &&& b : Nat) : Int) := by
  have e : bits .and .i64 (a : Int) (b : Int) = IntKind.i64.wrap ((BitVec.ofInt 64 (a : Int)) &&& (BitVec.ofInt 64 (b : Int)) : BitVec 64).toNat := rfl
  have h : a &&& b ≤ a := Nat.and_le_left
  rw [e, BitVec.toNat_and, BitVec.ofInt_natCast, BitVec.ofInt_natCast, BitVec.toNat_ofNat, BitVec.toNat_ofNat, Nat.mod_eq_of_lt (by omega), Nat.mod_eq_of_lt (by omega), IntKind.wrap_i64]
  omega

set_option maxRecDepth 100000 in
set_option maxHeartbeats 1600000 in
theorem many_any (p : Int) (w : World) (hp : inI p) : Calls Try.prog 19 #[.int .i64 p] w fun e w' => e = .returned (.int .i64 (manyP p)) ∧ w' = w := by
  cases h1 : permB p with
  | false =>
    have E : Hid (manyP p = 0) := Lib.hid (by rw [manyP, h1]; rfl)
    have c1 := fun w => perm_right p w hp
    rw [h1] at c1
    have C1 := Lib.hid c1
    clear c1 h1
    go_enter Try.func19, Try.ntmps19
    go_wp2
    go_loopg [0, 3] 1 (fun k v n wr => v = .int .i64 p ∧ n = .int .i64 0 ∧ wr = w)
    case atStart => exact ⟨rfl, rfl, rfl⟩
    case round =>
      obtain ⟨rfl, rfl, rfl⟩ := hrel
      go_wp2_with fail
      refine (C1.out _).mono ?_
      rintro e w1 ⟨rfl, rfl⟩
      go_wp2
      go_ret
      exact ⟨by rw [E.out]; rfl, rfl⟩
  | true =>
    obtain ⟨m, rfl, hm⟩ := permB_nat h1
    have E : Hid (manyP (m : Int) = cnt m) := Lib.hid (by rw [manyP, h1]; rfl)
    have Hm := Lib.hid hm
    clear h1 hm hp
    go_enter Try.func19, Try.ntmps19
    go_wp2
    go_loopg [0, 3] m (fun k v n wr => k < 128 ∧ v = .int .i64 k ∧ (∃ c : Nat, n = .int .i64 c ∧ c + cnt k = cnt m) ∧ wr = w)
    case atStart => exact ⟨Hm.out, rfl, ⟨0, rfl, by omega⟩, rfl⟩
    case round =>
      obtain ⟨hk, rfl, ⟨c, rfl, hc⟩, rfl⟩ := hrel
      have h7 := cnt_le ⟨m, Hm.out⟩
      have c0 : (c : Int) ≤ 7 := by simp only at h7; omega
      have Hk := Lib.hid hk
      have Hc := Lib.hid hc
      have k1 : (gk : Int) ≤ 127 := by omega
      clear h7 hk hc
      go_wp2_with fail
      refine (perm_right (gk : Int) _ ⟨by omega, by omega⟩).mono ?_
      rintro e w1 ⟨rfl, rfl⟩
      rw [permB_of Hk.out]
      rcases Nat.eq_zero_or_pos gk with h0 | h0
      · subst h0
        have e : Hid (c = cnt m) := Lib.hid (by have := Hc.out; have h0 : cnt 0 = 0 := (by decide); omega)
        go_wp2
        go_ret
        exact ⟨by rw [E.out, ← e.out]; rfl, rfl⟩
      · have i1 : (0 : Int) < gk := by omega
        have hst : Hid (cnt (gk &&& (gk - 1)) + 1 = cnt gk ∧ (gk &&& (gk - 1)) < gk) := Lib.hid (cnt_step ⟨gk, Hk.out⟩ (show gk ≠ 0 by omega))
        have ha : bits .and .i64 (gk : Int) ((gk : Int) - 1) = ((gk &&& (gk - 1) : Nat) : Int) := by
          have : (gk : Int) - 1 = ((gk - 1 : Nat) : Int) := by omega
          rw [this]
          exact i64_and_nat _ _ (by have := Hk.out; omega) (by have := Hk.out; omega)
        clear h0
        go_wp2
        go_roundg (gk &&& (gk - 1))
        case measure => exact hst.out.2
        case rel => exact ⟨Nat.lt_trans hst.out.2 Hk.out, by first | rfl | (rw [ha]), ⟨c + 1, by go_num, by have := hst.out.1; have := Hc.out; omega⟩, rfl⟩

theorem cnt_up (n j : Nat) (hj : j ≤ 6) : ((List.range (j + 1)).countP fun i => n.testBit i) = ((List.range j).countP fun i => n.testBit i) + if n.testBit j = true then 1 else 0 := by
  rw [List.range_succ, List.countP_append, List.countP_singleton]
  
set_option maxRecDepth 100000 in
set_option maxHeartbeats 1600000 in
theorem ref_many (p : Int) (w : World) (hp : inI p) : Calls Try.prog 20 #[.int .i64 p] w fun e w' => e = .returned (.int .i64 (manyP p)) ∧ w' = w := by
  cases h1 : permB p with
  | false =>
    have E : Hid (manyP p = 0) := Lib.hid (by rw [manyP, h1]; rfl)
    have c1 := fun w => ref_perm p w
    rw [h1] at c1
    have C1 := Lib.hid c1
    clear c1 h1
    go_enter Try.func20, Try.ntmps20
    go_wp2
    go_loopg [3, 4] 1 (fun k n i wr => n = .int .i64 0 ∧ i = .int .i64 0 ∧ wr = w)
    case atStart => exact ⟨rfl, rfl, rfl⟩
    case round =>
      obtain ⟨rfl, rfl, rfl⟩ := hrel
      go_wp2_with fail
      refine (C1.out _).mono ?_
      rintro e w1 ⟨rfl, rfl⟩
      go_wp2
      go_ret
      exact ⟨by rw [E.out]; rfl, rfl⟩
  | true =>
    obtain ⟨m, rfl, hm⟩ := permB_nat h1
    have E : Hid (manyP (m : Int) = cnt m) := Lib.hid (by rw [manyP, h1]; rfl)
    have c1 := fun w => ref_perm (m : Int) w
    rw [h1] at c1
    have C1 := Lib.hid c1
    clear c1 h1 hm
    go_enter Try.func20, Try.ntmps20
    go_wp2
    go_loopg [3, 4] 7 (fun k n i wr => ∃ j : Nat, j + k = 7 ∧ i = .int .i64 j ∧ n = .int .i64 ((List.range j).countP fun i => m.testBit i : Nat) ∧ wr = w)
    case atStart => exact ⟨0, by omega, rfl, rfl, rfl⟩
    case round =>
      obtain ⟨j, hj, rfl, rfl, rfl⟩ := hrel
      have Hj := Lib.hid hj
      have hle : ((List.range j).countP fun i => m.testBit i) ≤ 7 := by have := List.countP_le_length (p := fun i => m.testBit i) (l := List.range j); rw [List.length_range] at this; omega
      have hst := fun h => cnt_up m j h
      have e7 : j = 7 → ((List.range j).countP fun i => m.testBit i) = cnt m := fun h => by rw [h]; rfl
      generalize hC : ((List.range j).countP fun i => m.testBit i) = C at *
      have HC := Lib.hid hC
      have i2 : (C : Int) ≤ 7 := by omega
      have Hst := Lib.hid hst
      have E7 := Lib.hid e7
      clear hj hle hst e7 hC
      rcases Nat.lt_or_ge j 7 with hlt | hge
      · have i1 : (j : Int) < 7 := by omega
        have Hlt := Lib.hid hlt
        clear hlt
        go_wp2_with fail
        refine (C1.out _).mono ?_
        rintro e w1 ⟨rfl, rfl⟩
        go_wp2_with fail
        refine (ref_bit (m : Int) j _ (by omega) hp).mono ?_
        rintro e w2 ⟨rfl, rfl⟩
        rw [bitV_nat]
        cases hb : m.testBit j with
        | false =>
          have Hb := Lib.hid hb
          clear hb
          go_wp2
          go_roundg (gk - 1)
          case measure => have := Hj.out; have := Hlt.out; omega
          case rel => exact ⟨j + 1, by have := Hj.out; have := Hlt.out; omega, by go_num, by rw [Hst.out (by have := Hlt.out; omega), Hb.out, if_neg Bool.false_ne_true]; rfl, rfl⟩
        | true =>
          have Hb := Lib.hid hb
          clear hb
          go_wp2
          go_roundg (gk - 1)
          case measure => have := Hj.out; have := Hlt.out; omega
          case rel => exact ⟨j + 1, by have := Hj.out; have := Hlt.out; omega, by go_num, by rw [Hst.out (by have := Hlt.out; omega), Hb.out, if_pos rfl]; go_num, rfl⟩
      · have i1 : ¬ (j : Int) < 7 := by omega
        have e := Lib.hid (E7.out (by have := Hj.out; omega))
        clear hge
        go_wp2
        go_ret
        exact ⟨by rw [E.out, ← e.out]; rfl, rfl⟩
end Go.Proofs.Ytjbfidgggfokcaa
