/- The set of some, the document's. -/
import Derived.Test.YtjbfidgggfokcaaPermC
set_option linter.unusedVariables false
set_option linter.unusedSimpArgs false
namespace Go.Proofs.Ytjbfidgggfokcaa
open Go.RowKit

theorem low_facts : ∀ F : Fin 128, ∀ i : Fin 7, (F.val % 2 ^ i.val).testBit i.val = false ∧ (F.val % 2 ^ i.val + 2 ^ i.val).testBit i.val = true ∧ F.val % 2 ^ i.val + 2 ^ i.val < 256 ∧ F.val % 2 ^ (i.val + 1) = F.val % 2 ^ i.val + (if F.val.testBit i.val = true then 2 ^ i.val else 0) ∧ 2 ^ i.val ≤ 64 := by decide +kernel
def accN (F i : Nat) (g : Bool) : Nat := F % 2 ^ i + (if g = true then 2 ^ i else 0)
theorem accN_facts {F i : Nat} (hF : F < 128) (hi : i < 7) (g : Bool) : (accN F i g).testBit i = g ∧ accN F i g < 256 ∧ accN F i (F.testBit i) = F % 2 ^ (i + 1) ∧ accN F i true = accN F i false + 2 ^ i ∧ 2 ^ i ≤ 64 ∧ accN F i false = F % 2 ^ i := by
  obtain ⟨h1, h2, h3, h4, h5⟩ := low_facts ⟨F, hF⟩ ⟨i, hi⟩
  simp only at h1 h2 h3 h4 h5
  refine ⟨?_, ?_, by rw [accN, h4], by simp [accN], h5, by simp [accN]⟩
  · cases g <;> simp [accN, h1, h2]
  · cases g <;> simp [accN] <;> omega
def lowN (F i : Nat) : Nat := F % 2 ^ i
theorem wrap_add {a i : Nat} (ha : a ≤ 255) (hi : i < 7) : wrap64 ((a : Int) + wrap64 (2 ^ i)) = ((a + 2 ^ i : Nat) : Int) := by
  have h : 2 ^ i ≤ 64 := (low_facts ⟨0, by decide⟩ ⟨i, hi⟩).2.2.2.2
  have e : (2 : Int) ^ i = ((2 ^ i : Nat) : Int) := by push_cast; rfl
  rw [e]
  generalize 2 ^ i = q at *
  have e2 : wrap64 (q : Int) = q := IntWalk.wrap64_in _ ⟨by omega, by omega⟩
  rw [e2, IntWalk.wrap64_in _ ⟨by omega, by omega⟩]
  omega
theorem orP_bit (a : Nat) (p : Int) (i : Nat) (hi : i < 7) : (orP a p).testBit i = (a.testBit i || (permB p && bitV p i)) := by
  unfold orP
  cases hp : permB p with
  | false => simp
  | true =>
    obtain ⟨n, rfl, hn⟩ := permB_nat hp
    rw [if_pos rfl, Nat.testBit_or, bitV_nat]
    rfl

set_option maxRecDepth 100000 in
set_option maxHeartbeats 3200000 in
theorem ref_of_row (v : Value) (xs : List Int) (w : World) (h : RowI w v xs) (hl : (xs.length : Int) ≤ 4611686018427387904) :
    Calls Try.prog 22 #[v] w fun e w' => e = .returned (.int .i64 (ofL xs)) ∧ w' = w := by
  obtain ⟨A, c, rfl⟩ := h.form
  have H := Lib.hid h
  clear h
  have hF := ofL_lt xs
  generalize hFe : ofL xs = F at *
  have HFe := Lib.hid hFe
  generalize hn : xs.length = n at *
  have Hn := Lib.hid hn
  have HF := Lib.hid hF
  clear hn hFe hF
  go_enter Try.func22, Try.ntmps22
  go_wp2
  go_loopg [3, 4, 5] 7 (fun k t i u wr => ∃ j : Nat, j + k = 7 ∧ i = .int .i64 j ∧ t = .int .i64 (lowN F j : Nat) ∧ wr = w)
  case atStart => exact ⟨0, by omega, rfl, congrArg (Value.int .i64) (by rw [lowN, Nat.pow_zero, Nat.mod_one]; rfl), rfl⟩
  case round =>
    obtain ⟨i, hi, rfl, rfl, rfl⟩ := hrel
    have Hi := Lib.hid hi
    clear hi
    rcases Nat.lt_or_ge i 7 with hlt | hge
    · have i1 : (i : Int) < 7 := by omega
      have Hlt := Lib.hid hlt
      clear hlt
      obtain ⟨gq, rfl⟩ : ∃ gq : Nat, gq = gk := ⟨_, rfl⟩
      obtain ⟨wo, rfl⟩ : ∃ wo : World, wo = wr := ⟨_, rfl⟩
      go_wp2
      go_loopg [3, 5] n (fun k t u wr => ∃ j : Nat, j + k = n ∧ u = .int .i64 j ∧ t = .int .i64 (accN F i ((ofL (xs.take j)).testBit i) : Nat) ∧ wr = wo)
      case atStart => exact ⟨0, by omega, rfl, congrArg (Value.int .i64) (by rw [List.take_zero]; show _ = ((accN F i ((0 : Nat).testBit i) : Nat) : Int); rw [Nat.zero_testBit, (accN_facts HF.out Hlt.out false).2.2.2.2.2]; rfl), rfl⟩
      case round =>
        obtain ⟨j, hj, rfl, rfl, rfl⟩ := hrel
        have Hj := Lib.hid hj
        clear hj
        rcases Nat.lt_or_ge j n with hlt | hge
        · have i2 : (j : Int) < n := by omega
          obtain ⟨b, o, rfl, hcell⟩ := H.out.cellsA (by rw [Hn.out]; omega)
          have hcj := hcell j (by rw [Hn.out]; exact hlt)
          have hin : inI (rdi xs j) := rdi_in (by obtain ⟨_, _, _, _, h⟩ := H.out; exact h) j
          have Hs := Lib.hid (show ofL (xs.take (j + 1)) = orP (ofL (xs.take j)) (rdi xs j) by rw [take_snoc_i xs j (by rw [Hn.out]; exact hlt), ofL_snoc])
          have Hlt2 := Lib.hid hlt
          clear hlt hcell
          generalize rdi xs j = d at *
          have Hb := Lib.hid (orP_bit (ofL (xs.take j)) d i Hlt.out)
          generalize hz : (ofL (xs.take j)).testBit i = z at *
          have Hz := Lib.hid hz
          obtain ⟨f1, f2, f3, f4, f5, f6⟩ := accN_facts HF.out Hlt.out z
          have F1 := Lib.hid f1
          have F4 := Lib.hid f4
          have a1 : (accN F i z : Int) ≤ 255 := by omega
          clear hz f1 f2 f3 f4 f5 f6
          go_wp2_with fail
          refine (ref_perm d _).mono ?_
          rintro e w1 ⟨rfl, rfl⟩
          cases hp : permB d with
          | false =>
            have Hp := Lib.hid hp
            clear hp
            go_wp2
            go_roundg (gk - 1)
            case measure => have := Hj.out; have := Hlt2.out; omega
            case rel => exact ⟨j + 1, by have := Hj.out; have := Hlt2.out; omega, by go_num, by rw [Hs.out, Hb.out, Hp.out, Bool.false_and, Bool.or_false], rfl⟩
          | true =>
            have Hp := Lib.hid hp
            clear hp
            go_wp2_with fail
            refine (ref_bit d i _ (by omega) hin).mono ?_
            rintro e w1 ⟨rfl, rfl⟩
            cases hq : bitV d i with
            | false =>
              have Hq := Lib.hid hq
              clear hq
              go_wp2
              go_roundg (gk - 1)
              case measure => have := Hj.out; have := Hlt2.out; omega
              case rel => exact ⟨j + 1, by have := Hj.out; have := Hlt2.out; omega, by go_num, by rw [Hs.out, Hb.out, Hp.out, Hq.out, Bool.and_false, Bool.or_false], rfl⟩
            | true =>
              have Hq := Lib.hid hq
              clear hq
              go_wp2_with fail
              refine (ref_bit (accN F i z : Nat) i _ (by omega) ⟨by omega, by omega⟩).mono ?_
              rintro e w1 ⟨rfl, rfl⟩
              rw [bitV_nat, F1.out]
              cases z with
              | true =>
                go_wp2
                go_roundg (gk - 1)
                case measure => have := Hj.out; have := Hlt2.out; omega
                case rel => exact ⟨j + 1, by have := Hj.out; have := Hlt2.out; omega, by go_num, by rw [Hs.out, Hb.out, Hp.out, Hq.out]; rfl, rfl⟩
              | false =>
                go_wp2
                go_roundg (gk - 1)
                case measure => have := Hj.out; have := Hlt2.out; omega
                case rel => exact ⟨j + 1, by have := Hj.out; have := Hlt2.out; omega, by go_num, by rw [Hs.out, Hb.out, Hp.out, Hq.out]; exact congrArg (Value.int .i64) ((wrap_add (by omega) Hlt.out).trans (by rw [← F4.out]; rfl)), rfl⟩
        · have i2 : ¬ (j : Int) < n := by omega
          have e : Hid (accN F i ((ofL (xs.take j)).testBit i) = lowN F (i + 1)) := Lib.hid (by rw [List.take_of_length_le (by rw [Hn.out]; exact hge), HFe.out, (accN_facts HF.out Hlt.out false).2.2.1]; rfl)
          clear hge
          generalize accN F i ((ofL (xs.take j)).testBit i) = z at *
          go_wp2
          go_roundg (gq - 1)
          case measure => have := Hi.out; have := Hlt.out; omega
          case rel => exact ⟨i + 1, by have := Hi.out; have := Hlt.out; omega, by go_num, by rw [e.out], rfl⟩
    · have i1 : ¬ (i : Int) < 7 := by omega
      have h7 : i = 7 := by have := Hi.out; omega
      subst h7
      have e : Hid (lowN F 7 = F) := Lib.hid (Nat.mod_eq_of_lt HF.out)
      clear hge
      go_wp2
      go_ret
      exact ⟨by rw [e.out]; rfl, rfl⟩
end Go.Proofs.Ytjbfidgggfokcaa
