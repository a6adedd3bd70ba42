/- How permissions are written. -/
import Derived.Test.YtjbfidgggfokcaaPermE
set_option linter.unusedVariables false
set_option linter.unusedSimpArgs false
namespace Go.Proofs.Ytjbfidgggfokcaa
open Go.RowKit

def letters : List UInt8 := [114, 119, 120, 108, 115, 101, 117]
def letterB : ByteArray := ⟨#[114, 119, 120, 108, 115, 101, 117]⟩
def textTo (n : Nat) : Nat → List UInt8
  | 0 => []
  | j + 1 => if n.testBit j = true then textTo n j ++ [letters.getD j 0] else textTo n j
def textL (p : Int) : List UInt8 := if permB p = true then (if p = 0 then [45] else textTo p.toNat 7) else []
def strB (l : List UInt8) : ByteArray := ⟨l.toArray⟩
theorem textTo_len (n j : Nat) : (textTo n j).length ≤ j := by
  induction j with
  | zero => exact Nat.le_refl _
  | succ j ih =>
    rw [textTo]
    split
    · rw [List.length_append, List.length_singleton]; omega
    · omega
theorem letter_at (j : Nat) (hj : j < 7) : ∃ h : j < letterB.size, (letterB[j]'h) = letters.getD j 0 ∧ (letterB[j]'h).toNat < 128 := by
  have : j = 0 ∨ j = 1 ∨ j = 2 ∨ j = 3 ∨ j = 4 ∨ j = 5 ∨ j = 6 := by omega
  rcases this with rfl | rfl | rfl | rfl | rfl | rfl | rfl <;> exact ⟨by decide, by decide, by decide⟩
theorem bitAnd (n j : Nat) (hn : n < 128) : (bits .and .i64 ((n : Int) / 2 ^ j) 1 == 1) = n.testBit j := by
  have e : ((n : Int) / 2 ^ j) = ((n / 2 ^ j : Nat) : Int) := by push_cast; rfl
  have hle : n / 2 ^ j ≤ n := Nat.div_le_self _ _
  have h1 : bits .and .i64 ((n / 2 ^ j : Nat) : Int) ((1 : Nat) : Int) = _ := i64_and_nat (n / 2 ^ j) 1 (by omega) (by omega)
  have h1 : bits .and .i64 ((n / 2 ^ j : Nat) : Int) 1 = ((n / 2 ^ j &&& 1 : Nat) : Int) := h1
  rw [e, h1, Nat.testBit_eq_decide_div_mod_eq, Bool.eq_iff_iff, beq_iff_eq, decide_eq_true_eq, Nat.and_one_is_mod]
  omega

set_option maxRecDepth 100000 in
set_option maxHeartbeats 1600000 in
theorem text_any (p : Int) (w : World) (hp : inI p) : Calls Try.prog 17 #[.int .i64 p] w fun e w' => e = .returned (.string (strB (textL p))) ∧ Below w.heap.size w w' := by
  cases h1 : permB p with
  | false =>
    have c1 := fun w => perm_right p w hp
    rw [h1] at c1
    have E : strB (textL p) = ⟨#[]⟩ := by rw [textL, h1]; rfl
    rw [E]
    clear E h1
    go_enter Try.func17, Try.ntmps17
    go_wp2_with fail
    refine (c1 _).mono ?_
    rintro e w1 ⟨rfl, rfl⟩
    go_wp2
    go_ret
    exact ⟨rfl, Below.refl _ _⟩
  | true =>
    have c1 := fun w => perm_right p w hp
    rw [h1] at c1
    obtain ⟨n, rfl, hn⟩ := permB_nat h1
    by_cases h0 : n = 0
    · subst h0
      have E : strB (textL ((0 : Nat) : Int)) = ⟨#[45]⟩ := by rw [textL, h1]; rfl
      rw [E]
      clear E h1
      go_enter Try.func17, Try.ntmps17
      go_wp2_with fail
      refine (c1 _).mono ?_
      rintro e w1 ⟨rfl, rfl⟩
      go_wp2
      go_ret
      exact ⟨rfl, Below.refl _ _⟩
    · have E : strB (textL (n : Int)) = strB (textTo n 7) := by rw [textL, h1, if_pos rfl, if_neg (by omega), Int.toNat_natCast]
      rw [E]
      have z0 : ((n : Int) == 0) = false := by rw [beq_eq_false_iff_ne]; omega
      have C1 := Lib.hid c1
      have Hn := Lib.hid hn
      have n1 : (n : Int) ≤ 127 := by omega
      clear E h1 h0 c1 hn
      go_enter Try.func17, Try.ntmps17
      go_wp2_with fail
      refine (C1.out _).mono ?_
      rintro e w1 ⟨rfl, rfl⟩
      go_wp2
      go_loopg [4, 5] 7 (fun k v4 v5 wr => ∃ j : Nat, j + k = 7 ∧ wr.heap[w1.heap.size + 1]? = some (.stringIter letterB j) ∧ BldR wr w1.heap.size w1.heap.size (Lib.byteCells (textTo n j)) ∧ Below w1.heap.size w1 wr)
      case atStart =>
        refine ⟨0, by omega, ?_, ⟨_, _, .inl rfl, Nat.le_refl _, (Blk.new w1 _ _).alloc _, (World.ownsRow_nil _ _ _ _)⟩, ((Below.refl _ _).alloc (Nat.le_refl _) _).alloc (by simp) _⟩
        have := World.iter_heap (w1.alloc (.cells #[.pointer none, .slice none 0 0] 41)) letterB 0
        rw [World.size_alloc] at this
        exact this
      case round =>
        obtain ⟨j, hj, hit, hI, hb⟩ := hrel
        have Hj := Lib.hid hj
        have Hit := Lib.hid hit
        have HI := Lib.hid hI
        have HB := Lib.hid hb
        clear hj hit hI hb
        rcases Nat.lt_or_ge j 7 with hlt | hge
        · have i1 : (j : Int) < 7 := by omega
          have Hlt := Lib.hid hlt
          obtain ⟨hl0, hl1, hl2⟩ := letter_at j hlt
          have hnx := fun ty => Lib.run_next_ascii_at (P := Try.prog) wr (w1.heap.size + 1) letterB j ty Hit.out hl0 hl2
          rw [hl1] at hnx hl2
          have hit2 := Lib.iterAt_heap wr (w1.heap.size + 1) letterB j (j + 1) Hit.out
          have HI2 := HI.out.iter Hit.out (j + 1)
          have hb2 : Below w1.heap.size w1 (wr.iterAt (w1.heap.size + 1) letterB (j + 1)) := Lib.below_iterAt HB.out (Nat.le_succ _) letterB (j + 1)
          have Hit2 := Lib.hid hit2
          have HI2 := Lib.hid HI2
          have HB2 := Lib.hid hb2
          generalize wr.iterAt (w1.heap.size + 1) letterB (j + 1) = wi at *
          have hst : textTo n (j + 1) = if n.testBit j = true then textTo n j ++ [letters.getD j 0] else textTo n j := rfl
          have hba := bitAnd n j Hn.out
          have hlen := Lib.hid (textTo_len n j)
          generalize hc : letters.getD j 0 = c at *
          have l0 : (0 : Int) ≤ c.toNat := Int.natCast_nonneg _
          have l1 : (c.toNat : Int) ≤ 127 := by omega
          clear hit2 hb2 hlt hl0 hl1 hl2 hc
          cases hbit : n.testBit j with
          | false =>
            rw [hbit] at hba hst
            rw [if_neg Bool.false_ne_true] at hst
            have Hst := Lib.hid hst
            clear hst hbit
            go_wp2
            go_roundg (gk - 1)
            case measure => have := Hj.out; have := Hlt.out; omega
            case rel => exact ⟨j + 1, by have := Hj.out; have := Hlt.out; omega, Hit2.out, by rw [Hst.out]; exact HI2.out, HB2.out⟩
          | true =>
            rw [hbit] at hba hst
            rw [if_pos rfl] at hst
            have Hst := Lib.hid hst
            clear hst hbit
            go_wp2_with fail
            refine (write_rune w1.heap.size w1.heap.size _ (c.toNat : Int) wi l0 l1 HI2.out (by rw [Lib.byteCells_length]; have := hlen.out; have := Hlt.out; omega)).mono ?_
            rintro e w2 ⟨rfl, hI3, b3, k3⟩
            have Hit3 := Lib.hid (k3.iter Hit2.out (by omega))
            have HI3 := Lib.hid hI3
            have HB3 := Lib.hid (HB2.out.trans b3)
            clear hI3 b3 k3
            go_wp2
            go_roundg (gk - 1)
            case measure => have := Hj.out; have := Hlt.out; omega
            case rel => exact ⟨j + 1, by have := Hj.out; have := Hlt.out; omega, Hit3.out, by rw [Hst.out, Lib.byteCells_append]; exact HI3.out, HB3.out⟩
        · have e7 : j = 7 := by have := Hj.out; omega
          subst e7
          have hnx := fun ty => Lib.run_next_end_at (P := Try.prog) wr (w1.heap.size + 1) letterB 7 ty Hit.out (by decide)
          clear hge
          go_wp2_with fail
          refine (Try.Builder_String_any w1.heap.size w1.heap.size (textTo n 7) wr HI.out.is HB.out.size).mono ?_
          rintro e w2 ⟨rfl, b2⟩
          have B2 := HB.out.trans b2
          clear hnx b2
          go_wp2
          go_ret
          exact ⟨rfl, B2⟩
end Go.Proofs.Ytjbfidgggfokcaa
