/- Painting, of both maps. -/
import Derived.Test.YtjimkkkiilcpoaaShB
set_option linter.unusedVariables false
set_option linter.unusedSimpArgs false
namespace Go.Proofs.Ytjimkkkiilcpoaa
open Go.RowKit

theorem grown_then {a b c : World} {row : Option Nat} (h : a.grownBy b row) (k : b.grownBy c row) : a.grownBy c row :=
  ⟨k.os.trans h.os, k.tape.trans h.tape, k.output.trans h.output, Nat.le_trans h.size k.size, fun i hi hne => (k.block i (Nat.lt_of_lt_of_le hi h.size) hne).trans (h.block i hi hne)⟩
theorem size_set (w : World) (p : Addr) (v : Value) : (w.setCell p v).heap.size = w.heap.size := by simp [World.setCell]
theorem grown_set (w : World) (b o : Nat) (v : Value) : w.grownBy (w.setCell ⟨b, o, none⟩ v) (some b) :=
  ⟨rfl, rfl, rfl, by rw [size_set]; exact Nat.le_refl _, fun i hi hne => Below.heap_setCell _ _ _ _ (fun e => hne (by rw [e]))⟩

/-- Painted from one granule up to another one. -/
def paintR (P : List Bool) (lo hi : Nat) (is : Bool) : List Bool := P.mapIdx fun j v => if lo ≤ j ∧ j < hi then is else v
theorem paintR_len (P : List Bool) (lo hi : Nat) (is : Bool) : (paintR P lo hi is).length = P.length := by rw [paintR, List.length_mapIdx]
theorem paintR_none (P : List Bool) (lo : Nat) (is : Bool) : paintR P lo lo is = P := by
  apply List.ext_getElem?
  intro j
  rw [paintR, List.getElem?_mapIdx]
  have : ∀ v : Bool, (if lo ≤ j ∧ j < lo then is else v) = v := fun v => if_neg (by omega)
  simp only [this]
  simp
theorem paintR_step (P : List Bool) (lo hi : Nat) (is : Bool) (h : lo ≤ hi) : paintR P lo (hi + 1) is = (paintR P lo hi is).set hi is := by
  apply List.ext_getElem?
  intro j
  rw [List.getElem?_set, paintR_len]
  unfold paintR
  rw [List.getElem?_mapIdx, List.getElem?_mapIdx]
  by_cases hj : hi = j
  · subst hj
    rw [if_pos rfl]
    rcases Nat.lt_or_ge hi P.length with h1 | h1
    · rw [List.getElem?_eq_getElem h1, if_pos h1]
      simp [h]
    · rw [List.getElem?_eq_none h1, if_neg (by omega)]
      rfl
  · rw [if_neg hj]
    congr 1
    funext v
    by_cases h2 : lo ≤ j ∧ j < hi
    · rw [if_pos h2, if_pos (by omega)]
    · rw [if_neg h2, if_neg (by omega)]

theorem bools_set (P : List Bool) (i : Nat) (is : Bool) : bools (P.set i is) = (bools P).setIfInBounds i (.bool is) := by
  apply Array.ext'
  simp [bools, List.map_set]
theorem u64s_set (xs : List Nat) (i : Nat) (x : Nat) : u64s (xs.set i x) = (u64s xs).setIfInBounds i (.int .u64 x) := by
  apply Array.ext'
  simp [u64s, List.map_set]

theorem getD_set (P : List Bool) (i j : Nat) (v : Bool) (hi : i < P.length) : (P.set i v).getD j false = if i = j then v else P.getD j false := by
  rw [List.getD_eq_getElem?_getD, List.getElem?_set, List.getD_eq_getElem?_getD]
  by_cases h : i = j
  · rw [if_pos h, if_pos h, if_pos hi]; rfl
  · rw [if_neg h, if_neg h]

theorem wordsAre_set {xs : List Nat} {P : List Bool} (h : wordsAre xs P) (i x : Nat) (v : Bool) (hi : i < P.length) (hx : x < 18446744073709551616)
    (hb : ∀ j, j < 64 → x.testBit j = if i % 64 = j then v else P.getD (64 * (i / 64) + j) false) : wordsAre (xs.set (i / 64) x) (P.set i v) := by
  obtain ⟨hl, hw⟩ := h
  refine ⟨by rw [List.length_set, List.length_set]; exact hl, fun k y hy => ?_⟩
  rw [List.getElem?_set] at hy
  by_cases hk : i / 64 = k
  · rw [if_pos hk] at hy
    split at hy
    · cases hy
      refine ⟨hx, fun j hj => ?_⟩
      rw [hb j hj, getD_set _ _ _ _ hi, ← hk]
      by_cases h2 : i % 64 = j
      · rw [if_pos h2, if_pos (by omega)]
      · rw [if_neg h2, if_neg (by omega)]
    · cases hy
  · rw [if_neg hk] at hy
    obtain ⟨h1, h2⟩ := hw k y hy
    refine ⟨h1, fun j hj => ?_⟩
    rw [h2 j hj, getD_set _ _ _ _ hi, if_neg (by omega)]

theorem bits_u64_or (a b : Nat) (ha : a < 18446744073709551616) (hb : b < 18446744073709551616) : bits .or .u64 (a : Int) (b : Int) = ((a ||| b : Nat) : Int) := by
  have e : bits .or .u64 (a : Int) (b : Int) = IntKind.u64.wrap ((BitVec.ofInt 64 (a : Int)) ||| (BitVec.ofInt 64 (b : Int)) : BitVec 64).toNat := rfl
  have h : a ||| b < 2 ^ 64 := Nat.or_lt_two_pow (by omega) (by omega)
  rw [e, BitVec.toNat_or, BitVec.ofInt_natCast, BitVec.ofInt_natCast, BitVec.toNat_ofNat, BitVec.toNat_ofNat, Nat.mod_eq_of_lt (by omega), Nat.mod_eq_of_lt (by omega), IntKind.wrap_u64]
  omega
theorem bits_u64_xor (a b : Nat) (ha : a < 18446744073709551616) (hb : b < 18446744073709551616) : bits .xor .u64 (a : Int) (b : Int) = ((a ^^^ b : Nat) : Int) := by
  have e : bits .xor .u64 (a : Int) (b : Int) = IntKind.u64.wrap ((BitVec.ofInt 64 (a : Int)) ^^^ (BitVec.ofInt 64 (b : Int)) : BitVec 64).toNat := rfl
  have h : a ^^^ b < 2 ^ 64 := Nat.xor_lt_two_pow (by omega) (by omega)
  rw [e, BitVec.toNat_xor, BitVec.ofInt_natCast, BitVec.ofInt_natCast, BitVec.toNat_ofNat, BitVec.toNat_ofNat, Nat.mod_eq_of_lt (by omega), Nat.mod_eq_of_lt (by omega), IntKind.wrap_u64]
  omega

def paintOk (g : Nat) (f t : Int) : Prop := f % 16 = 0 ∧ t % 16 = 0 ∧ 0 ≤ f ∧ f ≤ t ∧ t ≤ 16 * g
instance (g : Nat) (f t : Int) : Decidable (paintOk g f t) := by unfold paintOk; infer_instance

set_option maxRecDepth 100000 in
set_option maxHeartbeats 1600000 in
theorem ref_paint_no (b bP : Nat) (P : List Bool) (f t : Int) (is : Bool) (w : World) (hf : inI f) (ht : inI t) (h : RfM w b bP P) (hn : ¬ paintOk P.length f t) :
    Calls Try.prog 35 #[.pointer (some ⟨b, 0, none⟩), .int .i64 f, .int .i64 t, .bool is] w fun e w' => e = .returned (.bool false) ∧ w' = w := by
  obtain ⟨f0, f1⟩ := hf
  obtain ⟨t0, t1⟩ := ht
  obtain ⟨hg, hB, hW⟩ := h
  have L := hB.cell
  have Hn := Lib.hid hn
  clear hB hW hn
  have Hg := Lib.hid hg
  have hg' : (P.length : Int) ≤ 1048576 := by omega
  generalize P.length = g at *
  clear hg
  go_enter Try.func35, Try.ntmps35
  go_wp2
  all_goals first
    | (go_ret; exact ⟨rfl, rfl⟩)
    | (exfalso; apply Hn.out; exact ⟨by rw [← Int.tmod_eq_emod_of_nonneg (by omega)]; assumption, by rw [← Int.tmod_eq_emod_of_nonneg (by omega)]; assumption, by omega, by omega, by omega⟩)

theorem RfM.set {w : World} {b bP : Nat} {P : List Bool} (h : RfM w b bP P) (hne : b ≠ bP) (i : Nat) (is : Bool) : RfM (w.setCell ⟨bP, i, none⟩ (.bool is)) b bP (P.set i is) := by
  obtain ⟨h1, h2, h3⟩ := h
  refine ⟨by rw [List.length_set]; exact h1, by rw [List.length_set]; exact h2.set_other hne _ _, ?_⟩
  rw [bools_set]
  exact h3.set _ _

set_option maxRecDepth 100000 in
set_option maxHeartbeats 1600000 in
theorem ref_paint_yes (b bP : Nat) (P : List Bool) (f t : Int) (is : Bool) (w : World) (hf : inI f) (ht : inI t) (h : RfM w b bP P) (hne : b ≠ bP) (hy : paintOk P.length f t) :
    Calls Try.prog 35 #[.pointer (some ⟨b, 0, none⟩), .int .i64 f, .int .i64 t, .bool is] w fun e w' => e = .returned (.bool true) ∧ RfM w' b bP (paintR P (f / 16).toNat (t / 16).toNat is) ∧ w.grownBy w' (some bP) := by
  obtain ⟨f0, f1⟩ := hf
  obtain ⟨t0, t1⟩ := ht
  obtain ⟨y1, y2, y3, y4, y5⟩ := hy
  have H := Lib.hid h
  have hl := h.1
  have L := h.2.1.cell
  have y6 : f.tmod 16 = 0 := by rw [Int.tmod_eq_emod_of_nonneg y3]; exact y1
  have y7 : t.tmod 16 = 0 := by rw [Int.tmod_eq_emod_of_nonneg (by omega)]; exact y2
  have y8 : ¬ f < 0 := by omega
  have y9 : ¬ t < f := by omega
  have y10 : ¬ 16 * (P.length : Int) < t := by omega
  obtain ⟨lo, elo⟩ := Int.eq_ofNat_of_zero_le (show 0 ≤ f / 16 by omega)
  obtain ⟨hi, ehi⟩ := Int.eq_ofNat_of_zero_le (show 0 ≤ t / 16 by omega)
  have hlh : Hid (lo ≤ hi) := Lib.hid (by omega)
  have hhg : Hid (hi ≤ P.length) := Lib.hid (by omega)
  rw [elo, ehi, Int.toNat_natCast, Int.toNat_natCast]
  have gl : (P.length : Int) ≤ 1048576 := by omega
  generalize hg : P.length = g at *
  have Hg := Lib.hid hg
  clear hl h y1 y2 hg
  go_enter Try.func35, Try.ntmps35
  go_wp2
  go_loopg [9] (hi - lo) (fun k i wr => ∃ j : Nat, lo ≤ j ∧ j + k = hi ∧ i = .int .i64 j ∧ RfM wr b bP (paintR P lo j is) ∧ w.grownBy wr (some bP))
  case atStart => exact ⟨lo, Nat.le_refl _, by have := hlh.out; omega, rfl, by rw [paintR_none]; exact H.out, World.grownBy.refl _ _⟩
  case round =>
    clear L
    obtain ⟨j, hj, hjk, rfl, hR, hG⟩ := hrel
    have Hj := Lib.hid hj
    have Hjk := Lib.hid hjk
    have HG := Lib.hid hG
    have L := hR.2.1.cell
    rw [paintR_len, Hg.out] at L
    have HR := Lib.hid hR
    clear hj hjk hR hG
    rcases Nat.lt_or_ge j hi with hlt | hge
    · have i1 : (j : Int) < hi := by omega
      have i2 : (j : Int) < g := by have := hhg.out; omega
      have F := HR.out.2.2.frozen
      have c := HR.out.2.2.cell j
      rw [bools_at _ _ (by rw [paintR_len, Hg.out]; omega)] at c
      have hlt' := Lib.hid hlt
      clear hlt
      go_wp2
      go_roundg (gk - 1)
      case measure => have := Hjk.out; have := hlt'.out; omega
      case rel =>
        refine ⟨j + 1, by have := Hj.out; omega, by have := Hjk.out; have := hlt'.out; omega, by go_num, ?_, grown_then HG.out (grown_set _ _ _ _)⟩
        rw [paintR_step _ _ _ _ Hj.out]
        exact HR.out.set hne j is
    · have i1 : ¬ (j : Int) < hi := by omega
      have e : j = hi := by have := Hjk.out; omega
      subst e
      clear hge
      go_wp2
      go_ret
      exact ⟨rfl, HR.out, HG.out⟩
end Go.Proofs.Ytjimkkkiilcpoaa
