/- Painting, of the program's map. -/
import Derived.Test.YtjimkkkiilcpoaaShC
set_option linter.unusedVariables false
set_option linter.unusedSimpArgs false
namespace Go.Proofs.Ytjimkkkiilcpoaa
open Go.RowKit

set_option maxRecDepth 100000 in
set_option maxHeartbeats 1600000 in
theorem paint_no (b bW : Nat) (P : List Bool) (f t : Int) (is : Bool) (w : World) (hf : inI f) (ht : inI t) (h : ShM w b bW P) (hn : ¬ paintOk P.length f t) :
    Calls Try.prog 34 #[.pointer (some ⟨b, 0, none⟩), .int .i64 f, .int .i64 t, .bool is] w fun e w' => e = .returned (.bool false) ∧ w' = w := by
  obtain ⟨f0, f1⟩ := hf
  obtain ⟨t0, t1⟩ := ht
  obtain ⟨hg, hB, hW⟩ := h
  have L := hB.cell
  have Hn := Lib.hid hn
  clear hB hW hn
  have Hg := Lib.hid hg
  have hg' : (P.length : Int) ≤ 1048576 := by omega
  generalize nWords P.length = m at *
  generalize P.length = g at *
  clear hg
  go_enter Try.func34, Try.ntmps34
  go_wp2
  all_goals first
    | (go_ret; exact ⟨rfl, rfl⟩)
    | (exfalso; apply Hn.out; unfold paintOk; exact ⟨by rw [← Int.tmod_eq_emod_of_nonneg (by omega)]; assumption, by rw [← Int.tmod_eq_emod_of_nonneg (by omega)]; assumption, by omega, by omega, by omega⟩)

/-- The words when one bit is set, and when it is cleared again. -/
theorem wordsAre_or {xs : List Nat} {P : List Bool} (h : wordsAre xs P) (i x : Nat) (hi : i < P.length) (hx : xs[i / 64]? = some x) :
    x ||| 2 ^ (i % 64) < 18446744073709551616 ∧ wordsAre (xs.set (i / 64) (x ||| 2 ^ (i % 64))) (P.set i true) := by
  obtain ⟨h1, h2⟩ := h.2 _ _ hx
  have hp : 2 ^ (i % 64) < 2 ^ 64 := Nat.pow_lt_pow_right (by decide) (by omega)
  have hlt : x ||| 2 ^ (i % 64) < 2 ^ 64 := Nat.or_lt_two_pow (by omega) hp
  refine ⟨by omega, wordsAre_set h i _ true hi (by omega) fun j hj => ?_⟩
  rw [Nat.testBit_or, h2 j hj, Nat.testBit_two_pow]
  by_cases e : i % 64 = j
  · rw [if_pos e, decide_eq_true e, Bool.or_true]
  · rw [if_neg e, decide_eq_false e, Bool.or_false]
theorem wordsAre_xor {xs : List Nat} {P : List Bool} (h : wordsAre xs P) (i x : Nat) (hi : i < P.length) (hx : xs[i / 64]? = some x) (hs : P.getD i false = true) :
    x ^^^ 2 ^ (i % 64) < 18446744073709551616 ∧ wordsAre (xs.set (i / 64) (x ^^^ 2 ^ (i % 64))) (P.set i false) := by
  obtain ⟨h1, h2⟩ := h.2 _ _ hx
  have hp : 2 ^ (i % 64) < 2 ^ 64 := Nat.pow_lt_pow_right (by decide) (by omega)
  have hlt : x ^^^ 2 ^ (i % 64) < 2 ^ 64 := Nat.xor_lt_two_pow (by omega) hp
  refine ⟨by omega, wordsAre_set h i _ false hi (by omega) fun j hj => ?_⟩
  rw [Nat.testBit_xor, h2 j hj, Nat.testBit_two_pow]
  by_cases e : i % 64 = j
  · rw [if_pos e, decide_eq_true e, show 64 * (i / 64) + j = i by omega, hs]; rfl
  · rw [if_neg e, decide_eq_false e, Bool.xor_false]

theorem wrap_bit (j : Nat) : IntKind.u64.wrap (2 ^ (j % 64)) = ((2 ^ (j % 64) : Nat) : Int) := by
  have hp : 2 ^ (j % 64) < 2 ^ 64 := Nat.pow_lt_pow_right (by decide) (by omega)
  have e : (2 : Int) ^ (j % 64) = ((2 ^ (j % 64) : Nat) : Int) := by push_cast; rfl
  rw [e, IntKind.wrap_u64]
  generalize 2 ^ (j % 64) = p at *
  omega
theorem bit_lt (j : Nat) : 2 ^ (j % 64) < 18446744073709551616 := by
  have hp : 2 ^ (j % 64) < 2 ^ 64 := Nat.pow_lt_pow_right (by decide) (by omega)
  omega
theorem ShM.set_or {w : World} {b bW : Nat} {P : List Bool} (h : ShM w b bW P) (hne : b ≠ bW) {i x : Nat} {xs : List Nat} (hi : i < P.length) (hw : wordsAre xs P) (hB : Blk w bW (u64s xs) 32) (hx : xs[i / 64]? = some x) :
    ShM (w.setCell ⟨bW, i / 64, none⟩ (.int .u64 (bits .or .u64 x (IntKind.u64.wrap (2 ^ (i % 64)))))) b bW (P.set i true) := by
  obtain ⟨k1, k2⟩ := wordsAre_or hw i x hi hx
  rw [wrap_bit, bits_u64_or _ _ (hw.2 _ _ hx).1 (bit_lt i)]
  refine ⟨by rw [List.length_set]; exact h.1, by rw [List.length_set]; exact h.2.1.set_other hne _ _, _, k2, ?_⟩
  rw [u64s_set]
  exact hB.set _ _
theorem ShM.set_xor {w : World} {b bW : Nat} {P : List Bool} (h : ShM w b bW P) (hne : b ≠ bW) {i x : Nat} {xs : List Nat} (hi : i < P.length) (hw : wordsAre xs P) (hB : Blk w bW (u64s xs) 32) (hx : xs[i / 64]? = some x) :
    ShM ((w.setCell ⟨bW, i / 64, none⟩ (.int .u64 (bits .or .u64 x (IntKind.u64.wrap (2 ^ (i % 64)))))).setCell ⟨bW, i / 64, none⟩ (.int .u64 (bits .xor .u64 (bits .or .u64 x (IntKind.u64.wrap (2 ^ (i % 64)))) (IntKind.u64.wrap (2 ^ (i % 64)))))) b bW (P.set i false) := by
  have h1 := h.set_or hne hi hw hB hx
  obtain ⟨k1, k2⟩ := wordsAre_or hw i x hi hx
  rw [wrap_bit, bits_u64_or _ _ (hw.2 _ _ hx).1 (bit_lt i)] at h1 ⊢
  rw [bits_u64_xor _ _ k1 (bit_lt i)]
  have hB1 : Blk (w.setCell ⟨bW, i / 64, none⟩ (.int .u64 ((x ||| 2 ^ (i % 64) : Nat) : Int))) bW (u64s (xs.set (i / 64) (x ||| 2 ^ (i % 64)))) 32 := by
    rw [u64s_set]; exact hB.set _ _
  have hlt : i / 64 < xs.length := (List.getElem?_eq_some_iff.1 hx).1
  have hi1 : i < (P.set i true).length := by rw [List.length_set]; exact hi
  obtain ⟨m1, m2⟩ := wordsAre_xor k2 i (x ||| 2 ^ (i % 64)) hi1 (by rw [List.getElem?_set, if_pos rfl, if_pos hlt]) (by rw [getD_set _ _ _ _ hi, if_pos rfl])
  rw [List.set_set] at m2
  have e : (P.set i true).set i false = P.set i false := List.set_set ..
  rw [e] at m2
  refine ⟨by rw [List.length_set]; exact h.1, ?_, _, m2, ?_⟩
  · have := h1.2.1.set_other hne (i / 64) (.int .u64 (((x ||| 2 ^ (i % 64)) ^^^ 2 ^ (i % 64) : Nat) : Int))
    rw [List.length_set] at this ⊢
    exact this
  · have := hB1.set (i / 64) (.int .u64 (((x ||| 2 ^ (i % 64)) ^^^ 2 ^ (i % 64) : Nat) : Int))
    rw [← u64s_set, List.set_set] at this
    exact this

set_option maxRecDepth 100000 in
set_option maxHeartbeats 1600000 in
theorem paint_yes (b bW : Nat) (P : List Bool) (f t : Int) (is : Bool) (w : World) (hf : inI f) (ht : inI t) (h : ShM w b bW P) (hne : b ≠ bW) (hy : paintOk P.length f t) :
    Calls Try.prog 34 #[.pointer (some ⟨b, 0, none⟩), .int .i64 f, .int .i64 t, .bool is] w fun e w' => e = .returned (.bool true) ∧ ShM w' b bW (paintR P (f / 16).toNat (t / 16).toNat is) ∧ w.grownBy w' (some bW) := by
  obtain ⟨f0, f1⟩ := hf
  obtain ⟨t0, t1⟩ := ht
  obtain ⟨y1, y2, y3, y4, y5⟩ := hy
  have H := Lib.hid h
  have hl := h.1
  have L := h.2.1.cell
  have y6 : f.tmod 16 = 0 := by rw [Int.tmod_eq_emod_of_nonneg y3]; exact y1
  have y7 : t.tmod 16 = 0 := by rw [Int.tmod_eq_emod_of_nonneg (by omega)]; exact y2
  have y8 : ¬ f < 0 := by omega
  have y9 : ¬ t < f := by omega
  have y10 : ¬ 16 * (P.length : Int) < t := by omega
  have y11 : ¬ (P.length : Int) * 16 < t := by omega
  obtain ⟨lo, elo⟩ := Int.eq_ofNat_of_zero_le (show 0 ≤ f / 16 by omega)
  obtain ⟨hi, ehi⟩ := Int.eq_ofNat_of_zero_le (show 0 ≤ t / 16 by omega)
  have hlh : Hid (lo ≤ hi) := Lib.hid (by omega)
  have hhg : Hid (hi ≤ P.length) := Lib.hid (by omega)
  rw [elo, ehi, Int.toNat_natCast, Int.toNat_natCast]
  have gl : (P.length : Int) ≤ 1048576 := by omega
  generalize hg : P.length = g at *
  have Hg := Lib.hid hg
  clear hl h y1 y2 hg
  go_enter Try.func34, Try.ntmps34
  go_wp2
  go_loopg [9, 10] (hi - lo) (fun k i v wr => ∃ j : Nat, lo ≤ j ∧ j + k = hi ∧ i = .int .i64 j ∧ ShM wr b bW (paintR P lo j is) ∧ w.grownBy wr (some bW))
  case atStart => exact ⟨lo, Nat.le_refl _, by have := hlh.out; omega, rfl, by rw [paintR_none]; exact H.out, World.grownBy.refl _ _⟩
  case round =>
    clear L
    obtain ⟨j, hj, hjk, rfl, hR, hG⟩ := hrel
    have Hj := Lib.hid hj
    have Hjk := Lib.hid hjk
    have HG := Lib.hid hG
    have L := hR.2.1.cell
    rw [paintR_len, Hg.out] at L
    have HR := Lib.hid hR
    clear hj hjk hR hG
    rcases Nat.lt_or_ge j hi with hlt | hge
    · have i1 : (j : Int) < hi := by omega
      have i2 : (j : Int) < g := by have := hhg.out; omega
      obtain ⟨xs, hw, hB⟩ := HR.out.2.2
      have F := hB.frozen
      have hk : j / 64 < xs.length := by rw [hw.1, paintR_len, Hg.out, nWords]; omega
      have i3 : j / 64 < nWords g := by unfold nWords; omega
      have c := hB.cell (j / 64)
      rw [u64s, List.getElem?_toArray, List.getElem?_map, List.getElem?_eq_getElem hk, Option.map_some] at c
      have hx := List.getElem?_eq_getElem hk
      generalize xs[j / 64] = x at *
      have HW := Lib.hid hw
      have HB := Lib.hid hB
      have HX := Lib.hid hx
      have hlt' := Lib.hid hlt
      clear hlt hk hw hB hx
      generalize nWords g = m at L i3
      have hjg : Hid (j < (paintR P lo j is).length) := Lib.hid (by rw [paintR_len, Hg.out]; omega)
      cases is with
      | true =>
        go_wp2
        go_roundg (gk - 1)
        case measure => have := Hjk.out; have := hlt'.out; omega
        case rel =>
          refine ⟨j + 1, by have := Hj.out; omega, by have := Hjk.out; have := hlt'.out; omega, by go_num, ?_, grown_then HG.out (grown_set _ _ _ _)⟩
          rw [paintR_step _ _ _ _ Hj.out]
          exact HR.out.set_or hne hjg.out HW.out HB.out HX.out
      | false =>
        go_wp2
        go_roundg (gk - 1)
        case measure => have := Hjk.out; have := hlt'.out; omega
        case rel =>
          refine ⟨j + 1, by have := Hj.out; omega, by have := Hjk.out; have := hlt'.out; omega, by go_num, ?_, grown_then (grown_then HG.out (grown_set _ _ _ _)) (grown_set _ _ _ _)⟩
          rw [paintR_step _ _ _ _ Hj.out]
          exact HR.out.set_xor hne hjg.out HW.out HB.out HX.out
    · have i1 : ¬ (j : Int) < hi := by omega
      have e : j = hi := by have := Hjk.out; omega
      subst e
      clear hge
      go_wp2
      go_ret
      exact ⟨rfl, HR.out, HG.out⟩
end Go.Proofs.Ytjimkkkiilcpoaa
