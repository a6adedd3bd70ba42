/- Painted granules: the map of the program and the document's, as lists of answers; each function's contract. -/
import Derived.Test.YtjimkkkiilcpoaaCap
import Derived.Test.YtjimkkkiilcpoaaLib
import Derived.Deep.LoopGhost
import Derived.Deep.DeepCutAuto
import Derived.Deep.QuietTactic
import Derived.BigQuiet
import Derived.Outline
import Derived.Lib.VarintBits
set_option linter.unusedVariables false
set_option linter.unusedSimpArgs false
namespace Go.Proofs.Ytjimkkkiilcpoaa
open Go.RowKit

theorem u64_bit (x r : Nat) (hx : x < 18446744073709551616) : (bits .and .u64 ((x : Int) / 2 ^ r) 1 == 1) = x.testBit r := by
  have e : ((x : Int) / 2 ^ r) = ((x / 2 ^ r : Nat) : Int) := by push_cast; rfl
  have hle : x / 2 ^ r ≤ x := Nat.div_le_self _ _
  have hm : bits .and .u64 ((x / 2 ^ r : Nat) : Int) (2 ^ 1 - 1) = ((x / 2 ^ r : Nat) : Int) % 2 ^ 1 :=
    bits_mask .u64 64 (by decide) wraps_u64 1 (by decide) _ (Int.natCast_nonneg _) (by omega)
  have hm' : bits .and .u64 ((x / 2 ^ r : Nat) : Int) 1 = ((x / 2 ^ r : Nat) : Int) % 2 := hm
  rw [e, hm', Nat.testBit_eq_decide_div_mod_eq, Bool.eq_iff_iff, beq_iff_eq, decide_eq_true_eq]
  omega

/-- So many words as granules need. -/
def nWords (g : Nat) : Nat := (g + 63) / 64
/-- Words whose bits are these. -/
def wordsAre (xs : List Nat) (P : List Bool) : Prop := xs.length = nWords P.length ∧ ∀ k x, xs[k]? = some x → x < 18446744073709551616 ∧ ∀ j, j < 64 → x.testBit j = P.getD (64 * k + j) false
def u64s (xs : List Nat) : Array Value := (xs.map fun x : Nat => Value.int .u64 (x : Int)).toArray
/-- A map: its block, its words' block. -/
def ShM (w : World) (b bW : Nat) (P : List Bool) : Prop :=
  P.length ≤ 1048576 ∧ Blk w b #[.slice (some ⟨bW, 0, none⟩) (nWords P.length) (nWords P.length), .int .i64 P.length] 101 ∧ ∃ xs, wordsAre xs P ∧ Blk w bW (u64s xs) 32

set_option maxRecDepth 100000 in
set_option maxHeartbeats 800000 in
theorem painted_any (b bW : Nat) (P : List Bool) (i : Nat) (w : World) (hi : (i : Int) ≤ 9223372036854775807) (h : ShM w b bW P) :
    Calls Try.prog 98 #[.pointer (some ⟨b, 0, none⟩), .int .i64 i] w fun e w' => e = .returned (.bool (P.getD i false)) ∧ w' = w := by
  obtain ⟨hg, hB, xs, ⟨hl, hx⟩, hW⟩ := h
  have L := hB.cell
  have LW := hW.cell
  clear hB hW
  rcases Nat.lt_or_ge i P.length with hlt | hge
  · have h1 : (i : Int) < (P.length : Int) := by omega
    have hk : i / 64 < xs.length := by rw [hl, nWords]; omega
    obtain ⟨x1, x2⟩ := hx (i / 64) xs[i / 64] (List.getElem?_eq_getElem hk)
    have x3 := x2 (i % 64) (by omega)
    have c := LW (i / 64)
    rw [u64s, List.getElem?_toArray, List.getElem?_map, List.getElem?_eq_getElem hk, Option.map_some] at c
    rw [show 64 * (i / 64) + i % 64 = i by omega] at x3
    generalize xs[i / 64] = x at *
    have hn : i / 64 < nWords P.length := by rw [← hl]; exact hk
    generalize nWords P.length = n at *
    generalize P.length = g at *
    clear LW hx hl hk x2
    go_enter Try.func98, Try.ntmps98
    go_wp2
    go_ret
    rw [u64_bit _ _ x1, x3]
    exact ⟨rfl, rfl⟩
  · have h1 : ¬ (i : Int) < (P.length : Int) := by omega
    have e : P.getD i false = false := by rw [List.getD_eq_getElem?_getD, List.getElem?_eq_none hge]; rfl
    rw [e]
    clear LW hx hl e hge
    generalize nWords P.length = n at *
    generalize P.length = g at *
    go_enter Try.func98, Try.ntmps98
    go_wp2
    go_ret
    exact ⟨rfl, rfl⟩

/-- Is one painted, by its address? -/
def isB' (P : List Bool) (a : Int) : Bool := decide (0 ≤ a) && P.getD (a / 16).toNat false

set_option maxRecDepth 100000 in
set_option maxHeartbeats 800000 in
theorem is_any (b bW : Nat) (P : List Bool) (a : Int) (w : World) (ha : inI a) (h : ShM w b bW P) :
    Calls Try.prog 38 #[.pointer (some ⟨b, 0, none⟩), .int .i64 a] w fun e w' => e = .returned (.bool (isB' P a)) ∧ w' = w := by
  obtain ⟨a0, a1⟩ := ha
  unfold isB'
  by_cases h0 : 0 ≤ a
  · obtain ⟨n, rfl⟩ := Int.eq_ofNat_of_zero_le h0
    rw [decide_eq_true h0, Bool.true_and, show ((n : Int) / 16).toNat = n / 16 by omega]
    have hn : ((n / 16 : Nat) : Int) ≤ 9223372036854775807 := by omega
    have hp := painted_any b bW P (n / 16) w hn h
    have e : ((n / 16 : Nat) : Int) = (n : Int) / 16 := by omega
    rw [e] at hp
    clear h hn e
    go_enter Try.func38, Try.ntmps38
    go_wp2_with fail
    refine hp.mono ?_
    rintro e w1 ⟨rfl, rfl⟩
    go_wp2
    go_ret
    exact ⟨rfl, rfl⟩
  · rw [decide_eq_false h0, Bool.false_and]
    clear h
    go_enter Try.func38, Try.ntmps38
    go_wp2
    go_ret
    exact ⟨rfl, rfl⟩

/-- Does one hit? -/
def hitsB (P : List Bool) (t : Bool) (bb p : Int) : Bool := t && decide (bb < p) && isB' P bb

theorem ShM.below {w w1 : World} {b bW B : Nat} {P : List Bool} (h : ShM w b bW P) (hb : Below B w w1) (h1 : b < B) (h2 : bW < B) : ShM w1 b bW P := by
  obtain ⟨hg, hB, xs, hx, hW⟩ := h
  exact ⟨hg, hB.below hb h1, xs, hx, hW.below hb h2⟩
theorem ShM.lt {w : World} {b bW : Nat} {P : List Bool} (h : ShM w b bW P) : b < w.heap.size ∧ bW < w.heap.size := ⟨h.2.1.lt, by obtain ⟨_, _, _, _, h⟩ := h; exact h.lt⟩

set_option maxRecDepth 100000 in
set_option maxHeartbeats 800000 in
theorem hits_any (b bW : Nat) (P : List Bool) (t : Bool) (bb p a q y : Int) (w : World) (hb : inI bb) (_ : inI p) (h : ShM w b bW P) :
    Calls Try.prog 40 #[.pointer (some ⟨b, 0, none⟩), .agg #[.bool (t), .int .i64 (bb), .int .i64 (p), .int .i64 (a), .int .i64 (q), .int .i64 (y)]] w fun e w' => e = .returned (.bool (hitsB P t bb p)) ∧ Below w.heap.size w w' := by
  have hb0 : Below w.heap.size w (w.alloc (.cells #[.bool (t), .int .i64 (bb), .int .i64 (p), .int .i64 (a), .int .i64 (q), .int .i64 (y)] 23)) := by go_grown
  have h1 := h.below hb0 h.lt.1 h.lt.2
  have hc := is_any b bW P bb _ hb h1
  unfold hitsB
  clear h h1
  cases t with
  | false =>
    clear hc hb0
    go_enter Try.func40, Try.ntmps40
    go_wp2
    go_ret
    exact ⟨rfl, by go_grown⟩
  | true =>
    by_cases hlt : bb < p
    · rw [decide_eq_true hlt]
      go_enter Try.func40, Try.ntmps40
      go_wp2_with fail
      refine hc.mono ?_
      rintro e w1 ⟨rfl, rfl⟩
      go_wp2
      go_ret
      exact ⟨rfl, hb0⟩
    · rw [decide_eq_false hlt]
      clear hc
      go_enter Try.func40, Try.ntmps40
      go_wp2
      go_ret
      exact ⟨rfl, hb0⟩
end Go.Proofs.Ytjimkkkiilcpoaa
