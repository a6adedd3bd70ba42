/- Maps anew, and painting. -/
import Derived.Test.YtjimkkkiilcpoaaShA
set_option linter.unusedVariables false
set_option linter.unusedSimpArgs false
namespace Go.Proofs.Ytjimkkkiilcpoaa
open Go.RowKit

theorem wordsAre_new (n : Nat) : wordsAre (List.replicate (nWords n) 0) (List.replicate n false) := by
  refine ⟨by simp, fun k x hx => ?_⟩
  have : x = 0 := by
    rw [List.getElem?_replicate] at hx
    split at hx
    · exact (Option.some.inj hx).symm
    · cases hx
  subst this
  refine ⟨by omega, fun j hj => ?_⟩
  rw [Nat.zero_testBit, List.getD_eq_getElem?_getD, List.getElem?_replicate]
  split <;> rfl

theorem u64s_new (m : Nat) : u64s (List.replicate m 0) = madeCells #[.int .u64 0] m := by
  apply Array.ext'
  rw [toList_madeCells_one, u64s]
  simp

theorem infoU64 : (Try.prog.info? 32).map (fun i => (i.zero, i.size, i.bytes)) = some (some (.int .u64 0), 1, 8) := by kernel_rfl

set_option maxRecDepth 100000 in
set_option maxHeartbeats 800000 in
theorem new_none (g : Int) (w : World) (hg : ¬ (1 ≤ g ∧ g ≤ 1048576)) :
    Calls Try.prog 32 #[.int .i64 g] w fun e w' => e = .returned (.pointer none) ∧ w' = w := by
  by_cases h1 : g < 1
  · clear hg
    go_enter Try.func32, Try.ntmps32
    go_wp2
    go_ret
    exact ⟨rfl, rfl⟩
  · have h2 : 1048576 < g := by omega
    clear hg
    go_enter Try.func32, Try.ntmps32
    go_wp2
    go_ret
    exact ⟨rfl, rfl⟩

set_option maxRecDepth 100000 in
set_option maxHeartbeats 800000 in
theorem new_any (n : Nat) (w : World) (h1 : (1 : Int) ≤ n) (h2 : (n : Int) ≤ 1048576) :
    Calls Try.prog 32 #[.int .i64 n] w fun e w' => ∃ b bW, e = .returned (.pointer (some ⟨b, 0, none⟩)) ∧ ShM w' b bW (List.replicate n false) ∧ w.heap.size ≤ bW ∧ w.heap.size ≤ b ∧ bW ≠ b ∧ Below w.heap.size w w' := by
  have hn : ((n : Int) + 64 - 1) / 64 = (nWords n : Int) := by unfold nWords; omega
  have hn' : ((n : Int) + 63) / 64 = (nWords n : Int) := by unfold nWords; omega
  have hN : nWords n ≤ 16384 := by unfold nWords; omega
  have hmk := run_make_row' (P := Try.prog) 99 32 (.int .u64 0) 8 Try.underlying99 infoU64 rfl .i64 .i64 (nWords n) (by omega) (by omega)
  generalize hm : nWords n = m at *
  go_enter Try.func32, Try.ntmps32
  go_wp2
  go_ret
  refine ⟨w.heap.size + 1, w.heap.size, rfl, ⟨by rw [List.length_replicate]; omega, ?_, List.replicate m 0, by rw [← hm]; exact wordsAre_new n, ?_⟩, Nat.le_refl _, Nat.le_succ _, by omega, by go_grown⟩
  · rw [List.length_replicate, hm]
    have := Blk.new (w.alloc (.cells (madeCells #[.int .u64 0] m) 32)) #[.slice (some ⟨w.heap.size, 0, none⟩) m m, .int .i64 n] 101
    rw [World.size_alloc] at this
    exact this
  · rw [u64s_new]
    exact (Blk.new w _ _).alloc _

/-- The document's map: its block, its answers' block. -/
def bools (P : List Bool) : Array Value := (P.map Value.bool).toArray
def RfM (w : World) (b bP : Nat) (P : List Bool) : Prop :=
  P.length ≤ 1048576 ∧ Blk w b #[.slice (some ⟨bP, 0, none⟩) P.length P.length] 104 ∧ Blk w bP (bools P) 4
theorem RfM.below {w w1 : World} {b bP B : Nat} {P : List Bool} (h : RfM w b bP P) (hb : Below B w w1) (h1 : b < B) (h2 : bP < B) : RfM w1 b bP P :=
  ⟨h.1, h.2.1.below hb h1, h.2.2.below hb h2⟩
theorem RfM.lt {w : World} {b bP : Nat} {P : List Bool} (h : RfM w b bP P) : b < w.heap.size ∧ bP < w.heap.size := ⟨h.2.1.lt, h.2.2.lt⟩
theorem bools_at (P : List Bool) (k : Nat) (hk : k < P.length) : (bools P)[k]? = some (.bool (P.getD k false)) := by
  rw [bools, List.getElem?_toArray, List.getElem?_map, List.getD_eq_getElem?_getD, List.getElem?_eq_getElem hk]
  rfl

theorem infoBool : (Try.prog.info? 4).map (fun i => (i.zero, i.size, i.bytes)) = some (some (.bool false), 1, 1) := by kernel_rfl

set_option maxRecDepth 100000 in
set_option maxHeartbeats 800000 in
theorem ref_new_none (g : Int) (w : World) (hg : ¬ (1 ≤ g ∧ g ≤ 1048576)) :
    Calls Try.prog 33 #[.int .i64 g] w fun e w' => e = .returned (.pointer none) ∧ w' = w := by
  by_cases h1 : g < 1
  · clear hg
    go_enter Try.func33, Try.ntmps33
    go_wp2
    go_ret
    exact ⟨rfl, rfl⟩
  · have h2 : 1048576 < g := by omega
    clear hg
    go_enter Try.func33, Try.ntmps33
    go_wp2
    go_ret
    exact ⟨rfl, rfl⟩

theorem bools_new (n : Nat) : bools (List.replicate n false) = madeCells #[.bool false] n := by
  apply Array.ext'
  rw [toList_madeCells_one, bools]
  simp

set_option maxRecDepth 100000 in
set_option maxHeartbeats 800000 in
theorem ref_new_any (n : Nat) (w : World) (h1 : (1 : Int) ≤ n) (h2 : (n : Int) ≤ 1048576) :
    Calls Try.prog 33 #[.int .i64 n] w fun e w' => ∃ b bP, e = .returned (.pointer (some ⟨b, 0, none⟩)) ∧ RfM w' b bP (List.replicate n false) ∧ w.heap.size ≤ bP ∧ w.heap.size ≤ b ∧ bP ≠ b ∧ Below w.heap.size w w' := by
  have hmk := run_make_row' (P := Try.prog) 102 4 (.bool false) 1 Try.underlying102 infoBool rfl .i64 .i64 n (by omega) (by omega)
  go_enter Try.func33, Try.ntmps33
  go_wp2
  go_ret
  refine ⟨w.heap.size + 1, w.heap.size, rfl, ⟨by rw [List.length_replicate]; omega, ?_, ?_⟩, Nat.le_refl _, Nat.le_succ _, by omega, by go_grown⟩
  · rw [List.length_replicate]
    have := Blk.new (w.alloc (.cells (madeCells #[.bool false] n) 4)) #[.slice (some ⟨w.heap.size, 0, none⟩) n n] 104
    rw [World.size_alloc] at this
    exact this
  · rw [bools_new]
    exact (Blk.new w _ _).alloc _

set_option maxRecDepth 100000 in
set_option maxHeartbeats 800000 in
theorem ref_is_any (b bP : Nat) (P : List Bool) (a : Int) (w : World) (ha : inI a) (h : RfM w b bP P) :
    Calls Try.prog 39 #[.pointer (some ⟨b, 0, none⟩), .int .i64 a] w fun e w' => e = .returned (.bool (isB' P a)) ∧ w' = w := by
  obtain ⟨a0, a1⟩ := ha
  obtain ⟨hg, hB, hW⟩ := h
  have L := hB.cell
  have LW := hW.cell
  clear hB hW
  unfold isB'
  by_cases h0 : 0 ≤ a
  · obtain ⟨n, rfl⟩ := Int.eq_ofNat_of_zero_le h0
    rw [decide_eq_true h0, Bool.true_and, show ((n : Int) / 16).toNat = n / 16 by omega]
    rcases Nat.lt_or_ge (n / 16) P.length with hlt | hge
    · have c := LW (n / 16)
      rw [bools_at P _ hlt] at c
      have h1 : (n : Int) / 16 < (P.length : Int) := by omega
      generalize P.getD (n / 16) false = v at *
      generalize P.length = g at *
      clear LW
      go_enter Try.func39, Try.ntmps39
      go_wp2
      go_ret
      exact ⟨rfl, rfl⟩
    · have h1 : ¬ (n : Int) / 16 < (P.length : Int) := by omega
      have e : P.getD (n / 16) false = false := by rw [List.getD_eq_getElem?_getD, List.getElem?_eq_none hge]; rfl
      rw [e]
      clear LW e hge
      generalize P.length = g at *
      go_enter Try.func39, Try.ntmps39
      go_wp2
      go_ret
      exact ⟨rfl, rfl⟩
  · rw [decide_eq_false h0, Bool.false_and]
    clear LW L
    go_enter Try.func39, Try.ntmps39
    go_wp2
    go_ret
    exact ⟨rfl, rfl⟩

set_option maxRecDepth 100000 in
set_option maxHeartbeats 800000 in
theorem ref_hits_any (b bP : Nat) (P : List Bool) (t : Bool) (bb p a q y : Int) (w : World) (hb : inI bb) (_ : inI p) (h : RfM w b bP P) :
    Calls Try.prog 41 #[.pointer (some ⟨b, 0, none⟩), .agg #[.bool (t), .int .i64 (bb), .int .i64 (p), .int .i64 (a), .int .i64 (q), .int .i64 (y)]] w fun e w' => e = .returned (.bool (hitsB P t bb p)) ∧ Below w.heap.size w w' := by
  have hb0 : Below w.heap.size w (w.alloc (.cells #[.bool (t), .int .i64 (bb), .int .i64 (p), .int .i64 (a), .int .i64 (q), .int .i64 (y)] 23)) := by go_grown
  have h1 := h.below hb0 h.lt.1 h.lt.2
  have hc := ref_is_any b bP P bb _ hb h1
  unfold hitsB
  clear h h1
  cases t with
  | false =>
    clear hc hb0
    go_enter Try.func41, Try.ntmps41
    go_wp2
    go_ret
    exact ⟨rfl, by go_grown⟩
  | true =>
    by_cases hlt : bb < p
    · rw [decide_eq_true hlt]
      go_enter Try.func41, Try.ntmps41
      go_wp2_with fail
      refine hc.mono ?_
      rintro e w1 ⟨rfl, rfl⟩
      go_wp2
      go_ret
      exact ⟨rfl, hb0⟩
    · rw [decide_eq_false hlt]
      clear hc
      go_enter Try.func41, Try.ntmps41
      go_wp2
      go_ret
      exact ⟨rfl, hb0⟩
end Go.Proofs.Ytjimkkkiilcpoaa

/- Painting, of both maps. -/
namespace Go.Proofs.Ytjimkkkiilcpoaa
open Go.RowKit

theorem grown_then {a b c : World} {row : Option Nat} (h : a.grownBy b row) (k : b.grownBy c row) : a.grownBy c row :=
  ⟨k.os.trans h.os, k.tape.trans h.tape, k.output.trans h.output, Nat.le_trans h.size k.size, fun i hi hne => (k.block i (Nat.lt_of_lt_of_le hi h.size) hne).trans (h.block i hi hne)⟩
theorem size_set (w : World) (p : Addr) (v : Value) : (w.setCell p v).heap.size = w.heap.size := by simp [World.setCell]
theorem grown_set (w : World) (b o : Nat) (v : Value) : w.grownBy (w.setCell ⟨b, o, none⟩ v) (some b) :=
  ⟨rfl, rfl, rfl, by rw [size_set]; exact Nat.le_refl _, fun i hi hne => Below.heap_setCell _ _ _ _ (fun e => hne (by rw [e]))⟩

/-- Painted from one granule up to another one. -/
def paintR (P : List Bool) (lo hi : Nat) (is : Bool) : List Bool := P.mapIdx fun j v => if lo ≤ j ∧ j < hi then is else v
theorem paintR_len (P : List Bool) (lo hi : Nat) (is : Bool) : (paintR P lo hi is).length = P.length := by rw [paintR, List.length_mapIdx]
theorem paintR_none (P : List Bool) (lo : Nat) (is : Bool) : paintR P lo lo is = P := by
  apply List.ext_getElem?
  intro j
  rw [paintR, List.getElem?_mapIdx]
  have : ∀ v : Bool, (if lo ≤ j ∧ j < lo then is else v) = v := fun v => if_neg (by omega)
  simp only [this]
  simp
theorem paintR_step (P : List Bool) (lo hi : Nat) (is : Bool) (h : lo ≤ hi) : paintR P lo (hi + 1) is = (paintR P lo hi is).set hi is := by
  apply List.ext_getElem?
  intro j
  rw [List.getElem?_set, paintR_len]
  unfold paintR
  rw [List.getElem?_mapIdx, List.getElem?_mapIdx]
  by_cases hj : hi = j
  · subst hj
    rw [if_pos rfl]
    rcases Nat.lt_or_ge hi P.length with h1 | h1
    · rw [List.getElem?_eq_getElem h1, if_pos h1]
      simp [h]
    · rw [List.getElem?_eq_none h1, if_neg (by omega)]
      rfl
  · rw [if_neg hj]
    congr 1
    funext v
    by_cases h2 : lo ≤ j ∧ j < hi
    · rw [if_pos h2, if_pos (by omega)]
    · rw [if_neg h2, if_neg (by omega)]

theorem bools_set (P : List Bool) (i : Nat) (is : Bool) : bools (P.set i is) = (bools P).setIfInBounds i (.bool is) := by
  apply Array.ext'
  simp [bools, List.map_set]
theorem u64s_set (xs : List Nat) (i : Nat) (x : Nat) : u64s (xs.set i x) = (u64s xs).setIfInBounds i (.int .u64 x) := by
  apply Array.ext'
  simp [u64s, List.map_set]

theorem getD_set (P : List Bool) (i j : Nat) (v : Bool) (hi : i < P.length) : (P.set i v).getD j false = if i = j then v else P.getD j false := by
  rw [List.getD_eq_getElem?_getD, List.getElem?_set, List.getD_eq_getElem?_getD]
  by_cases h : i = j
  · rw [if_pos h, if_pos h, if_pos hi]; rfl
  · rw [if_neg h, if_neg h]

theorem wordsAre_set {xs : List Nat} {P : List Bool} (h : wordsAre xs P) (i x : Nat) (v : Bool) (hi : i < P.length) (hx : x < 18446744073709551616)
    (hb : ∀ j, j < 64 → x.testBit j = if i % 64 = j then v else P.getD (64 * (i / 64) + j) false) : wordsAre (xs.set (i / 64) x) (P.set i v) := by
  obtain ⟨hl, hw⟩ := h
  refine ⟨by rw [List.length_set, List.length_set]; exact hl, fun k y hy => ?_⟩
  rw [List.getElem?_set] at hy
  by_cases hk : i / 64 = k
  · rw [if_pos hk] at hy
    split at hy
    · cases hy
      refine ⟨hx, fun j hj => ?_⟩
      rw [hb j hj, getD_set _ _ _ _ hi, ← hk]
      by_cases h2 : i % 64 = j
      · rw [if_pos h2, if_pos (by omega)]
      · rw [if_neg h2, if_neg (by omega)]
    · cases hy
  · rw [if_neg hk] at hy
    obtain ⟨h1, h2⟩ := hw k y hy
    refine ⟨h1, fun j hj => ?_⟩
    rw [h2 j hj, getD_set _ _ _ _ hi, if_neg (by omega)]

theorem bits_u64_or (a b : Nat) (ha : a < 18446744073709551616) (hb : b < 18446744073709551616) : bits .or .u64 (a : Int) (b : Int) = ((a ||| b : Nat) : Int) := by
  have e : bits .or .u64 (a : Int) (b : Int) = IntKind.u64.wrap ((BitVec.ofInt 64 (a : Int)) ||| (BitVec.ofInt 64 (b : Int)) : BitVec 64).toNat := rfl
  have h : a ||| b < 2 ^ 64 := Nat.or_lt_two_pow (by omega) (by omega)
  rw [e, BitVec.toNat_or, BitVec.ofInt_natCast, BitVec.ofInt_natCast, BitVec.toNat_ofNat, BitVec.toNat_ofNat, Nat.mod_eq_of_lt (by omega), Nat.mod_eq_of_lt (by omega), IntKind.wrap_u64]
  omega
theorem bits_u64_xor (a b : Nat) (ha : a < 18446744073709551616) (hb : b < 18446744073709551616) : bits .xor .u64 (a : Int) (b : Int) = ((a ^^^ b : Nat) : Int) := by
  have e : bits .xor .u64 (a : Int) (b : Int) = IntKind.u64.wrap ((BitVec.ofInt 64 (a : Int)) ^^^ (BitVec.ofInt 64 (b : Int)) : BitVec 64).toNat := rfl
  have h : a ^^^ b < 2 ^ 64 := Nat.xor_lt_two_pow (by omega) (by omega)
  rw [e, BitVec.toNat_xor, BitVec.ofInt_natCast, BitVec.ofInt_natCast, BitVec.toNat_ofNat, BitVec.toNat_ofNat, Nat.mod_eq_of_lt (by omega), Nat.mod_eq_of_lt (by omega), IntKind.wrap_u64]
  omega

def paintOk (g : Nat) (f t : Int) : Prop := f % 16 = 0 ∧ t % 16 = 0 ∧ 0 ≤ f ∧ f ≤ t ∧ t ≤ 16 * g
instance (g : Nat) (f t : Int) : Decidable (paintOk g f t) := by unfold paintOk; infer_instance

set_option maxRecDepth 100000 in
set_option maxHeartbeats 1600000 in
theorem ref_paint_no (b bP : Nat) (P : List Bool) (f t : Int) (is : Bool) (w : World) (hf : inI f) (ht : inI t) (h : RfM w b bP P) (hn : ¬ paintOk P.length f t) :
    Calls Try.prog 35 #[.pointer (some ⟨b, 0, none⟩), .int .i64 f, .int .i64 t, .bool is] w fun e w' => e = .returned (.bool false) ∧ w' = w := by
  obtain ⟨f0, f1⟩ := hf
  obtain ⟨t0, t1⟩ := ht
  obtain ⟨hg, hB, hW⟩ := h
  have L := hB.cell
  have Hn := Lib.hid hn
  clear hB hW hn
  have Hg := Lib.hid hg
  have hg' : (P.length : Int) ≤ 1048576 := by omega
  generalize P.length = g at *
  clear hg
  go_enter Try.func35, Try.ntmps35
  go_wp2
  all_goals first
    | (go_ret; exact ⟨rfl, rfl⟩)
    | (exfalso; apply Hn.out; exact ⟨by rw [← Int.tmod_eq_emod_of_nonneg (by omega)]; assumption, by rw [← Int.tmod_eq_emod_of_nonneg (by omega)]; assumption, by omega, by omega, by omega⟩)

theorem RfM.set {w : World} {b bP : Nat} {P : List Bool} (h : RfM w b bP P) (hne : b ≠ bP) (i : Nat) (is : Bool) : RfM (w.setCell ⟨bP, i, none⟩ (.bool is)) b bP (P.set i is) := by
  obtain ⟨h1, h2, h3⟩ := h
  refine ⟨by rw [List.length_set]; exact h1, by rw [List.length_set]; exact h2.set_other hne _ _, ?_⟩
  rw [bools_set]
  exact h3.set _ _

set_option maxRecDepth 100000 in
set_option maxHeartbeats 1600000 in
theorem ref_paint_yes (b bP : Nat) (P : List Bool) (f t : Int) (is : Bool) (w : World) (hf : inI f) (ht : inI t) (h : RfM w b bP P) (hne : b ≠ bP) (hy : paintOk P.length f t) :
    Calls Try.prog 35 #[.pointer (some ⟨b, 0, none⟩), .int .i64 f, .int .i64 t, .bool is] w fun e w' => e = .returned (.bool true) ∧ RfM w' b bP (paintR P (f / 16).toNat (t / 16).toNat is) ∧ w.grownBy w' (some bP) := by
  obtain ⟨f0, f1⟩ := hf
  obtain ⟨t0, t1⟩ := ht
  obtain ⟨y1, y2, y3, y4, y5⟩ := hy
  have H := Lib.hid h
  have hl := h.1
  have L := h.2.1.cell
  have y6 : f.tmod 16 = 0 := by rw [Int.tmod_eq_emod_of_nonneg y3]; exact y1
  have y7 : t.tmod 16 = 0 := by rw [Int.tmod_eq_emod_of_nonneg (by omega)]; exact y2
  have y8 : ¬ f < 0 := by omega
  have y9 : ¬ t < f := by omega
  have y10 : ¬ 16 * (P.length : Int) < t := by omega
  obtain ⟨lo, elo⟩ := Int.eq_ofNat_of_zero_le (show 0 ≤ f / 16 by omega)
  obtain ⟨hi, ehi⟩ := Int.eq_ofNat_of_zero_le (show 0 ≤ t / 16 by omega)
  have hlh : Hid (lo ≤ hi) := Lib.hid (by omega)
  have hhg : Hid (hi ≤ P.length) := Lib.hid (by omega)
  rw [elo, ehi, Int.toNat_natCast, Int.toNat_natCast]
  have gl : (P.length : Int) ≤ 1048576 := by omega
  generalize hg : P.length = g at *
  have Hg := Lib.hid hg
  clear hl h y1 y2 hg
  go_enter Try.func35, Try.ntmps35
  go_wp2
  go_loopg [9] (hi - lo) (fun k i wr => ∃ j : Nat, lo ≤ j ∧ j + k = hi ∧ i = .int .i64 j ∧ RfM wr b bP (paintR P lo j is) ∧ w.grownBy wr (some bP))
  case atStart => exact ⟨lo, Nat.le_refl _, by have := hlh.out; omega, rfl, by rw [paintR_none]; exact H.out, World.grownBy.refl _ _⟩
  case round =>
    clear L
    obtain ⟨j, hj, hjk, rfl, hR, hG⟩ := hrel
    have Hj := Lib.hid hj
    have Hjk := Lib.hid hjk
    have HG := Lib.hid hG
    have L := hR.2.1.cell
    rw [paintR_len, Hg.out] at L
    have HR := Lib.hid hR
    clear hj hjk hR hG
    rcases Nat.lt_or_ge j hi with hlt | hge
    · have i1 : (j : Int) < hi := by omega
      have i2 : (j : Int) < g := by have := hhg.out; omega
      have F := HR.out.2.2.frozen
      have c := HR.out.2.2.cell j
      rw [bools_at _ _ (by rw [paintR_len, Hg.out]; omega)] at c
      have hlt' := Lib.hid hlt
      clear hlt
      go_wp2
      go_roundg (gk - 1)
      case measure => have := Hjk.out; have := hlt'.out; omega
      case rel =>
        refine ⟨j + 1, by have := Hj.out; omega, by have := Hjk.out; have := hlt'.out; omega, by go_num, ?_, grown_then HG.out (grown_set _ _ _ _)⟩
        rw [paintR_step _ _ _ _ Hj.out]
        exact HR.out.set hne j is
    · have i1 : ¬ (j : Int) < hi := by omega
      have e : j = hi := by have := Hjk.out; omega
      subst e
      clear hge
      go_wp2
      go_ret
      exact ⟨rfl, HR.out, HG.out⟩
end Go.Proofs.Ytjimkkkiilcpoaa

/- Painting, of the program's map. -/
namespace Go.Proofs.Ytjimkkkiilcpoaa
open Go.RowKit

set_option maxRecDepth 100000 in
set_option maxHeartbeats 1600000 in
theorem paint_no (b bW : Nat) (P : List Bool) (f t : Int) (is : Bool) (w : World) (hf : inI f) (ht : inI t) (h : ShM w b bW P) (hn : ¬ paintOk P.length f t) :
    Calls Try.prog 34 #[.pointer (some ⟨b, 0, none⟩), .int .i64 f, .int .i64 t, .bool is] w fun e w' => e = .returned (.bool false) ∧ w' = w := by
  obtain ⟨f0, f1⟩ := hf
  obtain ⟨t0, t1⟩ := ht
  obtain ⟨hg, hB, hW⟩ := h
  have L := hB.cell
  have Hn := Lib.hid hn
  clear hB hW hn
  have Hg := Lib.hid hg
  have hg' : (P.length : Int) ≤ 1048576 := by omega
  generalize nWords P.length = m at *
  generalize P.length = g at *
  clear hg
  go_enter Try.func34, Try.ntmps34
  go_wp2
  all_goals first
    | (go_ret; exact ⟨rfl, rfl⟩)
    | (exfalso; apply Hn.out; unfold paintOk; exact ⟨by rw [← Int.tmod_eq_emod_of_nonneg (by omega)]; assumption, by rw [← Int.tmod_eq_emod_of_nonneg (by omega)]; assumption, by omega, by omega, by omega⟩)

/-- The words when one bit is set, and when it is cleared again. -/
theorem wordsAre_or {xs : List Nat} {P : List Bool} (h : wordsAre xs P) (i x : Nat) (hi : i < P.length) (hx : xs[i / 64]? = some x) :
    x ||| 2 ^ (i % 64) < 18446744073709551616 ∧ wordsAre (xs.set (i / 64) (x ||| 2 ^ (i % 64))) (P.set i true) := by
  obtain ⟨h1, h2⟩ := h.2 _ _ hx
  have hp : 2 ^ (i % 64) < 2 ^ 64 := Nat.pow_lt_pow_right (by decide) (by omega)
  have hlt : x ||| 2 ^ (i % 64) < 2 ^ 64 := Nat.or_lt_two_pow (by omega) hp
  refine ⟨by omega, wordsAre_set h i _ true hi (by omega) fun j hj => ?_⟩
  rw [Nat.testBit_or, h2 j hj, Nat.testBit_two_pow]
  by_cases e : i % 64 = j
  · rw [if_pos e, decide_eq_true e, Bool.or_true]
  · rw [if_neg e, decide_eq_false e, Bool.or_false]
theorem wordsAre_xor {xs : List Nat} {P : List Bool} (h : wordsAre xs P) (i x : Nat) (hi : i < P.length) (hx : xs[i / 64]? = some x) (hs : P.getD i false = true) :
    x ^^^ 2 ^ (i % 64) < 18446744073709551616 ∧ wordsAre (xs.set (i / 64) (x ^^^ 2 ^ (i % 64))) (P.set i false) := by
  obtain ⟨h1, h2⟩ := h.2 _ _ hx
  have hp : 2 ^ (i % 64) < 2 ^ 64 := Nat.pow_lt_pow_right (by decide) (by omega)
  have hlt : x ^^^ 2 ^ (i % 64) < 2 ^ 64 := Nat.xor_lt_two_pow (by omega) hp
  refine ⟨by omega, wordsAre_set h i _ false hi (by omega) fun j hj => ?_⟩
  rw [Nat.testBit_xor, h2 j hj, Nat.testBit_two_pow]
  by_cases e : i % 64 = j
  · rw [if_pos e, decide_eq_true e, show 64 * (i / 64) + j = i by omega, hs]; rfl
  · rw [if_neg e, decide_eq_false e, Bool.xor_false]

theorem wrap_bit (j : Nat) : IntKind.u64.wrap (2 ^ (j % 64)) = ((2 ^ (j % 64) : Nat) : Int) := by
  have hp : 2 ^ (j % 64) < 2 ^ 64 := Nat.pow_lt_pow_right (by decide) (by omega)
  have e : (2 : Int) ^ (j % 64) = ((2 ^ (j % 64) : Nat) : Int) := by push_cast; rfl
  rw [e, IntKind.wrap_u64]
  generalize 2 ^ (j % 64) = p at *
  omega
theorem bit_lt (j : Nat) : 2 ^ (j % 64) < 18446744073709551616 := by
  have hp : 2 ^ (j % 64) < 2 ^ 64 := Nat.pow_lt_pow_right (by decide) (by omega)
  omega
theorem ShM.set_or {w : World} {b bW : Nat} {P : List Bool} (h : ShM w b bW P) (hne : b ≠ bW) {i x : Nat} {xs : List Nat} (hi : i < P.length) (hw : wordsAre xs P) (hB : Blk w bW (u64s xs) 32) (hx : xs[i / 64]? = some x) :
    ShM (w.setCell ⟨bW, i / 64, none⟩ (.int .u64 (bits .or .u64 x (IntKind.u64.wrap (2 ^ (i % 64)))))) b bW (P.set i true) := by
  obtain ⟨k1, k2⟩ := wordsAre_or hw i x hi hx
  rw [wrap_bit, bits_u64_or _ _ (hw.2 _ _ hx).1 (bit_lt i)]
  refine ⟨by rw [List.length_set]; exact h.1, by rw [List.length_set]; exact h.2.1.set_other hne _ _, _, k2, ?_⟩
  rw [u64s_set]
  exact hB.set _ _
theorem ShM.set_xor {w : World} {b bW : Nat} {P : List Bool} (h : ShM w b bW P) (hne : b ≠ bW) {i x : Nat} {xs : List Nat} (hi : i < P.length) (hw : wordsAre xs P) (hB : Blk w bW (u64s xs) 32) (hx : xs[i / 64]? = some x) :
    ShM ((w.setCell ⟨bW, i / 64, none⟩ (.int .u64 (bits .or .u64 x (IntKind.u64.wrap (2 ^ (i % 64)))))).setCell ⟨bW, i / 64, none⟩ (.int .u64 (bits .xor .u64 (bits .or .u64 x (IntKind.u64.wrap (2 ^ (i % 64)))) (IntKind.u64.wrap (2 ^ (i % 64)))))) b bW (P.set i false) := by
  have h1 := h.set_or hne hi hw hB hx
  obtain ⟨k1, k2⟩ := wordsAre_or hw i x hi hx
  rw [wrap_bit, bits_u64_or _ _ (hw.2 _ _ hx).1 (bit_lt i)] at h1 ⊢
  rw [bits_u64_xor _ _ k1 (bit_lt i)]
  have hB1 : Blk (w.setCell ⟨bW, i / 64, none⟩ (.int .u64 ((x ||| 2 ^ (i % 64) : Nat) : Int))) bW (u64s (xs.set (i / 64) (x ||| 2 ^ (i % 64)))) 32 := by
    rw [u64s_set]; exact hB.set _ _
  have hlt : i / 64 < xs.length := (List.getElem?_eq_some_iff.1 hx).1
  have hi1 : i < (P.set i true).length := by rw [List.length_set]; exact hi
  obtain ⟨m1, m2⟩ := wordsAre_xor k2 i (x ||| 2 ^ (i % 64)) hi1 (by rw [List.getElem?_set, if_pos rfl, if_pos hlt]) (by rw [getD_set _ _ _ _ hi, if_pos rfl])
  rw [List.set_set] at m2
  have e : (P.set i true).set i false = P.set i false := List.set_set ..
  rw [e] at m2
  refine ⟨by rw [List.length_set]; exact h.1, ?_, _, m2, ?_⟩
  · have := h1.2.1.set_other hne (i / 64) (.int .u64 (((x ||| 2 ^ (i % 64)) ^^^ 2 ^ (i % 64) : Nat) : Int))
    rw [List.length_set] at this ⊢
    exact this
  · have := hB1.set (i / 64) (.int .u64 (((x ||| 2 ^ (i % 64)) ^^^ 2 ^ (i % 64) : Nat) : Int))
    rw [← u64s_set, List.set_set] at this
    exact this

set_option maxRecDepth 100000 in
set_option maxHeartbeats 1600000 in
theorem paint_yes (b bW : Nat) (P : List Bool) (f t : Int) (is : Bool) (w : World) (hf : inI f) (ht : inI t) (h : ShM w b bW P) (hne : b ≠ bW) (hy : paintOk P.length f t) :
    Calls Try.prog 34 #[.pointer (some ⟨b, 0, none⟩), .int .i64 f, .int .i64 t, .bool is] w fun e w' => e = .returned (.bool true) ∧ ShM w' b bW (paintR P (f / 16).toNat (t / 16).toNat is) ∧ w.grownBy w' (some bW) := by
  obtain ⟨f0, f1⟩ := hf
  obtain ⟨t0, t1⟩ := ht
  obtain ⟨y1, y2, y3, y4, y5⟩ := hy
  have H := Lib.hid h
  have hl := h.1
  have L := h.2.1.cell
  have y6 : f.tmod 16 = 0 := by rw [Int.tmod_eq_emod_of_nonneg y3]; exact y1
  have y7 : t.tmod 16 = 0 := by rw [Int.tmod_eq_emod_of_nonneg (by omega)]; exact y2
  have y8 : ¬ f < 0 := by omega
  have y9 : ¬ t < f := by omega
  have y10 : ¬ 16 * (P.length : Int) < t := by omega
  have y11 : ¬ (P.length : Int) * 16 < t := by omega
  obtain ⟨lo, elo⟩ := Int.eq_ofNat_of_zero_le (show 0 ≤ f / 16 by omega)
  obtain ⟨hi, ehi⟩ := Int.eq_ofNat_of_zero_le (show 0 ≤ t / 16 by omega)
  have hlh : Hid (lo ≤ hi) := Lib.hid (by omega)
  have hhg : Hid (hi ≤ P.length) := Lib.hid (by omega)
  rw [elo, ehi, Int.toNat_natCast, Int.toNat_natCast]
  have gl : (P.length : Int) ≤ 1048576 := by omega
  generalize hg : P.length = g at *
  have Hg := Lib.hid hg
  clear hl h y1 y2 hg
  go_enter Try.func34, Try.ntmps34
  go_wp2
  go_loopg [9, 10] (hi - lo) (fun k i v wr => ∃ j : Nat, lo ≤ j ∧ j + k = hi ∧ i = .int .i64 j ∧ ShM wr b bW (paintR P lo j is) ∧ w.grownBy wr (some bW))
  case atStart => exact ⟨lo, Nat.le_refl _, by have := hlh.out; omega, rfl, by rw [paintR_none]; exact H.out, World.grownBy.refl _ _⟩
  case round =>
    clear L
    obtain ⟨j, hj, hjk, rfl, hR, hG⟩ := hrel
    have Hj := Lib.hid hj
    have Hjk := Lib.hid hjk
    have HG := Lib.hid hG
    have L := hR.2.1.cell
    rw [paintR_len, Hg.out] at L
    have HR := Lib.hid hR
    clear hj hjk hR hG
    rcases Nat.lt_or_ge j hi with hlt | hge
    · have i1 : (j : Int) < hi := by omega
      have i2 : (j : Int) < g := by have := hhg.out; omega
      obtain ⟨xs, hw, hB⟩ := HR.out.2.2
      have F := hB.frozen
      have hk : j / 64 < xs.length := by rw [hw.1, paintR_len, Hg.out, nWords]; omega
      have i3 : j / 64 < nWords g := by unfold nWords; omega
      have c := hB.cell (j / 64)
      rw [u64s, List.getElem?_toArray, List.getElem?_map, List.getElem?_eq_getElem hk, Option.map_some] at c
      have hx := List.getElem?_eq_getElem hk
      generalize xs[j / 64] = x at *
      have HW := Lib.hid hw
      have HB := Lib.hid hB
      have HX := Lib.hid hx
      have hlt' := Lib.hid hlt
      clear hlt hk hw hB hx
      generalize nWords g = m at L i3
      have hjg : Hid (j < (paintR P lo j is).length) := Lib.hid (by rw [paintR_len, Hg.out]; omega)
      cases is with
      | true =>
        go_wp2
        go_roundg (gk - 1)
        case measure => have := Hjk.out; have := hlt'.out; omega
        case rel =>
          refine ⟨j + 1, by have := Hj.out; omega, by have := Hjk.out; have := hlt'.out; omega, by go_num, ?_, grown_then HG.out (grown_set _ _ _ _)⟩
          rw [paintR_step _ _ _ _ Hj.out]
          exact HR.out.set_or hne hjg.out HW.out HB.out HX.out
      | false =>
        go_wp2
        go_roundg (gk - 1)
        case measure => have := Hjk.out; have := hlt'.out; omega
        case rel =>
          refine ⟨j + 1, by have := Hj.out; omega, by have := Hjk.out; have := hlt'.out; omega, by go_num, ?_, grown_then (grown_then HG.out (grown_set _ _ _ _)) (grown_set _ _ _ _)⟩
          rw [paintR_step _ _ _ _ Hj.out]
          exact HR.out.set_xor hne hjg.out HW.out HB.out HX.out
    · have i1 : ¬ (j : Int) < hi := by omega
      have e : j = hi := by have := Hjk.out; omega
      subst e
      clear hge
      go_wp2
      go_ret
      exact ⟨rfl, HR.out, HG.out⟩
end Go.Proofs.Ytjimkkkiilcpoaa

/- How many are painted. -/
namespace Go.Proofs.Ytjimkkkiilcpoaa
open Go.RowKit

def manyL (P : List Bool) : Nat := P.count true
theorem take_step (P : List Bool) (i : Nat) (hi : i < P.length) : P.take (i + 1) = P.take i ++ [P.getD i false] := by
  rw [List.take_add_one, List.getD_eq_getElem?_getD, List.getElem?_eq_getElem hi]
  rfl
theorem many_step (P : List Bool) (i : Nat) (hi : i < P.length) : manyL (P.take (i + 1)) = manyL (P.take i) + (if P.getD i false = true then 1 else 0) := by
  rw [take_step P i hi, manyL, List.count_append, List.count_singleton]
  cases P.getD i false <;> rfl
theorem many_le (P : List Bool) : manyL P ≤ P.length := List.count_le_length

set_option maxRecDepth 100000 in
set_option maxHeartbeats 1600000 in
theorem many_any (b bW : Nat) (P : List Bool) (w : World) (h : ShM w b bW P) :
    Calls Try.prog 36 #[.pointer (some ⟨b, 0, none⟩)] w fun e w' => e = .returned (.int .i64 (manyL P)) ∧ w' = w := by
  have H := Lib.hid h
  have hl := h.1
  have L := h.2.1.cell
  have gl : (P.length : Int) ≤ 1048576 := by omega
  generalize nWords P.length = m at *
  generalize hg : P.length = g at *
  have Hg := Lib.hid hg
  clear hl h hg
  go_enter Try.func36, Try.ntmps36
  go_wp2
  go_loopg [3, 4, 9] g (fun k n v i wr => ∃ j : Nat, j + k = g ∧ i = .int .i64 j ∧ n = .int .i64 (manyL (P.take j)) ∧ wr = w)
  case atStart => exact ⟨0, by omega, rfl, rfl, rfl⟩
  case round =>
    obtain ⟨j, hjk, rfl, rfl, rfl⟩ := hrel
    have hm := many_le (P.take j)
    have hm2 : (P.take j).length ≤ P.length := by rw [List.length_take]; omega
    have m1 : (manyL (P.take j) : Int) ≤ 1048576 := by have := Hg.out; omega
    have Hjk := Lib.hid hjk
    clear hjk hm hm2
    rcases Nat.lt_or_ge j g with hlt | hge
    · have i1 : (j : Int) < g := by omega
      have hs := Lib.hid (many_step P j (by rw [Hg.out]; exact hlt))
      have Hlt := Lib.hid hlt
      clear hlt
      go_wp2_with fail
      refine (painted_any b bW P j _ (by omega) H.out).mono ?_
      rintro e w1 ⟨rfl, rfl⟩
      cases hv : P.getD j false with
      | true =>
        have HV := Lib.hid hv
        clear hv
        generalize hn : manyL (P.take j) = n at *
        have Hn := Lib.hid hn
        clear hn
        go_wp2
        go_roundg (gk - 1)
        case measure => have := Hjk.out; have := Hlt.out; omega
        case rel => exact ⟨j + 1, by have := Hjk.out; have := Hlt.out; omega, by go_num, by have := hs.out; rw [HV.out] at this; rw [this, if_pos rfl]; go_num, rfl⟩
      | false =>
        have HV := Lib.hid hv
        clear hv
        generalize hn : manyL (P.take j) = n at *
        have Hn := Lib.hid hn
        clear hn
        go_wp2
        go_roundg (gk - 1)
        case measure => have := Hjk.out; have := Hlt.out; omega
        case rel => exact ⟨j + 1, by have := Hjk.out; have := Hlt.out; omega, by go_num, by have := hs.out; rw [HV.out] at this; rw [this, if_neg Bool.false_ne_true]; go_num, rfl⟩
    · have i1 : ¬ (j : Int) < g := by omega
      have e : P.take j = P := List.take_of_length_le (by rw [Hg.out]; omega)
      rw [e]
      clear hge e
      go_wp2
      go_ret
      exact ⟨rfl, rfl⟩

set_option maxRecDepth 100000 in
set_option maxHeartbeats 1600000 in
theorem ref_many_any (b bP : Nat) (P : List Bool) (w : World) (h : RfM w b bP P) :
    Calls Try.prog 37 #[.pointer (some ⟨b, 0, none⟩)] w fun e w' => e = .returned (.int .i64 (manyL P)) ∧ w' = w := by
  have H := Lib.hid h
  have hl := h.1
  have L := h.2.1.cell
  have gl : (P.length : Int) ≤ 1048576 := by omega
  generalize hg : P.length = g at *
  have Hg := Lib.hid hg
  clear hl h hg
  go_enter Try.func37, Try.ntmps37
  go_wp2
  go_loopg [3, 4] g (fun k n i wr => ∃ j : Nat, j + k = g ∧ i = .int .i64 j ∧ n = .int .i64 (manyL (P.take j)) ∧ wr = w)
  case atStart => exact ⟨0, by omega, rfl, rfl, rfl⟩
  case round =>
    obtain ⟨j, hjk, rfl, rfl, rfl⟩ := hrel
    have hm := many_le (P.take j)
    have hm2 : (P.take j).length ≤ P.length := by rw [List.length_take]; omega
    have m1 : (manyL (P.take j) : Int) ≤ 1048576 := by have := Hg.out; omega
    have Hjk := Lib.hid hjk
    clear hjk hm hm2
    rcases Nat.lt_or_ge j g with hlt | hge
    · have i1 : (j : Int) < g := by omega
      have hs := Lib.hid (many_step P j (by rw [Hg.out]; exact hlt))
      have c := H.out.2.2.cell j
      rw [bools_at _ _ (by rw [Hg.out]; exact hlt)] at c
      have Hlt := Lib.hid hlt
      clear hlt
      cases hv : P.getD j false with
      | true =>
        rw [hv] at c
        have HV := Lib.hid hv
        clear hv
        generalize hn : manyL (P.take j) = n at *
        have Hn := Lib.hid hn
        clear hn
        go_wp2
        go_roundg (gk - 1)
        case measure => have := Hjk.out; have := Hlt.out; omega
        case rel => exact ⟨j + 1, by have := Hjk.out; have := Hlt.out; omega, by go_num, by have := hs.out; rw [HV.out] at this; rw [this, if_pos rfl]; go_num, rfl⟩
      | false =>
        rw [hv] at c
        have HV := Lib.hid hv
        clear hv
        generalize hn : manyL (P.take j) = n at *
        have Hn := Lib.hid hn
        clear hn
        go_wp2
        go_roundg (gk - 1)
        case measure => have := Hjk.out; have := Hlt.out; omega
        case rel => exact ⟨j + 1, by have := Hjk.out; have := Hlt.out; omega, by go_num, by have := hs.out; rw [HV.out] at this; rw [this, if_neg Bool.false_ne_true]; go_num, rfl⟩
    · have i1 : ¬ (j : Int) < g := by omega
      have e : P.take j = P := List.take_of_length_le (by rw [Hg.out]; omega)
      rw [e]
      clear hge e
      go_wp2
      go_ret
      exact ⟨rfl, rfl⟩
end Go.Proofs.Ytjimkkkiilcpoaa

/- Rows of painted ones. -/
namespace Go.Proofs.Ytjimkkkiilcpoaa
open Go.RowKit

def rowCells (R : List (Int × Int)) : List Value := R.flatMap fun r => [.int .i64 r.1, .int .i64 r.2]
theorem rowCells_append (R S : List (Int × Int)) : rowCells (R ++ S) = rowCells R ++ rowCells S := List.flatMap_append
theorem rowCells_one (x y : Int) : rowCells [(x, y)] = [.int .i64 x, .int .i64 y] := rfl
theorem rowCells_len (R : List (Int × Int)) : (rowCells R).length = R.length * 2 := by
  induction R with
  | nil => rfl
  | cons r R ih => simp [rowCells] at ih ⊢; omega
theorem rowCells_last (R : List (Int × Int)) (x y : Int) : (rowCells (R ++ [(x, y)]))[R.length * 2 + 1]? = some (.int .i64 y) := by
  rw [rowCells_append, rowCells_one, List.getElem?_append_right (by rw [rowCells_len]; omega), rowCells_len]
  rw [show R.length * 2 + 1 - R.length * 2 = 1 by omega]
  rfl
theorem rowCells_set (R : List (Int × Int)) (x y z : Int) : (rowCells (R ++ [(x, y)])).set (R.length * 2 + 1) (.int .i64 z) = rowCells (R ++ [(x, z)]) := by
  rw [rowCells_append, rowCells_append, rowCells_one, rowCells_one, List.set_append_right _ _ (by rw [rowCells_len]; omega), rowCells_len]
  rw [show R.length * 2 + 1 - R.length * 2 = 1 by omega]
  rfl

/-- One more painted one: the last row is longer, or there is a new one. -/
def addRow (R : List (Int × Int)) (a : Int) : List (Int × Int) :=
  match R.getLast? with
  | some r => if r.2 = a then R.dropLast ++ [(r.1, a + 16)] else R ++ [(a, a + 16)]
  | none => R ++ [(a, a + 16)]
theorem addRow_nil (a : Int) : addRow [] a = [(a, a + 16)] := rfl
theorem addRow_eq (R : List (Int × Int)) (x a : Int) : addRow (R ++ [(x, a)]) a = R ++ [(x, a + 16)] := by simp [addRow]
theorem addRow_ne (R : List (Int × Int)) (x y a : Int) (h : y ≠ a) : addRow (R ++ [(x, y)]) a = R ++ [(x, y)] ++ [(a, a + 16)] := by
  simp [addRow, h]

/-- The rows of the first granules. -/
def runsTo (P : List Bool) : Nat → List (Int × Int)
  | 0 => []
  | i + 1 => if P.getD i false = true then addRow (runsTo P i) ((i : Int) * 16) else runsTo P i
def runsL (P : List Bool) : List (Int × Int) := runsTo P P.length

theorem addRow_len (R : List (Int × Int)) (a : Int) : (addRow R a).length ≤ R.length + 1 := by
  rcases List.eq_nil_or_concat R with rfl | ⟨S, ⟨x, y⟩, rfl⟩
  · rw [addRow_nil]; simp
  · rw [List.concat_eq_append]
    by_cases h : y = a
    · subst h; rw [addRow_eq]; simp
    · rw [addRow_ne _ _ _ _ h]; simp
theorem runsTo_len (P : List Bool) (i : Nat) : (runsTo P i).length ≤ i := by
  induction i with
  | zero => exact Nat.le_refl _
  | succ i ih =>
    rw [runsTo]
    split
    · exact Nat.le_trans (addRow_len _ _) (Nat.succ_le_succ ih)
    · omega
/-- No row ends beyond. -/
theorem runsTo_last (P : List Bool) (i : Nat) : ∀ r ∈ runsTo P i, r.2 ≤ (i : Int) * 16 := by
  induction i with
  | zero => intro r hr; cases hr
  | succ i ih =>
    rw [runsTo]
    split
    · rcases List.eq_nil_or_concat (runsTo P i) with e | ⟨S, ⟨x, y⟩, e⟩
      · rw [e, addRow_nil]
        intro r hr
        rw [List.mem_singleton] at hr
        subst hr
        simp only
        omega
      · rw [List.concat_eq_append] at e
        rw [e] at ih ⊢
        by_cases h : y = (i : Int) * 16
        · subst h
          rw [addRow_eq]
          intro r hr
          rcases List.mem_append.1 hr with hr | hr
          · have := ih r (List.mem_append_left _ hr); omega
          · rw [List.mem_singleton] at hr; subst hr; simp only; omega
        · rw [addRow_ne _ _ _ _ h]
          intro r hr
          rcases List.mem_append.1 hr with hr | hr
          · have := ih r hr; omega
          · rw [List.mem_singleton] at hr; subst hr; simp only; omega
    · intro r hr
      have := ih r hr
      omega

theorem infoPair : (Try.prog.info? 50).map (fun i => (i.zero, i.size, i.bytes)) = some (some (.agg #[.int .i64 0, .int .i64 0]), 2, 16) := by kernel_rfl

set_option maxRecDepth 100000 in
set_option maxHeartbeats 1600000 in
theorem runs_any (b bW : Nat) (P : List Bool) (w : World) (h : ShM w b bW P) :
    Calls Try.prog 43 #[.pointer (some ⟨b, 0, none⟩)] w fun e w' => ∃ v, e = .returned v ∧ w'.ownsRow w.heap.size 50 2 v (runsL P).length (rowCells (runsL P)) ∧ Below w.heap.size w w' := by
  have H := Lib.hid h
  have hl := h.1
  have gl : (P.length : Int) ≤ 1048576 := by omega
  have L := h.2.1.cell
  generalize nWords P.length = m at *
  have hrl : runsL P = runsTo P P.length := rfl
  generalize runsL P = RL at *
  generalize hg : P.length = g at *
  have Hg := Lib.hid hg
  have Hrl := Lib.hid hrl
  clear hl h hg hrl
  go_enter Try.func43, Try.ntmps43
  go_wp2
  go_loopg [3, 4, 5, 10] g (fun k v i at_ c wr => ∃ j : Nat, j + k = g ∧ c = .int .i64 j ∧ wr.ownsRow w.heap.size 50 2 v (runsTo P j).length (rowCells (runsTo P j)) ∧ Below w.heap.size w wr)
  case atStart => exact ⟨0, by omega, rfl, World.ownsRow_nil _ _ _ _, Below.refl _ _⟩
  case round =>
    clear L
    obtain ⟨j, hjk, rfl, hown, hb⟩ := hrel
    have H2 := Lib.hid (H.out.below hb H.out.lt.1 H.out.lt.2)
    have Hjk := Lib.hid hjk
    have Hb := Lib.hid hb
    have Hsz := hb.size
    clear hjk hb
    rcases Nat.lt_or_ge j g with hlt | hge
    · have i1 : (j : Int) < g := by omega
      have Hlt := Lib.hid hlt
      clear hlt
      go_wp2_with fail
      refine (painted_any b bW P j _ (by omega) H2.out).mono ?_
      rintro e w1 ⟨rfl, rfl⟩
      have hst : runsTo P (j + 1) = if P.getD j false = true then addRow (runsTo P j) ((j : Int) * 16) else runsTo P j := rfl
      cases hv : P.getD j false with
      | false =>
        rw [hv, if_neg Bool.false_ne_true] at hst
        have Hst := Lib.hid hst
        have Hown := Lib.hid hown
        clear hv hst hown
        go_wp2
        go_roundg (gk - 1)
        case measure => have := Hjk.out; have := Hlt.out; omega
        case rel => exact ⟨j + 1, by have := Hjk.out; have := Hlt.out; omega, by go_num, by rw [Hst.out]; exact Hown.out, Hb.out⟩
      | true =>
        rw [hv, if_pos rfl] at hst
        have hlen := runsTo_len P j
        generalize runsTo P j = R at *
        have Hst := Lib.hid hst
        clear hst hv
        rcases List.eq_nil_or_concat R with rfl | ⟨S, ⟨x, y⟩, rfl⟩
        · rw [addRow_nil] at Hst
          obtain ⟨A, c, rfl⟩ := own_form hown
          have Hown := Lib.hid hown
          clear hown
          go_wp2_with (first
            | (at_builtin; refine app (w0 := w) (W := w1.alloc _) w.heap.size rfl _ _ 45 50 (.agg #[.int .i64 0, .int .i64 0]) 2 16 rfl Try.underlying45 infoPair rfl (by decide) (by decide) _ _ _ (rowCells [((j : Int) * 16, (j : Int) * 16 + 16)]) (some ⟨w1.heap.size, 0, none⟩) 1 1 rfl rfl rfl (by intro u hu; simp [rowCells] at hu; rcases hu with rfl | rfl <;> rfl) (Hown.out.alloc _) (RdL.new w1 _ _) (Hb.out.alloc Hsz _) (by first | omega | (simp only [World.size_alloc, World.size_drew, World.size_setCell]; omega) | (simp; done) | (simp; omega)) (by decide) ?_; intro v1 w2 hown1 hb2 _))
          go_roundg (gk - 1)
          case measure => have := Hjk.out; have := Hlt.out; omega
          case rel => exact ⟨j + 1, by have := Hjk.out; have := Hlt.out; omega, by go_num, by rw [Hst.out]; exact hown1, hb2⟩
        · rw [List.concat_eq_append] at *
          rw [List.length_append, List.length_singleton] at hown hlen
          obtain ⟨g0, c, rfl⟩ : ∃ g0 c, u3 = .slice (some ⟨g0, 0, none⟩) (S.length + 1) c := by
            rcases hown.2 with ⟨_, hn⟩ | ⟨g0, c, _, hv, _⟩
            · omega
            · exact ⟨g0, c, hv⟩
          have cL := hown.cells (g := g0) rfl (S.length * 2 + 1) _ (rowCells_last S x y)
          rw [add_plain, Nat.zero_add] at cL
          have fL := hown.frozenAt
          have n1 : ((S.length : Int) + 1) ≤ 1048576 := by omega
          have nle : Hid (S.length + 1 ≤ 1048576) := Lib.hid (by omega)
          have Hown := Lib.hid hown
          clear hown hlen
          generalize hs : S.length = s at *
          have Hs := Lib.hid hs
          clear hs
          by_cases hy : y = (j : Int) * 16
          · subst hy
            rw [addRow_eq] at Hst
            go_upto_region 9 with fail
            go_region
            go_wp2
            go_roundg (gk - 1)
            case measure => have := Hjk.out; have := Hlt.out; omega
            case rel =>
              obtain ⟨s1, s2⟩ := Hown.out.stored (s * 2 + 1) (.int .i64 ((j : Int) * 16 + 16))
              rw [← Hs.out, rowCells_set, Hs.out] at s1
              refine ⟨j + 1, by have := Hjk.out; have := Hlt.out; omega, by go_num, by rw [Hst.out, List.length_append, Hs.out]; exact s1, below_drewN (Hb.out.grown s2 Hsz (by intro k hk; cases hk; exact (Hown.out.lt g0 rfl).1)) _⟩
          · rw [addRow_ne _ _ _ _ hy] at Hst
            have hy' : (y == (j : Int) * 16) = false := by rw [beq_eq_false_iff_ne]; exact hy
            clear hy
            go_wp2_with (first
              | (at_builtin; refine app (w0 := w) (W := w1.alloc _) w.heap.size rfl _ _ 45 50 (.agg #[.int .i64 0, .int .i64 0]) 2 16 rfl Try.underlying45 infoPair rfl (by decide) (by decide) _ _ _ (rowCells [((j : Int) * 16, (j : Int) * 16 + 16)]) (some ⟨w1.heap.size, 0, none⟩) 1 1 rfl rfl rfl (by intro u hu; simp [rowCells] at hu; rcases hu with rfl | rfl <;> rfl) (Hown.out.alloc _) (RdL.new w1 _ _) (Hb.out.alloc Hsz _) (by first | omega | (simp only [World.size_alloc, World.size_drew, World.size_setCell]; omega) | (simp; done) | (simp; omega)) (by have := nle.out; omega) ?_; intro v1 w2 hown1 hb2 _))
            go_roundg (gk - 1)
            case measure => have := Hjk.out; have := Hlt.out; omega
            case rel => exact ⟨j + 1, by have := Hjk.out; have := Hlt.out; omega, by go_num, by rw [Hst.out, rowCells_append _ [(_, _)], List.length_append, List.length_append, Hs.out]; exact hown1, hb2⟩
    · have i1 : ¬ (j : Int) < g := by omega
      have e : j = g := by have := Hjk.out; omega
      subst e
      clear hge
      go_wp2
      go_ret
      rw [Hrl.out]
      exact ⟨_, rfl, hown, Hb.out⟩
end Go.Proofs.Ytjimkkkiilcpoaa

/- The reference's rows, and whether two are the same. -/
namespace Go.Proofs.Ytjimkkkiilcpoaa
open Go.RowKit

theorem runsTo_stop (P : List Bool) (i : Nat) (h : P.getD i false = false) : runsTo P (i + 1) = runsTo P i := by
  rw [runsTo, h, if_neg Bool.false_ne_true]
/-- A run: from a granule behind none that is painted up to another one. -/
theorem runsTo_run (P : List Bool) (j : Nat) (hj : j = 0 ∨ P.getD (j - 1) false = false) (n : Nat) (h : ∀ m, j ≤ m → m < j + (n + 1) → P.getD m false = true) :
    runsTo P (j + (n + 1)) = runsTo P j ++ [((j : Int) * 16, ((j + (n + 1) : Nat) : Int) * 16)] := by
  induction n with
  | zero =>
    rw [show j + (0 + 1) = j + 1 from rfl, runsTo, h j (Nat.le_refl _) (by omega), if_pos rfl]
    have e : (j : Int) * 16 + 16 = ((j + 1 : Nat) : Int) * 16 := by omega
    rw [← e]
    rcases List.eq_nil_or_concat (runsTo P j) with e | ⟨S, ⟨x, y⟩, e⟩
    · rw [e]; rfl
    · rw [List.concat_eq_append] at e
      have hy : y ≠ (j : Int) * 16 := by
        rcases hj with rfl | hj
        · rw [runsTo] at e; simp at e
        · rcases Nat.eq_zero_or_pos j with rfl | hp
          · rw [runsTo] at e; simp at e
          · obtain ⟨i, rfl⟩ : ∃ i, j = i + 1 := ⟨j - 1, by omega⟩
            rw [runsTo_stop P i (by simpa using hj)] at e
            have := runsTo_last P i (x, y) (by rw [e]; simp)
            simp only at this
            omega
      rw [e, addRow_ne _ _ _ _ hy]
  | succ n ih =>
    have ih := ih fun m h1 h2 => h m h1 (by omega)
    rw [show j + (n + 1 + 1) = (j + (n + 1)) + 1 by omega, runsTo, h (j + (n + 1)) (by omega) (by omega), if_pos rfl, ih, addRow_eq]
    have e : ((j + (n + 1) : Nat) : Int) * 16 + 16 = ((j + (n + 1) + 1 : Nat) : Int) * 16 := by omega
    rw [e]

set_option maxRecDepth 100000 in
set_option maxHeartbeats 1600000 in
theorem ref_runs_any (b bP : Nat) (P : List Bool) (w : World) (h : RfM w b bP P) :
    Calls Try.prog 44 #[.pointer (some ⟨b, 0, none⟩)] w fun e w' => ∃ v, e = .returned v ∧ w'.ownsRow w.heap.size 50 2 v (runsL P).length (rowCells (runsL P)) ∧ Below w.heap.size w w' := by
  have H := Lib.hid h
  have hl := h.1
  have gl : (P.length : Int) ≤ 1048576 := by omega
  have hrl : runsL P = runsTo P P.length := rfl
  generalize runsL P = RL at *
  generalize hg : P.length = g at *
  have Hg := Lib.hid hg
  have Hrl := Lib.hid hrl
  clear hl h hg hrl
  go_enter Try.func44, Try.ntmps44
  go_wp2
  go_loopg [3, 4, 5] (g + 1) (fun k v i c wr => ∃ j : Nat, j + k = g + 1 ∧ i = .int .i64 j ∧ (j = 0 ∨ P.getD (j - 1) false = false) ∧ wr.ownsRow w.heap.size 50 2 v (runsTo P j).length (rowCells (runsTo P j)) ∧ Below w.heap.size w wr)
  case atStart => exact ⟨0, by omega, rfl, .inl rfl, World.ownsRow_nil _ _ _ _, Below.refl _ _⟩
  case round =>
    obtain ⟨j, hjk, rfl, hsep, hown, hb⟩ := hrel
    have h2 := H.out.below hb H.out.lt.1 H.out.lt.2
    have L := h2.2.1.cell
    rw [Hg.out] at L
    have H2 := Lib.hid h2
    have Hjk := Lib.hid hjk
    have Hsep := Lib.hid hsep
    have Hb := Lib.hid hb
    have Hown := Lib.hid hown
    have Hsz := hb.size
    clear hjk hb hsep hown h2
    rcases Nat.lt_or_ge j g with hlt | hge
    · have i1 : (j : Int) < g := by omega
      have c := H2.out.2.2.cell j
      rw [bools_at _ _ (by rw [Hg.out]; exact hlt)] at c
      have Hlt := Lib.hid hlt
      clear hlt
      cases hv : P.getD j false with
      | false =>
        rw [hv] at c
        have HV := Lib.hid hv
        clear hv
        go_wp2
        go_roundg (gk - 1)
        case measure => have := Hjk.out; have := Hlt.out; omega
        case rel => exact ⟨j + 1, by have := Hjk.out; have := Hlt.out; omega, by go_num, .inr HV.out, by rw [runsTo_stop P j HV.out]; exact Hown.out, Hb.out⟩
      | true =>
        rw [hv] at c
        have HV := Lib.hid hv
        clear hv
        go_wp2
        go_loopg [5] (g - j) (fun k i w2 => ∃ d : Nat, j + d + k = g ∧ i = .int .i64 ((j + d : Nat) : Int) ∧ (∀ m, j ≤ m → m < j + d → P.getD m false = true) ∧ w2 = wr)
        case atStart => exact ⟨0, by have := Hlt.out; omega, rfl, fun m h1 h2 => by omega, rfl⟩
        case round =>
          clear c
          obtain ⟨d, hdk, rfl, hall, rfl⟩ := hrel
          have Hdk := Lib.hid hdk
          have Hall := Lib.hid hall
          clear hdk hall
          have Hlen : Hid ((runsTo P j).length ≤ 1048576) := Lib.hid (by have := runsTo_len P j; have := Hlt.out; omega)
          have key : P.getD (j + d) false = false → Hid (P.getD (j + d) false = false) ∧ Hid (runsTo P (j + d + 1) = runsTo P j ++ [(16 * (j : Int), 16 * ((j + d : Nat) : Int))]) := by
            intro hE
            refine ⟨Lib.hid hE, Lib.hid ?_⟩
            rw [runsTo_stop P _ hE]
            cases d with
            | zero => rw [Nat.add_zero, HV.out] at hE; cases hE
            | succ n => rw [runsTo_run P j Hsep.out n Hall.out, Int.mul_comm (j : Int) 16, Int.mul_comm ((j + (n + 1) : Nat) : Int) 16]
          have Hkey := Lib.hid key
          clear key
          rcases Nat.lt_or_ge (j + d) g with hlt2 | hge2
          · have i2 : ((j + d : Nat) : Int) < g := by omega
            have c := H2.out.2.2.cell (j + d)
            rw [bools_at _ _ (by rw [Hg.out]; exact hlt2)] at c
            have Hlt2 := Lib.hid hlt2
            clear hlt2
            cases hv : P.getD (j + d) false with
            | true =>
              rw [hv] at c
              have HV2 := Lib.hid hv
              clear hv
              generalize hq : j + d = q at *
              have Hq := Lib.hid hq
              clear hq
              go_wp2
              go_roundg (gk - 1)
              case measure => have := Hdk.out; have := Hlt2.out; omega
              case rel =>
                refine ⟨d + 1, by have := Hdk.out; have := Hlt2.out; have := Hq.out; omega, by rw [show j + (d + 1) = q + 1 by have := Hq.out; omega]; go_num, fun m h1 h2 => ?_, rfl⟩
                rcases Nat.lt_or_ge m q with h3 | h3
                · exact Hall.out m h1 h3
                · rw [show m = q by have := Hq.out; omega]; exact HV2.out
            | false =>
              obtain ⟨HE, HR⟩ := Hkey.out hv
              rw [hv] at c
              clear hv
              generalize hq : j + d = q at *
              have Hq := Lib.hid hq
              clear hq
              go_wp2_with (first
                | (at_builtin; refine app (w0 := w) (W := wr.alloc _) w.heap.size rfl _ _ 45 50 (.agg #[.int .i64 0, .int .i64 0]) 2 16 rfl Try.underlying45 infoPair rfl (by decide) (by decide) _ _ _ (rowCells [(16 * (j : Int), 16 * (q : Int))]) (some ⟨wr.heap.size, 0, none⟩) 1 1 rfl rfl rfl (by intro u hu; simp [rowCells] at hu; rcases hu with rfl | rfl <;> rfl) (Hown.out.alloc _) (RdL.new wr _ _) (Hb.out.alloc Hsz _) (by first | omega | (simp only [World.size_alloc, World.size_drew, World.size_setCell]; omega) | (simp; done) | (simp; omega)) (by have := Hlen.out; omega) ?_; intro v1 w3 hown1 hb2 _))
              go_roundg (g - q)
              case measure => have := Hjk.out; have := Hdk.out; have := Hlt.out; have := Hq.out; omega
              case rel => exact ⟨q + 1, by have := Hdk.out; have := Hq.out; omega, by go_num, .inr HE.out, by rw [HR.out]; rw [← rowCells_append] at hown1; rw [List.length_append]; exact hown1, hb2⟩
          · have i2 : ¬ ((j + d : Nat) : Int) < g := by omega
            have i3 : ((j + d : Nat) : Int) ≤ 1048576 := by have := Hdk.out; omega
            have hv : P.getD (j + d) false = false := by rw [List.getD_eq_getElem?_getD, List.getElem?_eq_none (by rw [Hg.out]; exact hge2)]; rfl
            obtain ⟨HE, HR⟩ := Hkey.out hv
            clear hge2 hv
            generalize hq : j + d = q at *
            have Hq := Lib.hid hq
            clear hq
            go_wp2_with (first
              | (at_builtin; refine app (w0 := w) (W := wr.alloc _) w.heap.size rfl _ _ 45 50 (.agg #[.int .i64 0, .int .i64 0]) 2 16 rfl Try.underlying45 infoPair rfl (by decide) (by decide) _ _ _ (rowCells [(16 * (j : Int), 16 * (q : Int))]) (some ⟨wr.heap.size, 0, none⟩) 1 1 rfl rfl rfl (by intro u hu; simp [rowCells] at hu; rcases hu with rfl | rfl <;> rfl) (Hown.out.alloc _) (RdL.new wr _ _) (Hb.out.alloc Hsz _) (by first | omega | (simp only [World.size_alloc, World.size_drew, World.size_setCell]; omega) | (simp; done) | (simp; omega)) (by have := Hlen.out; omega) ?_; intro v1 w3 hown1 hb2 _))
            go_roundg (g - q)
            case measure => have := Hjk.out; have := Hdk.out; have := Hlt.out; have := Hq.out; omega
            case rel => exact ⟨q + 1, by have := Hdk.out; have := Hq.out; omega, by go_num, .inr HE.out, by rw [HR.out]; rw [← rowCells_append] at hown1; rw [List.length_append]; exact hown1, hb2⟩
    · have i1 : ¬ (j : Int) < g := by omega
      have e : runsTo P j = runsTo P g := by
        have := Hjk.out
        rcases Nat.lt_or_ge g j with h1 | h1
        · have : j = g + 1 := by omega
          subst this
          exact runsTo_stop P g (by rw [List.getD_eq_getElem?_getD, List.getElem?_eq_none (by rw [Hg.out]; exact Nat.le_refl _)]; rfl)
        · rw [show j = g by omega]
      have He := Lib.hid e
      clear hge e
      go_wp2
      go_ret
      refine ⟨_, rfl, ?_, Hb.out⟩
      rw [Hrl.out, ← He.out]
      exact Hown.out
end Go.Proofs.Ytjimkkkiilcpoaa

/- Whether two slices of rows are the same; the live question. -/
namespace Go.Proofs.Ytjimkkkiilcpoaa
open Go.RowKit

/-- A slice of rows. -/
def RowR (w : World) (v : Value) (R : List (Int × Int)) : Prop := ∃ A c, v = .slice A R.length c ∧ RdL w A (rowCells R) ∧ (R = [] ∨ ∃ g, A = some ⟨g, 0, none⟩) 
theorem RowR.own {w : World} {base : Nat} {e : TypeId} {v : Value} {R : List (Int × Int)} (h : w.ownsRow base e 2 v R.length (rowCells R)) : RowR w v R := by
  obtain ⟨A, c, rfl⟩ := own_form h
  refine ⟨A, c, rfl, RdL.own h, ?_⟩
  rcases h.2 with ⟨_, h0⟩ | ⟨g, cap, cur, hv, _⟩
  · exact .inl (List.eq_nil_of_length_eq_zero h0)
  · cases hv; exact .inr ⟨g, rfl⟩
theorem RowR.below {w w1 : World} {v : Value} {R : List (Int × Int)} (h : RowR w v R) (hb : Below w.heap.size w w1) : RowR w1 v R := by
  obtain ⟨A, c, e, h1, h2⟩ := h
  exact ⟨A, c, e, h1.below hb, h2⟩
theorem rowCells_at (R : List (Int × Int)) (j : Nat) (r : Int × Int) (h : R[j]? = some r) : (rowCells R)[j * 2]? = some (.int .i64 r.1) ∧ (rowCells R)[j * 2 + 1]? = some (.int .i64 r.2) := by
  induction R generalizing j with
  | nil => simp at h
  | cons a R ih =>
    cases j with
    | zero => simp at h; subst h; exact ⟨rfl, rfl⟩
    | succ j =>
      have := ih j (by simpa using h)
      rw [show (j + 1) * 2 = j * 2 + 1 + 1 by omega]
      simpa [rowCells] using this
theorem RowR.at {w : World} {g n c : Nat} {R : List (Int × Int)} (h : RowR w (.slice (some ⟨g, 0, none⟩) n c) R) (j : Nat) (r : Int × Int) (hj : R[j]? = some r) :
    w.cell? ⟨g, j * 2, none⟩ = some (.int .i64 r.1) ∧ w.cell? ⟨g, j * 2 + 1, none⟩ = some (.int .i64 r.2) := by
  obtain ⟨A, c', e, h1, h2⟩ := h
  cases e
  obtain ⟨k1, k2⟩ := rowCells_at R j r hj
  obtain ⟨_, e1, c1⟩ := h1 _ _ k1
  obtain ⟨_, e2, c2⟩ := h1 _ _ k2
  cases e1
  cases e2
  rw [add_plain, Nat.zero_add] at c1 c2
  exact ⟨c1, c2⟩

set_option maxRecDepth 100000 in
theorem run_eq_pair (x y x' y' : Int) (w : World) : (Op.equalIn 10000 50 (.agg #[.int .i64 x, .int .i64 y]) (.agg #[.int .i64 x', .int .i64 y'])).run Try.prog w = .ok (decide (x = x' ∧ y = y')) w := by
  have u3 := Try.underlying3
  have a3 := Try.isAgg3
  have z3 := Try.sizeOf3
  rw [show (10000 : Nat) = 9999 + 1 from rfl, Op.equalIn]
  simp only [Sem.run_bind, run_underlying Try.underlying50, Result.andThen_ok]
  simp only [Std.Legacy.Range.forIn_eq_forIn_range', Std.Legacy.Range.size, Nat.sub_zero, Nat.add_sub_cancel, Nat.div_one, List.range'_succ, List.range'_zero, List.forIn_cons, List.forIn_nil]
  go_simp
  by_cases h1 : x = x' <;> by_cases h2 : y = y' <;> simp [h1, h2]

set_option maxRecDepth 100000 in
set_option maxHeartbeats 1600000 in
theorem same_rows (v1 v2 : Value) (R S : List (Int × Int)) (w : World) (h1 : RowR w v1 R) (h2 : RowR w v2 S) (hR : R.length ≤ 1048576) :
    Calls Try.prog 42 #[v1, v2] w fun e w' => e = .returned (.bool (decide (R = S))) ∧ ∃ n, w' = w.drewN n := by
  obtain ⟨A1, c1, rfl, k1, a1⟩ := h1
  obtain ⟨A2, c2, rfl, k2, a2⟩ := h2
  have H1 : Hid (RowR w (.slice A1 R.length c1) R) := Lib.hid ⟨A1, c1, rfl, k1, a1⟩
  have H2 : Hid (RowR w (.slice A2 S.length c2) S) := Lib.hid ⟨A2, c2, rfl, k2, a2⟩
  clear k1 k2
  by_cases hl : R.length = S.length
  · have Ha1 := Lib.hid a1
    have Ha2 := Lib.hid a2
    have HL := Lib.hid hl
    clear a1 a2
    rw [← hl] at H2 ⊢
    clear hl
    generalize hn : R.length = n at *
    have Hn := Lib.hid hn
    have hR' : (n : Int) ≤ 1048576 := by omega
    clear hn hR
    go_enter Try.func42, Try.ntmps42
    go_wp2
    go_loopg [5] n (fun k i wr => ∃ j : Nat, j + k = n ∧ i = .int .i64 j ∧ R.take j = S.take j ∧ ∃ d, wr = w.drewN d)
    case atStart => exact ⟨0, by omega, rfl, by rw [List.take_zero, List.take_zero], 0, rfl⟩
    case round =>
      obtain ⟨j, hjk, rfl, ht, d, rfl⟩ := hrel
      have Hjk := Lib.hid hjk
      have Ht := Lib.hid ht
      clear hjk ht
      rcases Nat.lt_or_ge j n with hlt | hge
      · have i1 : (j : Int) < n := by omega
        obtain ⟨⟨r1, r2⟩, hr⟩ : ∃ r, R[j]? = some r := ⟨_, List.getElem?_eq_getElem (show j < R.length by rw [Hn.out]; exact hlt)⟩
        obtain ⟨⟨s1, s2⟩, hs⟩ : ∃ r, S[j]? = some r := ⟨_, List.getElem?_eq_getElem (show j < S.length by rw [← HL.out]; exact hlt)⟩
        obtain ⟨g1, rfl⟩ : ∃ g, A1 = some ⟨g, 0, none⟩ := by
          rcases Ha1.out with h | h
          · rw [h] at Hn; have := Hn.out; simp at this; omega
          · exact h
        obtain ⟨g2, rfl⟩ : ∃ g, A2 = some ⟨g, 0, none⟩ := by
          rcases Ha2.out with h | h
          · have := HL.out; rw [h] at this; simp at this; omega
          · exact h
        obtain ⟨c10, c11⟩ := H1.out.at j _ hr
        obtain ⟨c20, c21⟩ := H2.out.at j _ hs
        dsimp only at c10 c11 c20 c21
        have Hr := Lib.hid hr
        have Hs := Lib.hid hs
        have Hlt := Lib.hid hlt
        clear hlt hr hs
        go_upto_region 6 with fail
        have hq := fun w => run_eq_pair r1 r2 s1 s2 w
        by_cases he : r1 = s1 ∧ r2 = s2
        · rw [decide_eq_true he] at hq
          obtain ⟨rfl, rfl⟩ := he
          go_quiet (fail)
          go_wp2
          go_roundg (gk - 1)
          case measure => have := Hjk.out; have := Hlt.out; omega
          case rel =>
            refine ⟨j + 1, by have := Hjk.out; have := Hlt.out; omega, by go_num, ?_, _, rfl⟩
            rw [List.take_add_one, List.take_add_one, Ht.out, Hr.out, Hs.out]
        · rw [decide_eq_false he] at hq
          have hne : ¬ R = S := by
            intro e
            have h1 := Hr.out
            rw [e, Hs.out] at h1
            cases h1
            exact he ⟨rfl, rfl⟩
          have Hne := Lib.hid hne
          clear he hne
          go_quiet (fail)
          go_wp2
          go_ret
          exact ⟨by rw [decide_eq_false Hne.out]; rfl, _, World.drewN_drewN ..⟩
      · have i1 : ¬ (j : Int) < n := by omega
        have e : R = S := by
          rw [List.take_of_length_le (by rw [Hn.out]; exact hge), List.take_of_length_le (by rw [← HL.out]; exact hge)] at Ht
          exact Ht.out
        have He := Lib.hid e
        clear hge e
        go_wp2
        go_ret
        exact ⟨by rw [decide_eq_true He.out]; rfl, d, rfl⟩
  · have e : ¬ R = S := fun e => hl (by rw [e])
    rw [decide_eq_false e]
    have hl' : ¬ (R.length : Int) = S.length := by omega
    clear e hl H1 H2 a1 a2
    generalize R.length = n at *
    generalize S.length = m at *
    go_enter Try.func42, Try.ntmps42
    go_wp2
    go_ret
    exact ⟨rfl, 0, rfl⟩
end Go.Proofs.Ytjimkkkiilcpoaa

/- The live question. -/
namespace Go.Proofs.Ytjimkkkiilcpoaa
open Go.RowKit

def hP0 : List Bool := List.replicate 70 false
def hP1 : List Bool := paintR hP0 1 3 true
def hP2 : List Bool := paintR hP1 63 66 true
def hP3 : List Bool := paintR hP2 64 65 false
theorem hP_facts : manyL hP3 = 4 ∧ isB' hP3 47 = true ∧ isB' hP3 48 = false ∧ isB' hP3 (-1) = false ∧ isB' hP3 1099511627776 = false ∧ hitsB hP3 true 31 99 = true ∧ hitsB hP3 false 31 0 = false ∧ runsL hP3 = [(16, 48), (1008, 1024), (1040, 1056)] := by decide +kernel
theorem hP_len : hP0.length = 70 ∧ hP1.length = 70 ∧ hP2.length = 70 ∧ hP3.length = 70 := by decide +kernel

theorem ShM.grown {w w1 : World} {b bW : Nat} {P : List Bool} {row : Option Nat} (h : ShM w b bW P) (hg : w.grownBy w1 row) (h1 : some b ≠ row) (h2 : some bW ≠ row) : ShM w1 b bW P := by
  obtain ⟨hg', hB, xs, hx, hW⟩ := h
  exact ⟨hg', hB.grown hg h1, xs, hx, hW.grown hg h2⟩

set_option maxRecDepth 100000 in
set_option maxHeartbeats 3200000 in
theorem head8_true (w : World) : Calls Try.prog 31 #[] w fun e w' => e = .returned (.bool true) ∧ Below w.heap.size w w' := by
  go_enter Try.func31, Try.ntmps31
  go_wp2_with fail
  refine (new_any 70 w (by decide) (by decide)).mono ?_
  rintro e w1 ⟨b, bW, rfl, m0, gW, gb, hne, B1⟩
  have m0 : ShM w1 b bW hP0 := m0
  go_wp2_with fail
  refine (new_none 0 w1 (by decide)).mono ?_
  rintro e w2 ⟨rfl, rfl⟩
  go_wp2_with fail
  refine (new_none 1048577 _ (by decide)).mono ?_
  rintro e w3 ⟨rfl, rfl⟩
  go_wp2_with fail
  refine (paint_yes b bW hP0 16 48 true _ ⟨by decide, by decide⟩ ⟨by decide, by decide⟩ m0 hne.symm (by decide +kernel)).mono ?_
  rintro e w4 ⟨rfl, m1, G1⟩
  have m1 : ShM w4 b bW hP1 := m1
  have B2 := B1.grown G1 B1.size (by intro k hk; cases hk; exact gW)
  clear m0 B1 G1
  go_wp2_with fail
  refine (paint_yes b bW hP1 1008 1056 true _ ⟨by decide, by decide⟩ ⟨by decide, by decide⟩ m1 hne.symm (by decide +kernel)).mono ?_
  rintro e w5 ⟨rfl, m2, G2⟩
  have m2 : ShM w5 b bW hP2 := m2
  have B3 := B2.grown G2 B2.size (by intro k hk; cases hk; exact gW)
  clear m1 B2 G2
  go_wp2_with fail
  refine (paint_no b bW hP2 8 48 true _ ⟨by decide, by decide⟩ ⟨by decide, by decide⟩ m2 (by decide +kernel)).mono ?_
  rintro e w6 ⟨rfl, rfl⟩
  go_wp2_with fail
  refine (paint_no b bW hP2 1104 1136 true _ ⟨by decide, by decide⟩ ⟨by decide, by decide⟩ m2 (by decide +kernel)).mono ?_
  rintro e w7 ⟨rfl, rfl⟩
  go_wp2_with fail
  refine (paint_yes b bW hP2 1024 1040 false _ ⟨by decide, by decide⟩ ⟨by decide, by decide⟩ m2 hne.symm (by decide +kernel)).mono ?_
  rintro e w8 ⟨rfl, m5, G5⟩
  have m5 : ShM w8 b bW hP3 := m5
  have B6 := B3.grown G5 B3.size (by intro k hk; cases hk; exact gW)
  clear m2 B3 G5
  obtain ⟨f1, f2, f3, f4, f5, f6, f7, f8⟩ := hP_facts
  go_wp2_with fail
  refine (many_any b bW hP3 _ m5).mono ?_
  rintro e w9 ⟨rfl, rfl⟩
  rw [f1]
  go_wp2_with fail
  refine (is_any b bW hP3 47 _ ⟨by decide, by decide⟩ m5).mono ?_
  rintro e w10 ⟨rfl, rfl⟩
  rw [f2]
  go_wp2_with fail
  refine (is_any b bW hP3 48 _ ⟨by decide, by decide⟩ m5).mono ?_
  rintro e w11 ⟨rfl, rfl⟩
  rw [f3]
  go_wp2_with fail
  refine (is_any b bW hP3 (-1) _ ⟨by decide, by decide⟩ m5).mono ?_
  rintro e w12 ⟨rfl, rfl⟩
  rw [f4]
  go_wp2_with fail
  refine (is_any b bW hP3 1099511627776 _ ⟨by decide, by decide⟩ m5).mono ?_
  rintro e w13 ⟨rfl, rfl⟩
  rw [f5]
  go_wp2_with fail
  refine (hits_any b bW hP3 true 31 99 0 0 0 _ ⟨by decide, by decide⟩ ⟨by decide, by decide⟩ m5).mono ?_
  rintro e w20 ⟨rfl, h20⟩
  rw [f6]
  have B20 := below_then B6 B6.size h20
  have m20 := m5.below h20 m5.lt.1 m5.lt.2
  clear h20 B6 m5
  go_wp2_with fail
  refine (hits_any b bW hP3 false 31 0 0 0 0 _ ⟨by decide, by decide⟩ ⟨by decide, by decide⟩ m20).mono ?_
  rintro e w21 ⟨rfl, h21⟩
  rw [f7]
  have B21 := below_then B20 B20.size h21
  have m21 := m20.below h21 m20.lt.1 m20.lt.2
  clear h21 B20 m20
  go_wp2_with fail
  refine (runs_any b bW hP3 _ m21).mono ?_
  rintro e w22 ⟨v, rfl, r22, h22⟩
  have B22 := below_then B21 B21.size h22
  rw [f8] at r22
  have r22 := RowR.own r22
  clear h22 B21 m21
  go_wp2_with fail
  have hA : Below w22.heap.size w22 (w22.alloc (.cells (rowCells [(16, 48), (1008, 1024), (1040, 1056)]).toArray 50)) := by go_grown
  have B23 := below_then B22 B22.size hA
  refine (same_rows v _ [(16, 48), (1008, 1024), (1040, 1056)] [(16, 48), (1008, 1024), (1040, 1056)] _ (r22.below hA) ⟨some ⟨w22.heap.size, 0, none⟩, 3, rfl, RdL.new w22 (rowCells [(16, 48), (1008, 1024), (1040, 1056)]).toArray _, .inr ⟨_, rfl⟩⟩ (by decide)).mono ?_
  rintro e w24 ⟨rfl, n, rfl⟩
  rw [decide_eq_true rfl]
  have B24 := below_drewN B23 n
  clear hA B22 B23 r22
  go_wp2
  go_ret
  exact ⟨rfl, B24⟩
end Go.Proofs.Ytjimkkkiilcpoaa
