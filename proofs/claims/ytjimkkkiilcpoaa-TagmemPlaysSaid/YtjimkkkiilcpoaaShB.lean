/- Maps anew, and painting. -/
import Derived.Test.YtjimkkkiilcpoaaShA
set_option linter.unusedVariables false
set_option linter.unusedSimpArgs false
namespace Go.Proofs.Ytjimkkkiilcpoaa
open Go.RowKit

theorem wordsAre_new (n : Nat) : wordsAre (List.replicate (nWords n) 0) (List.replicate n false) := by
  refine ⟨by simp, fun k x hx => ?_⟩
  have : x = 0 := by
    rw [List.getElem?_replicate] at hx
    split at hx
    · exact (Option.some.inj hx).symm
    · cases hx
  subst this
  refine ⟨by omega, fun j hj => ?_⟩
  rw [Nat.zero_testBit, List.getD_eq_getElem?_getD, List.getElem?_replicate]
  split <;> rfl

theorem u64s_new (m : Nat) : u64s (List.replicate m 0) = madeCells #[.int .u64 0] m := by
  apply Array.ext'
  rw [toList_madeCells_one, u64s]
  simp

theorem infoU64 : (Try.prog.info? 32).map (fun i => (i.zero, i.size, i.bytes)) = some (some (.int .u64 0), 1, 8) := by kernel_rfl

set_option maxRecDepth 100000 in
set_option maxHeartbeats 800000 in
theorem new_none (g : Int) (w : World) (hg : ¬ (1 ≤ g ∧ g ≤ 1048576)) :
    Calls Try.prog 32 #[.int .i64 g] w fun e w' => e = .returned (.pointer none) ∧ w' = w := by
  by_cases h1 : g < 1
  · clear hg
    go_enter Try.func32, Try.ntmps32
    go_wp2
    go_ret
    exact ⟨rfl, rfl⟩
  · have h2 : 1048576 < g := by omega
    clear hg
    go_enter Try.func32, Try.ntmps32
    go_wp2
    go_ret
    exact ⟨rfl, rfl⟩

set_option maxRecDepth 100000 in
set_option maxHeartbeats 800000 in
theorem new_any (n : Nat) (w : World) (h1 : (1 : Int) ≤ n) (h2 : (n : Int) ≤ 1048576) :
    Calls Try.prog 32 #[.int .i64 n] w fun e w' => ∃ b bW, e = .returned (.pointer (some ⟨b, 0, none⟩)) ∧ ShM w' b bW (List.replicate n false) ∧ w.heap.size ≤ bW ∧ w.heap.size ≤ b ∧ bW ≠ b ∧ Below w.heap.size w w' := by
  have hn : ((n : Int) + 64 - 1) / 64 = (nWords n : Int) := by unfold nWords; omega
  have hn' : ((n : Int) + 63) / 64 = (nWords n : Int) := by unfold nWords; omega
  have hN : nWords n ≤ 16384 := by unfold nWords; omega
  have hmk := run_make_row' (P := Try.prog) 99 32 (.int .u64 0) 8 Try.underlying99 infoU64 rfl .i64 .i64 (nWords n) (by omega) (by omega)
  generalize hm : nWords n = m at *
  go_enter Try.func32, Try.ntmps32
  go_wp2
  go_ret
  refine ⟨w.heap.size + 1, w.heap.size, rfl, ⟨by rw [List.length_replicate]; omega, ?_, List.replicate m 0, by rw [← hm]; exact wordsAre_new n, ?_⟩, Nat.le_refl _, Nat.le_succ _, by omega, by go_grown⟩
  · rw [List.length_replicate, hm]
    have := Blk.new (w.alloc (.cells (madeCells #[.int .u64 0] m) 32)) #[.slice (some ⟨w.heap.size, 0, none⟩) m m, .int .i64 n] 101
    rw [World.size_alloc] at this
    exact this
  · rw [u64s_new]
    exact (Blk.new w _ _).alloc _

/-- The document's map: its block, its answers' block. -/
def bools (P : List Bool) : Array Value := (P.map Value.bool).toArray
def RfM (w : World) (b bP : Nat) (P : List Bool) : Prop :=
  P.length ≤ 1048576 ∧ Blk w b #[.slice (some ⟨bP, 0, none⟩) P.length P.length] 104 ∧ Blk w bP (bools P) 4
theorem RfM.below {w w1 : World} {b bP B : Nat} {P : List Bool} (h : RfM w b bP P) (hb : Below B w w1) (h1 : b < B) (h2 : bP < B) : RfM w1 b bP P :=
  ⟨h.1, h.2.1.below hb h1, h.2.2.below hb h2⟩
theorem RfM.lt {w : World} {b bP : Nat} {P : List Bool} (h : RfM w b bP P) : b < w.heap.size ∧ bP < w.heap.size := ⟨h.2.1.lt, h.2.2.lt⟩
theorem bools_at (P : List Bool) (k : Nat) (hk : k < P.length) : (bools P)[k]? = some (.bool (P.getD k false)) := by
  rw [bools, List.getElem?_toArray, List.getElem?_map, List.getD_eq_getElem?_getD, List.getElem?_eq_getElem hk]
  rfl

theorem infoBool : (Try.prog.info? 4).map (fun i => (i.zero, i.size, i.bytes)) = some (some (.bool false), 1, 1) := by kernel_rfl

set_option maxRecDepth 100000 in
set_option maxHeartbeats 800000 in
theorem ref_new_none (g : Int) (w : World) (hg : ¬ (1 ≤ g ∧ g ≤ 1048576)) :
    Calls Try.prog 33 #[.int .i64 g] w fun e w' => e = .returned (.pointer none) ∧ w' = w := by
  by_cases h1 : g < 1
  · clear hg
    go_enter Try.func33, Try.ntmps33
    go_wp2
    go_ret
    exact ⟨rfl, rfl⟩
  · have h2 : 1048576 < g := by omega
    clear hg
    go_enter Try.func33, Try.ntmps33
    go_wp2
    go_ret
    exact ⟨rfl, rfl⟩

theorem bools_new (n : Nat) : bools (List.replicate n false) = madeCells #[.bool false] n := by
  apply Array.ext'
  rw [toList_madeCells_one, bools]
  simp

set_option maxRecDepth 100000 in
set_option maxHeartbeats 800000 in
theorem ref_new_any (n : Nat) (w : World) (h1 : (1 : Int) ≤ n) (h2 : (n : Int) ≤ 1048576) :
    Calls Try.prog 33 #[.int .i64 n] w fun e w' => ∃ b bP, e = .returned (.pointer (some ⟨b, 0, none⟩)) ∧ RfM w' b bP (List.replicate n false) ∧ w.heap.size ≤ bP ∧ w.heap.size ≤ b ∧ bP ≠ b ∧ Below w.heap.size w w' := by
  have hmk := run_make_row' (P := Try.prog) 102 4 (.bool false) 1 Try.underlying102 infoBool rfl .i64 .i64 n (by omega) (by omega)
  go_enter Try.func33, Try.ntmps33
  go_wp2
  go_ret
  refine ⟨w.heap.size + 1, w.heap.size, rfl, ⟨by rw [List.length_replicate]; omega, ?_, ?_⟩, Nat.le_refl _, Nat.le_succ _, by omega, by go_grown⟩
  · rw [List.length_replicate]
    have := Blk.new (w.alloc (.cells (madeCells #[.bool false] n) 4)) #[.slice (some ⟨w.heap.size, 0, none⟩) n n] 104
    rw [World.size_alloc] at this
    exact this
  · rw [bools_new]
    exact (Blk.new w _ _).alloc _

set_option maxRecDepth 100000 in
set_option maxHeartbeats 800000 in
theorem ref_is_any (b bP : Nat) (P : List Bool) (a : Int) (w : World) (ha : inI a) (h : RfM w b bP P) :
    Calls Try.prog 39 #[.pointer (some ⟨b, 0, none⟩), .int .i64 a] w fun e w' => e = .returned (.bool (isB' P a)) ∧ w' = w := by
  obtain ⟨a0, a1⟩ := ha
  obtain ⟨hg, hB, hW⟩ := h
  have L := hB.cell
  have LW := hW.cell
  clear hB hW
  unfold isB'
  by_cases h0 : 0 ≤ a
  · obtain ⟨n, rfl⟩ := Int.eq_ofNat_of_zero_le h0
    rw [decide_eq_true h0, Bool.true_and, show ((n : Int) / 16).toNat = n / 16 by omega]
    rcases Nat.lt_or_ge (n / 16) P.length with hlt | hge
    · have c := LW (n / 16)
      rw [bools_at P _ hlt] at c
      have h1 : (n : Int) / 16 < (P.length : Int) := by omega
      generalize P.getD (n / 16) false = v at *
      generalize P.length = g at *
      clear LW
      go_enter Try.func39, Try.ntmps39
      go_wp2
      go_ret
      exact ⟨rfl, rfl⟩
    · have h1 : ¬ (n : Int) / 16 < (P.length : Int) := by omega
      have e : P.getD (n / 16) false = false := by rw [List.getD_eq_getElem?_getD, List.getElem?_eq_none hge]; rfl
      rw [e]
      clear LW e hge
      generalize P.length = g at *
      go_enter Try.func39, Try.ntmps39
      go_wp2
      go_ret
      exact ⟨rfl, rfl⟩
  · rw [decide_eq_false h0, Bool.false_and]
    clear LW L
    go_enter Try.func39, Try.ntmps39
    go_wp2
    go_ret
    exact ⟨rfl, rfl⟩

set_option maxRecDepth 100000 in
set_option maxHeartbeats 800000 in
theorem ref_hits_any (b bP : Nat) (P : List Bool) (t : Bool) (bb p a q y : Int) (w : World) (hb : inI bb) (_ : inI p) (h : RfM w b bP P) :
    Calls Try.prog 41 #[.pointer (some ⟨b, 0, none⟩), .agg #[.bool (t), .int .i64 (bb), .int .i64 (p), .int .i64 (a), .int .i64 (q), .int .i64 (y)]] w fun e w' => e = .returned (.bool (hitsB P t bb p)) ∧ Below w.heap.size w w' := by
  have hb0 : Below w.heap.size w (w.alloc (.cells #[.bool (t), .int .i64 (bb), .int .i64 (p), .int .i64 (a), .int .i64 (q), .int .i64 (y)] 23)) := by go_grown
  have h1 := h.below hb0 h.lt.1 h.lt.2
  have hc := ref_is_any b bP P bb _ hb h1
  unfold hitsB
  clear h h1
  cases t with
  | false =>
    clear hc hb0
    go_enter Try.func41, Try.ntmps41
    go_wp2
    go_ret
    exact ⟨rfl, by go_grown⟩
  | true =>
    by_cases hlt : bb < p
    · rw [decide_eq_true hlt]
      go_enter Try.func41, Try.ntmps41
      go_wp2_with fail
      refine hc.mono ?_
      rintro e w1 ⟨rfl, rfl⟩
      go_wp2
      go_ret
      exact ⟨rfl, hb0⟩
    · rw [decide_eq_false hlt]
      clear hc
      go_enter Try.func41, Try.ntmps41
      go_wp2
      go_ret
      exact ⟨rfl, hb0⟩
end Go.Proofs.Ytjimkkkiilcpoaa
