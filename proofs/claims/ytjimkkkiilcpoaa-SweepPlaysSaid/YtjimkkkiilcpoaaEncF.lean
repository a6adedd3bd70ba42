/- enc's contracts over slices that are read, and seizinlaw03.head. -/
import Derived.Test.YtjimkkkiilcpoaaEncE
set_option linter.unusedVariables false
set_option linter.unusedSimpArgs false
namespace Go.Proofs.Ytjimkkkiilcpoaa
open Go.RowKit

def rdn (xs : List Int) (j : Nat) : Int := xs.getD j 0
def gotT (tag : Bool) (xs : List Int) : Bool := decide (xs.length = 16) && tagB tag (rdn xs)
def gotB (xs : List Int) : Int := if xs.length = 16 then word4 (rdn xs) 4 else 0
def gotP (xs : List Int) : Int := if xs.length = 16 then word4 (rdn xs) 8 else 0
def gotA (xs : List Int) : Int := if xs.length = 16 then word4 (rdn xs) 0 else 0
def gotQ (xs : List Int) : Int := if xs.length = 16 then low7 (rdn xs 13) else 0
def gotY (xs : List Int) : Int := if xs.length = 16 then rdn xs 15 else 0

theorem isB_rdn {xs : List Int} (h : isB xs) (j : Nat) : 0 ≤ rdn xs j ∧ rdn xs j ≤ 255 := by
  unfold rdn
  rw [List.getD_eq_getElem?_getD]
  rcases Nat.lt_or_ge j xs.length with h' | h'
  · rw [List.getElem?_eq_getElem h']
    exact h _ (List.getElem_mem h')
  · rw [List.getElem?_eq_none h']
    exact ⟨Int.le_refl 0, by decide⟩

theorem RowU.cells {w : World} {v : Value} {xs : List Int} (h : RowU w v xs) (hl : 0 < xs.length) : ∃ b o c, v = .slice (some ⟨b, o, none⟩) xs.length c ∧ xs.length ≤ c ∧ ∀ j, j < xs.length → w.cell? ⟨b, o + j, none⟩ = some (.int .u8 (rdn xs j)) := by
  obtain ⟨A, c, rfl, hR, hc⟩ := h
  have hget : ∀ j, j < xs.length → (u8s xs)[j]? = some (.int .u8 (rdn xs j)) := fun j hj => by
    simp [u8s, rdn, List.getElem?_eq_getElem hj, List.getD_eq_getElem?_getD]
  obtain ⟨ad, hA, h0⟩ := hR 0 _ (hget 0 hl)
  subst hA
  have hsp := spot_of_cell h0
  obtain ⟨b, o, s⟩ := ad
  simp only at hsp
  subst hsp
  refine ⟨b, o, c, rfl, hc, fun j hj => ?_⟩
  obtain ⟨ad', h1, h2⟩ := hR j _ (hget j hj)
  cases h1
  rwa [add_plain] at h2

theorem get_row (v : Value) (xs : List Int) (tag : Bool) (w : World) (h : RowU w v xs) (hx : isB xs) :
    Calls Try.prog 24 #[v, .bool tag] w fun e w' => e = .returned (.tuple #[.agg #[.bool (gotT tag xs), .int .i64 (gotB xs), .int .i64 (gotP xs), .int .i64 (gotA xs), .int .i64 (gotQ xs), .int .i64 (gotY xs)], .bool (decide (xs.length = 16))]) ∧ Below w.heap.size w w' := by
  unfold gotT gotB gotP gotA gotQ gotY
  by_cases hl : xs.length = 16
  · obtain ⟨b, o, c, rfl, hc, hcell⟩ := h.cells (by omega)
    rw [hl] at hcell hc ⊢
    simp only [if_true, decide_true, Bool.true_and]
    exact get_any b o c (rdn xs) (isB_rdn hx) tag w hcell
  · obtain ⟨A, c, rfl, _⟩ := h
    simp only [if_neg hl, decide_eq_false hl, Bool.false_and]
    exact get_none A _ c tag w hl

theorem ref_get_row (v : Value) (xs : List Int) (tag : Bool) (w : World) (h : RowU w v xs) (hx : isB xs) :
    Calls Try.prog 25 #[v, .bool tag] w fun e w' => e = .returned (.tuple #[.agg #[.bool (gotT tag xs), .int .i64 (gotB xs), .int .i64 (gotP xs), .int .i64 (gotA xs), .int .i64 (gotQ xs), .int .i64 (gotY xs)], .bool (decide (xs.length = 16))]) ∧ Below w.heap.size w w' := by
  unfold gotT gotB gotP gotA gotQ gotY
  by_cases hl : xs.length = 16
  · obtain ⟨b, o, c, rfl, hc, hcell⟩ := h.cells (by omega)
    rw [hl] at hcell hc ⊢
    simp only [if_true, decide_true, Bool.true_and]
    exact ref_get_any b o c (rdn xs) (isB_rdn hx) tag w hc hcell
  · obtain ⟨A, c, rfl, _⟩ := h
    simp only [if_neg hl, decide_eq_false hl, Bool.false_and]
    exact ref_get_none A _ c tag w hl

theorem RowU.take {w : World} {A : Option Addr} {n c : Nat} {xs : List Int} (h : RowU w (.slice A n c) xs) (k : Nat) (hk : k ≤ n) : RowU w (.slice A k c) (xs.take k) := by
  obtain ⟨A', c', hv, hR, hc⟩ := h
  cases hv
  refine ⟨A, c, by rw [List.length_take, Nat.min_eq_left hk], fun j u hu => ?_, by rw [List.length_take]; omega⟩
  refine hR j u ?_
  rw [u8s, List.map_take, List.getElem?_take] at hu
  split at hu
  · exact hu
  · cases hu

def headBytes : List Int := [0, 0, 0, 20, 0, 0, 0, 16, 0, 0, 1, 16, 0, 3, 0, 5]
theorem headBytes_put : putL true 16 272 20 3 5 = headBytes := by decide
theorem isB_head : isB headBytes := by unfold isB headBytes; decide

theorem got_head (tag : Bool) : gotT tag headBytes = tag ∧ gotB headBytes = 16 ∧ gotP headBytes = 272 ∧ gotA headBytes = 20 ∧ gotQ headBytes = 3 ∧ gotY headBytes = 5 ∧ decide (headBytes.length = 16) = true := by cases tag <;> decide
theorem got_head15 : gotT true (headBytes.take 15) = false ∧ gotB (headBytes.take 15) = 0 ∧ gotP (headBytes.take 15) = 0 ∧ gotA (headBytes.take 15) = 0 ∧ gotQ (headBytes.take 15) = 0 ∧ gotY (headBytes.take 15) = 0 ∧ decide ((headBytes.take 15).length = 16) = false := by decide
theorem isB_head15 : isB (headBytes.take 15) := by unfold isB headBytes; decide
theorem get_head (tag : Bool) (v : Value) (w : World) (h : RowU w v headBytes) : Calls Try.prog 24 #[v, .bool tag] w fun e w' => e = .returned (.tuple #[.agg #[.bool (tag), .int .i64 (16), .int .i64 (272), .int .i64 (20), .int .i64 (3), .int .i64 (5)], .bool true]) ∧ Below w.heap.size w w' := by
  have hc := get_row v headBytes tag w h isB_head
  obtain ⟨e1, e2, e3, e4, e5, e6, e7⟩ := got_head tag
  rw [e1, e2, e3, e4, e5, e6, e7] at hc
  exact hc
theorem get_head15 (v : Value) (w : World) (h : RowU w v (headBytes.take 15)) : Calls Try.prog 24 #[v, .bool true] w fun e w' => e = .returned (.tuple #[.agg #[.bool (false), .int .i64 (0), .int .i64 (0), .int .i64 (0), .int .i64 (0), .int .i64 (0)], .bool false]) ∧ Below w.heap.size w w' := by
  have hc := get_row v (headBytes.take 15) true w h isB_head15
  obtain ⟨e1, e2, e3, e4, e5, e6, e7⟩ := got_head15
  rw [e1, e2, e3, e4, e5, e6, e7] at hc
  exact hc
theorem head_str : strOfNums headBytes = ⟨#[0, 0, 0, 20, 0, 0, 0, 16, 0, 0, 1, 16, 0, 3, 0, 5]⟩ := rfl
theorem RowU.row {w : World} {A : Option Addr} {n c : Nat} {xs : List Int} (h : RowU w (.slice A n c) xs) : RdL w A (u8s xs) := by
  obtain ⟨_, _, hv, hR, _⟩ := h; cases hv; exact hR
set_option maxRecDepth 100000 in
set_option maxHeartbeats 1600000 in
theorem head3_true (w : World) : Calls Try.prog 23 #[] w fun e w' => e = .returned (.bool true) ∧ Below w.heap.size w w' := by
  go_enter Try.func23, Try.ntmps23
  go_wp2_with fail
  refine (put_row true 16 272 20 3 5 _ (by unfold inI; omega)).mono ?_
  rintro e w1 ⟨v1, rfl, r1, hb1⟩
  rw [headBytes_put] at r1
  have HB1 := below_then (by go_grown : Below w.heap.size w (w.alloc (.cells #[.bool (true), .int .i64 (16), .int .i64 (272), .int .i64 (20), .int .i64 (3), .int .i64 (5)] 23))) (by first | omega | (simp only [World.size_alloc, World.size_drew, World.size_setCell]; omega) | (simp; done) | (simp; omega)) hb1
  have C1 := (Blk.new w #[.bool (true), .int .i64 (16), .int .i64 (272), .int .i64 (20), .int .i64 (3), .int .i64 (5)] 23).below hb1 (by simp)
  clear hb1
  obtain ⟨A, c, hv, q1⟩ := r1
  have hv : v1 = .slice A 16 c := hv
  subst hv
  have r1 : RowU w1 (.slice A 16 c) headBytes := ⟨A, c, rfl, q1⟩
  have hc15 : (15 : Int) ≤ (c : Int) := by have : 16 ≤ c := q1.2; omega
  clear q1
  go_wp2_with fail
  refine (get_head true _ w1 r1).mono ?_
  rintro e w2 ⟨rfl, hb2⟩
  have r2 := r1.below hb2
  have C2 := C1.below hb2 C1.lt
  have HB2 := below_then HB1 (by have := C1.lt; omega) hb2
  clear hb2 r1 C1 HB1
  go_wp2_with fail
  refine (get_head false _ _ (r2.below ((Below.refl _ _).alloc (Nat.le_refl _) _))).mono ?_
  rintro e w3 ⟨rfl, hb3⟩
  have r3 := (r2.below ((Below.refl _ _).alloc (Nat.le_refl _) _)).below hb3
  have C3 := (C2.alloc _).below hb3 (C2.alloc _).lt
  have X3 := (Blk.new w2 #[.bool (true), .int .i64 (16), .int .i64 (272), .int .i64 (20), .int .i64 (3), .int .i64 (5)] 23).below hb3 (by first | omega | (simp only [World.size_alloc, World.size_drew, World.size_setCell]; omega) | (simp; done) | (simp; omega))
  have HB3 := below_then (HB2.alloc (by have := C2.lt; omega) _) (by have := C2.lt; simp; omega) hb3
  have n3 : w.heap.size < w2.heap.size := C2.lt
  clear hb3 r2 C2 HB2
  go_wp2_with fail
  refine (get_head15 _ _ ((r3.below ((Below.refl _ _).alloc (Nat.le_refl _) _)).take 15 (by omega))).mono ?_
  rintro e w4 ⟨rfl, hb4⟩
  have r4 := (r3.below ((Below.refl _ _).alloc (Nat.le_refl _) _)).below hb4
  have C4 := (C3.alloc _).below hb4 (C3.alloc _).lt
  have X4 := (X3.alloc _).below hb4 (X3.alloc _).lt
  have Y4 := (Blk.new w3 #[.bool (false), .int .i64 (16), .int .i64 (272), .int .i64 (20), .int .i64 (3), .int .i64 (5)] 23).below hb4 (by first | omega | (simp only [World.size_alloc, World.size_drew, World.size_setCell]; omega) | (simp; done) | (simp; omega))
  have HB4 := below_then (HB3.alloc (by have := C3.lt; omega) _) (by have := C3.lt; simp; omega) hb4
  have n4 : w2.heap.size < w3.heap.size := X3.lt
  have n5 : w3.heap.size < w4.heap.size := Y4.lt
  clear hb4 r3 C3 X3 HB3
  have k1 := run_str (P := Try.prog) (n := 16) Try.underlying24 Try.underlying5 Try.underlying9 c rfl (r4.below ((Below.refl _ _).alloc (Nat.le_refl _) (.cells #[.bool (false), .int .i64 (0), .int .i64 (0), .int .i64 (0), .int .i64 (0), .int .i64 (0)] 23))).row
  rw [head_str] at k1
  have L4 := C4.cell
  have LX := X4.cell
  have LY := Y4.cell
  have lC := C4.lt
  have lX := X4.lt
  have HB5 := HB4.alloc (by omega) (.cells #[.bool (false), .int .i64 (0), .int .i64 (0), .int .i64 (0), .int .i64 (0), .int .i64 (0)] 23)
  have hsame : sameB true 16 272 20 3 5 false 16 272 20 3 5 = true := by decide
  have hput : putL false 0 0 (-1) 0 0 = [] := by decide
  go_wp2_with fail
  refine (same_any true 16 272 20 3 5 false 16 272 20 3 5 _ (by unfold inI; omega) (by unfold inI; omega)).mono ?_
  rintro e w6 ⟨rfl, hb6⟩
  rw [hsame]
  have HB6 := below_then HB5 (by simp; omega) hb6
  have n6 : w.heap.size < w6.heap.size := by have := hb6.size; simp at this; omega
  clear hb6 HB5 HB4 k1 L4 LX LY r4 C4 X4 Y4
  go_wp2_with fail
  refine (put_row false 0 0 (-1) 0 0 _ (by unfold inI; omega)).mono ?_
  rintro e w7 ⟨v7, rfl, r7, hb7⟩
  rw [hput] at r7
  obtain ⟨A7, c7, hv7, _⟩ := r7
  have hv7 : v7 = .slice A7 0 c7 := hv7
  subst hv7
  have HB7 := below_then HB6 (by omega) hb7
  clear hb7 HB6
  go_wp2
  go_ret
  exact ⟨rfl, HB7⟩
end Go.Proofs.Ytjimkkkiilcpoaa
