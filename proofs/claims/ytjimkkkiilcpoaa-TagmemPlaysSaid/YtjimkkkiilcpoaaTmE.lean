/- Memory with tags, the document's: Tag, Strip, Clean, Tags, Dirty; numbers alike. -/
import Derived.Test.YtjimkkkiilcpoaaTmD
set_option linter.unusedVariables false
set_option linter.unusedSimpArgs false
namespace Go.Proofs.Ytjimkkkiilcpoaa
open Go.RowKit

theorem TrM.tag {w : World} {b bB bT bP : Nat} {D : List Int} {T P : List Bool} (h : TrM w b bB bT bP D T P) {k : Nat} (hk : k < T.length) :
    w.cell? ⟨bT, k, none⟩ = some (.bool (T.getD k false)) ∧ w.frozen? ⟨bT, k, none⟩ = false :=
  ⟨by rw [h.2.2.2.2.1.cell, bools_at T k hk], h.2.2.2.2.1.frozen _⟩
theorem TrM.dirty {w : World} {b bB bT bP : Nat} {D : List Int} {T P : List Bool} (h : TrM w b bB bT bP D T P) {k : Nat} (hk : k < P.length) :
    w.cell? ⟨bP, k, none⟩ = some (.bool (P.getD k false)) ∧ w.frozen? ⟨bP, k, none⟩ = false :=
  ⟨by rw [h.2.2.2.2.2.cell, bools_at P k hk], h.2.2.2.2.2.frozen _⟩
theorem TrM.setTag {w : World} {b bB bT bP : Nat} {D : List Int} {T P : List Bool} (h : TrM w b bB bT bP D T P) (k : Nat) (v : Bool) :
    TrM (w.setCell ⟨bT, k, none⟩ (.bool v)) b bB bT bP D (T.set k v) P := by
  obtain ⟨⟨h1, h2, h3, h4⟩, ⟨n1, n2, n3, n4, n5, n6⟩, hb, hB, hT, hP⟩ := h
  refine ⟨⟨h1, by rw [List.length_set]; exact h2, h3, h4⟩, ⟨n1, n2, n3, n4, n5, n6⟩, ?_, hB.set_other n4 _ _, ?_, hP.set_other (Ne.symm n6) _ _⟩
  · rw [List.length_set]; exact hb.set_other n2 _ _
  · rw [bools_set]; exact hT.set _ _
theorem TrM.setDirty {w : World} {b bB bT bP : Nat} {D : List Int} {T P : List Bool} (h : TrM w b bB bT bP D T P) (k : Nat) (v : Bool) :
    TrM (w.setCell ⟨bP, k, none⟩ (.bool v)) b bB bT bP D T (P.set k v) := by
  obtain ⟨⟨h1, h2, h3, h4⟩, ⟨n1, n2, n3, n4, n5, n6⟩, hb, hB, hT, hP⟩ := h
  refine ⟨⟨by rw [List.length_set]; exact h1, by rw [List.length_set]; exact h2, by rw [List.length_set]; exact h3, h4⟩, ⟨n1, n2, n3, n4, n5, n6⟩, ?_, hB.set_other n5 _ _, hT.set_other n6 _ _, ?_⟩
  · rw [List.length_set]; exact hb.set_other n3 _ _
  · rw [bools_set]; exact hP.set _ _
theorem u8s_set (D : List Int) (i : Nat) (x : Int) : (u8s (D.set i x)).toArray = (u8s D).toArray.setIfInBounds i (.int .u8 x) := by
  simp [u8s, List.map_set]
theorem TrM.setByte {w : World} {b bB bT bP : Nat} {D : List Int} {T P : List Bool} (h : TrM w b bB bT bP D T P) (k : Nat) (x : Int) (hx : 0 ≤ x ∧ x ≤ 255) :
    TrM (w.setCell ⟨bB, k, none⟩ (.int .u8 x)) b bB bT bP (D.set k x) T P := by
  obtain ⟨⟨h1, h2, h3, h4⟩, ⟨n1, n2, n3, n4, n5, n6⟩, hb, hB, hT, hP⟩ := h
  refine ⟨⟨by rw [List.length_set]; exact h1, h2, h3, fun y hy => ?_⟩, ⟨n1, n2, n3, n4, n5, n6⟩, ?_, ?_, hT.set_other (Ne.symm n4) _ _, hP.set_other (Ne.symm n5) _ _⟩
  · rcases List.mem_or_eq_of_mem_set hy with h | rfl
    · exact h4 y h
    · exact hx
  · rw [List.length_set]; exact hb.set_other n1 _ _
  · rw [u8s_set]; exact hB.set _ _

set_option maxRecDepth 100000 in
set_option maxHeartbeats 800000 in
theorem tr_place (b bB bT bP : Nat) (D : List Int) (T P : List Bool) (a : Int) (w : World) (h : TrM w b bB bT bP D T P) (ha : inI a) :
    Calls Try.prog 100 #[.pointer (some ⟨b, 0, none⟩), .int .i64 a] w fun e w' => e = .returned (.bool (plB P.length a)) ∧ w = w' := by
  obtain ⟨⟨hl, _, hle, _⟩, _, hB, _⟩ := h
  have L := hB.cell
  have hlt := hB.lt
  clear hB
  rw [hl] at L
  generalize P.length = n at *
  obtain ⟨a0, a1⟩ := ha
  by_cases h0 : 0 ≤ a
  · obtain ⟨m, rfl⟩ := Int.eq_ofNat_of_zero_le h0
    by_cases h1 : (m : Int) < 256 * n
    · have h2 : (m : Int) < n * 256 := by omega
      have e : plB n m = ((m : Int) % 16 == 0) := by
        rw [plB, Bool.eq_iff_iff, decide_eq_true_eq, beq_iff_eq]
        omega
      rw [e]
      clear e hl
      go_enter Try.func100, Try.ntmps100
      go_wp2
      go_ret
      exact ⟨rfl, rfl⟩
    · have h2 : ¬ (m : Int) < n * 256 := by omega
      have e : plB n m = false := by rw [plB, decide_eq_false_iff_not]; omega
      rw [e]
      clear e hl
      go_enter Try.func100, Try.ntmps100
      go_wp2
      go_ret
      exact ⟨rfl, rfl⟩
  · have e : plB n a = false := by rw [plB, decide_eq_false_iff_not]; omega
    rw [e]
    clear e hl
    go_enter Try.func100, Try.ntmps100
    go_wp2
    go_ret
    exact ⟨rfl, rfl⟩

set_option maxRecDepth 100000 in
set_option maxHeartbeats 800000 in
theorem tr_tag (b bB bT bP : Nat) (D : List Int) (T P : List Bool) (a : Int) (w : World) (h : TrM w b bB bT bP D T P) (ha : inI a) :
    Calls Try.prog 67 #[.pointer (some ⟨b, 0, none⟩), .int .i64 a] w fun e w' => e = .returned (.bool (plB P.length a && tagL T a)) ∧ w = w' := by
  have g := tr_place b bB bT bP D T P a w h ha
  cases hp : plB P.length a with
  | false =>
    rw [hp] at g
    clear h hp ha
    go_enter Try.func67, Try.ntmps67
    go_wp2_with fail
    refine g.mono ?_
    rintro e w1 ⟨rfl, rfl⟩
    clear g
    go_wp2
    go_ret
    exact ⟨rfl, rfl⟩
  | true =>
    rw [hp] at g
    obtain ⟨i, k, hi, hk, rfl⟩ := pl_split hp
    have hlT := h.1.2.1
    have hix : i * 16 + k < T.length := by omega
    have L := h.2.2.1.cell
    have hlt := h.lt.1
    have hlt2 := h.lt.2.2.1
    obtain ⟨c1, c2⟩ := h.tag hix
    rw [tag_at, Bool.true_and]
    have e1 : (((i * 256 + k * 16 : Nat) : Int)) / 16 = ((i * 16 + k : Nat) : Int) := by omega
    have h5 : (((i * 16 + k : Nat) : Int)) < T.length := by omega
    have h6 : ((i * 16 + k : Nat) : Int) ≤ 1048576 := by have := h.1.2.2.1; omega
    generalize T.getD (i * 16 + k) false = t at *
    generalize i * 16 + k = y at *
    generalize hz : ((i * 256 + k * 16 : Nat) : Int) = z at *
    generalize T.length = m at *
    clear h hp ha hz hlT hix
    go_enter Try.func67, Try.ntmps67
    go_wp2_with fail
    refine g.mono ?_
    rintro e w1 ⟨rfl, rfl⟩
    clear g
    go_wp2
    go_ret
    exact ⟨rfl, rfl⟩

set_option maxRecDepth 100000 in
set_option maxHeartbeats 800000 in
theorem tr_strip (b bB bT bP : Nat) (D : List Int) (T P : List Bool) (a : Int) (w : World) (h : TrM w b bB bT bP D T P) (ha : inI a) :
    Calls Try.prog 52 #[.pointer (some ⟨b, 0, none⟩), .int .i64 a] w fun e w' => e = .returned (.bool (plB P.length a && tagL T a)) ∧ TrM w' b bB bT bP D (if plB P.length a then T.set (a / 16).toNat false else T) P ∧ Turns [bB, bT, bP] w w' := by
  have g := tr_tag b bB bT bP D T P a w h ha
  cases hp : plB P.length a with
  | false =>
    rw [hp] at g
    have H := Lib.hid h
    clear h hp ha
    go_enter Try.func52, Try.ntmps52
    go_wp2_with fail
    refine g.mono ?_
    rintro e w1 ⟨rfl, rfl⟩
    clear g
    go_wp2
    go_ret
    exact ⟨rfl, H.out, Turns.refl _ _⟩
  | true =>
    rw [hp] at g
    obtain ⟨i, k, hi, hk, rfl⟩ := pl_split hp
    have hlT := h.1.2.1
    have hix : i * 16 + k < T.length := by omega
    have L := h.2.2.1.cell
    have hlt := h.lt.1
    have hlt2 := h.lt.2.2.1
    obtain ⟨c1, c2⟩ := h.tag hix
    rw [tag_at, Bool.true_and] at *
    rw [tag_ix, if_pos rfl]
    have e1 : (((i * 256 + k * 16 : Nat) : Int)) / 16 = ((i * 16 + k : Nat) : Int) := by omega
    have h5 : (((i * 16 + k : Nat) : Int)) < T.length := by omega
    have h6 : ((i * 16 + k : Nat) : Int) ≤ 1048576 := by have := h.1.2.2.1; omega
    have H := Lib.hid (h.setTag (i * 16 + k) false)
    have H0 : T.getD (i * 16 + k) false = false → Hid (TrM w b bB bT bP D (T.set (i * 16 + k) false) P) := fun e => Lib.hid (by
      have e2 : T.set (i * 16 + k) false = T := by
        apply List.ext_getElem?
        intro x
        rw [List.getElem?_set]
        by_cases hx : i * 16 + k = x
        · subst hx
          rw [if_pos rfl, if_pos hix, List.getElem?_eq_getElem hix]
          rw [List.getD_eq_getElem?_getD, List.getElem?_eq_getElem hix, Option.getD_some] at e
          rw [e]
        · rw [if_neg hx]
      rw [e2]; exact h)
    generalize T.set (i * 16 + k) false = T' at *
    generalize ht : T.getD (i * 16 + k) false = t at *
    generalize i * 16 + k = y at *
    generalize hz : ((i * 256 + k * 16 : Nat) : Int) = z at *
    generalize T.length = m at *
    clear h hp ha hz hlT hix ht
    cases t with
    | false =>
      have H1 := H0 rfl
      clear H0
      go_enter Try.func52, Try.ntmps52
      go_wp2_with fail
      refine g.mono ?_
      rintro e w1 ⟨rfl, rfl⟩
      clear g
      go_wp2
      go_ret
      exact ⟨rfl, H1.out, Turns.refl _ _⟩
    | true =>
      clear H0
      go_enter Try.func52, Try.ntmps52
      go_wp2_with fail
      refine g.mono ?_
      rintro e w1 ⟨rfl, rfl⟩
      clear g
      go_wp2
      go_ret
      exact ⟨rfl, H.out, Turns.set _ (by simp) _ _⟩
end Go.Proofs.Ytjimkkkiilcpoaa
