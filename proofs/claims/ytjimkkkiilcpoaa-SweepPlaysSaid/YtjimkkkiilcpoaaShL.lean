/- Plain laws on rows of painted ones, and on what is painted over again or in parts. No program in it. -/
import Derived.Test.YtjimkkkiilcpoaaShK
set_option linter.unusedVariables false
set_option linter.unusedSimpArgs false
namespace Go.Proofs.Ytjimkkkiilcpoaa
open Go.RowKit

def isG (P : List Bool) (g : Nat) : Bool := P.getD g false
theorem isG_out {P : List Bool} {g : Nat} (h : P.length ≤ g) : isG P g = false := by
  rw [isG, List.getD_eq_getElem?_getD, List.getElem?_eq_none h]; rfl

/-- A row, among the first i granules. -/
def RowOk (P : List Bool) (i : Nat) (r : Int × Int) : Prop :=
  ∃ lo hi : Nat, r = ((lo : Int) * 16, (hi : Int) * 16) ∧ lo < hi ∧ hi ≤ i ∧ (∀ g, lo ≤ g → g < hi → isG P g = true) ∧ (lo = 0 ∨ isG P (lo - 1) = false) ∧ (hi = i ∨ isG P hi = false)
def lenSum (R : List (Int × Int)) : Int := R.foldl (fun n r => n + (r.2 - r.1) / 16) 0
theorem lenSum_snoc (R : List (Int × Int)) (r : Int × Int) : lenSum (R ++ [r]) = lenSum R + (r.2 - r.1) / 16 := by simp [lenSum]
/-- Rows among the first i granules. -/
structure RunsOk (P : List Bool) (i : Nat) (R : List (Int × Int)) : Prop where
  ok : ∀ r ∈ R, RowOk P i r
  apart : ∀ k r s, R[k]? = some r → R[k + 1]? = some s → r.2 < s.1
  sum : lenSum R = (manyL (P.take i) : Int)
  last : i = 0 ∨ isG P (i - 1) = false ∨ ∃ S x, R = S ++ [(x, (i : Int) * 16)]

theorem RowOk.mono {P : List Bool} {i : Nat} {r : Int × Int} (h : RowOk P i r) (hi : isG P i = false) : RowOk P (i + 1) r := by
  obtain ⟨lo, h', e, h1, h2, h3, h4, h5⟩ := h
  refine ⟨lo, h', e, h1, by omega, h3, h4, .inr ?_⟩
  rcases h5 with h5 | h5
  · rw [h5]; exact hi
  · exact h5
theorem RowOk.mono' {P : List Bool} {i : Nat} {r : Int × Int} (h : RowOk P i r) (hr : r.2 ≠ (i : Int) * 16) : RowOk P (i + 1) r := by
  obtain ⟨lo, h', e, h1, h2, h3, h4, h5⟩ := h
  refine ⟨lo, h', e, h1, by omega, h3, h4, .inr ?_⟩
  rcases h5 with h5 | h5
  · exact absurd (by rw [e, h5]) hr
  · exact h5
theorem RowOk.le {P : List Bool} {i : Nat} {r : Int × Int} (h : RowOk P i r) : r.2 ≤ (i : Int) * 16 ∧ r.1 < r.2 := by
  obtain ⟨lo, h', e, h1, h2, _⟩ := h
  subst e
  simp only
  omega

theorem manyL_take (P : List Bool) (i : Nat) (hi : i < P.length) : manyL (P.take (i + 1)) = manyL (P.take i) + (if isG P i = true then 1 else 0) := many_step P i hi

theorem getElem?_snoc {α : Type} (S : List α) (x : α) (k : Nat) : (S ++ [x])[k]? = if k < S.length then S[k]? else if k = S.length then some x else none := by
  by_cases h : k < S.length
  · rw [if_pos h, List.getElem?_append_left h]
  · rw [if_neg h, List.getElem?_append_right (by omega)]
    by_cases h2 : k = S.length
    · rw [if_pos h2, h2, Nat.sub_self]; rfl
    · rw [if_neg h2]
      exact List.getElem?_eq_none (by simp; omega)

theorem runsOk_to (P : List Bool) (i : Nat) (hi : i ≤ P.length) : RunsOk P i (runsTo P i) := by
  induction i with
  | zero => exact ⟨(fun r hr => by cases hr), (fun k r s h => by cases h), rfl, .inl rfl⟩
  | succ i ih =>
    have ih := ih (by omega)
    have hm := manyL_take P i (by omega)
    cases hp : isG P i with
    | false =>
      have e : runsTo P (i + 1) = runsTo P i := runsTo_stop P i hp
      rw [hp, if_neg Bool.false_ne_true] at hm
      rw [e]
      exact ⟨fun r hr => (ih.ok r hr).mono hp, ih.apart, by rw [ih.sum]; omega, .inr (.inl (by rw [Nat.add_sub_cancel]; exact hp))⟩
    | true =>
      rw [hp, if_pos rfl] at hm
      have e : runsTo P (i + 1) = addRow (runsTo P i) ((i : Int) * 16) := by rw [runsTo, show P.getD i false = true from hp, if_pos rfl]
      rw [e]
      have ei : ((i + 1 : Nat) : Int) * 16 = (i : Int) * 16 + 16 := by omega
      rcases List.eq_nil_or_concat (runsTo P i) with h0 | ⟨S, ⟨x, y⟩, h0⟩
      · rw [h0] at ih ⊢
        rw [addRow_nil]
        have hl : i = 0 ∨ isG P (i - 1) = false := by
          rcases ih.last with h | h | ⟨S, x, h⟩
          · exact .inl h
          · exact .inr h
          · simp at h
        refine ⟨fun r hr => ?_, fun k r s h1 h2 => by simp at h2, ?_, .inr (.inr ⟨[], (i : Int) * 16, by rw [ei]; rfl⟩)⟩
        · rw [List.mem_singleton] at hr
          subst hr
          exact ⟨i, i + 1, by rw [ei], by omega, Nat.le_refl _, fun g h1 h2 => by rw [show g = i by omega]; exact hp, hl, .inl rfl⟩
        · have := ih.sum
          have e0 : lenSum [] = 0 := rfl
          have e1 : lenSum [((i : Int) * 16, (i : Int) * 16 + 16)] = 1 := by
            show (0 : Int) + (((i : Int) * 16 + 16) - (i : Int) * 16) / 16 = 1
            omega
          rw [e1, hm]; rw [e0] at this; omega
      · rw [List.concat_eq_append] at h0
        rw [h0] at ih ⊢
        by_cases hy : y = (i : Int) * 16
        · subst hy
          rw [addRow_eq]
          obtain ⟨lo, h', e1, h1, h2, h3, h4, h5⟩ := ih.ok (x, (i : Int) * 16) (by simp)
          have e2 : h' = i := by have := congrArg Prod.snd e1; simp only at this; omega
          subst e2
          have e3 : x = (lo : Int) * 16 := congrArg Prod.fst e1
          refine ⟨fun r hr => ?_, fun k r s h1 h2 => ?_, ?_, .inr (.inr ⟨S, x, by rw [ei]⟩)⟩
          · rcases List.mem_append.1 hr with hr | hr
            · refine (ih.ok r (List.mem_append_left _ hr)).mono' ?_
              intro hc
              obtain ⟨k, hk, hkr⟩ := List.getElem_of_mem hr
              have hr' := ih.ok r (List.mem_append_left _ hr)
              -- a row ahead of the last one ends below its beginning
              have : ∀ (d k : Nat), k + d + 1 = S.length → ∀ r, S[k]? = some r → r.2 < x := by
                intro d
                induction d with
                | zero =>
                  intro k hkl r hr
                  exact ih.apart k r (x, (h' : Int) * 16) (by rw [getElem?_snoc, if_pos (by omega)]; exact hr) (by rw [getElem?_snoc, if_neg (by omega), if_pos (by omega)])
                | succ d ihd =>
                  intro k hkl r hr
                  obtain ⟨s, hs⟩ : ∃ s, S[k + 1]? = some s := ⟨_, List.getElem?_eq_getElem (by omega)⟩
                  have h1 := ih.apart k r s (by rw [getElem?_snoc, if_pos (by omega)]; exact hr) (by rw [getElem?_snoc, if_pos (by omega)]; exact hs)
                  have h2 := ihd (k + 1) (by omega) s hs
                  have h3 := (ih.ok s (List.mem_append_left _ (List.mem_of_getElem? hs))).le
                  omega
              have hlt := this (S.length - k - 1) k (by omega) r (by rw [List.getElem?_eq_getElem hk, hkr])
              rw [hc] at hlt
              omega
            · rw [List.mem_singleton] at hr
              subst hr
              refine ⟨lo, h' + 1, by rw [e3, ei], by omega, Nat.le_refl _, fun g h1 h2 => ?_, h4, .inl rfl⟩
              by_cases hg : g < h'
              · exact h3 g h1 hg
              · rw [show g = h' by omega]; exact hp
          · have hkl : k + 1 ≤ S.length := by
              have := (List.getElem?_eq_some_iff.1 h2).1
              simp at this; omega
            rw [getElem?_snoc] at h1 h2
            rw [if_pos (by omega)] at h1
            by_cases hk : k + 1 < S.length
            · rw [if_pos hk] at h2
              exact ih.apart k r s (by rw [getElem?_snoc, if_pos (by omega)]; exact h1) (by rw [getElem?_snoc, if_pos hk]; exact h2)
            · rw [if_neg hk, if_pos (by omega)] at h2
              cases h2
              exact ih.apart k r (x, (h' : Int) * 16) (by rw [getElem?_snoc, if_pos (by omega)]; exact h1) (by rw [getElem?_snoc, if_neg hk, if_pos (by omega)])
          · have := ih.sum
            rw [lenSum_snoc] at this ⊢
            simp only at this ⊢
            rw [hm]
            omega
        · rw [addRow_ne _ _ _ _ hy]
          have hylt : y < (i : Int) * 16 := by
            have := (ih.ok (x, y) (by simp)).le
            simp only at this
            omega
          have hl : i = 0 ∨ isG P (i - 1) = false := by
            rcases ih.last with h | h | ⟨S', x', h⟩
            · exact .inl h
            · exact .inr h
            · have := (List.append_inj' h rfl).2
              simp only [List.cons.injEq, Prod.mk.injEq, and_true] at this
              exact absurd this.2 hy
          refine ⟨fun r hr => ?_, fun k r s h1 h2 => ?_, ?_, .inr (.inr ⟨S ++ [(x, y)], (i : Int) * 16, by rw [ei]⟩)⟩
          · rcases List.mem_append.1 hr with hr | hr
            · refine (ih.ok r hr).mono' ?_
              rcases List.mem_append.1 hr with hr' | hr'
              · intro hc
                obtain ⟨k, hk, hkr⟩ := List.getElem_of_mem hr'
                have : ∀ (d k : Nat), k + d + 1 = S.length → ∀ r, S[k]? = some r → r.2 < x := by
                  intro d
                  induction d with
                  | zero =>
                    intro k hkl r hr
                    exact ih.apart k r (x, y) (by rw [getElem?_snoc, if_pos (by omega)]; exact hr) (by rw [getElem?_snoc, if_neg (by omega), if_pos (by omega)])
                  | succ d ihd =>
                    intro k hkl r hr
                    obtain ⟨s, hs⟩ : ∃ s, S[k + 1]? = some s := ⟨_, List.getElem?_eq_getElem (by omega)⟩
                    have h1 := ih.apart k r s (by rw [getElem?_snoc, if_pos (by omega)]; exact hr) (by rw [getElem?_snoc, if_pos (by omega)]; exact hs)
                    have h2 := ihd (k + 1) (by omega) s hs
                    have h3 := (ih.ok s (List.mem_append_left _ (List.mem_of_getElem? hs))).le
                    omega
                have hlt := this (S.length - k - 1) k (by omega) r (by rw [List.getElem?_eq_getElem hk, hkr])
                have := (ih.ok (x, y) (by simp)).le
                simp only at this
                omega
              · rw [List.mem_singleton] at hr'
                subst hr'
                exact hy
            · rw [List.mem_singleton] at hr
              subst hr
              exact ⟨i, i + 1, by rw [ei], by omega, Nat.le_refl _, fun g h1 h2 => by rw [show g = i by omega]; exact hp, hl, .inl rfl⟩
          · have hkl : k + 1 ≤ S.length + 1 := by
              have := (List.getElem?_eq_some_iff.1 h2).1
              simp at this; omega
            rw [getElem?_snoc] at h1 h2
            rw [List.length_append, List.length_singleton] at h1 h2
            rw [if_pos (by omega)] at h1
            by_cases hk : k + 1 < S.length + 1
            · rw [if_pos hk] at h2
              exact ih.apart k r s h1 h2
            · rw [if_neg hk, if_pos (by omega)] at h2
              cases h2
              rw [getElem?_snoc, if_neg (by omega), if_pos (by omega)] at h1
              cases h1
              exact hylt
          · have := ih.sum
            rw [lenSum_snoc] at this ⊢
            rw [lenSum_snoc]
            simp only at this ⊢
            rw [hm]
            omega

theorem runsOk (P : List Bool) : RunsOk P P.length (runsL P) := runsOk_to P _ (Nat.le_refl _)

theorem many_set (P : List Bool) (i : Nat) (hi : i < P.length) (h : isG P i = false) : manyL (P.set i true) = manyL P + 1 := by
  have e : P = P.take i ++ P.getD i false :: P.drop (i + 1) := by
    rw [List.getD_eq_getElem?_getD, List.getElem?_eq_getElem hi]
    simp
  rw [List.set_eq_take_append_cons_drop, if_pos hi, manyL, manyL]
  conv => rhs; rw [e]
  rw [isG] at h
  rw [List.count_append, List.count_append, h, List.count_cons, List.count_cons]
  simp
  omega
theorem many_paint (P : List Bool) (lo d : Nat) (h : lo + d ≤ P.length) (hn : ∀ g, lo ≤ g → g < lo + d → isG P g = false) : manyL (paintR P lo (lo + d) true) = manyL P + d := by
  induction d with
  | zero => rw [Nat.add_zero, paintR_none]; rfl
  | succ d ih =>
    have ih := ih (by omega) fun g h1 h2 => hn g h1 (by omega)
    have hf : isG (paintR P lo (lo + d) true) (lo + d) = false := by
      rw [isG, paintR_at, if_neg (by omega)]
      exact hn (lo + d) (by omega) (by omega)
    rw [← Nat.add_assoc, paintR_step _ _ _ _ (by omega), many_set _ _ (by rw [paintR_len]; omega) hf, ih]
    omega
theorem list_ext_isG {P Q : List Bool} (hl : P.length = Q.length) (h : ∀ g, isG P g = isG Q g) : P = Q := by
  apply List.ext_getElem hl
  intro i h1 h2
  have := h i
  rw [isG, isG, List.getD_eq_getElem?_getD, List.getD_eq_getElem?_getD, List.getElem?_eq_getElem h1, List.getElem?_eq_getElem h2] at this
  exact this
theorem paint_back (P : List Bool) (lo hi : Nat) (hn : ∀ g, lo ≤ g → g < hi → isG P g = false) : paintR (paintR P lo hi true) lo hi false = P := by
  refine list_ext_isG (by rw [paintR_len, paintR_len]) fun g => ?_
  rw [isG, paintR_at, paintR_len, paintR_at]
  by_cases h : lo ≤ g ∧ g < hi ∧ g < P.length
  · rw [if_pos h, hn g h.1 h.2.1]
  · rw [if_neg h, if_neg h]; rfl
theorem paint_parts (P : List Bool) (lo mid hi : Nat) (is : Bool) (h1 : lo ≤ mid) (h2 : mid ≤ hi) : paintR (paintR P mid hi is) lo mid is = paintR P lo hi is := by
  refine list_ext_isG (by rw [paintR_len, paintR_len, paintR_len]) fun g => ?_
  rw [isG, isG, paintR_at, paintR_len, paintR_at, paintR_at]
  by_cases a : lo ≤ g ∧ g < mid ∧ g < P.length
  · rw [if_pos a, if_pos (by omega)]
  · rw [if_neg a]
    by_cases b : mid ≤ g ∧ g < hi ∧ g < P.length
    · rw [if_pos b, if_pos (by omega)]
    · rw [if_neg b, if_neg (by omega)]

theorem row_info {P : List Bool} {r : Int × Int} (h : RowOk P P.length r) : r.1 % 16 = 0 ∧ r.2 % 16 = 0 ∧ 0 ≤ r.1 ∧ r.1 < r.2 ∧ r.2 ≤ 16 * (P.length : Int) ∧ isB' P (r.1 - 1) = false ∧ isB' P r.2 = false ∧ ∀ k, r.1 ≤ k → k < r.2 → isB' P k = true := by
  obtain ⟨lo, hi, e, h1, h2, h3, h4, h5⟩ := h
  subst e
  simp only
  refine ⟨by omega, by omega, by omega, by omega, by omega, ?_, ?_, fun k k1 k2 => ?_⟩
  · unfold isB'
    rcases h4 with h4 | h4
    · rw [decide_eq_false (by omega)]; rfl
    · rcases Nat.eq_zero_or_pos lo with h0 | h0
      · rw [decide_eq_false (by omega)]; rfl
      · rw [decide_eq_true (by omega), show (((lo : Int) * 16 - 1) / 16).toNat = lo - 1 by omega]
        exact h4
  · unfold isB'
    rw [decide_eq_true (by omega), show (((hi : Int) * 16) / 16).toNat = hi by omega]
    rcases h5 with h5 | h5
    · exact isG_out (by omega)
    · exact h5
  · unfold isB'
    rw [decide_eq_true (by omega), Bool.true_and]
    exact h3 _ (by omega) (by omega)
theorem lenSum_le {P : List Bool} {R : List (Int × Int)} (h : ∀ r ∈ R, RowOk P P.length r) : 0 ≤ lenSum R ∧ lenSum R ≤ (R.length : Int) * P.length := by
  have : ∀ R : List (Int × Int), (∀ r ∈ R, RowOk P P.length r) → ∀ n0 : Int, n0 ≤ R.foldl (fun n r => n + (r.2 - r.1) / 16) n0 ∧ R.foldl (fun n r => n + (r.2 - r.1) / 16) n0 ≤ n0 + (R.length : Int) * P.length := by
    intro R
    induction R with
    | nil => intro _ n0; simp
    | cons r R ih =>
      intro h n0
      obtain ⟨i1, i2⟩ := ih (fun r hr => h r (List.mem_cons_of_mem _ hr)) (n0 + (r.2 - r.1) / 16)
      obtain ⟨lo, hi, e, h1, h2, _⟩ := h r (List.mem_cons_self ..)
      subst e
      simp only [List.foldl_cons, List.length_cons] at *
      have e3 : ((R.length + 1 : Nat) : Int) * (P.length : Int) = (R.length : Int) * P.length + P.length := by
        rw [Int.natCast_add, Int.add_mul]; simp
      rw [e3]
      omega
  simpa [lenSum] using this R h 0

/-- The paint at j, as it lies in memory. -/
def PntAt (w : World) (bo o j : Nat) (f t : Int) (is : Bool) : Prop :=
  bo < w.heap.size ∧ w.cell? ⟨bo, o + j * 3, none⟩ = some (.int .i64 f) ∧ w.cell? ⟨bo, o + j * 3 + 1, none⟩ = some (.int .i64 t) ∧ w.cell? ⟨bo, o + j * 3 + 2, none⟩ = some (.bool is)
theorem PntAt.below {w w1 : World} {bo o j : Nat} {f t : Int} {is : Bool} (h : PntAt w bo o j f t is) (hb : Below w.heap.size w w1) : PntAt w1 bo o j f t is := by
  obtain ⟨h0, h1, h2, h3⟩ := h
  exact ⟨Nat.lt_of_lt_of_le h0 hb.size, (hb.cell (p := ⟨bo, o + j * 3, none⟩) h0).trans h1, (hb.cell (p := ⟨bo, o + j * 3 + 1, none⟩) h0).trans h2, (hb.cell (p := ⟨bo, o + j * 3 + 2, none⟩) h0).trans h3⟩
theorem OpsR.pnt {w : World} {A : Option Addr} {n c : Nat} {L : List Pnt} (h : OpsR w (.slice A n c) L) (j : Nat) (hj : j < L.length) :
    ∃ bo o f t is, A = some ⟨bo, o, none⟩ ∧ L[j]? = some (f, t, is) ∧ inI f ∧ inI t ∧ PntAt w bo o j f t is := by
  obtain ⟨bo, o, f, t, is, e, hq, i1, i2, h0, h1, h2, h3⟩ := h.at_lt j hj
  exact ⟨bo, o, f, t, is, e, hq, i1, i2, h0, h1, h2, h3⟩
end Go.Proofs.Ytjimkkkiilcpoaa
