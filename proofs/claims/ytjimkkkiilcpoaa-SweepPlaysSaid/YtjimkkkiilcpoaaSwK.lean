/- A sweep that runs: its steps, one behind the other. -/
import Derived.Test.YtjimkkkiilcpoaaSwJ
import Derived.Test.YtjimkkkiilcpoaaEncM
set_option linter.unusedVariables false
set_option linter.unusedSimpArgs false
namespace Go.Proofs.Ytjimkkkiilcpoaa
open Go.RowKit

/-- A sweeper that is at page i of those that were dirty. -/
def SwRun (W : World) (s b pm : Nat) (bad : List Nat) (dL : List Int) (run : Bool) (i g : Nat) : Prop :=
  ∃ A c, Blk W s (swC b pm run (.slice A (dL.length - i) c) g) 123 ∧ RowI W (.slice A (dL.length - i) c) (dL.drop i) ∧ dL.length - i ≤ c ∧ (c : Int) ≤ 9223372036854775807 ∧ i ≤ dL.length ∧
    (0 < dL.length - i → ∀ ad, A = some ad → ad.block ∉ bad)
theorem SwRun.grow {W W1 : World} {s b pm : Nat} {bad : List Nat} {dL : List Int} {run : Bool} {i g : Nat} (h : SwRun W s b pm bad dL run i g) (hb : Below W.heap.size W W1) : SwRun W1 s b pm bad dL run i g := by
  obtain ⟨A, c, h1, h2, h3⟩ := h
  exact ⟨A, c, h1.below hb h1.lt, h2.below hb, h3⟩
theorem SwRun.turns {W W1 : World} {s b pm : Nat} {bad bs : List Nat} {dL : List Int} {run : Bool} {i g : Nat} (h : SwRun W s b pm bad dL run i g) (ht : Turns bs W W1) (hs : s ∉ bs) (hb : ∀ x ∈ bs, x ∈ bad) : SwRun W1 s b pm bad dL run i g := by
  obtain ⟨A, c, h1, h2, h3, h4, h5, h6⟩ := h
  exact ⟨A, c, h1.turns ht hs, h2.turns ht (fun h0 ad e hx => h6 h0 ad e (hb _ hx)), h3, h4, h5, h6⟩
theorem SwRun.lt {W : World} {s b pm : Nat} {bad : List Nat} {dL : List Int} {run : Bool} {i g : Nat} (h : SwRun W s b pm bad dL run i g) : s < W.heap.size := by
  obtain ⟨A, c, h1, _⟩ := h
  exact h1.lt
/-- How many pages a step sweeps; does one run behind it? -/
def stepN (nd i : Nat) (run : Bool) (k : Int) : Nat := if run && decide (1 ≤ k) then min k.toNat (nd - i) else 0
def stepR (nd i : Nat) (run : Bool) (k : Int) : Bool := if run && decide (1 ≤ k) then decide (i + stepN nd i run k < nd) else run
theorem sw_stepR (s b bP pm pW : Nat) (D : List Int) (T P Q : List Bool) (bad : List Nat) (dL : List Int) (run : Bool) (i g : Nat) (k : Int) (w : World) (hS : SwRun w s b pm bad dL run i g) (hbad : bP ∈ bad ∧ s ∈ bad)
    (hM : TmM w b bP D T P) (hQ : ShM w pm pW Q) (hne : s ≠ b ∧ s ≠ bP ∧ s ≠ pm ∧ s ≠ pW ∧ bP ≠ pm ∧ bP ≠ pW) (hLp : ∀ p ∈ dL, 0 ≤ p ∧ p < P.length) (hg : (g : Int) + 16 * ((dL.length - i : Nat) : Int) ≤ 1099511627776) (hk : inI k) :
    Calls Try.prog 76 #[.pointer (some ⟨s, 0, none⟩), .int .i64 k] w fun e w' => e = .returned (.int .i64 ((stepN dL.length i run k : Nat) : Int)) ∧
      TmM w' b bP D (swS D Q ((dL.drop i).take (stepN dL.length i run k)) (T, P, g)).1 (swS D Q ((dL.drop i).take (stepN dL.length i run k)) (T, P, g)).2.1 ∧
      SwRun w' s b pm bad dL (stepR dL.length i run k) (i + stepN dL.length i run k) (swS D Q ((dL.drop i).take (stepN dL.length i run k)) (T, P, g)).2.2 ∧ Turns [bP, s] w w' := by
  obtain ⟨A, c, h1, h2, h3, h4, h5, h6⟩ := hS
  by_cases hr : (run && decide (1 ≤ k)) = true
  · have hr2 := hr
    rw [Bool.and_eq_true, decide_eq_true_eq] at hr2
    obtain ⟨e1, hk1⟩ := hr2
    subst e1
    obtain ⟨kn, rfl⟩ := Int.eq_ofNat_of_zero_le (show 0 ≤ k by omega)
    have hN : stepN dL.length i true (kn : Int) = min kn (dL.length - i) := by rw [stepN, if_pos hr, Int.toNat_natCast]
    have hR : stepR dL.length i true (kn : Int) = decide (i + min kn (dL.length - i) < dL.length) := by rw [stepR, if_pos hr, hN]
    rw [hN, hR]
    have g1 := sw_step s b bP pm pW D T P Q A (dL.length - i) c g kn (dL.drop i) w h1 h2 h3 h4 (fun h0 ad e => by
      have := h6 h0 ad e
      refine ⟨fun e2 => this (e2 ▸ hbad.1), fun e2 => this (e2 ▸ hbad.2)⟩) (fun p hp => hLp p (List.mem_of_mem_drop hp)) hM hQ hne hg hk1 hk.2
    refine g1.mono fun e w' ⟨g2, g3, g4, g5⟩ => ⟨g2, g3, ?_, g5⟩
    have e2 : decide (min kn (dL.length - i) < dL.length - i) = decide (i + min kn (dL.length - i) < dL.length) := by rw [decide_eq_decide]; omega
    rw [e2] at g4
    refine ⟨subA A c (min kn (dL.length - i)), c - min kn (dL.length - i), ?_, ?_, by omega, by omega, by omega, fun h0 ad e hx => ?_⟩
    · rw [show dL.length - (i + min kn (dL.length - i)) = dL.length - i - min kn (dL.length - i) by omega]
      exact g4
    · have r1 := (h2.sub (min kn (dL.length - i)) (by omega) h3).turns g5 (fun h0 ad e hx => by
        have hb : ∀ a, A = some a → a.block ∉ bad := h6 (by omega)
        have q1 := subA_block (bx := ad.block) (A := A) (c := c) (l := min kn (dL.length - i))
        by_cases hh : ad.block ∈ bad
        · exact q1 (fun a ha e3 => hb a ha (e3 ▸ hh)) ad e rfl
        · simp at hx
          rcases hx with hx | hx
          · exact hh (hx ▸ hbad.1)
          · exact hh (hx ▸ hbad.2))
      rw [List.drop_drop] at r1
      rw [show dL.length - (i + min kn (dL.length - i)) = dL.length - i - min kn (dL.length - i) by omega]
      exact r1
    · have hb : ∀ a, A = some a → a.block ∉ bad := h6 (by omega)
      exact subA_block (bx := ad.block) (A := A) (c := c) (l := min kn (dL.length - i)) (fun a ha e3 => hb a ha (e3 ▸ hx)) ad e rfl
  · have hN : stepN dL.length i run k = 0 := by rw [stepN, if_neg hr]
    have hR : stepR dL.length i run k = run := by rw [stepR, if_neg hr]
    rw [hN, hR]
    have g1 := sw_step_no s b pm run (.slice A (dL.length - i) c) g k w h1 hk (by
      cases run with
      | false => exact .inl rfl
      | true =>
        rw [Bool.true_and, decide_eq_true_eq] at hr
        exact .inr (by omega))
    refine g1.mono fun e w' ⟨g2, g3⟩ => ?_
    subst g3
    exact ⟨g2, hM, ⟨A, c, h1, h2, h3, h4, h5, h6⟩, Turns.refl _ _⟩
theorem stepN_le (nd i : Nat) (run : Bool) (k : Int) (h : i ≤ nd) : i + stepN nd i run k ≤ nd := by
  unfold stepN
  split <;> omega

theorem swr_runs (s b pm : Nat) (bad : List Nat) (dL : List Int) (run : Bool) (i g : Nat) (w : World) (h : SwRun w s b pm bad dL run i g) :
    Calls Try.prog 78 #[.pointer (some ⟨s, 0, none⟩)] w fun e w' => e = .returned (.bool run) ∧ w = w' := by
  obtain ⟨A, c, h1, _⟩ := h
  exact sw_runs s b pm run _ _ w h1
theorem swr_gone (s b pm : Nat) (bad : List Nat) (dL : List Int) (run : Bool) (i g : Nat) (w : World) (h : SwRun w s b pm bad dL run i g) :
    Calls Try.prog 82 #[.pointer (some ⟨s, 0, none⟩)] w fun e w' => e = .returned (.int .i64 g) ∧ w = w' := by
  obtain ⟨A, c, h1, _⟩ := h
  exact sw_gone s b pm run _ _ w h1
theorem swr_left (s b pm : Nat) (bad : List Nat) (dL : List Int) (run : Bool) (i g : Nat) (w : World) (h : SwRun w s b pm bad dL run i g) :
    Calls Try.prog 80 #[.pointer (some ⟨s, 0, none⟩)] w fun e w' => e = .returned (.int .i64 ((dL.length - i : Nat) : Int)) ∧ w = w' := by
  obtain ⟨A, c, h1, _⟩ := h
  exact sw_left s b pm run A _ c _ w h1
theorem cap_ok {c : Nat} (h : c ≤ maxLen) : (c : Int) ≤ 9223372036854775807 := by
  have : maxLen ≤ 9223372036854775807 := by decide
  omega
/-- Begin, as such a sweeper. -/
theorem swr_begin (s b bP pm : Nat) (D : List Int) (T P : List Bool) (lv : Value) (bad : List Nat) (w : World) (h : Blk w s (swC b pm false lv 0) 123) (hm : TmM w b bP D T P) (hbad : ∀ x ∈ bad, x < w.heap.size) :
    Calls Try.prog 74 #[.pointer (some ⟨s, 0, none⟩)] w fun e w' => e = .returned (.bool true) ∧ SwRun w' s b pm bad (dirtyL P) true 0 0 ∧ Turns [s] w w' :=
  (sw_begin s b bP pm D T P lv 0 w h hm).mono fun e w' ⟨h1, ⟨A, c, h2, h3, h4, h5, h6⟩, h7⟩ => ⟨h1, ⟨A, c, h2, h3, h4, cap_ok h5, Nat.zero_le _, fun h0 ad e hx => by
    have := h6 h0 ad e
    have := hbad _ hx
    omega⟩, h7⟩

/-! What is hit, while a sweep runs. -/
theorem partL_put (D : List Int) (a : Nat) (bs : List Int) (h : a + bs.length ≤ D.length) : partL (writeL D a bs) a bs.length = bs := by
  have hl : (D.take a).length = a := by rw [List.length_take]; omega
  unfold partL writeL
  rw [List.append_assoc, List.drop_append_of_le_length (by omega), List.drop_of_length_le (by omega), List.nil_append, List.take_append_of_le_length (Nat.le_refl _), List.take_of_length_le (Nat.le_refl _)]
theorem ldC_put {D : List Int} {T : List Bool} {j : Nat} {t : Bool} {b p a q y : Int} (hr : rightB t b p a q y = true) (hD : j + 16 ≤ D.length) (hT : j / 16 < T.length) :
    ldC (writeL D j (putL t b p a q y)) (T.set (j / 16) t) j = (t, b, p, a, q, y) := by
  have hl := putL_len hr
  have e := partL_put D j (putL t b p a q y) (by omega)
  rw [hl] at e
  obtain ⟨g1, g2, g3, g4, g5, g6, _⟩ := got_put hr t
  unfold ldC
  rw [e, g2, g3, g4, g5, g6, getD_setL _ _ _ _ _ hT, if_pos rfl, g1, right_tag hr]
theorem hit_cap {n : Nat} {D : List Int} {T Q : List Bool} (hD : D.length = 256 * n) (hT : T.length = 16 * n) (at_ : Int) (t : Bool) (b p a q y : Int) (hh : hitsB Q t b p = false) {z : Nat} (h : hitK (scD n D at_ t b p a q y) (scT n T at_ t b p a q y) Q z = true) : hitK D T Q z = true := by
  unfold scD scT at h
  cases hs : scB n at_ t b p a q y with
  | false =>
    rw [hs, if_neg (by simp), if_neg (by simp)] at h
    exact h
  | true =>
    rw [hs, if_pos rfl, if_pos rfl] at h
    rw [scB, Bool.and_eq_true] at hs
    obtain ⟨i, k, hi, hk, rfl⟩ := pl_split hs.1
    have e1 : (((i * 256 + k * 16 : Nat) : Int) / 16).toNat = i * 16 + k := by omega
    rw [e1, Int.toNat_natCast] at h
    have hl := putL_len hs.2
    by_cases e : z = i * 16 + k
    · exfalso
      have h2 := ldC_put (D := D) (T := T) (j := i * 256 + k * 16) hs.2 (by omega) (by omega)
      rw [show (i * 256 + k * 16) / 16 = i * 16 + k by omega] at h2
      unfold hitK at h
      rw [e, show (i * 16 + k) * 16 = i * 256 + k * 16 by omega, h2] at h
      dsimp only at h
      rw [hh] at h
      cases h
    · have hz := getD_lt (hitK_of h)
      rw [List.length_set] at hz
      rw [hitK_far Q (partL_far D (i * 256 + k * 16) _ (z * 16) (by omega) (by omega) (by omega)) (set_getD_ne T _ _ _ _ (Ne.symm e))] at h
      exact h
/-- A step leaves no hit on the pages that it swept. -/
theorem hit_step {D : List Int} {T P Q : List Bool} (L : List Int) (m g : Nat) (hp : ∀ p ∈ L, 0 ≤ p) (hI : ∀ z, hitK D T Q z = true → ((z / 16 : Nat) : Int) ∈ L) : ∀ z, hitK D (swS D Q (L.take m) (T, P, g)).1 Q z = true → ((z / 16 : Nat) : Int) ∈ L.drop m := fun z hz => by
  have ht := hitK_of hz
  have e := swS_tag D Q (L.take m) T P g z fun p h => hp p (List.mem_of_mem_take h)
  rw [ht] at e
  have e2 := e.symm
  rw [Bool.and_eq_true, Bool.not_eq_true', Bool.and_eq_false_iff] at e2
  obtain ⟨h1, h2⟩ := e2
  have hk : hitK D T Q z = true := by rw [← hitK_tag D T (swS D Q (L.take m) (T, P, g)).1 Q z (by rw [ht, h1])]; exact hz
  have h3 := hI z hk
  rw [← List.take_append_drop m L] at h3
  rcases List.mem_append.1 h3 with h4 | h4
  · rcases h2 with h2 | h2
    · rw [hk] at h2; cases h2
    · rw [decide_eq_false_iff_not] at h2
      exact absurd h4 h2
  · exact h4
end Go.Proofs.Ytjimkkkiilcpoaa
