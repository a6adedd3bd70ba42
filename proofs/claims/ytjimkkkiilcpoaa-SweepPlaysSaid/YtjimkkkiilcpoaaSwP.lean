/- Plain laws of sweeps. -/
import Derived.Test.YtjimkkkiilcpoaaSwG
set_option linter.unusedVariables false
set_option linter.unusedSimpArgs false
namespace Go.Proofs.Ytjimkkkiilcpoaa
open Go.RowKit

theorem getD_lt {l : List Bool} {i : Nat} (h : l.getD i false = true) : i < l.length := by
  rcases Nat.lt_or_ge i l.length with hl | hl
  · exact hl
  · rw [List.getD_eq_getElem?_getD, List.getElem?_eq_none hl] at h; cases h
/-- Each tag lies on a dirty page. -/
def OnD (T P : List Bool) : Prop := ∀ z, T.getD z false = true → P.getD (z / 16) false = true
theorem set_getD_ne {α : Type} (l : List α) (i j : Nat) (v d : α) (h : i ≠ j) : (l.set i v).getD j d = l.getD j d := by
  rw [List.getD_eq_getElem?_getD, List.getD_eq_getElem?_getD, List.getElem?_set_ne h]
theorem set_true_getD (l : List Bool) (i j : Nat) (h : l.getD j false = true) : (l.set i true).getD j false = true := by
  by_cases e : i = j
  · subst e
    have hl : i < l.length := getD_lt h
    rw [getD_setL _ _ _ _ _ hl, if_pos rfl]
  · rw [set_getD_ne _ _ _ _ _ e]; exact h
theorem stT_sub {n : Nat} {T : List Bool} {a : Int} {k z : Nat} (h : (stT n T a k).getD z false = true) : T.getD z false = true := by
  unfold stT at h
  split at h
  · rw [storeT_getD, Bool.and_eq_true] at h; exact h.1
  · exact h
theorem fl1_len (S : List Int × List Bool × List Bool) (o : Op7) : (fl1 S o).2.2.length = S.2.2.length := by
  unfold fl1
  split
  · rfl
  · exact scP_length _ _ _ _ _ _ _ _
theorem onD_cap {T P : List Bool} (h : OnD T P) (at_ : Int) (t : Bool) (b p a q y : Int) : OnD (scT P.length T at_ t b p a q y) (scP P at_ t b p a q y) := by
  unfold scT scP
  cases hs : scB P.length at_ t b p a q y with
  | false => rw [if_neg (by simp), Bool.false_and, if_neg (by simp)]; exact h
  | true =>
    rw [if_pos rfl, Bool.true_and]
    rw [scB, Bool.and_eq_true] at hs
    obtain ⟨i, k, hi, hk, rfl⟩ := pl_split hs.1
    intro z hz
    have e1 : (((i * 256 + k * 16 : Nat) : Int) / 16).toNat = i * 16 + k := by omega
    have e2 : (((i * 256 + k * 16 : Nat) : Int) / 256).toNat = i := by omega
    rw [e1] at hz
    rw [e2]
    by_cases e : i * 16 + k = z
    · subst e
      rw [show (i * 16 + k) / 16 = i by omega]
      cases t with
      | true => rw [if_pos rfl, getD_setL _ _ _ _ _ hi, if_pos rfl]
      | false =>
        rw [set_false_getD] at hz
        simp at hz
    · rw [set_getD_ne _ _ _ _ _ e] at hz
      have := h z hz
      split
      · exact set_true_getD _ _ _ this
      · exact this
theorem onD_fl1 {S : List Int × List Bool × List Bool} (h : OnD S.2.1 S.2.2) (o : Op7) : OnD (fl1 S o).2.1 (fl1 S o).2.2 := by
  unfold fl1
  split
  · exact fun z hz => h z (stT_sub hz)
  · exact onD_cap h _ _ _ _ _ _ _
theorem onD_flM : ∀ (L : List Op7) {S : List Int × List Bool × List Bool}, OnD S.2.1 S.2.2 → OnD (flM S L).2.1 (flM S L).2.2
  | [], _, h => h
  | o :: L, S, h => onD_flM L (S := fl1 S o) (onD_fl1 h o)
theorem flM_len : ∀ (L : List Op7) (S : List Int × List Bool × List Bool), (flM S L).2.2.length = S.2.2.length
  | [], _ => rfl
  | o :: L, S => (flM_len L (fl1 S o)).trans (fl1_len S o)
theorem rep_false (n z : Nat) : (List.replicate n false).getD z false = false := by
  rw [List.getD_eq_getElem?_getD, List.getElem?_replicate]
  split <;> rfl
theorem onD_new (P : List Bool) (n : Nat) : OnD (List.replicate n false) P := fun z hz => by rw [rep_false] at hz; cases hz

theorem posL_mem {f : Nat} {B : List Bool} {j : Nat} {x : Int} : x ∈ posL f B j ↔ ∃ i : Nat, i < j ∧ B.getD i false = true ∧ x = ((i * f : Nat) : Int) := by
  simp only [posL, List.mem_map, List.mem_filter, List.mem_range]
  constructor
  · rintro ⟨i, ⟨h1, h2⟩, rfl⟩; exact ⟨i, h1, h2, rfl⟩
  · rintro ⟨i, h1, h2, rfl⟩; exact ⟨i, ⟨h1, h2⟩, rfl⟩
theorem dirty_mem {P : List Bool} {x : Int} : x ∈ dirtyL P ↔ 0 ≤ x ∧ P.getD x.toNat false = true := by
  unfold dirtyL
  rw [posL_mem]
  constructor
  · rintro ⟨i, h1, h2, rfl⟩; rw [Nat.mul_one]; exact ⟨by omega, by simpa using h2⟩
  · rintro ⟨h0, h⟩
    have hl : x.toNat < P.length := getD_lt h
    exact ⟨x.toNat, hl, h, by omega⟩
theorem dirty_lt {P : List Bool} : ∀ p ∈ dirtyL P, 0 ≤ p ∧ p < P.length := fun p hp => by
  obtain ⟨h0, h⟩ := dirty_mem.1 hp
  have hl : p.toNat < P.length := getD_lt h
  omega
theorem dirty_len (P : List Bool) : (dirtyL P).length ≤ P.length := posL_len 1 P P.length

theorem pageT'_len (D : List Int) (T Q : List Bool) (p : Nat) : (pageT' D T Q p).length = T.length := clrL_len _ _
theorem swS_tlen (D : List Int) (Q : List Bool) : ∀ (l : List Int) (S : List Bool × List Bool × Nat), (swS D Q l S).1.length = S.1.length
  | [], _ => rfl
  | p :: l, S => by rw [swS, swS_tlen D Q l]; exact pageT'_len _ _ _ _
theorem pageT'_getD (D : List Int) (T Q : List Bool) (p z : Nat) : (pageT' D T Q p).getD z false = (T.getD z false && !(hitK D T Q z && decide (z / 16 = p))) := by
  unfold pageT' pageH
  rw [clrL_getD, Bool.eq_iff_iff, Bool.and_eq_true, Bool.and_eq_true, decide_eq_true_eq, hitsF_mem, Bool.not_eq_true', Bool.and_eq_false_iff, decide_eq_false_iff_not]
  constructor
  · rintro ⟨h1, h2⟩
    refine ⟨h1, ?_⟩
    by_cases e : z / 16 = p
    · left
      cases hh : hitK D T Q z with
      | false => rfl
      | true => exact absurd ⟨by omega, by omega, hh⟩ h2
    · exact .inr e
  · rintro ⟨h1, h2⟩
    refine ⟨h1, ?_⟩
    rintro ⟨g1, g2, g3⟩
    rcases h2 with h2 | h2
    · rw [g3] at h2; cases h2
    · exact h2 (by omega)
theorem swS_tag (D : List Int) (Q : List Bool) : ∀ (l : List Int) (T P : List Bool) (g z : Nat), (∀ p ∈ l, 0 ≤ p) → (swS D Q l (T, P, g)).1.getD z false = (T.getD z false && !(hitK D T Q z && decide (((z / 16 : Nat) : Int) ∈ l)))
  | [], T, P, g, z, _ => by simp [swS]
  | p :: l, T, P, g, z, h => by
    have hp := h p List.mem_cons_self
    rw [swS, swS_tag D Q l _ _ _ z fun x hx => h x (List.mem_cons_of_mem _ hx), pageT'_getD]
    have hiff : (((z / 16 : Nat) : Int) ∈ p :: l) ↔ (z / 16 = p.toNat ∨ ((z / 16 : Nat) : Int) ∈ l) := by
      rw [List.mem_cons]
      constructor
      · rintro (e | e)
        · exact .inl (by omega)
        · exact .inr e
      · rintro (e | e)
        · exact .inl (by omega)
        · exact .inr e
    by_cases c : hitK D T Q z = true ∧ z / 16 = p.toNat
    · rw [c.1, decide_eq_true c.2, decide_eq_true (hiff.2 (.inl c.2))]
      simp
    · have e1 : (hitK D T Q z && decide (z / 16 = p.toNat)) = false := by
        rw [Bool.and_eq_false_iff, decide_eq_false_iff_not]
        by_cases h1 : hitK D T Q z = true
        · exact .inr fun h2 => c ⟨h1, h2⟩
        · exact .inl (by simpa using h1)
      rw [e1, Bool.not_false, Bool.and_true, hitK_tag D T (pageT' D T Q p.toNat) Q z (by rw [pageT'_getD, e1, Bool.not_false, Bool.and_true])]
      congr 2
      cases hh : hitK D T Q z with
      | false => rfl
      | true =>
        rw [Bool.true_and, Bool.true_and, decide_eq_decide, hiff]
        constructor
        · exact .inr
        · rintro (e | e)
          · exact absurd ⟨hh, e⟩ c
          · exact e
theorem swS_app (D : List Int) (Q : List Bool) : ∀ (l l2 : List Int) (S : List Bool × List Bool × Nat), swS D Q (l ++ l2) S = swS D Q l2 (swS D Q l S)
  | [], _, _ => rfl
  | p :: l, l2, S => by rw [List.cons_append, swS, swS_app D Q l, swS]

/-- How many are set below j. -/
def cnt (T : List Bool) (j : Nat) : Nat := ((List.range j).filter fun i => T.getD i false).length
theorem cnt_succ (T : List Bool) (j : Nat) : cnt T (j + 1) = cnt T j + (if T.getD j false then 1 else 0) := by
  simp only [cnt, List.range_succ, List.filter_append, List.filter_cons, List.filter_nil, List.length_append]
  split <;> simp
theorem cnt_set (T : List Bool) (z : Nat) (h : T.getD z false = true) : ∀ j, cnt (T.set z false) j + (if z < j then 1 else 0) = cnt T j
  | 0 => rfl
  | j + 1 => by
    have := cnt_set T z h j
    rw [cnt_succ, cnt_succ, set_false_getD]
    by_cases e : j = z
    · subst e
      rw [if_neg (Nat.lt_irrefl j)] at this
      rw [h, if_pos (Nat.lt_succ_self j), if_pos rfl]
      simp at this ⊢
      omega
    · have e0 : (T.getD j false && decide (j ≠ z)) = T.getD j false := by rw [decide_eq_true e, Bool.and_true]
      rw [e0]
      by_cases e2 : z < j
      · rw [if_pos e2] at this
        rw [if_pos (Nat.lt_succ_of_lt e2)]
        omega
      · rw [if_neg e2] at this
        rw [if_neg (show ¬ z < j + 1 by omega)]
        omega
theorem cnt_clr : ∀ (xs : List Nat) (T : List Bool), xs.Nodup → (∀ z ∈ xs, T.getD z false = true) → cnt (clrL T xs) T.length + xs.length = cnt T T.length
  | [], _, _, _ => rfl
  | x :: xs, T, hn, h => by
    have hx := h x List.mem_cons_self
    have hl : x < T.length := getD_lt hx
    obtain ⟨h1, h2⟩ := List.nodup_cons.1 hn
    have ih := cnt_clr xs (T.set x false) h2 fun z hz => by rw [set_getD_ne _ _ _ _ _ (by rintro rfl; exact h1 hz)]; exact h z (List.mem_cons_of_mem _ hz)
    rw [List.length_set] at ih
    have h3 := cnt_set T x hx T.length
    rw [if_pos hl] at h3
    show cnt (clrL (T.set x false) xs) T.length + (xs.length + 1) = _
    omega
theorem hitsF_nodup {D : List Int} {T Q : List Bool} : ∀ (n z0 : Nat), (hitsF D T Q n z0).Nodup
  | 0, _ => List.nodup_nil
  | n + 1, z0 => by
    rw [hitsF]
    split
    · refine List.nodup_cons.2 ⟨?_, hitsF_nodup n (z0 + 1)⟩
      rw [hitsF_mem]
      omega
    · exact hitsF_nodup n (z0 + 1)
theorem page_cnt (D : List Int) (T Q : List Bool) (p : Nat) : cnt (pageT' D T Q p) T.length + (pageH D T Q p).length = cnt T T.length :=
  cnt_clr _ _ (hitsF_nodup _ _) fun z hz => hitK_of ((hitsF_mem _ _ _).1 hz).2.2
theorem swS_cnt (D : List Int) (Q : List Bool) : ∀ (l : List Int) (T P : List Bool) (g : Nat), cnt (swS D Q l (T, P, g)).1 T.length + (swS D Q l (T, P, g)).2.2 = cnt T T.length + g
  | [], _, _, _ => rfl
  | p :: l, T, P, g => by
    have ih := swS_cnt D Q l (pageT' D T Q p.toNat) (pageP D T P Q p.toNat) (g + (pageH D T Q p.toNat).length)
    have hp := page_cnt D T Q p.toNat
    rw [pageT'_len] at ih
    rw [swS]
    dsimp only
    omega
theorem tagsL_cnt (T : List Bool) : (tagsL T).length = cnt T T.length := by simp [tagsL, posL, cnt]

/-- All tags behind a whole sweep: those that were not hit. -/
theorem swS_all {D : List Int} {T P Q : List Bool} (h : OnD T P) (g z : Nat) : (swS D Q (dirtyL P) (T, P, g)).1.getD z false = (T.getD z false && !hitK D T Q z) := by
  rw [swS_tag D Q _ T P g z fun p hp => (dirty_lt p hp).1]
  cases hh : hitK D T Q z with
  | false => rfl
  | true =>
    have h1 := h z (hitK_of hh)
    rw [decide_eq_true (dirty_mem.2 ⟨by omega, by rw [Int.toNat_natCast]; exact h1⟩)]
    rfl
/-- What stays: the tags that are not hit. -/
def stayF (D : List Int) (T Q : List Bool) (l : List Int) : List Int := l.filter fun x => !hitK D T Q (x.toNat / 16)
theorem stay_all {D : List Int} {T P Q : List Bool} (h : OnD T P) (g : Nat) : tagsL (swS D Q (dirtyL P) (T, P, g)).1 = stayF D T Q (tagsL T) := by
  unfold tagsL posL stayF
  rw [swS_tlen, List.filter_map, List.filter_filter]
  congr 1
  refine List.filter_congr fun z _ => ?_
  rw [swS_all h, Bool.and_comm]
  simp only [Function.comp]
  congr 2
  rw [Int.toNat_natCast, Nat.mul_div_cancel _ (by decide : 0 < 16)]
theorem stay_gone {D : List Int} {T P Q : List Bool} (h : OnD T P) : (swS D Q (dirtyL P) (T, P, 0)).2.2 + (stayF D T Q (tagsL T)).length = (tagsL T).length := by
  have e := swS_cnt D Q (dirtyL P) T P 0
  have e2 := swS_tlen D Q (dirtyL P) (T, P, 0)
  dsimp only at e2
  rw [← stay_all h 0, tagsL_cnt, tagsL_cnt, e2]
  omega
theorem stay_snoc (D : List Int) (T Q : List Bool) (l : List Int) (x : Int) : stayF D T Q (l ++ [x]) = stayF D T Q l ++ (if hitK D T Q (x.toNat / 16) then [] else [x]) := by
  unfold stayF
  rw [List.filter_append, List.filter_cons]
  cases hitK D T Q (x.toNat / 16) <;> rfl

/-! What is stored while a sweep runs. -/
theorem partL_far (D : List Int) (a : Nat) (bs : List Int) (x : Nat) (h : a + bs.length ≤ D.length) (hx : x + 16 ≤ D.length) (hf : a + bs.length ≤ x ∨ x + 16 ≤ a) : partL (writeL D a bs) x 16 = partL D x 16 := by
  have hl := writeL_length D a bs h
  refine list_ext_getD _ _ 0 (by rw [partL_len _ _ _ (by omega), partL_len _ _ _ (by omega)]) fun k hk => ?_
  rw [partL_len _ _ _ (by omega)] at hk
  have e : ∀ E : List Int, (partL E x 16).getD k 0 = E.getD (x + k) 0 := fun E => by
    unfold partL
    rw [List.getD_eq_getElem?_getD, List.getD_eq_getElem?_getD, List.getElem?_take_of_lt hk, List.getElem?_drop]
  rw [e, e, writeL_getD _ _ _ h, if_neg (by omega)]
theorem ldC_far {D D' : List Int} {T T' : List Bool} {z : Nat} (h1 : partL D' (z * 16) 16 = partL D (z * 16) 16) (h2 : T'.getD z false = T.getD z false) : ldC D' T' (z * 16) = ldC D T (z * 16) := by
  unfold ldC
  rw [h1, Nat.mul_div_cancel _ (by decide : 0 < 16), h2]
theorem hitK_far {D D' : List Int} {T T' : List Bool} (Q : List Bool) {z : Nat} (h1 : partL D' (z * 16) 16 = partL D (z * 16) 16) (h2 : T'.getD z false = T.getD z false) : hitK D' T' Q z = hitK D T Q z := by
  unfold hitK
  rw [ldC_far h1 h2]
theorem tag_lt {T : List Bool} {z : Nat} (h : T.getD z false = true) : z < T.length := getD_lt h
theorem hit_store {n : Nat} {D : List Int} {T Q : List Bool} (hD : D.length = 256 * n) (hT : T.length = 16 * n) (a : Int) (bs : List Int) {z : Nat} (h : hitK (stD n D a bs) (stT n T a bs.length) Q z = true) : hitK D T Q z = true := by
  have ht := hitK_of h
  have ht0 := stT_sub ht
  unfold stD stT at h
  unfold stT at ht
  cases hi : inB n a bs.length with
  | false =>
    rw [hi, if_neg (by simp), if_neg (by simp)] at h
    exact h
  | true =>
    rw [hi, if_pos rfl, if_pos rfl] at h
    rw [hi, if_pos rfl, storeT_getD, ht0, Bool.true_and, Bool.not_eq_true', decide_eq_false_iff_not] at ht
    obtain ⟨i, rfl, hib⟩ := inB_split hi
    rw [Int.toNat_natCast] at h ht
    have hz := tag_lt ht0
    by_cases hb : bs.length = 0
    · have : bs = [] := List.eq_nil_of_length_eq_zero hb
      subst this
      have e : writeL D i [] = D := by simp [writeL]
      rw [e, List.length_nil, storeT_zero] at h
      exact h
    · rw [hitK_far Q (partL_far D i bs (z * 16) (by omega) (by omega) (by omega)) (T := T) (by rw [storeT_getD, ht0, decide_eq_false ht]; rfl)] at h
      exact h
theorem hitsB_not (Q : List Bool) (t : Bool) (b p : Int) : hitsB Q (t && !hitsB Q t b p) b p = false := by
  unfold hitsB
  cases t
  · rfl
  · cases decide (b < p) <;> cases isB' Q b <;> rfl
end Go.Proofs.Ytjimkkkiilcpoaa
