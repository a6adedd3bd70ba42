/- The document's Store; what is refused. -/
import Derived.Test.YtjimkkkiilcpoaaTmH
set_option linter.unusedVariables false
set_option linter.unusedSimpArgs false
namespace Go.Proofs.Ytjimkkkiilcpoaa
open Go.RowKit

/-- The tags when n bytes from a on were stored. -/
def storeT (T : List Bool) (a n : Nat) : List Bool := (List.range T.length).map fun k => T.getD k false && !decide (a < k * 16 + 16 ∧ k * 16 < a + n ∧ 0 < n)
theorem storeT_length (T : List Bool) (a n : Nat) : (storeT T a n).length = T.length := by simp [storeT]
theorem storeT_getD (T : List Bool) (a n k : Nat) : (storeT T a n).getD k false = (T.getD k false && !decide (a < k * 16 + 16 ∧ k * 16 < a + n ∧ 0 < n)) := by
  by_cases hk : k < T.length
  · rw [List.getD_eq_getElem?_getD, storeT, List.getElem?_map, List.getElem?_range hk]; rfl
  · rw [List.getD_eq_getElem?_getD, List.getElem?_eq_none (by rw [storeT_length]; omega), List.getD_eq_getElem?_getD, List.getElem?_eq_none (by omega)]; rfl
theorem list_ext_getD {α : Type} (l m : List α) (d : α) (hl : l.length = m.length) (h : ∀ k, k < l.length → l.getD k d = m.getD k d) : l = m := by
  apply List.ext_getElem hl
  intro k h1 h2
  have := h k h1
  rwa [List.getD_eq_getElem?_getD, List.getD_eq_getElem?_getD, List.getElem?_eq_getElem h1, List.getElem?_eq_getElem h2] at this
theorem storeT_zero (T : List Bool) (a : Nat) : storeT T a 0 = T := by
  refine list_ext_getD _ _ false (storeT_length ..) fun k _ => ?_
  rw [storeT_getD]
  simp
theorem storeT_succ (T : List Bool) (a n : Nat) (h : (a + n) / 16 < T.length) : storeT T a (n + 1) = (storeT T a n).set ((a + n) / 16) false := by
  refine list_ext_getD _ _ false (by rw [List.length_set, storeT_length, storeT_length]) fun k hk => ?_
  rw [getD_setL _ _ _ _ _ (by rw [storeT_length]; exact h), storeT_getD, storeT_getD]
  by_cases e : (a + n) / 16 = k
  · rw [if_pos e, decide_eq_true (by omega)]; simp
  · rw [if_neg e]
    congr 2
    by_cases h1 : a < k * 16 + 16 ∧ k * 16 < a + n ∧ 0 < n
    · rw [decide_eq_true h1, decide_eq_true (by omega)]
    · rw [decide_eq_false h1, decide_eq_false (by omega)]
theorem writeL_nil (D : List Int) (a : Nat) : writeL D a [] = D := by simp [writeL]
theorem writeL_snoc (D : List Int) (a : Nat) (bs : List Int) (x : Int) (h : a + bs.length + 1 ≤ D.length) : writeL D a (bs ++ [x]) = (writeL D a bs).set (a + bs.length) x := by
  refine list_ext_getD _ _ 0 (by rw [List.length_set, writeL_length _ _ _ (by simp; omega), writeL_length _ _ _ (by omega)]) fun k hk => ?_
  rw [getD_setL _ _ _ _ _ (by rw [writeL_length _ _ _ (by omega)]; omega), writeL_getD _ _ _ (by simp; omega), writeL_getD _ _ _ (by omega), List.length_append, List.length_singleton]
  by_cases e : a + bs.length = k
  · subst e
    rw [if_pos rfl, if_pos ⟨by omega, by omega⟩, List.getD_eq_getElem?_getD, List.getElem?_append_right (by omega)]
    simp
  · rw [if_neg e]
    by_cases h1 : a ≤ k ∧ k < a + bs.length
    · rw [if_pos ⟨h1.1, by omega⟩, if_pos h1, List.getD_eq_getElem?_getD, List.getElem?_append_left (by omega), ← List.getD_eq_getElem?_getD]
    · rw [if_neg (by omega), if_neg h1]
theorem take_snoc_n (xs : List Int) (j : Nat) (hj : j < xs.length) : xs.take (j + 1) = xs.take j ++ [rdn xs j] := by
  rw [List.take_add_one, rdn, List.getD_eq_getElem?_getD, List.getElem?_eq_getElem hj]; rfl
theorem writeL_isB {D bs : List Int} {a : Nat} (hD : isB D) (hb : isB bs) : isB (writeL D a bs) := fun x hx => by
  simp only [writeL, List.mem_append] at hx
  rcases hx with (h | h) | h
  · exact hD x (List.mem_of_mem_take h)
  · exact hb x h
  · exact hD x (List.mem_of_mem_drop h)
theorem rdn_le {xs : List Int} (h : isB xs) (j : Nat) : 0 ≤ rdn xs j ∧ rdn xs j ≤ 255 := isB_rdn h j

theorem TrM.byte {w : World} {b bB bT bP : Nat} {D : List Int} {T P : List Bool} (h : TrM w b bB bT bP D T P) {k : Nat} (hk : k < D.length) :
    w.cell? ⟨bB, k, none⟩ = some (.int .u8 (rdn D k)) ∧ w.frozen? ⟨bB, k, none⟩ = false :=
  ⟨by rw [h.2.2.2.1.cell, List.getElem?_toArray, u8s, List.getElem?_map, List.getElem?_eq_getElem hk, rdn, List.getD_eq_getElem?_getD, List.getElem?_eq_getElem hk]; rfl, h.2.2.2.1.frozen _⟩

set_option maxRecDepth 100000 in
set_option maxHeartbeats 1600000 in
theorem tr_store (b bB bT bP : Nat) (D : List Int) (T P : List Bool) (a : Nat) (A : Option Addr) (c : Nat) (xs : List Int) (w : World) (h : TrM w b bB bT bP D T P) (hr : RowU w (.slice A xs.length c) xs) (hx : isB xs) (hin : a + xs.length ≤ 256 * P.length)
    (hA : 0 < xs.length → ∀ ad, A = some ad → ad.block ∉ [bB, bT, bP]) :
    Calls Try.prog 60 #[.pointer (some ⟨b, 0, none⟩), .int .i64 a, .slice A xs.length c] w fun e w' => e = .returned (.bool true) ∧ TrM w' b bB bT bP (writeL D a xs) (storeT T a xs.length) P ∧ Turns [bB, bT, bP] w w' := by
  have hlD := h.1.1
  have hlT := h.1.2.1
  have hle := h.1.2.2.1
  have L := h.2.2.1.cell
  have hlt := h.lt.1
  rw [hlD] at L
  have h1 : ¬ ((256 * P.length : Nat) : Int) < (a : Int) := by omega
  have h2 : ¬ ((256 * P.length : Nat) : Int) - (a : Int) < ((xs.length : Nat) : Int) := by omega
  have h4 : ((256 * P.length : Nat) : Int) ≤ 16777216 := by omega
  have HIN := Lib.hid hin
  have HLD := Lib.hid hlD
  have HLT := Lib.hid hlT
  have HLE := Lib.hid hle
  have H := Lib.hid h
  have HR := Lib.hid hr
  have HX := Lib.hid hx
  have HA := Lib.hid hA
  clear h hr hx hA hin hlD hlT hle
  generalize hn : xs.length = n at *
  have HN := Lib.hid hn
  clear hn
  generalize hm : 256 * P.length = m at *
  have HM := Lib.hid hm
  clear hm
  have h5 : (a : Int) + n ≤ 16777216 := by omega
  go_enter Try.func60, Try.ntmps60
  go_wp2
  clear L
  go_loopg [7] n (fun k i wr => ∃ j : Nat, j + k = n ∧ i = .int .i64 j ∧ TrM wr b bB bT bP (writeL D a (xs.take j)) (storeT T a j) P ∧ Turns [bB, bT, bP] w wr)
  case atStart => exact ⟨0, by omega, rfl, by rw [List.take_zero, writeL_nil, storeT_zero]; exact H.out, Turns.refl _ _⟩
  case round =>
    obtain ⟨j, hjk, rfl, hT, ht⟩ := hrel
    have HJ := Lib.hid hjk
    have HT := Lib.hid hT
    have Ht := Lib.hid ht
    clear hjk hT ht
    rcases Nat.lt_or_ge j n with hlt' | hge
    · have i1 : (j : Int) < n := by omega
      obtain ⟨g, o, c2, hv, _, hc⟩ := HR.out.cells (by rw [HN.out]; omega)
      have eA : A = some ⟨g, o, none⟩ := by cases hv; rfl
      clear hv
      have hgn := HA.out (by omega) _ eA
      subst eA
      have hc1 := hc j (by rw [HN.out]; exact hlt')
      have hgw := World.block_lt_of_cell? w _ hc1
      have hc2 : wr.cell? ⟨g, o + j, none⟩ = some (.int .u8 (rdn xs j)) := (World.cell?_of_block (Ht.out.block g hgw hgn)).trans hc1
      have hgr := World.block_lt_of_cell? wr _ hc2
      have hs := take_snoc_n xs j (by rw [HN.out]; exact hlt')
      have hxb := rdn_le HX.out j
      have HS := Lib.hid hs
      have HB := Lib.hid hxb
      generalize rdn xs j = x at *
      have HLj := Lib.hid hlt'
      clear hs hxb hc hc1 hgn hlt' HR HA
      have hw1 : IntKind.i64.wrap ((a : Int) + j) = (a : Int) + j := IntWalk.i64_in _ (by omega)
      have hlD' := writeL_length D a (xs.take j) (by rw [List.length_take, HLD.out]; have := HIN.out; omega)
      have hlT' := storeT_length T a j
      have hsn := writeL_snoc D a (xs.take j) x (by rw [List.length_take, HLD.out]; have := HIN.out; have := HLj.out; have := HN.out; omega)
      have htn := storeT_succ T a j (by rw [HLT.out]; have := HIN.out; have := HM.out; have := HLj.out; omega)
      rw [List.length_take, Nat.min_eq_left (by rw [HN.out]; have := HLj.out; omega), ← HS.out] at hsn
      have HSn := Lib.hid hsn
      have HTn := Lib.hid htn
      generalize hD' : writeL D a (xs.take j) = D' at *
      generalize hT' : storeT T a j = T' at *
      have HlD := Lib.hid hlD'
      have HlT := Lib.hid hlT'
      clear hsn htn hD' hT' hlD' hlT'
      have i2 : (a : Int) + j < m := by have := HIN.out; have := HM.out; have := HLj.out; omega
      have hn2 : n ≤ c2 ∨ True := .inr trivial
      clear hn2
      go_wp2_with fail
      refine wp_flow_lit 11 (fun w' => TrM w' b bB bT bP D' T' P ∧ w'.cell? ⟨g, o + j, none⟩ = some (.int .u8 x))
        [none, none, none, none, none, none, none, none, none, none, none] (by kernel_rfl) (by kernel_rfl) ⟨HT.out, hc2⟩
        (fun w1 w2 h hb => ⟨h.1.below hb h.1.lt.1 h.1.lt.2.1 h.1.lt.2.2.1 h.1.lt.2.2.2, (hb.cell (p := ⟨g, o + j, none⟩) (World.block_lt_of_cell? _ _ h.2)).trans h.2⟩) trivial ?_
      try simp (config := { maxSteps := 10000000 }) only [specV, addF, Act.put, List.setIfInBounds_toArray, List.set_cons_zero, List.set_cons_succ, List.take_succ_cons, List.take_zero, List.drop_succ_cons, List.drop_zero]
      (apply Exists.intro; refine ⟨fun vs w1 hS hB hf => ?_, ?_⟩; (focus (clear hS hB hf; go_simp; first | exact ⟨Below.refl _ _, rfl⟩ | exact rfl)); try simp (config := { maxSteps := 10000000 }) only [specV, addF, Act.put, List.setIfInBounds_toArray, List.set_cons_zero, List.set_cons_succ, List.take_succ_cons, List.take_zero, List.drop_succ_cons, List.drop_zero])
      (apply Exists.intro; refine ⟨fun vs w1 hS hB hf => ?_, ?_⟩; (focus (clear hS hB hf; go_simp; first | exact ⟨Below.refl _ _, rfl⟩ | exact rfl)); try simp (config := { maxSteps := 10000000 }) only [specV, addF, Act.put, List.setIfInBounds_toArray, List.set_cons_zero, List.set_cons_succ, List.take_succ_cons, List.take_zero, List.drop_succ_cons, List.drop_zero])
      (apply Exists.intro; refine ⟨fun vs w1 hS hB hf => ?_, ?_⟩; (focus (clear hS hB hf; go_simp; first | exact ⟨Below.refl _ _, rfl⟩ | exact rfl)); try simp (config := { maxSteps := 10000000 }) only [specV, addF, Act.put, List.setIfInBounds_toArray, List.set_cons_zero, List.set_cons_succ, List.take_succ_cons, List.take_zero, List.drop_succ_cons, List.drop_zero])
      (apply Exists.intro; refine ⟨fun vs w1 hS hB hf => ?_, ?_⟩; (focus (have L1 := hS.1.2.2.1.cell; have hl1 := hS.1.lt.1; rw [HlD.out, HLD.out] at L1; clear hS hB hf; go_simp; first | exact ⟨Below.refl _ _, rfl⟩ | exact rfl)); try simp (config := { maxSteps := 10000000 }) only [specV, addF, Act.put, List.setIfInBounds_toArray, List.set_cons_zero, List.set_cons_succ, List.take_succ_cons, List.take_zero, List.drop_succ_cons, List.drop_zero])
      (apply Exists.intro; refine ⟨fun vs w1 hS hB hf => ?_, ?_⟩; (focus (clear hS hB hf; go_simp; first | exact ⟨Below.refl _ _, rfl⟩ | exact rfl)); try simp (config := { maxSteps := 10000000 }) only [specV, addF, Act.put, List.setIfInBounds_toArray, List.set_cons_zero, List.set_cons_succ, List.take_succ_cons, List.take_zero, List.drop_succ_cons, List.drop_zero])
      (apply Exists.intro; refine ⟨fun vs w1 hS hB hf => ?_, ?_⟩; (focus (clear hS hB hf; go_simp; first | exact ⟨Below.refl _ _, rfl⟩ | exact rfl)); try simp (config := { maxSteps := 10000000 }) only [specV, addF, Act.put, List.setIfInBounds_toArray, List.set_cons_zero, List.set_cons_succ, List.take_succ_cons, List.take_zero, List.drop_succ_cons, List.drop_zero])
      (apply Exists.intro; refine ⟨fun vs w1 hS hB hf => ?_, ?_⟩; (focus (clear hS hB hf; go_simp; first | exact ⟨Below.refl _ _, rfl⟩ | exact rfl)); try simp (config := { maxSteps := 10000000 }) only [specV, addF, Act.put, List.setIfInBounds_toArray, List.set_cons_zero, List.set_cons_succ, List.take_succ_cons, List.take_zero, List.drop_succ_cons, List.drop_zero])
      (apply Exists.intro; refine ⟨fun vs w1 hS hB hf => ?_, ?_⟩; (focus (clear hS hB hf; go_simp; first | exact ⟨Below.refl _ _, rfl⟩ | exact rfl)); try simp (config := { maxSteps := 10000000 }) only [specV, addF, Act.put, List.setIfInBounds_toArray, List.set_cons_zero, List.set_cons_succ, List.take_succ_cons, List.take_zero, List.drop_succ_cons, List.drop_zero])
      (apply Exists.intro; refine ⟨fun vs w1 hS hB hf => ?_, ?_⟩; (focus (clear hS hB hf; go_simp; first | exact ⟨Below.refl _ _, rfl⟩ | exact rfl)); try simp (config := { maxSteps := 10000000 }) only [specV, addF, Act.put, List.setIfInBounds_toArray, List.set_cons_zero, List.set_cons_succ, List.take_succ_cons, List.take_zero, List.drop_succ_cons, List.drop_zero])
      (apply Exists.intro; refine ⟨fun vs w1 hS hB hf => ?_, ?_⟩; (focus (clear hS hB hf; go_simp; first | exact ⟨Below.refl _ _, rfl⟩ | exact rfl)); try simp (config := { maxSteps := 10000000 }) only [specV, addF, Act.put, List.setIfInBounds_toArray, List.set_cons_zero, List.set_cons_succ, List.take_succ_cons, List.take_zero, List.drop_succ_cons, List.drop_zero])
      (apply Exists.intro; refine ⟨fun vs w1 hS hB hf => ?_, ?_⟩; (focus (have L1 := hS.2; have hl1 := World.block_lt_of_cell? _ _ hS.2; clear hS hB hf; go_simp; first | exact ⟨Below.refl _ _, rfl⟩ | exact rfl)); try simp (config := { maxSteps := 10000000 }) only [specV, addF, Act.put, List.setIfInBounds_toArray, List.set_cons_zero, List.set_cons_succ, List.take_succ_cons, List.take_zero, List.drop_succ_cons, List.drop_zero])
      intro vs W5 hS hB5 _
      dsimp only
      have HS5 := Lib.hid hS.1
      have Ht5 := Lib.hid (Ht.out.trans (Turns.below hB5))
      have i3 : ((a + j : Nat) : Int) < m := by omega
      obtain ⟨c5, f5⟩ := hS.1.byte (k := a + j) (by rw [HlD.out, HLD.out]; omega)
      have hl5 := hS.1.lt.2.1
      clear hS hB5 hc2 hgr HT Ht
      go_upto_region 7 with fail
      refine wp_gen (fun w' => TrM w' b bB bT bP (D'.set (a + j) x) T' P ∧ Turns [bB, bT, bP] w w') ⟨HS5.out.setByte (a + j) x HB.out, Ht5.out.trans (Turns.set _ (by simp) _ _)⟩ ?_
      clear HS5 Ht5 c5 f5 hl5
      rintro W6 ⟨h6, t6⟩
      have L6 := h6.2.2.1.cell
      rw [HlT.out, HLT.out] at L6
      have hl6 := h6.lt.1
      have hl7 := h6.lt.2.2.1
      have i4 : ((a + j : Nat) : Int) / 16 < ((16 * P.length : Nat) : Int) := by have := HM.out; omega
      obtain ⟨c6, f6⟩ := h6.tag (k := (a + j) / 16) (by rw [HlT.out, HLT.out]; omega)
      have H6 := Lib.hid h6
      have T6 := Lib.hid t6
      clear h6 t6
      go_wp2
      go_roundg (gk - 1)
      case measure => have := HJ.out; have := HLj.out; omega
      case rel => exact ⟨j + 1, by have := HJ.out; have := HLj.out; omega, by go_num, by rw [HSn.out, HTn.out]; exact H6.out.setTag _ false, T6.out.trans (Turns.set _ (by simp) _ _)⟩
    · have i1 : ¬ (j : Int) < n := by omega
      have e : j = n := by have := HJ.out; omega
      subst e
      have e2 : xs.take j = xs := List.take_of_length_le (by rw [HN.out]; exact Nat.le_refl _)
      rw [e2] at HT
      clear hge e2
      go_wp2
      go_ret
      exact ⟨rfl, HT.out, Ht.out⟩
set_option maxRecDepth 100000 in
set_option maxHeartbeats 1600000 in
theorem tr_load_no (b bB bT bP : Nat) (D : List Int) (T P : List Bool) (a k : Int) (w : World) (h : TrM w b bB bT bP D T P) (ha : inI a) (hk : inI k) (hn : inB P.length a k = false) :
    Calls Try.prog 56 #[.pointer (some ⟨b, 0, none⟩), .int .i64 a, .int .i64 k] w fun e w' => e = .returned (.tuple #[.slice none 0 0, .bool false]) ∧ w = w' := by
  have hlD := h.1.1
  have hle := h.1.2.2.1
  have L := h.2.2.1.cell
  have hlt := h.lt.1
  rw [hlD] at L
  obtain ⟨a0, a1⟩ := ha
  obtain ⟨k0, k1⟩ := hk
  simp only [inB, decide_eq_false_iff_not] at hn
  have hm : ((256 * P.length : Nat) : Int) ≤ 16777216 := by omega
  rcases (show a < 0 ∨ (¬ a < 0 ∧ k < 0) ∨ (¬ a < 0 ∧ ¬ k < 0 ∧ ((256 * P.length : Nat) : Int) < a) ∨ (¬ a < 0 ∧ ¬ k < 0 ∧ ¬ ((256 * P.length : Nat) : Int) < a ∧ ((256 * P.length : Nat) : Int) - a < k) by omega) with h1 | ⟨h1, h2⟩ | ⟨h1, h2, h3⟩ | ⟨h1, h2, h3, h4⟩
  all_goals (generalize 256 * P.length = m at *; clear h hlD hle hn; go_enter Try.func56, Try.ntmps56; go_wp2; go_ret2; exact ⟨rfl, rfl⟩)

set_option maxRecDepth 100000 in
set_option maxHeartbeats 1600000 in
theorem tr_store_no (b bB bT bP : Nat) (D : List Int) (T P : List Bool) (a : Int) (A : Option Addr) (n c : Nat) (w : World) (h : TrM w b bB bT bP D T P) (ha : inI a) (hk : (n : Int) ≤ 9223372036854775807) (hn : inB P.length a n = false) :
    Calls Try.prog 60 #[.pointer (some ⟨b, 0, none⟩), .int .i64 a, .slice A n c] w fun e w' => e = .returned (.bool false) ∧ w = w' := by
  have hlD := h.1.1
  have hle := h.1.2.2.1
  have L := h.2.2.1.cell
  have hlt := h.lt.1
  rw [hlD] at L
  obtain ⟨a0, a1⟩ := ha
  simp only [inB, decide_eq_false_iff_not] at hn
  have hm : ((256 * P.length : Nat) : Int) ≤ 16777216 := by omega
  rcases (show a < 0 ∨ (¬ a < 0 ∧ ((256 * P.length : Nat) : Int) < a) ∨ (¬ a < 0 ∧ ¬ ((256 * P.length : Nat) : Int) < a ∧ ((256 * P.length : Nat) : Int) - a < n) by omega) with h1 | ⟨h1, h2⟩ | ⟨h1, h2, h3⟩
  all_goals (generalize 256 * P.length = m at *; clear h hlD hle hn; go_enter Try.func60, Try.ntmps60; go_wp2; go_ret; exact ⟨rfl, rfl⟩)
end Go.Proofs.Ytjimkkkiilcpoaa
