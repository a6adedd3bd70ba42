/- Numbers alike; the document's Load. -/
import Derived.Test.YtjimkkkiilcpoaaTmA
import Derived.Test.YtjimkkkiilcpoaaEncF
import Derived.Test.YtjimkkkiilcpoaaShB
set_option linter.unusedVariables false
set_option linter.unusedSimpArgs false
namespace Go.Proofs.Ytjimkkkiilcpoaa
open Go.RowKit

/-- A slice whose cells are these numbers. -/
def RowI (w : World) (v : Value) (xs : List Int) : Prop := ∃ A c, v = .slice A xs.length c ∧ RdL w A (i64s xs)
theorem RowI.below {w w1 : World} {v : Value} {xs : List Int} (h : RowI w v xs) (hb : Below w.heap.size w w1) : RowI w1 v xs := by
  obtain ⟨A, c, h1, h2⟩ := h
  exact ⟨A, c, h1, h2.below hb⟩
theorem RowI.own {w : World} {base : Nat} {e : TypeId} {v : Value} {n : Nat} {xs : List Int} (h : w.ownsRow base e 1 v n (i64s xs)) : RowI w v xs := by
  have hn : xs.length = n := by have := h.1; simpa [i64s] using this
  obtain ⟨A, c, rfl⟩ := own_form h
  exact ⟨A, c, by rw [hn], RdL.own h⟩
def rdi (xs : List Int) (j : Nat) : Int := xs.getD j 0
theorem RowI.cellsA {w : World} {A : Option Addr} {n c : Nat} {xs : List Int} (h : RowI w (.slice A n c) xs) (hl : 0 < xs.length) : ∃ b o, A = some ⟨b, o, none⟩ ∧ ∀ j, j < xs.length → w.cell? ⟨b, o + j, none⟩ = some (.int .i64 (rdi xs j)) := by
  obtain ⟨A', c', hv, hR⟩ := h
  cases hv
  have hget : ∀ j, j < xs.length → (i64s xs)[j]? = some (.int .i64 (rdi xs j)) := fun j hj => by
    simp [i64s, rdi, List.getElem?_eq_getElem hj, List.getD_eq_getElem?_getD]
  obtain ⟨ad, hA, h0⟩ := hR 0 _ (hget 0 hl)
  subst hA
  have hsp := spot_of_cell h0
  obtain ⟨b, o, s⟩ := ad
  simp only at hsp
  subst hsp
  refine ⟨b, o, rfl, fun j hj => ?_⟩
  obtain ⟨ad', h1, h2⟩ := hR j _ (hget j hj)
  cases h1
  rwa [add_plain] at h2
theorem take_snoc_i (xs : List Int) (j : Nat) (hj : j < xs.length) : xs.take (j + 1) = xs.take j ++ [rdi xs j] := by
  rw [List.take_add_one, rdi, List.getD_eq_getElem?_getD, List.getElem?_eq_getElem hj]; rfl

set_option maxRecDepth 100000 in
set_option maxHeartbeats 1600000 in
theorem same_ints (v1 v2 : Value) (R S : List Int) (w : World) (h1 : RowI w v1 R) (h2 : RowI w v2 S) (hR : R.length ≤ 1048576) :
    Calls Try.prog 61 #[v1, v2] w fun e w' => e = .returned (.bool (decide (R = S))) ∧ ∃ n, w' = w.drewN n := by
  obtain ⟨A1, c1, rfl, k1⟩ := h1
  obtain ⟨A2, c2, rfl, k2⟩ := h2
  have H1 : Hid (RowI w (.slice A1 R.length c1) R) := Lib.hid ⟨A1, c1, rfl, k1⟩
  have H2 : Hid (RowI w (.slice A2 S.length c2) S) := Lib.hid ⟨A2, c2, rfl, k2⟩
  clear k1 k2
  by_cases hl : R.length = S.length
  · have HL := Lib.hid hl
    rw [← hl] at H2 ⊢
    clear hl
    generalize hn : R.length = n at *
    have Hn := Lib.hid hn
    have hR' : (n : Int) ≤ 1048576 := by omega
    clear hn hR
    go_enter Try.func61, Try.ntmps61
    go_wp2
    go_loopg [5] n (fun k i wr => ∃ j : Nat, j + k = n ∧ i = .int .i64 j ∧ R.take j = S.take j ∧ ∃ d, wr = w.drewN d)
    case atStart => exact ⟨0, by omega, rfl, by rw [List.take_zero, List.take_zero], 0, rfl⟩
    case round =>
      obtain ⟨j, hjk, rfl, ht, d, rfl⟩ := hrel
      have Hjk := Lib.hid hjk
      have Ht := Lib.hid ht
      clear hjk ht
      rcases Nat.lt_or_ge j n with hlt | hge
      · have i1 : (j : Int) < n := by omega
        obtain ⟨g1, o1, rfl, hc1⟩ := H1.out.cellsA (by rw [Hn.out]; omega)
        obtain ⟨g2, o2, rfl, hc2⟩ := H2.out.cellsA (by rw [← HL.out]; omega)
        have c10 := hc1 j (by rw [Hn.out]; exact hlt)
        have c20 := hc2 j (by rw [← HL.out]; exact hlt)
        have Hr := Lib.hid (take_snoc_i R j (by rw [Hn.out]; exact hlt))
        have Hs := Lib.hid (take_snoc_i S j (by rw [← HL.out]; exact hlt))
        have Hne : Hid (¬ rdi R j = rdi S j → ¬ R = S) := Lib.hid fun h e => h (by rw [e])
        generalize rdi R j = x at *
        generalize rdi S j = y at *
        have Hlt := Lib.hid hlt
        clear hlt hc1 hc2
        by_cases he : x = y
        · subst he
          have h0 : (x != x) = false := by simp
          go_upto_region 6 with fail
          go_quiet (fail)
          go_wp2
          go_roundg (gk - 1)
          case measure => have := Hjk.out; have := Hlt.out; omega
          case rel => exact ⟨j + 1, by have := Hjk.out; have := Hlt.out; omega, by go_num, by rw [Hr.out, Hs.out, Ht.out], _, rfl⟩
        · have hne := Lib.hid (Hne.out he)
          have h0 : (x != y) = true := by simpa using he
          clear he
          go_upto_region 6 with fail
          go_quiet (fail)
          go_wp2
          go_ret
          exact ⟨by rw [decide_eq_false hne.out]; rfl, _, World.drewN_drewN ..⟩
      · have i1 : ¬ (j : Int) < n := by omega
        have he : R = S := by
          have h := Ht.out
          rwa [List.take_of_length_le (by rw [Hn.out]; omega), List.take_of_length_le (by rw [← HL.out]; omega)] at h
        have He := Lib.hid he
        clear he hge
        go_wp2
        go_ret
        exact ⟨by rw [decide_eq_true He.out]; rfl, d, rfl⟩
  · have hne : ¬ R = S := fun e => hl (by rw [e])
    rw [decide_eq_false hne]
    have h0 : ¬ (R.length : Int) = S.length := by omega
    generalize R.length = n at *
    generalize S.length = m at *
    have hR' : (n : Int) ≤ 1048576 := by omega
    clear hne hl H1 H2
    go_enter Try.func61, Try.ntmps61
    go_wp2
    go_ret
    exact ⟨rfl, 0, rfl⟩
end Go.Proofs.Ytjimkkkiilcpoaa

/- The document's Load and Store. -/
namespace Go.Proofs.Ytjimkkkiilcpoaa
open Go.RowKit

/-- Are so many bytes there? -/
def inB (n : Nat) (a k : Int) : Bool := decide (0 ≤ a ∧ 0 ≤ k ∧ a ≤ n * 256 ∧ k ≤ n * 256 - a)
/-- So many bytes from a on. -/
def partL (D : List Int) (a k : Nat) : List Int := (D.drop a).take k
theorem partL_len (D : List Int) (a k : Nat) (h : a + k ≤ D.length) : (partL D a k).length = k := by simp [partL]; omega
theorem u8s_take (D : List Int) (k : Nat) : u8s (D.take k) = (u8s D).take k := by simp [u8s, List.map_take]
theorem TrM.rd {w : World} {b bB bT bP : Nat} {D : List Int} {T P : List Bool} (h : TrM w b bB bT bP D T P) (a k : Nat) : RdL w (some ⟨bB, a, none⟩) (u8s (partL D a k)) := fun j u hu => by
  refine ⟨_, rfl, ?_⟩
  rw [add_plain, h.2.2.2.1.cell, List.getElem?_toArray]
  simp only [partL, u8s, List.getElem?_map, List.getElem?_take, List.getElem?_drop] at hu ⊢
  split at hu
  · exact hu
  · cases hu

set_option maxRecDepth 100000 in
set_option maxHeartbeats 1600000 in
theorem tr_load (b bB bT bP : Nat) (D : List Int) (T P : List Bool) (a k : Nat) (w : World) (h : TrM w b bB bT bP D T P) (hin : a + k ≤ 256 * P.length) :
    Calls Try.prog 56 #[.pointer (some ⟨b, 0, none⟩), .int .i64 a, .int .i64 k] w fun e w' => ∃ v, e = .returned (.tuple #[v, .bool true]) ∧ w'.ownsRow w.heap.size 5 1 v k (u8s (partL D a k)) ∧ Below w.heap.size w w' := by
  have hlD := h.1.1
  have hle := h.1.2.2.1
  have L := h.2.2.1.cell
  have hlt := h.lt.1
  have HP := Lib.hid (partL_len D a k (by omega))
  have h1 : ¬ ((256 * P.length : Nat) : Int) < (a : Int) := by omega
  have h2 : ¬ ((256 * P.length : Nat) : Int) - (a : Int) < (k : Int) := by omega
  have h3 : (a : Int) + k ≤ ((256 * P.length : Nat) : Int) := by omega
  have HR := Lib.hid ((h.rd a k).below (by go_grown : Below w.heap.size w (w.alloc (.cells #[] 5))))
  rw [hlD] at L
  have h4 : ((256 * P.length : Nat) : Int) ≤ 16777216 := by omega
  have HO : Hid ((w.alloc (.cells #[] 5)).ownsRow w.heap.size 5 1 (.slice (some ⟨w.heap.size, 0, none⟩) 0 0) 0 []) := Lib.hid (World.ownsRow_made w #[] 0 (Nat.le_refl _) (by decide) rfl)
  generalize partL D a k = xs at *
  generalize 256 * P.length = m at *
  clear h hlD hle
  have hk : (k : Int) ≤ 16777216 := by omega
  rcases Nat.eq_zero_or_pos k with h0 | h0
  · subst h0
    have e : xs = [] := List.eq_nil_of_length_eq_zero HP.out
    subst e
    go_enter Try.func56, Try.ntmps56
    go_wp2
    all_goals (go_ret2; exact ⟨_, rfl, HO.out, by go_grown⟩)
  · have i1 : ¬ m = a := by omega
    have i2 : ¬ k = 0 := by omega
    go_enter Try.func56, Try.ntmps56
    go_wp2_with (first
      | (at_builtin; (refine app (w0 := w) (W := w.alloc _) w.heap.size rfl _ _ 24 5 (.int .u8 0) 1 1 rfl Try.underlying24 infoU8' rfl (by decide) (by decide) _ _ _ (u8s xs) (some ⟨bB, a, none⟩) (a + k - a) _ rfl rfl (by rw [u8s, List.length_map, HP.out]; omega) (by intro u hu; simp [u8s] at hu; obtain ⟨x, _, rfl⟩ := hu; rfl) HO.out HR.out ((Below.refl _ w).alloc (Nat.le_refl _) _) (by first | omega | (simp only [World.size_alloc, World.size_drew, World.size_setCell]; omega) | (simp; done) | (simp; omega)) (by omega) ?_; intro v1 w3 hown1 hb2 _)))
    go_ret2
    refine ⟨_, rfl, ?_, hb2⟩
    rw [List.nil_append, show 0 + (a + k - a) = k by omega] at hown1
    exact hown1
end Go.Proofs.Ytjimkkkiilcpoaa

/- The document's Store; what is refused. -/
namespace Go.Proofs.Ytjimkkkiilcpoaa
open Go.RowKit

/-- The tags when n bytes from a on were stored. -/
def storeT (T : List Bool) (a n : Nat) : List Bool := (List.range T.length).map fun k => T.getD k false && !decide (a < k * 16 + 16 ∧ k * 16 < a + n ∧ 0 < n)
theorem storeT_length (T : List Bool) (a n : Nat) : (storeT T a n).length = T.length := by simp [storeT]
theorem storeT_getD (T : List Bool) (a n k : Nat) : (storeT T a n).getD k false = (T.getD k false && !decide (a < k * 16 + 16 ∧ k * 16 < a + n ∧ 0 < n)) := by
  by_cases hk : k < T.length
  · rw [List.getD_eq_getElem?_getD, storeT, List.getElem?_map, List.getElem?_range hk]; rfl
  · rw [List.getD_eq_getElem?_getD, List.getElem?_eq_none (by rw [storeT_length]; omega), List.getD_eq_getElem?_getD, List.getElem?_eq_none (by omega)]; rfl
theorem list_ext_getD {α : Type} (l m : List α) (d : α) (hl : l.length = m.length) (h : ∀ k, k < l.length → l.getD k d = m.getD k d) : l = m := by
  apply List.ext_getElem hl
  intro k h1 h2
  have := h k h1
  rwa [List.getD_eq_getElem?_getD, List.getD_eq_getElem?_getD, List.getElem?_eq_getElem h1, List.getElem?_eq_getElem h2] at this
theorem storeT_zero (T : List Bool) (a : Nat) : storeT T a 0 = T := by
  refine list_ext_getD _ _ false (storeT_length ..) fun k _ => ?_
  rw [storeT_getD]
  simp
theorem storeT_succ (T : List Bool) (a n : Nat) (h : (a + n) / 16 < T.length) : storeT T a (n + 1) = (storeT T a n).set ((a + n) / 16) false := by
  refine list_ext_getD _ _ false (by rw [List.length_set, storeT_length, storeT_length]) fun k hk => ?_
  rw [getD_setL _ _ _ _ _ (by rw [storeT_length]; exact h), storeT_getD, storeT_getD]
  by_cases e : (a + n) / 16 = k
  · rw [if_pos e, decide_eq_true (by omega)]; simp
  · rw [if_neg e]
    congr 2
    by_cases h1 : a < k * 16 + 16 ∧ k * 16 < a + n ∧ 0 < n
    · rw [decide_eq_true h1, decide_eq_true (by omega)]
    · rw [decide_eq_false h1, decide_eq_false (by omega)]
theorem writeL_nil (D : List Int) (a : Nat) : writeL D a [] = D := by simp [writeL]
theorem writeL_snoc (D : List Int) (a : Nat) (bs : List Int) (x : Int) (h : a + bs.length + 1 ≤ D.length) : writeL D a (bs ++ [x]) = (writeL D a bs).set (a + bs.length) x := by
  refine list_ext_getD _ _ 0 (by rw [List.length_set, writeL_length _ _ _ (by simp; omega), writeL_length _ _ _ (by omega)]) fun k hk => ?_
  rw [getD_setL _ _ _ _ _ (by rw [writeL_length _ _ _ (by omega)]; omega), writeL_getD _ _ _ (by simp; omega), writeL_getD _ _ _ (by omega), List.length_append, List.length_singleton]
  by_cases e : a + bs.length = k
  · subst e
    rw [if_pos rfl, if_pos ⟨by omega, by omega⟩, List.getD_eq_getElem?_getD, List.getElem?_append_right (by omega)]
    simp
  · rw [if_neg e]
    by_cases h1 : a ≤ k ∧ k < a + bs.length
    · rw [if_pos ⟨h1.1, by omega⟩, if_pos h1, List.getD_eq_getElem?_getD, List.getElem?_append_left (by omega), ← List.getD_eq_getElem?_getD]
    · rw [if_neg (by omega), if_neg h1]
theorem take_snoc_n (xs : List Int) (j : Nat) (hj : j < xs.length) : xs.take (j + 1) = xs.take j ++ [rdn xs j] := by
  rw [List.take_add_one, rdn, List.getD_eq_getElem?_getD, List.getElem?_eq_getElem hj]; rfl
theorem writeL_isB {D bs : List Int} {a : Nat} (hD : isB D) (hb : isB bs) : isB (writeL D a bs) := fun x hx => by
  simp only [writeL, List.mem_append] at hx
  rcases hx with (h | h) | h
  · exact hD x (List.mem_of_mem_take h)
  · exact hb x h
  · exact hD x (List.mem_of_mem_drop h)
theorem rdn_le {xs : List Int} (h : isB xs) (j : Nat) : 0 ≤ rdn xs j ∧ rdn xs j ≤ 255 := isB_rdn h j

theorem TrM.byte {w : World} {b bB bT bP : Nat} {D : List Int} {T P : List Bool} (h : TrM w b bB bT bP D T P) {k : Nat} (hk : k < D.length) :
    w.cell? ⟨bB, k, none⟩ = some (.int .u8 (rdn D k)) ∧ w.frozen? ⟨bB, k, none⟩ = false :=
  ⟨by rw [h.2.2.2.1.cell, List.getElem?_toArray, u8s, List.getElem?_map, List.getElem?_eq_getElem hk, rdn, List.getD_eq_getElem?_getD, List.getElem?_eq_getElem hk]; rfl, h.2.2.2.1.frozen _⟩

set_option maxRecDepth 100000 in
set_option maxHeartbeats 1600000 in
theorem tr_store (b bB bT bP : Nat) (D : List Int) (T P : List Bool) (a : Nat) (A : Option Addr) (c : Nat) (xs : List Int) (w : World) (h : TrM w b bB bT bP D T P) (hr : RowU w (.slice A xs.length c) xs) (hx : isB xs) (hin : a + xs.length ≤ 256 * P.length)
    (hA : 0 < xs.length → ∀ ad, A = some ad → ad.block ∉ [bB, bT, bP]) :
    Calls Try.prog 60 #[.pointer (some ⟨b, 0, none⟩), .int .i64 a, .slice A xs.length c] w fun e w' => e = .returned (.bool true) ∧ TrM w' b bB bT bP (writeL D a xs) (storeT T a xs.length) P ∧ Turns [bB, bT, bP] w w' := by
  have hlD := h.1.1
  have hlT := h.1.2.1
  have hle := h.1.2.2.1
  have L := h.2.2.1.cell
  have hlt := h.lt.1
  rw [hlD] at L
  have h1 : ¬ ((256 * P.length : Nat) : Int) < (a : Int) := by omega
  have h2 : ¬ ((256 * P.length : Nat) : Int) - (a : Int) < ((xs.length : Nat) : Int) := by omega
  have h4 : ((256 * P.length : Nat) : Int) ≤ 16777216 := by omega
  have HIN := Lib.hid hin
  have HLD := Lib.hid hlD
  have HLT := Lib.hid hlT
  have HLE := Lib.hid hle
  have H := Lib.hid h
  have HR := Lib.hid hr
  have HX := Lib.hid hx
  have HA := Lib.hid hA
  clear h hr hx hA hin hlD hlT hle
  generalize hn : xs.length = n at *
  have HN := Lib.hid hn
  clear hn
  generalize hm : 256 * P.length = m at *
  have HM := Lib.hid hm
  clear hm
  have h5 : (a : Int) + n ≤ 16777216 := by omega
  go_enter Try.func60, Try.ntmps60
  go_wp2
  clear L
  go_loopg [7] n (fun k i wr => ∃ j : Nat, j + k = n ∧ i = .int .i64 j ∧ TrM wr b bB bT bP (writeL D a (xs.take j)) (storeT T a j) P ∧ Turns [bB, bT, bP] w wr)
  case atStart => exact ⟨0, by omega, rfl, by rw [List.take_zero, writeL_nil, storeT_zero]; exact H.out, Turns.refl _ _⟩
  case round =>
    obtain ⟨j, hjk, rfl, hT, ht⟩ := hrel
    have HJ := Lib.hid hjk
    have HT := Lib.hid hT
    have Ht := Lib.hid ht
    clear hjk hT ht
    rcases Nat.lt_or_ge j n with hlt' | hge
    · have i1 : (j : Int) < n := by omega
      obtain ⟨g, o, c2, hv, _, hc⟩ := HR.out.cells (by rw [HN.out]; omega)
      have eA : A = some ⟨g, o, none⟩ := by cases hv; rfl
      clear hv
      have hgn := HA.out (by omega) _ eA
      subst eA
      have hc1 := hc j (by rw [HN.out]; exact hlt')
      have hgw := World.block_lt_of_cell? w _ hc1
      have hc2 : wr.cell? ⟨g, o + j, none⟩ = some (.int .u8 (rdn xs j)) := (World.cell?_of_block (Ht.out.block g hgw hgn)).trans hc1
      have hgr := World.block_lt_of_cell? wr _ hc2
      have hs := take_snoc_n xs j (by rw [HN.out]; exact hlt')
      have hxb := rdn_le HX.out j
      have HS := Lib.hid hs
      have HB := Lib.hid hxb
      generalize rdn xs j = x at *
      have HLj := Lib.hid hlt'
      clear hs hxb hc hc1 hgn hlt' HR HA
      have hw1 : IntKind.i64.wrap ((a : Int) + j) = (a : Int) + j := IntWalk.i64_in _ (by omega)
      have hlD' := writeL_length D a (xs.take j) (by rw [List.length_take, HLD.out]; have := HIN.out; omega)
      have hlT' := storeT_length T a j
      have hsn := writeL_snoc D a (xs.take j) x (by rw [List.length_take, HLD.out]; have := HIN.out; have := HLj.out; have := HN.out; omega)
      have htn := storeT_succ T a j (by rw [HLT.out]; have := HIN.out; have := HM.out; have := HLj.out; omega)
      rw [List.length_take, Nat.min_eq_left (by rw [HN.out]; have := HLj.out; omega), ← HS.out] at hsn
      have HSn := Lib.hid hsn
      have HTn := Lib.hid htn
      generalize hD' : writeL D a (xs.take j) = D' at *
      generalize hT' : storeT T a j = T' at *
      have HlD := Lib.hid hlD'
      have HlT := Lib.hid hlT'
      clear hsn htn hD' hT' hlD' hlT'
      have i2 : (a : Int) + j < m := by have := HIN.out; have := HM.out; have := HLj.out; omega
      have hn2 : n ≤ c2 ∨ True := .inr trivial
      clear hn2
      go_wp2_with fail
      refine wp_flow_lit 11 (fun w' => TrM w' b bB bT bP D' T' P ∧ w'.cell? ⟨g, o + j, none⟩ = some (.int .u8 x))
        [none, none, none, none, none, none, none, none, none, none, none] (by kernel_rfl) (by kernel_rfl) ⟨HT.out, hc2⟩
        (fun w1 w2 h hb => ⟨h.1.below hb h.1.lt.1 h.1.lt.2.1 h.1.lt.2.2.1 h.1.lt.2.2.2, (hb.cell (p := ⟨g, o + j, none⟩) (World.block_lt_of_cell? _ _ h.2)).trans h.2⟩) trivial ?_
      try simp (config := { maxSteps := 10000000 }) only [specV, addF, Act.put, List.setIfInBounds_toArray, List.set_cons_zero, List.set_cons_succ, List.take_succ_cons, List.take_zero, List.drop_succ_cons, List.drop_zero]
      (apply Exists.intro; refine ⟨fun vs w1 hS hB hf => ?_, ?_⟩; (focus (clear hS hB hf; go_simp; first | exact ⟨Below.refl _ _, rfl⟩ | exact rfl)); try simp (config := { maxSteps := 10000000 }) only [specV, addF, Act.put, List.setIfInBounds_toArray, List.set_cons_zero, List.set_cons_succ, List.take_succ_cons, List.take_zero, List.drop_succ_cons, List.drop_zero])
      (apply Exists.intro; refine ⟨fun vs w1 hS hB hf => ?_, ?_⟩; (focus (clear hS hB hf; go_simp; first | exact ⟨Below.refl _ _, rfl⟩ | exact rfl)); try simp (config := { maxSteps := 10000000 }) only [specV, addF, Act.put, List.setIfInBounds_toArray, List.set_cons_zero, List.set_cons_succ, List.take_succ_cons, List.take_zero, List.drop_succ_cons, List.drop_zero])
      (apply Exists.intro; refine ⟨fun vs w1 hS hB hf => ?_, ?_⟩; (focus (clear hS hB hf; go_simp; first | exact ⟨Below.refl _ _, rfl⟩ | exact rfl)); try simp (config := { maxSteps := 10000000 }) only [specV, addF, Act.put, List.setIfInBounds_toArray, List.set_cons_zero, List.set_cons_succ, List.take_succ_cons, List.take_zero, List.drop_succ_cons, List.drop_zero])
      (apply Exists.intro; refine ⟨fun vs w1 hS hB hf => ?_, ?_⟩; (focus (have L1 := hS.1.2.2.1.cell; have hl1 := hS.1.lt.1; rw [HlD.out, HLD.out] at L1; clear hS hB hf; go_simp; first | exact ⟨Below.refl _ _, rfl⟩ | exact rfl)); try simp (config := { maxSteps := 10000000 }) only [specV, addF, Act.put, List.setIfInBounds_toArray, List.set_cons_zero, List.set_cons_succ, List.take_succ_cons, List.take_zero, List.drop_succ_cons, List.drop_zero])
      (apply Exists.intro; refine ⟨fun vs w1 hS hB hf => ?_, ?_⟩; (focus (clear hS hB hf; go_simp; first | exact ⟨Below.refl _ _, rfl⟩ | exact rfl)); try simp (config := { maxSteps := 10000000 }) only [specV, addF, Act.put, List.setIfInBounds_toArray, List.set_cons_zero, List.set_cons_succ, List.take_succ_cons, List.take_zero, List.drop_succ_cons, List.drop_zero])
      (apply Exists.intro; refine ⟨fun vs w1 hS hB hf => ?_, ?_⟩; (focus (clear hS hB hf; go_simp; first | exact ⟨Below.refl _ _, rfl⟩ | exact rfl)); try simp (config := { maxSteps := 10000000 }) only [specV, addF, Act.put, List.setIfInBounds_toArray, List.set_cons_zero, List.set_cons_succ, List.take_succ_cons, List.take_zero, List.drop_succ_cons, List.drop_zero])
      (apply Exists.intro; refine ⟨fun vs w1 hS hB hf => ?_, ?_⟩; (focus (clear hS hB hf; go_simp; first | exact ⟨Below.refl _ _, rfl⟩ | exact rfl)); try simp (config := { maxSteps := 10000000 }) only [specV, addF, Act.put, List.setIfInBounds_toArray, List.set_cons_zero, List.set_cons_succ, List.take_succ_cons, List.take_zero, List.drop_succ_cons, List.drop_zero])
      (apply Exists.intro; refine ⟨fun vs w1 hS hB hf => ?_, ?_⟩; (focus (clear hS hB hf; go_simp; first | exact ⟨Below.refl _ _, rfl⟩ | exact rfl)); try simp (config := { maxSteps := 10000000 }) only [specV, addF, Act.put, List.setIfInBounds_toArray, List.set_cons_zero, List.set_cons_succ, List.take_succ_cons, List.take_zero, List.drop_succ_cons, List.drop_zero])
      (apply Exists.intro; refine ⟨fun vs w1 hS hB hf => ?_, ?_⟩; (focus (clear hS hB hf; go_simp; first | exact ⟨Below.refl _ _, rfl⟩ | exact rfl)); try simp (config := { maxSteps := 10000000 }) only [specV, addF, Act.put, List.setIfInBounds_toArray, List.set_cons_zero, List.set_cons_succ, List.take_succ_cons, List.take_zero, List.drop_succ_cons, List.drop_zero])
      (apply Exists.intro; refine ⟨fun vs w1 hS hB hf => ?_, ?_⟩; (focus (clear hS hB hf; go_simp; first | exact ⟨Below.refl _ _, rfl⟩ | exact rfl)); try simp (config := { maxSteps := 10000000 }) only [specV, addF, Act.put, List.setIfInBounds_toArray, List.set_cons_zero, List.set_cons_succ, List.take_succ_cons, List.take_zero, List.drop_succ_cons, List.drop_zero])
      (apply Exists.intro; refine ⟨fun vs w1 hS hB hf => ?_, ?_⟩; (focus (have L1 := hS.2; have hl1 := World.block_lt_of_cell? _ _ hS.2; clear hS hB hf; go_simp; first | exact ⟨Below.refl _ _, rfl⟩ | exact rfl)); try simp (config := { maxSteps := 10000000 }) only [specV, addF, Act.put, List.setIfInBounds_toArray, List.set_cons_zero, List.set_cons_succ, List.take_succ_cons, List.take_zero, List.drop_succ_cons, List.drop_zero])
      intro vs W5 hS hB5 _
      dsimp only
      have HS5 := Lib.hid hS.1
      have Ht5 := Lib.hid (Ht.out.trans (Turns.below hB5))
      have i3 : ((a + j : Nat) : Int) < m := by omega
      obtain ⟨c5, f5⟩ := hS.1.byte (k := a + j) (by rw [HlD.out, HLD.out]; omega)
      have hl5 := hS.1.lt.2.1
      clear hS hB5 hc2 hgr HT Ht
      go_upto_region 7 with fail
      refine wp_gen (fun w' => TrM w' b bB bT bP (D'.set (a + j) x) T' P ∧ Turns [bB, bT, bP] w w') ⟨HS5.out.setByte (a + j) x HB.out, Ht5.out.trans (Turns.set _ (by simp) _ _)⟩ ?_
      clear HS5 Ht5 c5 f5 hl5
      rintro W6 ⟨h6, t6⟩
      have L6 := h6.2.2.1.cell
      rw [HlT.out, HLT.out] at L6
      have hl6 := h6.lt.1
      have hl7 := h6.lt.2.2.1
      have i4 : ((a + j : Nat) : Int) / 16 < ((16 * P.length : Nat) : Int) := by have := HM.out; omega
      obtain ⟨c6, f6⟩ := h6.tag (k := (a + j) / 16) (by rw [HlT.out, HLT.out]; omega)
      have H6 := Lib.hid h6
      have T6 := Lib.hid t6
      clear h6 t6
      go_wp2
      go_roundg (gk - 1)
      case measure => have := HJ.out; have := HLj.out; omega
      case rel => exact ⟨j + 1, by have := HJ.out; have := HLj.out; omega, by go_num, by rw [HSn.out, HTn.out]; exact H6.out.setTag _ false, T6.out.trans (Turns.set _ (by simp) _ _)⟩
    · have i1 : ¬ (j : Int) < n := by omega
      have e : j = n := by have := HJ.out; omega
      subst e
      have e2 : xs.take j = xs := List.take_of_length_le (by rw [HN.out]; exact Nat.le_refl _)
      rw [e2] at HT
      clear hge e2
      go_wp2
      go_ret
      exact ⟨rfl, HT.out, Ht.out⟩
set_option maxRecDepth 100000 in
set_option maxHeartbeats 1600000 in
theorem tr_load_no (b bB bT bP : Nat) (D : List Int) (T P : List Bool) (a k : Int) (w : World) (h : TrM w b bB bT bP D T P) (ha : inI a) (hk : inI k) (hn : inB P.length a k = false) :
    Calls Try.prog 56 #[.pointer (some ⟨b, 0, none⟩), .int .i64 a, .int .i64 k] w fun e w' => e = .returned (.tuple #[.slice none 0 0, .bool false]) ∧ w = w' := by
  have hlD := h.1.1
  have hle := h.1.2.2.1
  have L := h.2.2.1.cell
  have hlt := h.lt.1
  rw [hlD] at L
  obtain ⟨a0, a1⟩ := ha
  obtain ⟨k0, k1⟩ := hk
  simp only [inB, decide_eq_false_iff_not] at hn
  have hm : ((256 * P.length : Nat) : Int) ≤ 16777216 := by omega
  rcases (show a < 0 ∨ (¬ a < 0 ∧ k < 0) ∨ (¬ a < 0 ∧ ¬ k < 0 ∧ ((256 * P.length : Nat) : Int) < a) ∨ (¬ a < 0 ∧ ¬ k < 0 ∧ ¬ ((256 * P.length : Nat) : Int) < a ∧ ((256 * P.length : Nat) : Int) - a < k) by omega) with h1 | ⟨h1, h2⟩ | ⟨h1, h2, h3⟩ | ⟨h1, h2, h3, h4⟩
  all_goals (generalize 256 * P.length = m at *; clear h hlD hle hn; go_enter Try.func56, Try.ntmps56; go_wp2; go_ret2; exact ⟨rfl, rfl⟩)

set_option maxRecDepth 100000 in
set_option maxHeartbeats 1600000 in
theorem tr_store_no (b bB bT bP : Nat) (D : List Int) (T P : List Bool) (a : Int) (A : Option Addr) (n c : Nat) (w : World) (h : TrM w b bB bT bP D T P) (ha : inI a) (hk : (n : Int) ≤ 9223372036854775807) (hn : inB P.length a n = false) :
    Calls Try.prog 60 #[.pointer (some ⟨b, 0, none⟩), .int .i64 a, .slice A n c] w fun e w' => e = .returned (.bool false) ∧ w = w' := by
  have hlD := h.1.1
  have hle := h.1.2.2.1
  have L := h.2.2.1.cell
  have hlt := h.lt.1
  rw [hlD] at L
  obtain ⟨a0, a1⟩ := ha
  simp only [inB, decide_eq_false_iff_not] at hn
  have hm : ((256 * P.length : Nat) : Int) ≤ 16777216 := by omega
  rcases (show a < 0 ∨ (¬ a < 0 ∧ ((256 * P.length : Nat) : Int) < a) ∨ (¬ a < 0 ∧ ¬ ((256 * P.length : Nat) : Int) < a ∧ ((256 * P.length : Nat) : Int) - a < n) by omega) with h1 | ⟨h1, h2⟩ | ⟨h1, h2, h3⟩
  all_goals (generalize 256 * P.length = m at *; clear h hlD hle hn; go_enter Try.func60, Try.ntmps60; go_wp2; go_ret; exact ⟨rfl, rfl⟩)
end Go.Proofs.Ytjimkkkiilcpoaa
