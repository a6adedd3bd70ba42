/- Is it too much? -/
import Derived.Test.YtjimkkkiilcpoaaTmS
set_option linter.unusedVariables false
set_option linter.unusedSimpArgs false
namespace Go.Proofs.Ytjimkkkiilcpoaa
open Go.RowKit

theorem OpAt.below {w w1 : World} {g x : Nat} {o : Op7} (h : OpAt w g x o) (hb : Below w.heap.size w w1) : OpAt w1 g x o := by
  obtain ⟨h1, h2, h3, h4, h5, h6, h7, h8, h9, h10, hg, ⟨v, hr, hc⟩, k0, k1, k3, k4, k5, k6, k7, k8, k9⟩ := h
  have hk : ∀ {y : Nat} {u : Value}, w.cell? ⟨g, y, none⟩ = some u → w1.cell? ⟨g, y, none⟩ = some u := fun {y u} h => (hb.cell (p := ⟨g, y, none⟩) hg).trans h
  exact ⟨h1, h2, h3, h4, h5, h6, h7, h8, h9, h10, Nat.lt_of_lt_of_le hg hb.size, ⟨v, hr.below hb, hk hc⟩, hk k0, hk k1, hk k3, hk k4, hk k5, hk k6, hk k7, hk k8, hk k9⟩
theorem OpsM.below {w w1 : World} {v : Value} {L : List Op7} (h : OpsM w v L) (hb : Below w.heap.size w w1) : OpsM w1 v L := by
  obtain ⟨hm, h⟩ := h
  refine ⟨hm, ?_⟩
  rcases h with h | ⟨b, o, c, e, hc, h⟩
  · exact .inl h
  · exact .inr ⟨b, o, c, e, hc, fun j op hj => (h j op hj).below hb⟩
theorem OpsM.form {w : World} {v : Value} {L : List Op7} (h : OpsM w v L) : ∃ A c, v = .slice A L.length c := by
  rcases h.2 with ⟨A, c, rfl, rfl⟩ | ⟨b, o, c, rfl, _⟩
  · exact ⟨A, c, rfl⟩
  · exact ⟨_, _, rfl⟩
theorem OpsM.at {w : World} {A : Option Addr} {n c : Nat} {L : List Op7} (h : OpsM w (.slice A n c) L) {j : Nat} {op : Op7} (hj : L[j]? = some op) : ∃ b o, A = some ⟨b, o, none⟩ ∧ n ≤ c ∧ OpAt w b (o + j * 10) op := by
  rcases h.2 with ⟨A', c', hv, rfl⟩ | ⟨b, o, c', hv, hc, h'⟩
  · simp at hj
  · cases hv
    exact ⟨b, o, rfl, hc, h' j op hj⟩

def gsum : List Op7 → Nat → Nat
  | [], n => n
  | o :: l, n => if n < 9000 then gsum l (n + min o.bs.length 9000) else n
def greatB (L : List Op7) : Bool := decide (9000 ≤ gsum L L.length) || decide (200 < L.length)
theorem gsum_ge : ∀ (L : List Op7) (n : Nat), n ≤ gsum L n
  | [], n => Nat.le_refl _
  | o :: l, n => by
    rw [gsum]
    split
    · exact Nat.le_trans (Nat.le_add_right _ _) (gsum_ge l _)
    · exact Nat.le_refl _
theorem gsum_each : ∀ (L : List Op7) (n : Nat), gsum L n < 9000 → ∀ o ∈ L, o.bs.length < 9000
  | [], _, _, o, ho => by cases ho
  | x :: l, n, h, o, ho => by
    rw [gsum] at h
    split at h
    · rcases List.mem_cons.1 ho with rfl | ho
      · have := gsum_ge l (n + min o.bs.length 9000); omega
      · exact gsum_each l _ h o ho
    · omega
theorem great_no {L : List Op7} (h : greatB L = false) : L.length ≤ 200 ∧ ∀ o ∈ L, o.bs.length < 9000 := by
  simp only [greatB, Bool.or_eq_false_iff, decide_eq_false_iff_not] at h
  exact ⟨by omega, gsum_each L L.length (by omega)⟩

set_option maxRecDepth 100000 in
set_option maxHeartbeats 1600000 in
theorem great_any (v : Value) (L : List Op7) (w : World) (h : OpsM w v L) :
    Calls Try.prog 46 #[v] w fun e w' => e = .returned (.bool (greatB L)) ∧ w = w' := by
  obtain ⟨A, c, rfl⟩ := h.form
  have hm : (L.length : Int) ≤ 9223372036854775807 := by have := h.1; unfold maxLen at this; omega
  have H := Lib.hid h
  have HE := Lib.hid (show greatB L = (decide (9000 ≤ gsum L L.length) || decide (200 < L.length)) from rfl)
  clear h
  generalize hn : L.length = n at *
  have HN := Lib.hid hn
  clear hn
  generalize greatB L = gb at *
  generalize hs : gsum L n = s at *
  have HS := Lib.hid hs
  clear hs
  go_enter Try.func46, Try.ntmps46
  go_wp2
  go_loopg [3, 4] n (fun k u i wr => ∃ j m : Nat, j + k = n ∧ i = .int .i64 j ∧ u = .int .i64 m ∧ gsum (L.drop j) m = s ∧ (m ≤ 18000 ∨ m = n) ∧ w = wr)
  case atStart => exact ⟨0, n, by omega, rfl, rfl, by rw [List.drop_zero]; exact HS.out, .inr rfl, rfl⟩
  case round =>
    obtain ⟨j, m, hjk, rfl, rfl, hg, hm2, rfl⟩ := hrel
    have HJ := Lib.hid hjk
    have HG := Lib.hid hg
    have HM := Lib.hid hm2
    clear hjk hg hm2
    rcases Nat.lt_or_ge j n with h1 | h1
    · have i1 : (j : Int) < n := by omega
      rcases Nat.lt_or_ge m 9000 with h2 | h2
      · have i2 : (m : Int) < 9000 := by omega
        obtain ⟨op, hop⟩ : ∃ op, L[j]? = some op := ⟨_, List.getElem?_eq_getElem (by rw [HN.out]; exact h1)⟩
        obtain ⟨b, o, rfl, hc, hat⟩ := H.out.at hop
        have hlt := hat.2.2.2.2.2.2.2.2.2.2.1
        obtain ⟨vb, hrb, hcb⟩ := hat.2.2.2.2.2.2.2.2.2.2.2.1
        have hbl := hat.2.2.2.2.2.2.2.2.2.1
        obtain ⟨Ab, cb, rfl, _, _⟩ := hrb
        have hd : L.drop j = op :: L.drop (j + 1) := by
          have hjl : j < L.length := by rw [HN.out]; exact h1
          rw [List.drop_eq_getElem_cons hjl]
          rw [List.getElem?_eq_getElem hjl] at hop
          cases hop
          rfl
        have hg2 := HG.out
        rw [hd, gsum, if_pos h2] at hg2
        have HG2 := Lib.hid hg2
        unfold maxLen at hbl
        generalize op.bs.length = bl at *
        have H1 := Lib.hid h1
        have H2 := Lib.hid h2
        clear h1 h2 hop hat hd hg2 HG
        go_wp2
        · rename_i hb
          go_roundg (gk - 1)
          case measure => have := HJ.out; have := H1.out; omega
          case rel => exact ⟨j + 1, m + 9000, by have := HJ.out; have := H1.out; omega, by go_num, by go_num, by have := HG2.out; rwa [Nat.min_eq_right (by omega)] at this, .inl (by have := H2.out; omega), rfl⟩
        · rename_i hb
          go_roundg (gk - 1)
          case measure => have := HJ.out; have := H1.out; omega
          case rel => exact ⟨j + 1, m + bl, by have := HJ.out; have := H1.out; omega, by go_num, by go_num, by have := HG2.out; rwa [Nat.min_eq_left (by omega)] at this, .inl (by have := H2.out; omega), rfl⟩
      · have i2 : ¬ (m : Int) < 9000 := by omega
        have e : gb = true := by
          have hs : s = m := by
            rw [← HG.out]
            cases L.drop j with
            | nil => rfl
            | cons x l => rw [gsum, if_neg (by omega)]
          rw [HE.out, hs, decide_eq_true h2, Bool.true_or]
        subst e
        have i3 : (9000 : Int) ≤ m := by omega
        clear h1 h2 HG HE
        go_wp2
        go_ret
        exact ⟨rfl, rfl⟩
    · have i1 : ¬ (j : Int) < n := by omega
      have hs : s = m := by
        rw [← HG.out, List.drop_of_length_le (by rw [HN.out]; exact h1)]
        rfl
      have hE := HE.out
      rw [hs] at hE
      by_cases h2 : 9000 ≤ m
      · rw [decide_eq_true h2, Bool.true_or] at hE
        subst hE
        have i3 : (9000 : Int) ≤ m := by omega
        clear h1 h2 HG HE hs
        go_wp2
        go_ret
        exact ⟨rfl, rfl⟩
      · rw [decide_eq_false h2, Bool.false_or] at hE
        have i3 : ¬ (9000 : Int) ≤ m := by omega
        by_cases h3 : 200 < n
        · rw [decide_eq_true h3] at hE
          subst hE
          have i4 : (200 : Int) < n := by omega
          clear h1 h2 h3 HG HE hs
          go_wp2
          go_ret
          exact ⟨rfl, rfl⟩
        · rw [decide_eq_false h3] at hE
          subst hE
          have i4 : ¬ (200 : Int) < n := by omega
          clear h1 h2 h3 HG HE hs
          go_wp2
          go_ret
          exact ⟨rfl, rfl⟩
end Go.Proofs.Ytjimkkkiilcpoaa
