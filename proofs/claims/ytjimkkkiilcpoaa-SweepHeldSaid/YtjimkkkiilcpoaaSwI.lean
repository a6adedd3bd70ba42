/- What is held is swept: All; the program's. -/
import Derived.Test.YtjimkkkiilcpoaaSwA
import Derived.Test.YtjimkkkiilcpoaaCps
set_option linter.unusedVariables false
set_option linter.unusedSimpArgs false
namespace Go.Proofs.Ytjimkkkiilcpoaa
open Go.RowKit

/-- A capability behind the barrier. -/
def barC (Q : List Bool) (c : Cp) : Cp := ⟨c.t && !hitsB Q c.t c.b c.p, c.b, c.p, c.a, c.q, c.y⟩
theorem infoCap : (Try.prog.info? 23).map (fun i => (i.zero, i.size, i.bytes)) = some (some (.agg #[.bool (false), .int .i64 (0), .int .i64 (0), .int .i64 (0), .int .i64 (0), .int .i64 (0)] : Value), 6, 48) := by kernel_rfl

set_option maxRecDepth 100000 in
set_option maxHeartbeats 1600000 in
theorem sw_all (s b pm pW : Nat) (Q : List Bool) (r : Bool) (lv : Value) (g : Int) (v : Value) (L : List Cp) (w : World) (h : Blk w s (swC b pm r lv g) 123) (hm : ShM w pm pW Q) (hL : CpsM w v L) (hl : L.length ≤ 200) :
    Calls Try.prog 88 #[.pointer (some ⟨s, 0, none⟩), v] w fun e w' => ∃ v', e = .returned v' ∧ w'.ownsRow w.heap.size 23 6 v' L.length (cpsL (L.map (barC Q))) ∧ Below w.heap.size w w' := by
  obtain ⟨A, c, rfl⟩ := hL.form
  have H := Lib.hid h
  have HM := Lib.hid hm
  have HL := Lib.hid hL
  clear h hm hL
  generalize hn : L.length = n at *
  have Hn := Lib.hid hn
  clear hn
  go_enter Try.func88, Try.ntmps88
  go_wp2
  go_loopg [5, 10] n (fun gk v5 v10 wr => ∃ j : Nat, j + gk = n ∧ v10 = .int .i64 j ∧ wr.ownsRow w.heap.size 23 6 v5 j (cpsL ((L.take j).map (barC Q))) ∧ Below w.heap.size w wr)
  case atStart => exact ⟨0, by omega, rfl, World.ownsRow_nil _ _ _ _, Below.refl _ _⟩
  case round =>
    obtain ⟨j, hjk, rfl, hown, hb⟩ := hrel
    have HJ := Lib.hid hjk
    have HO := Lib.hid hown
    have HB := Lib.hid hb
    clear hjk hown
    rcases Nat.lt_or_ge j n with hlt | hge
    · have i1 : (j : Int) < n := by omega
      obtain ⟨cp, hcp⟩ : ∃ cp, L[j]? = some cp := ⟨_, List.getElem?_eq_getElem (by rw [Hn.out]; exact hlt)⟩
      obtain ⟨bo, oo, rfl, hq, hat⟩ := HL.out.at hcp
      obtain ⟨hI, hbo, k0, k1, k2, k3, k4, k5⟩ := hat.below hb
      have HTK := Lib.hid (show L.take (j + 1) = L.take j ++ [cp] by rw [List.take_add_one, hcp]; rfl)
      have HI := Lib.hid hI
      have HLT := Lib.hid hlt
      obtain ⟨t, bb, p, a, q, y⟩ := cp
      dsimp only at *
      clear hb hlt hcp hat hI
      go_wp2_with fail
      refine (sw_barrier s b pm pW Q r lv g t bb p a q y _ (((H.out.below HB.out H.out.lt).alloc _)) ((HM.out.grow HB.out).grow (by go_grown)) HI.out.1 HI.out.2.1).mono ?_
      rintro e w2 ⟨rfl, b2⟩
      have HO2 := Lib.hid (own_below (HO.out.alloc (.cells #[.bool (t), .int .i64 (bb), .int .i64 (p), .int .i64 (a), .int .i64 (q), .int .i64 (y)] 23)) b2)
      have HB2 := Lib.hid (below_then (HB.out.alloc HB.out.size (.cells #[.bool (t), .int .i64 (bb), .int .i64 (p), .int .i64 (a), .int .i64 (q), .int .i64 (y)] 23)) (by have := HB.out.size; simp; omega) b2)
      have HZ2 := Lib.hid (show w.heap.size ≤ w2.heap.size from HB2.out.size)
      clear b2 k0 k1 k2 k3 k4 k5 hbo HO HB
      obtain ⟨t', ht'⟩ : ∃ t', (t && !hitsB Q t bb p) = t' := ⟨_, rfl⟩
      have HT := Lib.hid (show barC Q ⟨t, bb, p, a, q, y⟩ = ⟨t', bb, p, a, q, y⟩ by rw [barC, ht'])
      rw [ht']
      clear ht'
      go_wp2_with (first
        | (at_builtin; go_loud (refine app (w0 := w) (W := w2.alloc _) w.heap.size rfl _ _ 89 23 (.agg #[.bool (false), .int .i64 (0), .int .i64 (0), .int .i64 (0), .int .i64 (0), .int .i64 (0)] : Value) 6 48 rfl Try.underlying89 infoCap rfl (by decide) (by decide) _ _ _ (Cp.cells ⟨t', bb, p, a, q, y⟩) (some ⟨w2.heap.size, 0, none⟩) 1 1 rfl rfl rfl (by intro u hu; simp [Cp.cells] at hu; rcases hu with rfl | rfl | rfl | rfl | rfl | rfl <;> rfl) (HO2.out.alloc _) (RdL.new w2 _ _) (HB2.out.alloc HZ2.out _) (by have := HZ2.out; simp; omega) (by omega) ?_; intro v1 w3 hown1 hb2 _)))
      go_roundg (gk - 1)
      case measure => have := HJ.out; have := HLT.out; omega
      case rel => exact ⟨j + 1, by have := HJ.out; have := HLT.out; omega, by go_num, by rw [HTK.out, List.map_append, List.map_cons, List.map_nil, HT.out, cpsL_snoc]; exact hown1, hb2⟩
    · have i1 : ¬ (j : Int) < n := by omega
      have hj : j = n := by have := HJ.out; omega
      have HO2 := HO.out
      rw [hj, List.take_of_length_le (by rw [Hn.out]; exact Nat.le_refl _)] at HO2
      replace HO2 := Lib.hid HO2
      clear hge hj HO hb
      go_wp2
      go_ret
      exact ⟨_, rfl, HO2.out, HB.out⟩
end Go.Proofs.Ytjimkkkiilcpoaa
