/- `great` of layer 10's law. -/
import Derived.Test.YtjimkkkiilcpoaaOpX
set_option linter.unusedVariables false
set_option linter.unusedSimpArgs false
namespace Go.Proofs.Ytjimkkkiilcpoaa
open Go.RowKit

theorem max300 {j : Nat} (h : j ≤ 300) : j ≤ maxLen := by
  have : (300 : Nat) ≤ maxLen := by decide
  omega
def great10B (L : List Op10) : Bool := decide (200 < L.length) || greatB (L.map (·.m))
theorem infoOp7 : (Try.prog.info? 61).map (fun i => (i.zero, i.size, i.bytes)) = some (some (.agg #[.int .i64 0, .int .i64 0, .slice none 0 0, .bool false, .int .i64 0, .int .i64 0, .int .i64 0, .int .i64 0, .int .i64 0, .int .i64 0] : Value), 10, 96) := by kernel_rfl
theorem RowU.form' {w : World} {v : Value} {xs : List Int} (h : RowU w v xs) : ∃ A c, v = .slice A xs.length c := by
  obtain ⟨A, c, h1, _⟩ := h
  exact ⟨A, c, h1⟩

set_option maxRecDepth 100000 in
set_option maxHeartbeats 3200000 in
theorem great10_any (v : Value) (L : List Op10) (w : World) (h : Ops10 w v L) :
    Calls Try.prog 71 #[v] w fun e w' => e = .returned (.bool (great10B L)) ∧ Below w.heap.size w w' := by
  obtain ⟨A, c, rfl⟩ := h.form
  have hm : (L.length : Int) ≤ 9223372036854775807 := by have := h.1; unfold maxLen at this; omega
  have H := Lib.hid h
  clear h
  generalize hn : L.length = n at *
  have Hn := Lib.hid hn
  clear hn
  obtain ⟨mm, hmm⟩ : ∃ mm, mm = min n 300 := ⟨_, rfl⟩
  have HMM := Lib.hid hmm
  clear hmm
  go_enter Try.func71, Try.ntmps71
  go_wp2
  go_loopg [3, 4] mm (fun gk v3 v4 wr => ∃ (j : Nat) (LL : List (Op7 × Value)), j + gk = mm ∧ v4 = .int .i64 j ∧ LL.map (·.1) = (L.take j).map (·.m) ∧ LL.length = j ∧ (∀ p ∈ LL, RowU w p.2 p.1.bs ∧ OpV p.1) ∧ wr.ownsRow w.heap.size 61 10 v3 j (opsC LL) ∧ Below w.heap.size w wr)
  case atStart => exact ⟨0, [], by omega, rfl, rfl, rfl, (fun p hp => absurd hp (List.not_mem_nil)), World.ownsRow_nil _ _ _ _, Below.refl _ _⟩
  case round =>
    obtain ⟨j, LL, hjk, rfl, hLL, hlen, hrows, hown, hb⟩ := hrel
    have HJ := Lib.hid hjk
    have HL := Lib.hid hLL
    have HLE := Lib.hid hlen
    have HR := Lib.hid hrows
    have OW := Lib.hid hown
    have HB := Lib.hid hb
    clear hjk hLL hlen hrows hown
    rcases Nat.lt_or_ge j mm with hlt | hge
    · have i1 : (j : Int) < n := by have := HMM.out; omega
      have i2 : (j : Int) < 300 := by have := HMM.out; omega
      have HLT := Lib.hid hlt
      obtain ⟨q, hq⟩ : ∃ q, L[j]? = some q := ⟨_, List.getElem?_eq_getElem (by rw [Hn.out]; omega)⟩
      obtain ⟨bo, oo, rfl, hqc, hat⟩ := H.out.at hq
      obtain ⟨_, ⟨h1, h2, h3, h4, h5, h6, h7, h8, h9, h10, hbo0, ⟨vb, hrow, q2⟩, q0, q1, q3, q4, q5, q6, q7, q8, q9⟩, _⟩ := hat
      have hbo : bo < wr.heap.size := Nat.lt_of_lt_of_le hbo0 hb.size
      have e : ∀ o, wr.cell? ⟨bo, o, none⟩ = w.cell? ⟨bo, o, none⟩ := fun o => hb.cell (p := ⟨bo, o, none⟩) hbo0
      rw [← e] at q0 q1 q2 q3 q4 q5 q6 q7 q8 q9
      have HTK := Lib.hid (show (L.take (j + 1)).map (·.m) = (L.take j).map (·.m) ++ [q.m] by rw [List.take_add_one, hq]; simp)
      have HV := Lib.hid (show RowU w vb q.m.bs ∧ OpV q.m from ⟨hrow, h1, h2, h3, h4, h5, h6, h7, h8, h9, h10⟩)
      obtain ⟨Ab, cb, rfl⟩ := hrow.form'
      have HSZ := Lib.hid hb.size
      have hj3 : j ≤ 300 := by omega
      obtain ⟨what10, qm, f10, t10, is10, n10⟩ := q
      obtain ⟨wh, at_, bs, t, b', p', a', q', y', n'⟩ := qm
      dsimp only at *
      clear hlt hq h1 h2 h3 h4 h5 h6 h7 h8 h9 h10 hbo0 e hrow hb
      go_wp2_with (first
        | (at_builtin; go_loud (refine app (w0 := w) (W := wr.alloc _) w.heap.size rfl _ _ 54 61 (.agg #[.int .i64 0, .int .i64 0, .slice none 0 0, .bool false, .int .i64 0, .int .i64 0, .int .i64 0, .int .i64 0, .int .i64 0, .int .i64 0]) 10 96 rfl Try.underlying54 infoOp7 rfl (by decide) (by decide) _ _ _ (opC ⟨wh, at_, bs, t, b', p', a', q', y', n'⟩ (.slice Ab bs.length cb)) (some ⟨wr.heap.size, 0, none⟩) 1 1 rfl rfl rfl (by intro u hu; simp [opC] at hu; rcases hu with rfl | rfl | rfl | rfl | rfl | rfl | rfl | rfl | rfl | rfl <;> rfl) (OW.out.alloc _) (RdL.new wr _ _) (HB.out.alloc HSZ.out _) (by have := HSZ.out; simp; omega) (by omega) ?_; intro v1 w3 hown1 hb2 _)))
      go_roundg (gk - 1)
      case measure => have := HJ.out; have := HLT.out; omega
      case rel => exact ⟨j + 1, LL ++ [(⟨wh, at_, bs, t, b', p', a', q', y', n'⟩, .slice Ab bs.length cb)], by have := HJ.out; have := HLT.out; omega, by go_num, by rw [HTK.out, List.map_append, HL.out]; rfl, by rw [List.length_append, HLE.out]; rfl, fun p hp => by
        rcases List.mem_append.1 hp with h | h
        · exact HR.out p h
        · rw [List.mem_singleton.1 h]; exact HV.out, by rw [opsC_snoc]; exact hown1, hb2⟩
    · have hjm : j = mm := by have := HJ.out; omega
      rcases Nat.lt_or_ge 200 n with hbig | hsm
      · have i9 : (200 : Int) < n := by omega
        have HRES := Lib.hid (show great10B L = true by unfold great10B; rw [Hn.out, decide_eq_true hbig]; rfl)
        rcases Nat.lt_or_ge 300 n with h3 | h3
        · have hj : j = 300 := by have := HMM.out; omega
          subst hj
          have i1 : ((300 : Nat) : Int) < n := by omega
          clear hge hjm hbig h3
          go_wp2
          go_ret
          exact ⟨by rw [HRES.out]; rfl, HB.out⟩
        · have i1 : ¬ (j : Int) < n := by have := HMM.out; omega
          clear hge hjm hbig h3
          go_wp2
          go_ret
          exact ⟨by rw [HRES.out]; rfl, HB.out⟩
      · have i9 : ¬ (200 : Int) < n := by omega
        have hj : j = n := by have := HMM.out; omega
        have i1 : ¬ (j : Int) < n := by omega
        have htk : L.take j = L := List.take_of_length_le (by rw [Hn.out]; omega)
        have HO := OpsM.own10 (by rw [HLE.out]; exact OW.out) (fun p hp => ⟨(HR.out p hp).1.below HB.out, (HR.out p hp).2⟩) (by rw [HLE.out]; exact max300 (by omega))
        rw [HL.out, htk] at HO
        have HRES := Lib.hid (show great10B L = greatB (L.map (·.m)) by unfold great10B; rw [Hn.out, decide_eq_false (by omega)]; rfl)
        have hg := great_any _ _ wr HO
        have HG := Lib.hid hg
        clear hge hjm hsm hj htk HO hg
        go_wp2_with fail
        refine HG.out.mono ?_
        rintro e w5 ⟨rfl, rfl⟩
        go_wp2
        go_ret
        exact ⟨by rw [HRES.out]; rfl, HB.out⟩
end Go.Proofs.Ytjimkkkiilcpoaa
