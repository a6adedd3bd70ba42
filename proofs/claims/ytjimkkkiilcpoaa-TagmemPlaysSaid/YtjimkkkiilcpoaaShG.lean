/- The reference's rows, and whether two are the same. -/
import Derived.Test.YtjimkkkiilcpoaaShF
set_option linter.unusedVariables false
set_option linter.unusedSimpArgs false
namespace Go.Proofs.Ytjimkkkiilcpoaa
open Go.RowKit

theorem runsTo_stop (P : List Bool) (i : Nat) (h : P.getD i false = false) : runsTo P (i + 1) = runsTo P i := by
  rw [runsTo, h, if_neg Bool.false_ne_true]
/-- A run: from a granule behind none that is painted up to another one. -/
theorem runsTo_run (P : List Bool) (j : Nat) (hj : j = 0 ∨ P.getD (j - 1) false = false) (n : Nat) (h : ∀ m, j ≤ m → m < j + (n + 1) → P.getD m false = true) :
    runsTo P (j + (n + 1)) = runsTo P j ++ [((j : Int) * 16, ((j + (n + 1) : Nat) : Int) * 16)] := by
  induction n with
  | zero =>
    rw [show j + (0 + 1) = j + 1 from rfl, runsTo, h j (Nat.le_refl _) (by omega), if_pos rfl]
    have e : (j : Int) * 16 + 16 = ((j + 1 : Nat) : Int) * 16 := by omega
    rw [← e]
    rcases List.eq_nil_or_concat (runsTo P j) with e | ⟨S, ⟨x, y⟩, e⟩
    · rw [e]; rfl
    · rw [List.concat_eq_append] at e
      have hy : y ≠ (j : Int) * 16 := by
        rcases hj with rfl | hj
        · rw [runsTo] at e; simp at e
        · rcases Nat.eq_zero_or_pos j with rfl | hp
          · rw [runsTo] at e; simp at e
          · obtain ⟨i, rfl⟩ : ∃ i, j = i + 1 := ⟨j - 1, by omega⟩
            rw [runsTo_stop P i (by simpa using hj)] at e
            have := runsTo_last P i (x, y) (by rw [e]; simp)
            simp only at this
            omega
      rw [e, addRow_ne _ _ _ _ hy]
  | succ n ih =>
    have ih := ih fun m h1 h2 => h m h1 (by omega)
    rw [show j + (n + 1 + 1) = (j + (n + 1)) + 1 by omega, runsTo, h (j + (n + 1)) (by omega) (by omega), if_pos rfl, ih, addRow_eq]
    have e : ((j + (n + 1) : Nat) : Int) * 16 + 16 = ((j + (n + 1) + 1 : Nat) : Int) * 16 := by omega
    rw [e]

set_option maxRecDepth 100000 in
set_option maxHeartbeats 1600000 in
theorem ref_runs_any (b bP : Nat) (P : List Bool) (w : World) (h : RfM w b bP P) :
    Calls Try.prog 44 #[.pointer (some ⟨b, 0, none⟩)] w fun e w' => ∃ v, e = .returned v ∧ w'.ownsRow w.heap.size 50 2 v (runsL P).length (rowCells (runsL P)) ∧ Below w.heap.size w w' := by
  have H := Lib.hid h
  have hl := h.1
  have gl : (P.length : Int) ≤ 1048576 := by omega
  have hrl : runsL P = runsTo P P.length := rfl
  generalize runsL P = RL at *
  generalize hg : P.length = g at *
  have Hg := Lib.hid hg
  have Hrl := Lib.hid hrl
  clear hl h hg hrl
  go_enter Try.func44, Try.ntmps44
  go_wp2
  go_loopg [3, 4, 5] (g + 1) (fun k v i c wr => ∃ j : Nat, j + k = g + 1 ∧ i = .int .i64 j ∧ (j = 0 ∨ P.getD (j - 1) false = false) ∧ wr.ownsRow w.heap.size 50 2 v (runsTo P j).length (rowCells (runsTo P j)) ∧ Below w.heap.size w wr)
  case atStart => exact ⟨0, by omega, rfl, .inl rfl, World.ownsRow_nil _ _ _ _, Below.refl _ _⟩
  case round =>
    obtain ⟨j, hjk, rfl, hsep, hown, hb⟩ := hrel
    have h2 := H.out.below hb H.out.lt.1 H.out.lt.2
    have L := h2.2.1.cell
    rw [Hg.out] at L
    have H2 := Lib.hid h2
    have Hjk := Lib.hid hjk
    have Hsep := Lib.hid hsep
    have Hb := Lib.hid hb
    have Hown := Lib.hid hown
    have Hsz := hb.size
    clear hjk hb hsep hown h2
    rcases Nat.lt_or_ge j g with hlt | hge
    · have i1 : (j : Int) < g := by omega
      have c := H2.out.2.2.cell j
      rw [bools_at _ _ (by rw [Hg.out]; exact hlt)] at c
      have Hlt := Lib.hid hlt
      clear hlt
      cases hv : P.getD j false with
      | false =>
        rw [hv] at c
        have HV := Lib.hid hv
        clear hv
        go_wp2
        go_roundg (gk - 1)
        case measure => have := Hjk.out; have := Hlt.out; omega
        case rel => exact ⟨j + 1, by have := Hjk.out; have := Hlt.out; omega, by go_num, .inr HV.out, by rw [runsTo_stop P j HV.out]; exact Hown.out, Hb.out⟩
      | true =>
        rw [hv] at c
        have HV := Lib.hid hv
        clear hv
        go_wp2
        go_loopg [5] (g - j) (fun k i w2 => ∃ d : Nat, j + d + k = g ∧ i = .int .i64 ((j + d : Nat) : Int) ∧ (∀ m, j ≤ m → m < j + d → P.getD m false = true) ∧ w2 = wr)
        case atStart => exact ⟨0, by have := Hlt.out; omega, rfl, fun m h1 h2 => by omega, rfl⟩
        case round =>
          clear c
          obtain ⟨d, hdk, rfl, hall, rfl⟩ := hrel
          have Hdk := Lib.hid hdk
          have Hall := Lib.hid hall
          clear hdk hall
          have Hlen : Hid ((runsTo P j).length ≤ 1048576) := Lib.hid (by have := runsTo_len P j; have := Hlt.out; omega)
          have key : P.getD (j + d) false = false → Hid (P.getD (j + d) false = false) ∧ Hid (runsTo P (j + d + 1) = runsTo P j ++ [(16 * (j : Int), 16 * ((j + d : Nat) : Int))]) := by
            intro hE
            refine ⟨Lib.hid hE, Lib.hid ?_⟩
            rw [runsTo_stop P _ hE]
            cases d with
            | zero => rw [Nat.add_zero, HV.out] at hE; cases hE
            | succ n => rw [runsTo_run P j Hsep.out n Hall.out, Int.mul_comm (j : Int) 16, Int.mul_comm ((j + (n + 1) : Nat) : Int) 16]
          have Hkey := Lib.hid key
          clear key
          rcases Nat.lt_or_ge (j + d) g with hlt2 | hge2
          · have i2 : ((j + d : Nat) : Int) < g := by omega
            have c := H2.out.2.2.cell (j + d)
            rw [bools_at _ _ (by rw [Hg.out]; exact hlt2)] at c
            have Hlt2 := Lib.hid hlt2
            clear hlt2
            cases hv : P.getD (j + d) false with
            | true =>
              rw [hv] at c
              have HV2 := Lib.hid hv
              clear hv
              generalize hq : j + d = q at *
              have Hq := Lib.hid hq
              clear hq
              go_wp2
              go_roundg (gk - 1)
              case measure => have := Hdk.out; have := Hlt2.out; omega
              case rel =>
                refine ⟨d + 1, by have := Hdk.out; have := Hlt2.out; have := Hq.out; omega, by rw [show j + (d + 1) = q + 1 by have := Hq.out; omega]; go_num, fun m h1 h2 => ?_, rfl⟩
                rcases Nat.lt_or_ge m q with h3 | h3
                · exact Hall.out m h1 h3
                · rw [show m = q by have := Hq.out; omega]; exact HV2.out
            | false =>
              obtain ⟨HE, HR⟩ := Hkey.out hv
              rw [hv] at c
              clear hv
              generalize hq : j + d = q at *
              have Hq := Lib.hid hq
              clear hq
              go_wp2_with (first
                | (at_builtin; refine app (w0 := w) (W := wr.alloc _) w.heap.size rfl _ _ 45 50 (.agg #[.int .i64 0, .int .i64 0]) 2 16 rfl Try.underlying45 infoPair rfl (by decide) (by decide) _ _ _ (rowCells [(16 * (j : Int), 16 * (q : Int))]) (some ⟨wr.heap.size, 0, none⟩) 1 1 rfl rfl rfl (by intro u hu; simp [rowCells] at hu; rcases hu with rfl | rfl <;> rfl) (Hown.out.alloc _) (RdL.new wr _ _) (Hb.out.alloc Hsz _) (by first | omega | (simp only [World.size_alloc, World.size_drew, World.size_setCell]; omega) | (simp; done) | (simp; omega)) (by have := Hlen.out; omega) ?_; intro v1 w3 hown1 hb2 _))
              go_roundg (g - q)
              case measure => have := Hjk.out; have := Hdk.out; have := Hlt.out; have := Hq.out; omega
              case rel => exact ⟨q + 1, by have := Hdk.out; have := Hq.out; omega, by go_num, .inr HE.out, by rw [HR.out]; rw [← rowCells_append] at hown1; rw [List.length_append]; exact hown1, hb2⟩
          · have i2 : ¬ ((j + d : Nat) : Int) < g := by omega
            have i3 : ((j + d : Nat) : Int) ≤ 1048576 := by have := Hdk.out; omega
            have hv : P.getD (j + d) false = false := by rw [List.getD_eq_getElem?_getD, List.getElem?_eq_none (by rw [Hg.out]; exact hge2)]; rfl
            obtain ⟨HE, HR⟩ := Hkey.out hv
            clear hge2 hv
            generalize hq : j + d = q at *
            have Hq := Lib.hid hq
            clear hq
            go_wp2_with (first
              | (at_builtin; refine app (w0 := w) (W := wr.alloc _) w.heap.size rfl _ _ 45 50 (.agg #[.int .i64 0, .int .i64 0]) 2 16 rfl Try.underlying45 infoPair rfl (by decide) (by decide) _ _ _ (rowCells [(16 * (j : Int), 16 * (q : Int))]) (some ⟨wr.heap.size, 0, none⟩) 1 1 rfl rfl rfl (by intro u hu; simp [rowCells] at hu; rcases hu with rfl | rfl <;> rfl) (Hown.out.alloc _) (RdL.new wr _ _) (Hb.out.alloc Hsz _) (by first | omega | (simp only [World.size_alloc, World.size_drew, World.size_setCell]; omega) | (simp; done) | (simp; omega)) (by have := Hlen.out; omega) ?_; intro v1 w3 hown1 hb2 _))
            go_roundg (g - q)
            case measure => have := Hjk.out; have := Hdk.out; have := Hlt.out; have := Hq.out; omega
            case rel => exact ⟨q + 1, by have := Hdk.out; have := Hq.out; omega, by go_num, .inr HE.out, by rw [HR.out]; rw [← rowCells_append] at hown1; rw [List.length_append]; exact hown1, hb2⟩
    · have i1 : ¬ (j : Int) < g := by omega
      have e : runsTo P j = runsTo P g := by
        have := Hjk.out
        rcases Nat.lt_or_ge g j with h1 | h1
        · have : j = g + 1 := by omega
          subst this
          exact runsTo_stop P g (by rw [List.getD_eq_getElem?_getD, List.getElem?_eq_none (by rw [Hg.out]; exact Nat.le_refl _)]; rfl)
        · rw [show j = g by omega]
      have He := Lib.hid e
      clear hge e
      go_wp2
      go_ret
      refine ⟨_, rfl, ?_, Hb.out⟩
      rw [Hrl.out, ← He.out]
      exact Hown.out
end Go.Proofs.Ytjimkkkiilcpoaa
