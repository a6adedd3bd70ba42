/- Rows of painted ones. -/
import Derived.Test.YtjimkkkiilcpoaaShE
set_option linter.unusedVariables false
set_option linter.unusedSimpArgs false
namespace Go.Proofs.Ytjimkkkiilcpoaa
open Go.RowKit

def rowCells (R : List (Int × Int)) : List Value := R.flatMap fun r => [.int .i64 r.1, .int .i64 r.2]
theorem rowCells_append (R S : List (Int × Int)) : rowCells (R ++ S) = rowCells R ++ rowCells S := List.flatMap_append
theorem rowCells_one (x y : Int) : rowCells [(x, y)] = [.int .i64 x, .int .i64 y] := rfl
theorem rowCells_len (R : List (Int × Int)) : (rowCells R).length = R.length * 2 := by
  induction R with
  | nil => rfl
  | cons r R ih => simp [rowCells] at ih ⊢; omega
theorem rowCells_last (R : List (Int × Int)) (x y : Int) : (rowCells (R ++ [(x, y)]))[R.length * 2 + 1]? = some (.int .i64 y) := by
  rw [rowCells_append, rowCells_one, List.getElem?_append_right (by rw [rowCells_len]; omega), rowCells_len]
  rw [show R.length * 2 + 1 - R.length * 2 = 1 by omega]
  rfl
theorem rowCells_set (R : List (Int × Int)) (x y z : Int) : (rowCells (R ++ [(x, y)])).set (R.length * 2 + 1) (.int .i64 z) = rowCells (R ++ [(x, z)]) := by
  rw [rowCells_append, rowCells_append, rowCells_one, rowCells_one, List.set_append_right _ _ (by rw [rowCells_len]; omega), rowCells_len]
  rw [show R.length * 2 + 1 - R.length * 2 = 1 by omega]
  rfl

/-- One more painted one: the last row is longer, or there is a new one. -/
def addRow (R : List (Int × Int)) (a : Int) : List (Int × Int) :=
  match R.getLast? with
  | some r => if r.2 = a then R.dropLast ++ [(r.1, a + 16)] else R ++ [(a, a + 16)]
  | none => R ++ [(a, a + 16)]
theorem addRow_nil (a : Int) : addRow [] a = [(a, a + 16)] := rfl
theorem addRow_eq (R : List (Int × Int)) (x a : Int) : addRow (R ++ [(x, a)]) a = R ++ [(x, a + 16)] := by simp [addRow]
theorem addRow_ne (R : List (Int × Int)) (x y a : Int) (h : y ≠ a) : addRow (R ++ [(x, y)]) a = R ++ [(x, y)] ++ [(a, a + 16)] := by
  simp [addRow, h]

/-- The rows of the first granules. -/
def runsTo (P : List Bool) : Nat → List (Int × Int)
  | 0 => []
  | i + 1 => if P.getD i false = true then addRow (runsTo P i) ((i : Int) * 16) else runsTo P i
def runsL (P : List Bool) : List (Int × Int) := runsTo P P.length

theorem addRow_len (R : List (Int × Int)) (a : Int) : (addRow R a).length ≤ R.length + 1 := by
  rcases List.eq_nil_or_concat R with rfl | ⟨S, ⟨x, y⟩, rfl⟩
  · rw [addRow_nil]; simp
  · rw [List.concat_eq_append]
    by_cases h : y = a
    · subst h; rw [addRow_eq]; simp
    · rw [addRow_ne _ _ _ _ h]; simp
theorem runsTo_len (P : List Bool) (i : Nat) : (runsTo P i).length ≤ i := by
  induction i with
  | zero => exact Nat.le_refl _
  | succ i ih =>
    rw [runsTo]
    split
    · exact Nat.le_trans (addRow_len _ _) (Nat.succ_le_succ ih)
    · omega
/-- No row ends beyond. -/
theorem runsTo_last (P : List Bool) (i : Nat) : ∀ r ∈ runsTo P i, r.2 ≤ (i : Int) * 16 := by
  induction i with
  | zero => intro r hr; cases hr
  | succ i ih =>
    rw [runsTo]
    split
    · rcases List.eq_nil_or_concat (runsTo P i) with e | ⟨S, ⟨x, y⟩, e⟩
      · rw [e, addRow_nil]
        intro r hr
        rw [List.mem_singleton] at hr
        subst hr
        simp only
        omega
      · rw [List.concat_eq_append] at e
        rw [e] at ih ⊢
        by_cases h : y = (i : Int) * 16
        · subst h
          rw [addRow_eq]
          intro r hr
          rcases List.mem_append.1 hr with hr | hr
          · have := ih r (List.mem_append_left _ hr); omega
          · rw [List.mem_singleton] at hr; subst hr; simp only; omega
        · rw [addRow_ne _ _ _ _ h]
          intro r hr
          rcases List.mem_append.1 hr with hr | hr
          · have := ih r hr; omega
          · rw [List.mem_singleton] at hr; subst hr; simp only; omega
    · intro r hr
      have := ih r hr
      omega

theorem infoPair : (Try.prog.info? 50).map (fun i => (i.zero, i.size, i.bytes)) = some (some (.agg #[.int .i64 0, .int .i64 0]), 2, 16) := by kernel_rfl

set_option maxRecDepth 100000 in
set_option maxHeartbeats 1600000 in
theorem runs_any (b bW : Nat) (P : List Bool) (w : World) (h : ShM w b bW P) :
    Calls Try.prog 43 #[.pointer (some ⟨b, 0, none⟩)] w fun e w' => ∃ v, e = .returned v ∧ w'.ownsRow w.heap.size 50 2 v (runsL P).length (rowCells (runsL P)) ∧ Below w.heap.size w w' := by
  have H := Lib.hid h
  have hl := h.1
  have gl : (P.length : Int) ≤ 1048576 := by omega
  have L := h.2.1.cell
  generalize nWords P.length = m at *
  have hrl : runsL P = runsTo P P.length := rfl
  generalize runsL P = RL at *
  generalize hg : P.length = g at *
  have Hg := Lib.hid hg
  have Hrl := Lib.hid hrl
  clear hl h hg hrl
  go_enter Try.func43, Try.ntmps43
  go_wp2
  go_loopg [3, 4, 5, 10] g (fun k v i at_ c wr => ∃ j : Nat, j + k = g ∧ c = .int .i64 j ∧ wr.ownsRow w.heap.size 50 2 v (runsTo P j).length (rowCells (runsTo P j)) ∧ Below w.heap.size w wr)
  case atStart => exact ⟨0, by omega, rfl, World.ownsRow_nil _ _ _ _, Below.refl _ _⟩
  case round =>
    clear L
    obtain ⟨j, hjk, rfl, hown, hb⟩ := hrel
    have H2 := Lib.hid (H.out.below hb H.out.lt.1 H.out.lt.2)
    have Hjk := Lib.hid hjk
    have Hb := Lib.hid hb
    have Hsz := hb.size
    clear hjk hb
    rcases Nat.lt_or_ge j g with hlt | hge
    · have i1 : (j : Int) < g := by omega
      have Hlt := Lib.hid hlt
      clear hlt
      go_wp2_with fail
      refine (painted_any b bW P j _ (by omega) H2.out).mono ?_
      rintro e w1 ⟨rfl, rfl⟩
      have hst : runsTo P (j + 1) = if P.getD j false = true then addRow (runsTo P j) ((j : Int) * 16) else runsTo P j := rfl
      cases hv : P.getD j false with
      | false =>
        rw [hv, if_neg Bool.false_ne_true] at hst
        have Hst := Lib.hid hst
        have Hown := Lib.hid hown
        clear hv hst hown
        go_wp2
        go_roundg (gk - 1)
        case measure => have := Hjk.out; have := Hlt.out; omega
        case rel => exact ⟨j + 1, by have := Hjk.out; have := Hlt.out; omega, by go_num, by rw [Hst.out]; exact Hown.out, Hb.out⟩
      | true =>
        rw [hv, if_pos rfl] at hst
        have hlen := runsTo_len P j
        generalize runsTo P j = R at *
        have Hst := Lib.hid hst
        clear hst hv
        rcases List.eq_nil_or_concat R with rfl | ⟨S, ⟨x, y⟩, rfl⟩
        · rw [addRow_nil] at Hst
          obtain ⟨A, c, rfl⟩ := own_form hown
          have Hown := Lib.hid hown
          clear hown
          go_wp2_with (first
            | (at_builtin; refine app (w0 := w) (W := w1.alloc _) w.heap.size rfl _ _ 45 50 (.agg #[.int .i64 0, .int .i64 0]) 2 16 rfl Try.underlying45 infoPair rfl (by decide) (by decide) _ _ _ (rowCells [((j : Int) * 16, (j : Int) * 16 + 16)]) (some ⟨w1.heap.size, 0, none⟩) 1 1 rfl rfl rfl (by intro u hu; simp [rowCells] at hu; rcases hu with rfl | rfl <;> rfl) (Hown.out.alloc _) (RdL.new w1 _ _) (Hb.out.alloc Hsz _) (by first | omega | (simp only [World.size_alloc, World.size_drew, World.size_setCell]; omega) | (simp; done) | (simp; omega)) (by decide) ?_; intro v1 w2 hown1 hb2 _))
          go_roundg (gk - 1)
          case measure => have := Hjk.out; have := Hlt.out; omega
          case rel => exact ⟨j + 1, by have := Hjk.out; have := Hlt.out; omega, by go_num, by rw [Hst.out]; exact hown1, hb2⟩
        · rw [List.concat_eq_append] at *
          rw [List.length_append, List.length_singleton] at hown hlen
          obtain ⟨g0, c, rfl⟩ : ∃ g0 c, u3 = .slice (some ⟨g0, 0, none⟩) (S.length + 1) c := by
            rcases hown.2 with ⟨_, hn⟩ | ⟨g0, c, _, hv, _⟩
            · omega
            · exact ⟨g0, c, hv⟩
          have cL := hown.cells (g := g0) rfl (S.length * 2 + 1) _ (rowCells_last S x y)
          rw [add_plain, Nat.zero_add] at cL
          have fL := hown.frozenAt
          have n1 : ((S.length : Int) + 1) ≤ 1048576 := by omega
          have nle : Hid (S.length + 1 ≤ 1048576) := Lib.hid (by omega)
          have Hown := Lib.hid hown
          clear hown hlen
          generalize hs : S.length = s at *
          have Hs := Lib.hid hs
          clear hs
          by_cases hy : y = (j : Int) * 16
          · subst hy
            rw [addRow_eq] at Hst
            go_upto_region 9 with fail
            go_region
            go_wp2
            go_roundg (gk - 1)
            case measure => have := Hjk.out; have := Hlt.out; omega
            case rel =>
              obtain ⟨s1, s2⟩ := Hown.out.stored (s * 2 + 1) (.int .i64 ((j : Int) * 16 + 16))
              rw [← Hs.out, rowCells_set, Hs.out] at s1
              refine ⟨j + 1, by have := Hjk.out; have := Hlt.out; omega, by go_num, by rw [Hst.out, List.length_append, Hs.out]; exact s1, below_drewN (Hb.out.grown s2 Hsz (by intro k hk; cases hk; exact (Hown.out.lt g0 rfl).1)) _⟩
          · rw [addRow_ne _ _ _ _ hy] at Hst
            have hy' : (y == (j : Int) * 16) = false := by rw [beq_eq_false_iff_ne]; exact hy
            clear hy
            go_wp2_with (first
              | (at_builtin; refine app (w0 := w) (W := w1.alloc _) w.heap.size rfl _ _ 45 50 (.agg #[.int .i64 0, .int .i64 0]) 2 16 rfl Try.underlying45 infoPair rfl (by decide) (by decide) _ _ _ (rowCells [((j : Int) * 16, (j : Int) * 16 + 16)]) (some ⟨w1.heap.size, 0, none⟩) 1 1 rfl rfl rfl (by intro u hu; simp [rowCells] at hu; rcases hu with rfl | rfl <;> rfl) (Hown.out.alloc _) (RdL.new w1 _ _) (Hb.out.alloc Hsz _) (by first | omega | (simp only [World.size_alloc, World.size_drew, World.size_setCell]; omega) | (simp; done) | (simp; omega)) (by have := nle.out; omega) ?_; intro v1 w2 hown1 hb2 _))
            go_roundg (gk - 1)
            case measure => have := Hjk.out; have := Hlt.out; omega
            case rel => exact ⟨j + 1, by have := Hjk.out; have := Hlt.out; omega, by go_num, by rw [Hst.out, rowCells_append _ [(_, _)], List.length_append, List.length_append, Hs.out]; exact hown1, hb2⟩
    · have i1 : ¬ (j : Int) < g := by omega
      have e : j = g := by have := Hjk.out; omega
      subst e
      clear hge
      go_wp2
      go_ret
      rw [Hrl.out]
      exact ⟨_, rfl, hown, Hb.out⟩
end Go.Proofs.Ytjimkkkiilcpoaa
