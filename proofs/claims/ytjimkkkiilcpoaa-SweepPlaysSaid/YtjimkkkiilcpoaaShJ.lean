/- Arguments opened: slices of paints. -/
import Derived.Test.YtjimkkkiilcpoaaArg
import Derived.Test.YtjimkkkiilcpoaaShB
import Derived.Deep.Slices
set_option linter.unusedVariables false
set_option linter.unusedSimpArgs false
namespace Go.Proofs.Ytjimkkkiilcpoaa
open Go.ChangeShapes Go.WideShapes Go.ChangeAt Go.RowKit Go.Deep

/-- A paint: from, to, painted or not. -/
abbrev Pnt := Int × Int × Bool
/-- A slice of paints that reads so. -/
def OpsR (w : World) (v : Value) (L : List Pnt) : Prop :=
  (∃ A c, v = .slice A 0 c ∧ L = []) ∨ ∃ b o c, v = .slice (some ⟨b, o, none⟩) L.length c ∧ L.length ≤ c ∧ ∀ j f t is, L[j]? = some (f, t, is) →
    inI f ∧ inI t ∧ b < w.heap.size ∧ w.cell? ⟨b, o + j * 3, none⟩ = some (.int .i64 f) ∧ w.cell? ⟨b, o + j * 3 + 1, none⟩ = some (.int .i64 t) ∧ w.cell? ⟨b, o + j * 3 + 2, none⟩ = some (.bool is)
theorem OpsR.below {w w1 : World} {v : Value} {L : List Pnt} (h : OpsR w v L) (hb : Below w.heap.size w w1) : OpsR w1 v L := by
  rcases h with h | ⟨b, o, c, e, hc, h⟩
  · exact .inl h
  · refine .inr ⟨b, o, c, e, hc, fun j f t is hj => ?_⟩
    obtain ⟨i1, i2, hlt, c1, c2, c3⟩ := h j f t is hj
    exact ⟨i1, i2, Nat.lt_of_lt_of_le hlt hb.size, (hb.cell (p := ⟨b, o + j * 3, none⟩) hlt).trans c1, (hb.cell (p := ⟨b, o + j * 3 + 1, none⟩) hlt).trans c2, (hb.cell (p := ⟨b, o + j * 3 + 2, none⟩) hlt).trans c3⟩

section
variable {H : Type} {enc : TypeId × Value → H} {w : World} {base : Nat} {spare : Nat → Bool} {held : Bool}
set_option maxRecDepth 100000 in
theorem open_ops {r : Reach} {b0 : Nat} {v : Value} {d : DataW H} {p : List MemPlace} (hv : Value.okWide Try.prog w r b0 34 v) (h : DataW.Trod enc Try.prog w base spare held 34 v d p) :
    ∃ L : List Pnt, OpsR w v L := by
  have hC : Try.prog.cellsOf 41 = 3 := by kernel_rfl
  have c3 : Try.prog.cellsOf 3 = 1 := by kernel_rfl
  have c4 : Try.prog.cellsOf 4 = 1 := by kernel_rfl
  obtain ⟨a0, len0, cap0, rfl⟩ := okWide_slice Try.underlying34 hv
  obtain ⟨fuel, hf⟩ := h
  rcases open_slice Try.underlying34 hf with ⟨hcs, _⟩ | ⟨a, len, cap, m, n, D, Pl, hcs, _, hl, hm, hmm, _, hx⟩
  · simp [Value.cells] at hcs
    obtain ⟨rfl, rfl, rfl⟩ := hcs
    exact ⟨[], .inl ⟨none, 0, rfl, rfl⟩⟩
  · simp [Value.cells] at hcs
    obtain ⟨rfl, rfl, rfl⟩ := hcs
    have hlm : len0 ≤ m := by rw [hmm]; split <;> omega
    have each : ∀ i, i < len0 → ∃ q : Pnt, inI q.1 ∧ inI q.2.1 ∧ w.cell? (a.add (i * 3)) = some (.int .i64 q.1) ∧ w.cell? (a.add (i * 3 + 1)) = some (.int .i64 q.2.1) ∧ w.cell? (a.add (i * 3 + 2)) = some (.bool q.2.2) := by
      intro i hi
      obtain ⟨cs', h1, h2⟩ := hx i (by omega)
      rw [hC] at h1
      obtain ⟨_, hlen, hcell⟩ := World.cells?_some h1
      obtain ⟨xs, k, hk, hxy, _, hxl, hfs⟩ := DataW.trod_struct Try.underlying41 h2
      match xs, hxl, cs', hlen with
      | [y0, y1, y2], _, [v0, v1, v2], _ =>
        have g0 := hfs 0 _ rfl
        have g1 := hfs 1 _ rfl
        have g2 := hfs 2 _ rfl
        simp [c3, c4] at g0 g1 g2
        obtain ⟨f, e0, _, w0⟩ := DataW.trod_int Try.underlying3 g0
        obtain ⟨t, e1, _, w1⟩ := DataW.trod_int Try.underlying3 g1
        obtain ⟨is, e2, _⟩ := DataW.trod_bool Try.underlying4 g2
        cases e0
        cases e1
        cases e2
        have k0 := hcell 0 (by omega)
        have k1 := hcell 1 (by omega)
        have k2 := hcell 2 (by omega)
        rw [add_add] at k0 k1 k2
        exact ⟨(f, t, is), inI_of_wf w0, inI_of_wf w1, by simpa using k0, by simpa using k1, by simpa using k2⟩
    obtain ⟨q, hq⟩ := choose_lt each
    refine ⟨(List.range len0).map q, ?_⟩
    rcases Nat.eq_zero_or_pos len0 with h0 | hpos
    · subst h0
      exact .inl ⟨some a, cap0, rfl, rfl⟩
    · obtain ⟨b, o, s⟩ := a
      have hsp := spot_of_cell (hq 0 hpos).2.2.1
      have hs : s = none := by simpa [Addr.add] using hsp
      subst hs
      refine .inr ⟨b, o, cap0, by simp, by simpa using hl, fun j f t is hj => ?_⟩
      have hj' : j < len0 := by have := (List.getElem?_eq_some_iff.1 hj).1; simpa using this
      have e : q j = (f, t, is) := by simpa [List.getElem?_eq_getElem, hj'] using hj
      obtain ⟨i1, i2, k0, k1, k2⟩ := hq j hj'
      rw [add_plain] at k0 k1 k2
      rw [e] at i1 i2 k0 k1 k2
      exact ⟨i1, i2, World.block_lt_of_cell? w _ k0, k0, k1, k2⟩
end
end Go.Proofs.Ytjimkkkiilcpoaa
