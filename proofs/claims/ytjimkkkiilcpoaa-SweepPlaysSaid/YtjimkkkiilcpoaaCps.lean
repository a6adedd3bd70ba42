/- Slices of capabilities: as arguments, and as rows that are owned. -/
import Derived.Test.YtjimkkkiilcpoaaTmS
set_option linter.unusedVariables false
set_option linter.unusedSimpArgs false
namespace Go.Proofs.Ytjimkkkiilcpoaa
open Go.ChangeShapes Go.WideShapes Go.ChangeAt Go.RowKit Go.Deep

/-- A capability's fields. -/
structure Cp where
  t : Bool
  b : Int
  p : Int
  a : Int
  q : Int
  y : Int
deriving Inhabited
def Cp.cells (c : Cp) : List Value := [.bool c.t, .int .i64 c.b, .int .i64 c.p, .int .i64 c.a, .int .i64 c.q, .int .i64 c.y]
def cpsL (L : List Cp) : List Value := L.flatMap Cp.cells
def CpI (c : Cp) : Prop := inI c.b ∧ inI c.p ∧ inI c.a ∧ inI c.q ∧ inI c.y
/-- What a capability's six cells hold. -/
def CpAt (w : World) (g x : Nat) (c : Cp) : Prop :=
  CpI c ∧ g < w.heap.size ∧ w.cell? ⟨g, x, none⟩ = some (.bool c.t) ∧ w.cell? ⟨g, x + 1, none⟩ = some (.int .i64 c.b) ∧ w.cell? ⟨g, x + 2, none⟩ = some (.int .i64 c.p) ∧ w.cell? ⟨g, x + 3, none⟩ = some (.int .i64 c.a) ∧ w.cell? ⟨g, x + 4, none⟩ = some (.int .i64 c.q) ∧ w.cell? ⟨g, x + 5, none⟩ = some (.int .i64 c.y)
/-- A slice of capabilities that reads so. -/
def CpsM (w : World) (v : Value) (L : List Cp) : Prop :=
  L.length ≤ maxLen ∧ ((∃ A c, v = .slice A 0 c ∧ L = []) ∨ ∃ b o c, v = .slice (some ⟨b, o, none⟩) L.length c ∧ L.length ≤ c ∧ ∀ j q, L[j]? = some q → CpAt w b (o + j * 6) q)

theorem CpAt.below {w w1 : World} {g x : Nat} {c : Cp} (h : CpAt w g x c) (hb : Below w.heap.size w w1) : CpAt w1 g x c := by
  obtain ⟨h0, hg, k0, k1, k2, k3, k4, k5⟩ := h
  have e : ∀ o, w1.cell? ⟨g, o, none⟩ = w.cell? ⟨g, o, none⟩ := fun o => hb.cell (p := ⟨g, o, none⟩) hg
  have := hb.size
  exact ⟨h0, by omega, (e _).trans k0, (e _).trans k1, (e _).trans k2, (e _).trans k3, (e _).trans k4, (e _).trans k5⟩
theorem CpsM.below {w w1 : World} {v : Value} {L : List Cp} (h : CpsM w v L) (hb : Below w.heap.size w w1) : CpsM w1 v L := by
  obtain ⟨hm, h⟩ := h
  refine ⟨hm, ?_⟩
  rcases h with h | ⟨b, o, c, e, hc, h⟩
  · exact .inl h
  · exact .inr ⟨b, o, c, e, hc, fun j op hj => (h j op hj).below hb⟩
theorem CpsM.form {w : World} {v : Value} {L : List Cp} (h : CpsM w v L) : ∃ A c, v = .slice A L.length c := by
  rcases h.2 with ⟨A, c, rfl, rfl⟩ | ⟨b, o, c, rfl, _⟩
  · exact ⟨A, c, rfl⟩
  · exact ⟨_, _, rfl⟩
theorem CpsM.at {w : World} {A : Option Addr} {n c : Nat} {L : List Cp} (h : CpsM w (.slice A n c) L) {j : Nat} {q : Cp} (hj : L[j]? = some q) : ∃ b o, A = some ⟨b, o, none⟩ ∧ n ≤ c ∧ CpAt w b (o + j * 6) q := by
  rcases h.2 with ⟨A', c', hv, rfl⟩ | ⟨b, o, c', hv, hc, h'⟩
  · simp at hj
  · cases hv
    exact ⟨b, o, rfl, hc, h' j q hj⟩
theorem cpsL_len : ∀ L : List Cp, (cpsL L).length = L.length * 6
  | [] => rfl
  | c :: L => by
    show (c.cells ++ cpsL L).length = _
    rw [List.length_append, cpsL_len L, List.length_cons]
    show 6 + _ = _
    omega
theorem cpsL_snoc (L : List Cp) (c : Cp) : cpsL (L ++ [c]) = cpsL L ++ c.cells := by simp [cpsL]
theorem cpsL_get : ∀ (L : List Cp) (j : Nat) (c : Cp), L[j]? = some c → ∀ i, i < 6 → (cpsL L)[j * 6 + i]? = c.cells[i]?
  | [], j, c, h, _, _ => by simp at h
  | x :: L, 0, c, h, i, hi => by
    simp at h
    subst h
    show (x.cells ++ cpsL L)[0 * 6 + i]? = _
    rw [Nat.zero_mul, Nat.zero_add, List.getElem?_append_left (by show i < 6; exact hi)]
  | x :: L, j + 1, c, h, i, hi => by
    show (x.cells ++ cpsL L)[(j + 1) * 6 + i]? = _
    rw [List.getElem?_append_right (by show 6 ≤ _; omega)]
    have : (j + 1) * 6 + i - x.cells.length = j * 6 + i := by show (j + 1) * 6 + i - 6 = _; omega
    rw [this]
    exact cpsL_get L j c (by simpa using h) i hi
/-- A row that is owned reads so. -/
theorem CpsM.own {w : World} {base : Nat} {v : Value} {L : List Cp} (h : w.ownsRow base 23 6 v L.length (cpsL L)) (hI : ∀ c ∈ L, CpI c) (hm : L.length ≤ maxLen) : CpsM w v L := by
  refine ⟨hm, ?_⟩
  obtain ⟨A, c, rfl⟩ := own_form h
  have hR := RdL.own h
  rcases h.2 with ⟨hv, hn⟩ | ⟨g, cap, cur, hv, hb, hg, hnc, _⟩
  · have : L = [] := List.eq_nil_of_length_eq_zero hn
    subst this
    cases hv
    exact .inl ⟨none, 0, rfl, rfl⟩
  · cases hv
    refine .inr ⟨g, 0, _, rfl, hnc, fun j q hj => ?_⟩
    have hc : ∀ i, i < 6 → ∀ u, q.cells[i]? = some u → w.cell? ⟨g, 0 + j * 6 + i, none⟩ = some u := fun i hi u hu => by
      obtain ⟨ad, e, hcc⟩ := hR (j * 6 + i) u (by rw [cpsL_get L j q hj i hi]; exact hu)
      cases e
      rw [add_plain] at hcc
      rw [Nat.add_assoc]
      exact hcc
    refine ⟨hI q (List.mem_of_getElem? hj), (Array.getElem?_eq_some_iff.1 hg).1, hc 0 (by decide) _ rfl, hc 1 (by decide) _ rfl, hc 2 (by decide) _ rfl, hc 3 (by decide) _ rfl, hc 4 (by decide) _ rfl, hc 5 (by decide) _ rfl⟩

section
variable {H : Type} {enc : TypeId × Value → H} {w : World} {base : Nat} {spare : Nat → Bool} {held : Bool}
set_option maxRecDepth 100000 in
set_option maxHeartbeats 800000 in
theorem open_caps {r : Reach} {b0 : Nat} {v : Value} {d : DataW H} {p : List MemPlace} (hv : Value.okWide Try.prog w r b0 89 v) (h : DataW.Trod enc Try.prog w base spare held 89 v d p) :
    ∃ L : List Cp, CpsM w v L := by
  have hC : Try.prog.cellsOf 23 = 6 := by kernel_rfl
  obtain ⟨a0, len0, cap0, rfl⟩ := okWide_slice Try.underlying89 hv
  obtain ⟨fuel, hf⟩ := h
  rcases open_slice Try.underlying89 hf with ⟨hcs, _⟩ | ⟨a, len, cap, m, n, D, Pl, hcs, _, hl, hm, hmm, _, hx⟩
  · simp [Value.cells] at hcs
    obtain ⟨rfl, rfl, rfl⟩ := hcs
    exact ⟨[], Nat.zero_le _, .inl ⟨none, 0, rfl, rfl⟩⟩
  · simp [Value.cells] at hcs
    obtain ⟨rfl, rfl, rfl⟩ := hcs
    have hlm : len0 ≤ m := by rw [hmm]; split <;> omega
    have each : ∀ i, i < len0 → ∃ q : Cp, (w.cell? (a.add (i * 6)) = some (.bool q.t)) ∧ ∀ g o, a = ⟨g, o, none⟩ → CpAt w g (o + i * 6) q := by
      intro i hi
      obtain ⟨cs', h1, h2⟩ := hx i (by omega)
      rw [hC] at h1
      obtain ⟨_, hlen, hcell⟩ := World.cells?_some h1
      obtain ⟨t, b, p, a', q, y, e3, i1, i2, i3, i4, i5⟩ := trod_cap h2 hlen
      subst e3
      have k0 := hcell 0 (by decide)
      have k1 := hcell 1 (by decide)
      have k2 := hcell 2 (by decide)
      have k3 := hcell 3 (by decide)
      have k4 := hcell 4 (by decide)
      have k5 := hcell 5 (by decide)
      rw [add_add] at k0 k1 k2 k3 k4 k5
      refine ⟨⟨t, b, p, a', q, y⟩, by simpa using k0, fun g o e => ?_⟩
      subst e
      rw [add_plain] at k0 k1 k2 k3 k4 k5
      simp only [← Nat.add_assoc] at k0 k1 k2 k3 k4 k5
      exact ⟨⟨i1, i2, i3, i4, i5⟩, World.block_lt_of_cell? w _ k0, by simpa using k0, by simpa using k1, by simpa using k2, by simpa using k3, by simpa using k4, by simpa using k5⟩
    obtain ⟨q, hq⟩ := choose_lt each
    refine ⟨(List.range len0).map q, by rw [List.length_map, List.length_range]; exact Nat.le_trans hl hm, ?_⟩
    rcases Nat.eq_zero_or_pos len0 with h0 | hpos
    · subst h0
      exact .inl ⟨some a, cap0, rfl, rfl⟩
    · obtain ⟨b, o, s⟩ := a
      have hsp := spot_of_cell (hq 0 hpos).1
      have hs : s = none := by simpa [Addr.add] using hsp
      subst hs
      refine .inr ⟨b, o, cap0, by simp, by simpa using hl, fun j op hj => ?_⟩
      have hj' : j < len0 := by have := (List.getElem?_eq_some_iff.1 hj).1; simpa using this
      have e : q j = op := by simpa [List.getElem?_eq_getElem, hj'] using hj
      rw [← e]
      exact (hq j hj').2 b o rfl
end
end Go.Proofs.Ytjimkkkiilcpoaa
