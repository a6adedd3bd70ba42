/- Slices of calls of layer 10. -/
import Derived.Test.YtjimkkkiilcpoaaCps
import Derived.Test.YtjimkkkiilcpoaaTmV
import Derived.Test.YtjimkkkiilcpoaaShL
set_option linter.unusedVariables false
set_option linter.unusedSimpArgs false
namespace Go.Proofs.Ytjimkkkiilcpoaa
open Go.ChangeShapes Go.WideShapes Go.ChangeAt Go.RowKit Go.Deep

/-- A call: what, one of a memory, what to paint, how many. -/
structure Op10 where
  what : Int
  m : Op7
  f : Int
  t : Int
  is : Bool
  n : Int
deriving Inhabited
def Op10At (w : World) (g x : Nat) (o : Op10) : Prop :=
  inI o.what ∧ OpAt w g (x + 1) o.m ∧ inI o.f ∧ inI o.t ∧ inI o.n ∧ g < w.heap.size ∧
    w.cell? ⟨g, x, none⟩ = some (.int .i64 o.what) ∧ w.cell? ⟨g, x + 11, none⟩ = some (.int .i64 o.f) ∧ w.cell? ⟨g, x + 12, none⟩ = some (.int .i64 o.t) ∧ w.cell? ⟨g, x + 13, none⟩ = some (.bool o.is) ∧ w.cell? ⟨g, x + 14, none⟩ = some (.int .i64 o.n)
def Ops10 (w : World) (v : Value) (L : List Op10) : Prop :=
  L.length ≤ maxLen ∧ ((∃ A c, v = .slice A 0 c ∧ L = []) ∨ ∃ b o c, v = .slice (some ⟨b, o, none⟩) L.length c ∧ L.length ≤ c ∧ ∀ j q, L[j]? = some q → Op10At w b (o + j * 15) q)
theorem Op10At.below {w w1 : World} {g x : Nat} {o : Op10} (h : Op10At w g x o) (hb : Below w.heap.size w w1) : Op10At w1 g x o := by
  obtain ⟨h0, hm, h1, h2, h3, hg, k0, k1, k2, k3, k4⟩ := h
  have e : ∀ o, w1.cell? ⟨g, o, none⟩ = w.cell? ⟨g, o, none⟩ := fun o => hb.cell (p := ⟨g, o, none⟩) hg
  have := hb.size
  exact ⟨h0, hm.below hb, h1, h2, h3, by omega, (e _).trans k0, (e _).trans k1, (e _).trans k2, (e _).trans k3, (e _).trans k4⟩
theorem Ops10.below {w w1 : World} {v : Value} {L : List Op10} (h : Ops10 w v L) (hb : Below w.heap.size w w1) : Ops10 w1 v L := by
  obtain ⟨hm, h⟩ := h
  refine ⟨hm, ?_⟩
  rcases h with h | ⟨b, o, c, e, hc, h⟩
  · exact .inl h
  · exact .inr ⟨b, o, c, e, hc, fun j op hj => (h j op hj).below hb⟩
theorem Ops10.form {w : World} {v : Value} {L : List Op10} (h : Ops10 w v L) : ∃ A c, v = .slice A L.length c := by
  rcases h.2 with ⟨A, c, rfl, rfl⟩ | ⟨b, o, c, rfl, _⟩
  · exact ⟨A, c, rfl⟩
  · exact ⟨_, _, rfl⟩
theorem Ops10.at {w : World} {A : Option Addr} {n c : Nat} {L : List Op10} (h : Ops10 w (.slice A n c) L) {j : Nat} {q : Op10} (hj : L[j]? = some q) : ∃ b o, A = some ⟨b, o, none⟩ ∧ n ≤ c ∧ Op10At w b (o + j * 15) q := by
  rcases h.2 with ⟨A', c', hv, rfl⟩ | ⟨b, o, c', hv, hc, h'⟩
  · simp at hj
  · cases hv
    exact ⟨b, o, rfl, hc, h' j q hj⟩

section
variable {H : Type} {enc : TypeId × Value → H} {w : World} {base : Nat} {spare : Nat → Bool} {held : Bool}
set_option maxRecDepth 100000 in
set_option maxHeartbeats 800000 in
theorem trod_op7 {fuel : Nat} {cs : List Value} {x : DataW H × List MemPlace} (h : DataW.trod enc Try.prog w base spare held fuel 61 cs = some x) (hl : cs.length = 10) :
    ∃ (q : Op7) (vb : Value), cs = [.int .i64 q.what, .int .i64 q.at_, vb, .bool q.t, .int .i64 q.b, .int .i64 q.p, .int .i64 q.a, .int .i64 q.q, .int .i64 q.y, .int .i64 q.n] ∧ RowU w vb q.bs ∧ inI q.what ∧ inI q.at_ ∧ inI q.b ∧ inI q.p ∧ inI q.a ∧ inI q.q ∧ inI q.y ∧ inI q.n ∧ isB q.bs ∧ q.bs.length ≤ maxLen := by
  have c3 : Try.prog.cellsOf 3 = 1 := by kernel_rfl
  have c5 : Try.prog.cellsOf 24 = 1 := by kernel_rfl
  have c6 : Try.prog.cellsOf 23 = 6 := by kernel_rfl
  obtain ⟨xs, k, hk, hxy, _, hxl, hfs⟩ := DataW.trod_struct Try.underlying61 h
  match xs, hxl, cs, hl with
  | [y0, y1, y2, y3, y4], _, [v0, v1, v2, v3, v4, v5, v6, v7, v8, v9], _ =>
    have g0 := hfs 0 _ rfl
    have g1 := hfs 1 _ rfl
    have g2 := hfs 2 _ rfl
    have g3 := hfs 3 _ rfl
    have g4 := hfs 4 _ rfl
    simp [c3, c5, c6] at g0 g1 g2 g3 g4
    obtain ⟨wh, e0, _, w0⟩ := DataW.trod_int Try.underlying3 g0
    obtain ⟨at_, e1, _, w1⟩ := DataW.trod_int Try.underlying3 g1
    obtain ⟨vb, bs, e2, hrow, hB, hbl⟩ := trod_bytes g2
    obtain ⟨t, b, p, a', q, y, e3, i1, i2, i3, i4, i5⟩ := trod_cap g3 rfl
    obtain ⟨nn, e4, _, w4⟩ := DataW.trod_int Try.underlying3 g4
    cases e0
    cases e1
    cases e2
    cases e3
    cases e4
    exact ⟨⟨wh, at_, bs, t, b, p, a', q, y, nn⟩, v2, rfl, hrow, inI_of_wf w0, inI_of_wf w1, i1, i2, i3, i4, i5, inI_of_wf w4, hB, hbl⟩
set_option maxRecDepth 100000 in
set_option maxHeartbeats 800000 in
theorem trod_op8 {fuel : Nat} {cs : List Value} {x : DataW H × List MemPlace} (h : DataW.trod enc Try.prog w base spare held fuel 41 cs = some x) (hl : cs.length = 3) :
    ∃ (f t : Int) (is : Bool), cs = [.int .i64 f, .int .i64 t, .bool is] ∧ inI f ∧ inI t := by
  have c3 : Try.prog.cellsOf 3 = 1 := by kernel_rfl
  have c4 : Try.prog.cellsOf 4 = 1 := by kernel_rfl
  obtain ⟨xs, k, hk, hxy, _, hxl, hfs⟩ := DataW.trod_struct Try.underlying41 h
  match xs, hxl, cs, hl with
  | [y0, y1, y2], _, [v0, v1, v2], _ =>
    have g0 := hfs 0 _ rfl
    have g1 := hfs 1 _ rfl
    have g2 := hfs 2 _ rfl
    simp [c3, c4] at g0 g1 g2
    obtain ⟨f, e0, _, w0⟩ := DataW.trod_int Try.underlying3 g0
    obtain ⟨t, e1, _, w1⟩ := DataW.trod_int Try.underlying3 g1
    obtain ⟨is, e2, _⟩ := DataW.trod_bool Try.underlying4 g2
    cases e0
    cases e1
    cases e2
    exact ⟨f, t, is, rfl, inI_of_wf w0, inI_of_wf w1⟩

set_option maxRecDepth 100000 in
set_option maxHeartbeats 1600000 in
theorem open_ops10 {r : Reach} {b0 : Nat} {v : Value} {d : DataW H} {p : List MemPlace} (hv : Value.okWide Try.prog w r b0 74 v) (h : DataW.Trod enc Try.prog w base spare held 74 v d p) :
    ∃ L : List Op10, Ops10 w v L := by
  have hC : Try.prog.cellsOf 81 = 15 := by kernel_rfl
  have c3 : Try.prog.cellsOf 3 = 1 := by kernel_rfl
  have c7 : Try.prog.cellsOf 61 = 10 := by kernel_rfl
  have c8 : Try.prog.cellsOf 41 = 3 := by kernel_rfl
  obtain ⟨a0, len0, cap0, rfl⟩ := okWide_slice Try.underlying74 hv
  obtain ⟨fuel, hf⟩ := h
  rcases open_slice Try.underlying74 hf with ⟨hcs, _⟩ | ⟨a, len, cap, m, n, D, Pl, hcs, _, hl, hm, hmm, _, hx⟩
  · simp [Value.cells] at hcs
    obtain ⟨rfl, rfl, rfl⟩ := hcs
    exact ⟨[], Nat.zero_le _, .inl ⟨none, 0, rfl, rfl⟩⟩
  · simp [Value.cells] at hcs
    obtain ⟨rfl, rfl, rfl⟩ := hcs
    have hlm : len0 ≤ m := by rw [hmm]; split <;> omega
    have each : ∀ i, i < len0 → ∃ q : Op10, (w.cell? (a.add (i * 15)) = some (.int .i64 q.what)) ∧ ∀ g o, a = ⟨g, o, none⟩ → Op10At w g (o + i * 15) q := by
      intro i hi
      obtain ⟨cs', h1, h2⟩ := hx i (by omega)
      rw [hC] at h1
      obtain ⟨_, hlen, hcell⟩ := World.cells?_some h1
      obtain ⟨xs, k, hk, hxy, _, hxl, hfs⟩ := DataW.trod_struct Try.underlying81 h2
      match xs, hxl, cs', hlen with
      | [y0, y1, y2, y3], _, [v0, v1, v2, v3, v4, v5, v6, v7, v8, v9, v10, v11, v12, v13, v14], _ =>
        have g0 := hfs 0 _ rfl
        have g1 := hfs 1 _ rfl
        have g2 := hfs 2 _ rfl
        have g3 := hfs 3 _ rfl
        simp [c3, c7, c8] at g0 g1 g2 g3
        obtain ⟨wh, e0, _, w0⟩ := DataW.trod_int Try.underlying3 g0
        obtain ⟨q, vb, e1, hrow, j0, j1, j2, j3, j4, j5, j6, j7, hB, hbl⟩ := trod_op7 g1 rfl
        obtain ⟨f, t, is, e2, i1, i2⟩ := trod_op8 g2 rfl
        obtain ⟨nn, e3, _, w3⟩ := DataW.trod_int Try.underlying3 g3
        cases e0
        cases e1
        cases e2
        cases e3
        have k0 := hcell 0 (by omega)
        have k1 := hcell 1 (by omega)
        have k2 := hcell 2 (by omega)
        have k3 := hcell 3 (by omega)
        have k4 := hcell 4 (by omega)
        have k5 := hcell 5 (by omega)
        have k6 := hcell 6 (by omega)
        have k7 := hcell 7 (by omega)
        have k8 := hcell 8 (by omega)
        have k9 := hcell 9 (by omega)
        have k10 := hcell 10 (by omega)
        have k11 := hcell 11 (by omega)
        have k12 := hcell 12 (by omega)
        have k13 := hcell 13 (by omega)
        have k14 := hcell 14 (by omega)
        rw [add_add] at k0 k1 k2 k3 k4 k5 k6 k7 k8 k9 k10 k11 k12 k13 k14
        refine ⟨⟨wh, q, f, t, is, nn⟩, by simpa using k0, fun g o e => ?_⟩
        subst e
        rw [add_plain] at k0 k1 k2 k3 k4 k5 k6 k7 k8 k9 k10 k11 k12 k13 k14
        simp only [← Nat.add_assoc] at k0 k1 k2 k3 k4 k5 k6 k7 k8 k9 k10 k11 k12 k13 k14
        have hgl := World.block_lt_of_cell? w _ k0
        refine ⟨inI_of_wf w0, ⟨j0, j1, j2, j3, j4, j5, j6, j7, hB, hbl, hgl, ⟨_, hrow, by simpa using k3⟩, by simpa using k1, by simpa using k2, by simpa using k4, by simpa using k5, by simpa using k6, by simpa using k7, by simpa using k8, by simpa using k9, by simpa using k10⟩,
          i1, i2, inI_of_wf w3, hgl, by simpa using k0, by simpa using k11, by simpa using k12, by simpa using k13, by simpa using k14⟩
    obtain ⟨q, hq⟩ := choose_lt each
    refine ⟨(List.range len0).map q, by rw [List.length_map, List.length_range]; exact Nat.le_trans hl hm, ?_⟩
    rcases Nat.eq_zero_or_pos len0 with h0 | hpos
    · subst h0
      exact .inl ⟨some a, cap0, rfl, rfl⟩
    · obtain ⟨b, o, s⟩ := a
      have hsp := spot_of_cell (hq 0 hpos).1
      have hs : s = none := by simpa [Addr.add] using hsp
      subst hs
      refine .inr ⟨b, o, cap0, by simp, by simpa using hl, fun j op hj => ?_⟩
      have hj' : j < len0 := by have := (List.getElem?_eq_some_iff.1 hj).1; simpa using this
      have e : q j = op := by simpa [List.getElem?_eq_getElem, hj'] using hj
      rw [← e]
      exact (hq j hj').2 b o rfl
end

/-! A row of a memory's calls. -/
def opC (o : Op7) (vb : Value) : List Value := [.int .i64 o.what, .int .i64 o.at_, vb, .bool o.t, .int .i64 o.b, .int .i64 o.p, .int .i64 o.a, .int .i64 o.q, .int .i64 o.y, .int .i64 o.n]
def opsC (LL : List (Op7 × Value)) : List Value := LL.flatMap fun p => opC p.1 p.2
theorem opsC_snoc (LL : List (Op7 × Value)) (o : Op7) (vb : Value) : opsC (LL ++ [(o, vb)]) = opsC LL ++ opC o vb := by simp [opsC]
theorem opsC_get : ∀ (LL : List (Op7 × Value)) (j : Nat) (o : Op7) (vb : Value), LL[j]? = some (o, vb) → ∀ i, i < 10 → (opsC LL)[j * 10 + i]? = (opC o vb)[i]?
  | [], j, o, vb, h, _, _ => by simp at h
  | x :: LL, 0, o, vb, h, i, hi => by
    simp at h
    subst h
    show (opC o vb ++ opsC LL)[0 * 10 + i]? = _
    rw [Nat.zero_mul, Nat.zero_add, List.getElem?_append_left (by show i < 10; exact hi)]
  | x :: LL, j + 1, o, vb, h, i, hi => by
    show (opC x.1 x.2 ++ opsC LL)[(j + 1) * 10 + i]? = _
    rw [List.getElem?_append_right (by show 10 ≤ _; omega)]
    have : (j + 1) * 10 + i - (opC x.1 x.2).length = j * 10 + i := by show (j + 1) * 10 + i - 10 = _; omega
    rw [this]
    exact opsC_get LL j o vb (by simpa using h) i hi
theorem OpsM.own10 {w : World} {base : Nat} {v : Value} {LL : List (Op7 × Value)} (h : w.ownsRow base 61 10 v LL.length (opsC LL)) (hI : ∀ p ∈ LL, RowU w p.2 p.1.bs ∧ OpV p.1) (hm : LL.length ≤ maxLen) : OpsM w v (LL.map (·.1)) := by
  refine ⟨by rw [List.length_map]; exact hm, ?_⟩
  obtain ⟨A, c, rfl⟩ := own_form h
  have hR := RdL.own h
  rcases h.2 with ⟨hv, hn⟩ | ⟨g, cap, cur, hv, hb, hg, hnc, _⟩
  · have : LL = [] := List.eq_nil_of_length_eq_zero hn
    subst this
    cases hv
    exact .inl ⟨none, 0, rfl, rfl⟩
  · cases hv
    refine .inr ⟨g, 0, _, by rw [List.length_map], by rw [List.length_map]; exact hnc, fun j q hj => ?_⟩
    rw [List.getElem?_map] at hj
    obtain ⟨⟨o, vb⟩, hj2, rfl⟩ := Option.map_eq_some_iff.1 hj
    have hc : ∀ i, i < 10 → ∀ u, (opC o vb)[i]? = some u → w.cell? ⟨g, 0 + j * 10 + i, none⟩ = some u := fun i hi u hu => by
      obtain ⟨ad, e, hcc⟩ := hR (j * 10 + i) u (by rw [opsC_get LL j o vb hj2 i hi]; exact hu)
      cases e
      rw [add_plain] at hcc
      rw [Nat.add_assoc]
      exact hcc
    obtain ⟨hr, hV⟩ := hI (o, vb) (List.mem_of_getElem? hj2)
    obtain ⟨h1, h2, h3, h4, h5, h6, h7, h8, h9, h10⟩ := hV
    exact ⟨h1, h2, h3, h4, h5, h6, h7, h8, h9, h10, (Array.getElem?_eq_some_iff.1 hg).1, ⟨vb, hr, hc 2 (by decide) _ rfl⟩, hc 0 (by decide) _ rfl, hc 1 (by decide) _ rfl, hc 3 (by decide) _ rfl, hc 4 (by decide) _ rfl, hc 5 (by decide) _ rfl, hc 6 (by decide) _ rfl, hc 7 (by decide) _ rfl, hc 8 (by decide) _ rfl, hc 9 (by decide) _ rfl⟩
end Go.Proofs.Ytjimkkkiilcpoaa
