/- Arguments opened: slices of calls of a memory. -/
import Derived.Test.YtjimkkkiilcpoaaShJ
import Derived.Test.YtjimkkkiilcpoaaTmR
set_option linter.unusedVariables false
set_option linter.unusedSimpArgs false
namespace Go.Proofs.Ytjimkkkiilcpoaa
open Go.ChangeShapes Go.WideShapes Go.ChangeAt Go.RowKit Go.Deep

/-- A call: what, where, bytes, a capability, how many. -/
structure Op7 where
  what : Int
  at_ : Int
  bs : List Int
  t : Bool
  b : Int
  p : Int
  a : Int
  q : Int
  y : Int
  n : Int
deriving Inhabited
/-- What a call's ten cells hold. -/
def OpAt (w : World) (g x : Nat) (o : Op7) : Prop :=
  inI o.what ∧ inI o.at_ ∧ inI o.b ∧ inI o.p ∧ inI o.a ∧ inI o.q ∧ inI o.y ∧ inI o.n ∧ isB o.bs ∧ o.bs.length ≤ maxLen ∧ g < w.heap.size ∧
    (∃ v, RowU w v o.bs ∧ w.cell? ⟨g, x + 2, none⟩ = some v) ∧
    w.cell? ⟨g, x, none⟩ = some (.int .i64 o.what) ∧ w.cell? ⟨g, x + 1, none⟩ = some (.int .i64 o.at_) ∧ w.cell? ⟨g, x + 3, none⟩ = some (.bool o.t) ∧ w.cell? ⟨g, x + 4, none⟩ = some (.int .i64 o.b) ∧ w.cell? ⟨g, x + 5, none⟩ = some (.int .i64 o.p) ∧
    w.cell? ⟨g, x + 6, none⟩ = some (.int .i64 o.a) ∧ w.cell? ⟨g, x + 7, none⟩ = some (.int .i64 o.q) ∧ w.cell? ⟨g, x + 8, none⟩ = some (.int .i64 o.y) ∧ w.cell? ⟨g, x + 9, none⟩ = some (.int .i64 o.n)
/-- A slice of calls that reads so. -/
def OpsM (w : World) (v : Value) (L : List Op7) : Prop :=
  L.length ≤ maxLen ∧ ((∃ A c, v = .slice A 0 c ∧ L = []) ∨ ∃ b o c, v = .slice (some ⟨b, o, none⟩) L.length c ∧ L.length ≤ c ∧ ∀ j op, L[j]? = some op → OpAt w b (o + j * 10) op)

section
variable {H : Type} {enc : TypeId × Value → H} {w : World} {base : Nat} {spare : Nat → Bool} {held : Bool}
set_option maxRecDepth 100000 in
theorem trod_bytes {fuel : Nat} {cs : List Value} {x : DataW H × List MemPlace} (h : DataW.trod enc Try.prog w base spare held fuel 24 cs = some x) :
    ∃ v xs, cs = [v] ∧ RowU w v xs ∧ isB xs ∧ xs.length ≤ maxLen := by
  rcases open_ints Try.underlying24 Try.underlying5 (by kernel_rfl) h with ⟨hcs, _⟩ | ⟨x, l, c, zs, hcs, _, hl, hm, hz, _, hcell, hwz⟩
  · exact ⟨_, [], hcs, RowU.nil _, (fun x hx => by cases hx), Nat.zero_le _⟩
  · have hlz : l ≤ zs.length := by rw [hz]; split <;> omega
    have hlt : (zs.take l).length = l := by rw [List.length_take]; omega
    refine ⟨_, zs.take l, hcs, ⟨some x, c, by rw [hlt], fun j u hu => ?_, by rw [hlt]; exact hl⟩, fun n hn => u8_of_wf (hwz n (List.mem_of_mem_take hn)), by rw [hlt]; omega⟩
    rw [u8s, List.map_take, List.getElem?_take] at hu
    split at hu
    · rename_i hj
      have hjz : j < zs.length := by omega
      refine ⟨x, rfl, ?_⟩
      rw [hcell j hjz]
      simpa [List.getElem?_eq_getElem hjz, List.getD_eq_getElem?_getD] using hu
    · cases hu
set_option maxRecDepth 100000 in
theorem trod_cap {fuel : Nat} {cs : List Value} {x : DataW H × List MemPlace} (h : DataW.trod enc Try.prog w base spare held fuel 23 cs = some x) (hl : cs.length = 6) :
    ∃ (t : Bool) (b p a q y : Int), cs = [.bool t, .int .i64 b, .int .i64 p, .int .i64 a, .int .i64 q, .int .i64 y] ∧ inI b ∧ inI p ∧ inI a ∧ inI q ∧ inI y := by
  have c3 : Try.prog.cellsOf 3 = 1 := by kernel_rfl
  have c4 : Try.prog.cellsOf 4 = 1 := by kernel_rfl
  obtain ⟨xs, k, hk, hxy, _, hxl, hfs⟩ := DataW.trod_struct Try.underlying23 h
  match xs, hxl, cs, hl with
  | [y0, y1, y2, y3, y4, y5], _, [v0, v1, v2, v3, v4, v5], _ =>
    have f0 := hfs 0 _ rfl
    have f1 := hfs 1 _ rfl
    have f2 := hfs 2 _ rfl
    have f3 := hfs 3 _ rfl
    have f4 := hfs 4 _ rfl
    have f5 := hfs 5 _ rfl
    simp [c3, c4] at f0 f1 f2 f3 f4 f5
    obtain ⟨t, g0, _⟩ := DataW.trod_bool Try.underlying4 f0
    obtain ⟨b, g1, _, w1⟩ := DataW.trod_int Try.underlying3 f1
    obtain ⟨p, g2, _, w2⟩ := DataW.trod_int Try.underlying3 f2
    obtain ⟨a, g3, _, w3⟩ := DataW.trod_int Try.underlying3 f3
    obtain ⟨q, g4, _, w4⟩ := DataW.trod_int Try.underlying3 f4
    obtain ⟨y, g5, _, w5⟩ := DataW.trod_int Try.underlying3 f5
    cases g0
    cases g1
    cases g2
    cases g3
    cases g4
    cases g5
    exact ⟨t, b, p, a, q, y, rfl, inI_of_wf w1, inI_of_wf w2, inI_of_wf w3, inI_of_wf w4, inI_of_wf w5⟩

set_option maxRecDepth 100000 in
set_option maxHeartbeats 800000 in
theorem open_opsM {r : Reach} {b0 : Nat} {v : Value} {d : DataW H} {p : List MemPlace} (hv : Value.okWide Try.prog w r b0 54 v) (h : DataW.Trod enc Try.prog w base spare held 54 v d p) :
    ∃ L : List Op7, OpsM w v L := by
  have hC : Try.prog.cellsOf 61 = 10 := by kernel_rfl
  have c3 : Try.prog.cellsOf 3 = 1 := by kernel_rfl
  have c5 : Try.prog.cellsOf 24 = 1 := by kernel_rfl
  have c6 : Try.prog.cellsOf 23 = 6 := by kernel_rfl
  obtain ⟨a0, len0, cap0, rfl⟩ := okWide_slice Try.underlying54 hv
  obtain ⟨fuel, hf⟩ := h
  rcases open_slice Try.underlying54 hf with ⟨hcs, _⟩ | ⟨a, len, cap, m, n, D, Pl, hcs, _, hl, hm, hmm, _, hx⟩
  · simp [Value.cells] at hcs
    obtain ⟨rfl, rfl, rfl⟩ := hcs
    exact ⟨[], Nat.zero_le _, .inl ⟨none, 0, rfl, rfl⟩⟩
  · simp [Value.cells] at hcs
    obtain ⟨rfl, rfl, rfl⟩ := hcs
    have hlm : len0 ≤ m := by rw [hmm]; split <;> omega
    have each : ∀ i, i < len0 → ∃ q : Op7, (w.cell? (a.add (i * 10)) = some (.int .i64 q.what)) ∧ ∀ g o, a = ⟨g, o, none⟩ → OpAt w g (o + i * 10) q := by
      intro i hi
      obtain ⟨cs', h1, h2⟩ := hx i (by omega)
      rw [hC] at h1
      obtain ⟨_, hlen, hcell⟩ := World.cells?_some h1
      obtain ⟨xs, k, hk, hxy, _, hxl, hfs⟩ := DataW.trod_struct Try.underlying61 h2
      match xs, hxl, cs', hlen with
      | [y0, y1, y2, y3, y4], _, [v0, v1, v2, v3, v4, v5, v6, v7, v8, v9], _ =>
        have g0 := hfs 0 _ rfl
        have g1 := hfs 1 _ rfl
        have g2 := hfs 2 _ rfl
        have g3 := hfs 3 _ rfl
        have g4 := hfs 4 _ rfl
        simp [c3, c5, c6] at g0 g1 g2 g3 g4
        obtain ⟨wh, e0, _, w0⟩ := DataW.trod_int Try.underlying3 g0
        obtain ⟨at_, e1, _, w1⟩ := DataW.trod_int Try.underlying3 g1
        obtain ⟨vb, bs, e2, hrow, hB, hbl⟩ := trod_bytes g2
        obtain ⟨t, b, p, a', q, y, e3, i1, i2, i3, i4, i5⟩ := trod_cap g3 rfl
        obtain ⟨nn, e4, _, w4⟩ := DataW.trod_int Try.underlying3 g4
        cases e0
        cases e1
        cases e2
        cases e3
        cases e4
        have k0 := hcell 0 (by omega)
        have k1 := hcell 1 (by omega)
        have k2 := hcell 2 (by omega)
        have k3 := hcell 3 (by omega)
        have k4 := hcell 4 (by omega)
        have k5 := hcell 5 (by omega)
        have k6 := hcell 6 (by omega)
        have k7 := hcell 7 (by omega)
        have k8 := hcell 8 (by omega)
        have k9 := hcell 9 (by omega)
        rw [add_add] at k0 k1 k2 k3 k4 k5 k6 k7 k8 k9
        refine ⟨⟨wh, at_, bs, t, b, p, a', q, y, nn⟩, by simpa using k0, fun g o e => ?_⟩
        subst e
        rw [add_plain] at k0 k1 k2 k3 k4 k5 k6 k7 k8 k9
        simp only [← Nat.add_assoc] at k0 k1 k2 k3 k4 k5 k6 k7 k8 k9
        exact ⟨inI_of_wf w0, inI_of_wf w1, i1, i2, i3, i4, i5, inI_of_wf w4, hB, hbl, World.block_lt_of_cell? w _ k0, ⟨_, hrow, by simpa using k2⟩, by simpa using k0, by simpa using k1, by simpa using k3, by simpa using k4, by simpa using k5, by simpa using k6, by simpa using k7, by simpa using k8, by simpa using k9⟩
    obtain ⟨q, hq⟩ := choose_lt each
    refine ⟨(List.range len0).map q, by rw [List.length_map, List.length_range]; exact Nat.le_trans hl hm, ?_⟩
    rcases Nat.eq_zero_or_pos len0 with h0 | hpos
    · subst h0
      exact .inl ⟨some a, cap0, rfl, rfl⟩
    · obtain ⟨b, o, s⟩ := a
      have hsp := spot_of_cell (hq 0 hpos).1
      have hs : s = none := by simpa [Addr.add] using hsp
      subst hs
      refine .inr ⟨b, o, cap0, by simp, by simpa using hl, fun j op hj => ?_⟩
      have hj' : j < len0 := by have := (List.getElem?_eq_some_iff.1 hj).1; simpa using this
      have e : q j = op := by simpa [List.getElem?_eq_getElem, hj'] using hj
      rw [← e]
      exact (hq j hj').2 b o rfl
end
end Go.Proofs.Ytjimkkkiilcpoaa
