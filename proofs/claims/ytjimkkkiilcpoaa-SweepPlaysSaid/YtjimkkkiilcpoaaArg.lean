/- Arguments opened: a capability, and bytes. -/
import Derived.Test.YtjimkkkiilcpoaaEncE
import Derived.ProofKit
import Derived.OpenShut
import Derived.Deep.Fields
set_option linter.unusedVariables false
set_option linter.unusedSimpArgs false
namespace Go.Proofs.Ytjimkkkiilcpoaa
open Go.ChangeShapes Go.WideShapes Go.ChangeAt Go.RowKit Go.Deep

theorem inI_of_wf {n : Int} (h : (Lit.int .i64 n).wf = true) : inI n := by
  simp [Lit.wf, IntKind.min, IntKind.max, IntKind.signed, IntKind.bits] at h
  exact h
theorem u8_of_wf {n : Int} (h : (Lit.int .u8 n).wf = true) : 0 ≤ n ∧ n ≤ 255 := by
  simp [Lit.wf, IntKind.min, IntKind.max, IntKind.signed, IntKind.bits] at h
  omega

section
variable {H : Type} {enc : TypeId × Value → H} {w : World} {base : Nat} {spare : Nat → Bool} {held : Bool}
set_option maxRecDepth 100000 in
theorem open_cap {r : Reach} {b0 : Nat} {v : Value} {d : DataW H} {p : List MemPlace} (hv : Value.okWide Try.prog w r b0 23 v) (h : DataW.Trod enc Try.prog w base spare held 23 v d p) :
    ∃ (t : Bool) (b p a q y : Int), v = .agg #[.bool (t), .int .i64 (b), .int .i64 (p), .int .i64 (a), .int .i64 (q), .int .i64 (y)] ∧ inI b ∧ inI p ∧ inI a ∧ inI q ∧ inI y := by
  have hC : Try.prog.cellsOf 23 = 6 := by kernel_rfl
  have c3 : Try.prog.cellsOf 3 = 1 := by kernel_rfl
  have c4 : Try.prog.cellsOf 4 = 1 := by kernel_rfl
  obtain ⟨cs, rfl, hsz⟩ := okWide_struct Try.underlying23 hv
  obtain ⟨fuel, hf⟩ := h
  obtain ⟨xs, n, _, _, _, _, hfs⟩ := DataW.trod_struct Try.underlying23 hf
  rw [hC] at hsz
  obtain ⟨v0, v1, v2, v3, v4, v5, rfl⟩ : ∃ v0 v1 v2 v3 v4 v5, cs = #[v0, v1, v2, v3, v4, v5] := by
    obtain ⟨l⟩ := cs
    match l, hsz with
    | [v0, v1, v2, v3, v4, v5], _ => exact ⟨v0, v1, v2, v3, v4, v5, rfl⟩
  have hget : ∀ {i : Nat} {f : Field} {u : Value}, (#[v0, v1, v2, v3, v4, v5] : Array Value)[i]? = some u → f.offset = i → Try.prog.cellsOf f.type = 1 → (((Value.agg #[v0, v1, v2, v3, v4, v5]).cells.toList.drop f.offset).take (Try.prog.cellsOf f.type)) = [u] := by
    intro i f u hu hi h1
    rw [hi, h1]
    have hi6 : i < 6 := by have := (Array.getElem?_eq_some_iff.1 hu).1; simpa using this
    have : i = 0 ∨ i = 1 ∨ i = 2 ∨ i = 3 ∨ i = 4 ∨ i = 5 := by omega
    rcases this with rfl | rfl | rfl | rfl | rfl | rfl <;> simp_all [Value.cells]
  have hlen : xs.length = 6 := by assumption
  have hx : ∀ i, i < 6 → ∃ x, xs[i]? = some x := fun i hi => ⟨_, List.getElem?_eq_getElem (by omega)⟩
  obtain ⟨x0, e0⟩ := hx 0 (by omega)
  obtain ⟨x1, e1⟩ := hx 1 (by omega)
  obtain ⟨x2, e2⟩ := hx 2 (by omega)
  obtain ⟨x3, e3⟩ := hx 3 (by omega)
  obtain ⟨x4, e4⟩ := hx 4 (by omega)
  obtain ⟨x5, e5⟩ := hx 5 (by omega)
  have f0 := hfs 0 _ rfl
  have f1 := hfs 1 _ rfl
  have f2 := hfs 2 _ rfl
  have f3 := hfs 3 _ rfl
  have f4 := hfs 4 _ rfl
  have f5 := hfs 5 _ rfl
  rw [hget (u := v0) rfl rfl c4, e0] at f0
  rw [hget (u := v1) rfl rfl c3, e1] at f1
  rw [hget (u := v2) rfl rfl c3, e2] at f2
  rw [hget (u := v3) rfl rfl c3, e3] at f3
  rw [hget (u := v4) rfl rfl c3, e4] at f4
  rw [hget (u := v5) rfl rfl c3, e5] at f5
  obtain ⟨t, g0, _⟩ := DataW.trod_bool Try.underlying4 f0
  obtain ⟨b, g1, _, w1⟩ := DataW.trod_int Try.underlying3 f1
  obtain ⟨p, g2, _, w2⟩ := DataW.trod_int Try.underlying3 f2
  obtain ⟨a, g3, _, w3⟩ := DataW.trod_int Try.underlying3 f3
  obtain ⟨q, g4, _, w4⟩ := DataW.trod_int Try.underlying3 f4
  obtain ⟨y, g5, _, w5⟩ := DataW.trod_int Try.underlying3 f5
  cases g0
  cases g1
  cases g2
  cases g3
  cases g4
  cases g5
  exact ⟨t, b, p, a, q, y, rfl, inI_of_wf w1, inI_of_wf w2, inI_of_wf w3, inI_of_wf w4, inI_of_wf w5⟩

set_option maxRecDepth 100000 in
theorem open_bytes {r : Reach} {b0 : Nat} {v : Value} {d : DataW H} {p : List MemPlace} (hv : Value.okWide Try.prog w r b0 24 v) (h : DataW.Trod enc Try.prog w base spare held 24 v d p) :
    ∃ xs : List Int, RowU w v xs ∧ isB xs ∧ xs.length ≤ maxLen := by
  obtain ⟨a0, len0, cap0, rfl⟩ := okWide_slice Try.underlying24 hv
  obtain ⟨fuel, hf⟩ := h
  rcases open_ints Try.underlying24 Try.underlying5 (by kernel_rfl) hf with ⟨hcs, _⟩ | ⟨x, l, c, zs, hcs, _, hl, hm, hz, _, hcell, hwz⟩
  · simp [Value.cells] at hcs
    obtain ⟨rfl, rfl, rfl⟩ := hcs
    exact ⟨[], RowU.nil _, (fun x hx => by cases hx), Nat.zero_le _⟩
  · simp [Value.cells] at hcs
    obtain ⟨rfl, rfl, rfl⟩ := hcs
    have hlz : len0 ≤ zs.length := by rw [hz]; split <;> omega
    have hlt : (zs.take len0).length = len0 := by rw [List.length_take]; omega
    refine ⟨zs.take len0, ⟨some x, cap0, by rw [hlt], fun j u hu => ?_, by rw [hlt]; exact hl⟩, fun n hn => u8_of_wf (hwz n (List.mem_of_mem_take hn)), by rw [hlt]; omega⟩
    rw [u8s, List.map_take, List.getElem?_take] at hu
    split at hu
    · rename_i hj
      have hjz : j < zs.length := by omega
      refine ⟨x, rfl, ?_⟩
      rw [hcell j hjz]
      simpa [List.getElem?_eq_getElem hjz, List.getD_eq_getElem?_getD] using hu
    · cases hu
end
end Go.Proofs.Ytjimkkkiilcpoaa
