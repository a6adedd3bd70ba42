/- Slices of numbers; the set of some. -/
import Derived.Test.YtjbfidgggfokcaaPermB
set_option linter.unusedVariables false
set_option linter.unusedSimpArgs false
namespace Go.Proofs.Ytjbfidgggfokcaa
open Go.ChangeShapes Go.WideShapes Go.ChangeAt Go.RowKit Go.Deep

def i64s (xs : List Int) : List Value := xs.map (Value.int .i64)
/-- A slice whose cells are these numbers. -/
def RowI (w : World) (v : Value) (xs : List Int) : Prop := ∃ A c, v = .slice A xs.length c ∧ RdL w A (i64s xs) ∧ ∀ x ∈ xs, inI x
theorem RowI.below {w w1 : World} {v : Value} {xs : List Int} (h : RowI w v xs) (hb : Below w.heap.size w w1) : RowI w1 v xs := by
  obtain ⟨A, c, h1, h2, h4⟩ := h
  exact ⟨A, c, h1, h2.below hb, h4⟩
theorem RowI.form {w : World} {v : Value} {xs : List Int} (h : RowI w v xs) : ∃ A c, v = .slice A xs.length c := by
  obtain ⟨A, c, h1, _⟩ := h
  exact ⟨A, c, h1⟩
theorem RowI.blk {w : World} {b : Nat} {xs : List Int} {e : TypeId} (h : Blk w b (i64s xs).toArray e) (hx : ∀ x ∈ xs, inI x) : RowI w (.slice (some ⟨b, 0, none⟩) xs.length xs.length) xs := by
  refine ⟨_, _, rfl, fun j u hu => ⟨_, rfl, ?_⟩, hx⟩
  rw [add_plain, Nat.zero_add, h.cell j]
  simpa using hu
theorem RowI.own {w : World} {base : Nat} {e : TypeId} {v : Value} {n : Nat} {xs : List Int} (h : w.ownsRow base e 1 v n (i64s xs)) (hx : ∀ x ∈ xs, inI x) : RowI w v xs := by
  have hn : xs.length = n := by have := h.1; simpa [i64s] using this
  obtain ⟨A, c, rfl⟩ := own_form h
  exact ⟨A, c, by rw [hn], RdL.own h, hx⟩
def rdi (xs : List Int) (j : Nat) : Int := xs.getD j 0
theorem rdi_in {xs : List Int} (h : ∀ x ∈ xs, inI x) (j : Nat) : inI (rdi xs j) := by
  unfold rdi
  rw [List.getD_eq_getElem?_getD]
  rcases Nat.lt_or_ge j xs.length with h' | h'
  · rw [List.getElem?_eq_getElem h']
    exact h _ (List.getElem_mem h')
  · rw [List.getElem?_eq_none h']
    exact ⟨by decide, by decide⟩
theorem RowI.cellsA {w : World} {A : Option Addr} {n c : Nat} {xs : List Int} (h : RowI w (.slice A n c) xs) (hl : 0 < xs.length) : ∃ b o, A = some ⟨b, o, none⟩ ∧ ∀ j, j < xs.length → w.cell? ⟨b, o + j, none⟩ = some (.int .i64 (rdi xs j)) := by
  obtain ⟨A', c', hv, hR, _⟩ := h
  cases hv
  have hget : ∀ j, j < xs.length → (i64s xs)[j]? = some (.int .i64 (rdi xs j)) := fun j hj => by
    simp [i64s, rdi, List.getElem?_eq_getElem hj, List.getD_eq_getElem?_getD]
  obtain ⟨ad, hA, h0⟩ := hR 0 _ (hget 0 hl)
  subst hA
  have hsp := spot_of_cell h0
  obtain ⟨b, o, s⟩ := ad
  simp only at hsp
  subst hsp
  refine ⟨b, o, rfl, fun j hj => ?_⟩
  obtain ⟨ad', h1, h2⟩ := hR j _ (hget j hj)
  cases h1
  rwa [add_plain] at h2
theorem take_snoc_i (xs : List Int) (j : Nat) (hj : j < xs.length) : xs.take (j + 1) = xs.take j ++ [rdi xs j] := by
  rw [List.take_add_one, rdi, List.getD_eq_getElem?_getD, List.getElem?_eq_getElem hj]; rfl

section
variable {H : Type} {enc : TypeId × Value → H} {w : World} {base : Nat} {spare : Nat → Bool} {held : Bool}
set_option maxRecDepth 100000 in
theorem open_ints' {r : Reach} {b0 : Nat} {v : Value} {d : DataW H} {p : List MemPlace} (hv : Value.okWide Try.prog w r b0 30 v) (h : DataW.Trod enc Try.prog w base spare held 30 v d p) :
    ∃ xs : List Int, RowI w v xs ∧ xs.length ≤ maxLen := by
  obtain ⟨a0, len0, cap0, rfl⟩ := okWide_slice Try.underlying30 hv
  obtain ⟨fuel, hf⟩ := h
  rcases open_ints Try.underlying30 Try.underlying3 (by kernel_rfl) hf with ⟨hcs, _⟩ | ⟨x, l, c, zs, hcs, _, hl, hm, hz, _, hcell, hwz⟩
  · simp [Value.cells] at hcs
    obtain ⟨rfl, rfl, rfl⟩ := hcs
    exact ⟨[], ⟨none, 0, rfl, RdL.nil _ _, (fun x hx => by cases hx)⟩, Nat.zero_le _⟩
  · simp [Value.cells] at hcs
    obtain ⟨rfl, rfl, rfl⟩ := hcs
    have hlz : len0 ≤ zs.length := by rw [hz]; split <;> omega
    have hlt : (zs.take len0).length = len0 := by rw [List.length_take]; omega
    refine ⟨zs.take len0, ⟨some x, cap0, by rw [hlt], fun j u hu => ?_, fun n hn => inI_of_wf (hwz n (List.mem_of_mem_take hn))⟩, by rw [hlt]; omega⟩
    rw [i64s, List.map_take, List.getElem?_take] at hu
    split at hu
    · rename_i hj
      have hjz : j < zs.length := by omega
      refine ⟨x, rfl, ?_⟩
      rw [hcell j hjz]
      simpa [List.getElem?_eq_getElem hjz, List.getD_eq_getElem?_getD] using hu
    · cases hu
end

/-- The set of some. -/
def orP (a : Nat) (p : Int) : Nat := if permB p then a ||| p.toNat else a
def ofL (xs : List Int) : Nat := xs.foldl orP 0
theorem ofL_snoc (xs : List Int) (p : Int) : ofL (xs ++ [p]) = orP (ofL xs) p := by simp [ofL]
theorem orP_lt {a : Nat} (p : Int) (h : a < 128) : orP a p < 128 := by
  unfold orP
  split
  · rename_i hp
    obtain ⟨n, rfl, hn⟩ := permB_nat hp
    exact Nat.or_lt_two_pow (n := 7) h hn
  · exact h
theorem ofL_lt (xs : List Int) : ofL xs < 128 := by
  have : ∀ (xs : List Int) (a : Nat), a < 128 → xs.foldl orP a < 128 := by
    intro xs
    induction xs with
    | nil => intro a h; exact h
    | cons x xs ih => intro a h; exact ih _ (orP_lt x h)
  exact this xs 0 (by decide)

set_option maxRecDepth 100000 in
set_option maxHeartbeats 1600000 in
theorem of_row (v : Value) (xs : List Int) (w : World) (h : RowI w v xs) (hl : (xs.length : Int) ≤ 4611686018427387904) :
    Calls Try.prog 21 #[v] w fun e w' => e = .returned (.int .i64 (ofL xs)) ∧ w' = w := by
  obtain ⟨A, c, rfl⟩ := h.form
  have H := Lib.hid h
  have Hx := Lib.hid h
  clear h
  generalize hn : xs.length = n at *
  have Hn := Lib.hid hn
  clear hn
  go_enter Try.func21, Try.ntmps21
  go_wp2
  go_loopg [3, 5, 8] n (fun k t u i wr => ∃ j : Nat, j + k = n ∧ i = .int .i64 j ∧ t = .int .i64 (ofL (xs.take j)) ∧ wr = w)
  case atStart => exact ⟨0, by omega, rfl, rfl, rfl⟩
  case round =>
    obtain ⟨j, hj, rfl, rfl, rfl⟩ := hrel
    have hlt128 := ofL_lt (xs.take j)
    have Hj := Lib.hid hj
    clear hj
    rcases Nat.lt_or_ge j n with hlt | hge
    · have i1 : (j : Int) < n := by omega
      obtain ⟨b, o, rfl, hcell⟩ := H.out.cellsA (by rw [Hn.out]; omega)
      have hcj := hcell j (by rw [Hn.out]; exact hlt)
      have hin : inI (rdi xs j) := rdi_in (by obtain ⟨_, _, _, _, h⟩ := H.out; exact h) j
      have Hs := Lib.hid (take_snoc_i xs j (by rw [Hn.out]; exact hlt))
      have Hlt := Lib.hid hlt
      clear hlt hcell
      generalize hz : ofL (xs.take j) = z at *
      have Hz := Lib.hid hz
      generalize rdi xs j = d at *
      clear hz
      go_wp2_with fail
      refine (perm_right d _ hin).mono ?_
      rintro e w1 ⟨rfl, rfl⟩
      cases hp : permB d with
      | false =>
        have Hp := Lib.hid hp
        clear hp hlt128
        go_wp2
        go_roundg (gk - 1)
        case measure => have := Hj.out; have := Hlt.out; omega
        case rel => exact ⟨j + 1, by have := Hj.out; have := Hlt.out; omega, by go_num, by rw [Hs.out, ofL_snoc, Hz.out, orP, Hp.out]; rfl, rfl⟩
      | true =>
        obtain ⟨q, rfl, hq⟩ := permB_nat hp
        have Hp := Lib.hid hp
        have ho := i64_or_nat z q (by omega) (by omega)
        clear hp
        go_wp2
        go_roundg (gk - 1)
        case measure => have := Hj.out; have := Hlt.out; omega
        case rel => exact ⟨j + 1, by have := Hj.out; have := Hlt.out; omega, by go_num, by rw [Hs.out, ofL_snoc, Hz.out, orP, Hp.out, if_pos rfl]; first | rfl | rw [ho]; rfl, rfl⟩
    · have i1 : ¬ (j : Int) < n := by omega
      have e : xs.take j = xs := List.take_of_length_le (by rw [Hn.out]; exact hge)
      rw [e]
      clear e hge hlt128
      go_wp2
      go_ret
      exact ⟨rfl, rfl⟩
end Go.Proofs.Ytjbfidgggfokcaa
