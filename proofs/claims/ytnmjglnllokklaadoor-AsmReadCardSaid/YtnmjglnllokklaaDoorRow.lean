/- Slices of bytes that are read, and arguments opened: integers, bytes. -/
import Derived.Test.YtnmjglnllokklaaDoorLib
import Derived.Test.YtnmjglnllokklaaDoorChecked
import Derived.Deep.LoopGhost
import Derived.Deep.DeepCutAuto
import Derived.Deep.QuietTactic
import Derived.BigQuiet
import Derived.Outline
import Derived.Lib.Bytes
import Derived.ProofKit
import Derived.OpenShut
import Derived.Deep.Fields
set_option linter.unusedVariables false
set_option linter.unusedSimpArgs false
namespace Go.Proofs.YtnmjglnllokklaaDoor
open Go.ChangeShapes Go.WideShapes Go.ChangeAt Go.RowKit Go.Deep

/-- Where a number may stand. -/
def inI (p : Int) : Prop := -9223372036854775808 ≤ p ∧ p ≤ 9223372036854775807

def u8s (xs : List Int) : List Value := xs.map (Value.int .u8)
theorem u8s_append (xs ys : List Int) : u8s (xs ++ ys) = u8s xs ++ u8s ys := by simp [u8s]

theorem infoU8 : (Tryd.prog.info? 5).map (fun i => (i.zero, i.size, i.bytes)) = some (some (.int .u8 0), 1, 1) := by kernel_rfl

def isB (xs : List Int) : Prop := ∀ x ∈ xs, 0 ≤ x ∧ x ≤ 255

theorem map_ofNat_inj : ∀ {xs ys : List Int}, isB xs → isB ys → xs.map (fun n => UInt8.ofNat n.toNat) = ys.map (fun n => UInt8.ofNat n.toNat) → xs = ys
  | [], [], _, _, _ => rfl
  | [], _ :: _, _, _, h => by simp at h
  | _ :: _, [], _, _, h => by simp at h
  | x :: xs, y :: ys, hx, hy, h => by
    simp only [List.map_cons, List.cons.injEq] at h
    obtain ⟨h1, h2⟩ := h
    have e := congrArg UInt8.toNat h1
    have bx := hx x (List.mem_cons_self ..)
    have by_ := hy y (List.mem_cons_self ..)
    rw [UInt8.toNat_ofNat_of_lt' (by simp [UInt8.size]; omega), UInt8.toNat_ofNat_of_lt' (by simp [UInt8.size]; omega)] at e
    have : x = y := by omega
    rw [this, map_ofNat_inj (fun z hz => hx z (List.mem_cons_of_mem _ hz)) (fun z hz => hy z (List.mem_cons_of_mem _ hz)) h2]

theorem str_beq {xs ys : List Int} (hx : isB xs) (hy : isB ys) : ((strOfNums xs).toList == (strOfNums ys).toList) = decide (xs = ys) := by
  rw [Bool.eq_iff_iff, beq_iff_eq, decide_eq_true_eq, Lib.strOfNums_toList, Lib.strOfNums_toList]
  exact ⟨fun h => map_ofNat_inj hx hy h, fun h => by rw [h]⟩

theorem spot_of_cell {w : World} {ad : Addr} {v : Value} (h : w.cell? (ad.add 0) = some v) : ad.spot = none := by
  have := World.cell?_spot h
  obtain ⟨b, o, s⟩ := ad
  cases s with
  | none => rfl
  | some s => simp [Addr.add] at this

section
variable {P : Program} {w : World}
theorem run_str {src e dst : TypeId} (hs : P.underlying src = some (.slice e)) (he : P.underlying e = some (.int .u8)) (hd : P.underlying dst = some .string) {A : Option Addr} {n : Nat} (c : Nat) {xs : List Int} (hl : xs.length = n) (hR : RdL w A (u8s xs)) :
    (convert src dst (.slice A n c)).run P w = .ok (.string (strOfNums xs)) w := by
  cases A with
  | none =>
    have : xs = [] := by
      cases xs with
      | nil => rfl
      | cons x l => obtain ⟨_, h, _⟩ := hR 0 (.int .u8 x) rfl; cases h
    subst this
    exact run_convert_bytes_nil w src e hs he _ _ dst hd
  | some ad =>
    have hget : ∀ i, i < xs.length → (u8s xs)[i]? = some (.int .u8 (xs.getD i 0)) := fun i hi => by
      simp [u8s, List.getElem?_eq_getElem hi, List.getD_eq_getElem?_getD]
    by_cases h0 : 0 < n
    · obtain ⟨ad', h1, h2⟩ := hR 0 _ (hget 0 (by omega))
      cases h1
      have hsp := spot_of_cell h2
      obtain ⟨b, o, s⟩ := ad
      simp only at hsp
      subst hsp
      refine run_convert_bytes_arg w src e hs he b o n c xs hl (fun i hi => ?_) dst hd
      obtain ⟨ad', h1, h2⟩ := hR i _ (hget i (by omega))
      cases h1
      rwa [add_plain] at h2
    · have hn : n = 0 := by omega
      subst hn
      have : xs = [] := List.eq_nil_of_length_eq_zero hl
      subst this
      rw [run_convert_bytes_string w src dst e _ _ c hs he hd]
      simp [Conv.bytesToString, loadCells, loadCellsFrom]
      rfl
end

/-- A slice whose cells are these numbers. -/
def RowU (w : World) (v : Value) (xs : List Int) : Prop := ∃ A c, v = .slice A xs.length c ∧ RdL w A (u8s xs) ∧ xs.length ≤ c
theorem RowU.below {w w1 : World} {v : Value} {xs : List Int} (h : RowU w v xs) (hb : Below w.heap.size w w1) : RowU w1 v xs := by
  obtain ⟨A, c, h1, h2, h4⟩ := h
  exact ⟨A, c, h1, h2.below hb, h4⟩
theorem RowU.own {w : World} {base : Nat} {e : TypeId} {v : Value} {n : Nat} {xs : List Int} (h : w.ownsRow base e 1 v n (u8s xs)) : RowU w v xs := by
  have hn : xs.length = n := by have := h.1; simpa [u8s] using this
  obtain ⟨A, c, rfl⟩ := own_form h
  refine ⟨A, c, by rw [hn], RdL.own h, ?_⟩
  rcases h.2 with ⟨hv, h0⟩ | ⟨g, cap, cur, hv, _, _, hle, _⟩
  · cases hv; omega
  · cases hv; omega
theorem RowU.nil (w : World) : RowU w (.slice none 0 0) [] := ⟨none, 0, rfl, RdL.nil _ _, Nat.le_refl _⟩

def rdn (xs : List Int) (j : Nat) : Int := xs.getD j 0
theorem isB_rdn {xs : List Int} (h : isB xs) (j : Nat) : 0 ≤ rdn xs j ∧ rdn xs j ≤ 255 := by
  unfold rdn
  rw [List.getD_eq_getElem?_getD]
  rcases Nat.lt_or_ge j xs.length with h' | h'
  · rw [List.getElem?_eq_getElem h']
    exact h _ (List.getElem_mem h')
  · rw [List.getElem?_eq_none h']
    exact ⟨Int.le_refl 0, by decide⟩

theorem RowU.cells {w : World} {v : Value} {xs : List Int} (h : RowU w v xs) (hl : 0 < xs.length) : ∃ b o c, v = .slice (some ⟨b, o, none⟩) xs.length c ∧ xs.length ≤ c ∧ ∀ j, j < xs.length → w.cell? ⟨b, o + j, none⟩ = some (.int .u8 (rdn xs j)) := by
  obtain ⟨A, c, rfl, hR, hc⟩ := h
  have hget : ∀ j, j < xs.length → (u8s xs)[j]? = some (.int .u8 (rdn xs j)) := fun j hj => by
    simp [u8s, rdn, List.getElem?_eq_getElem hj, List.getD_eq_getElem?_getD]
  obtain ⟨ad, hA, h0⟩ := hR 0 _ (hget 0 hl)
  subst hA
  have hsp := spot_of_cell h0
  obtain ⟨b, o, s⟩ := ad
  simp only at hsp
  subst hsp
  refine ⟨b, o, c, rfl, hc, fun j hj => ?_⟩
  obtain ⟨ad', h1, h2⟩ := hR j _ (hget j hj)
  cases h1
  rwa [add_plain] at h2

theorem RowU.cellsA {w : World} {A : Option Addr} {n c : Nat} {xs : List Int} (h : RowU w (.slice A n c) xs) (hl : 0 < xs.length) : ∃ b o, A = some ⟨b, o, none⟩ ∧ xs.length = n ∧ n ≤ c ∧ ∀ j, j < xs.length → w.cell? ⟨b, o + j, none⟩ = some (.int .u8 (rdn xs j)) := by
  obtain ⟨b, o, c', hv, hc, hcell⟩ := h.cells hl
  cases hv
  exact ⟨b, o, rfl, rfl, hc, hcell⟩

theorem RowU.take {w : World} {A : Option Addr} {n c : Nat} {xs : List Int} (h : RowU w (.slice A n c) xs) (k : Nat) (hk : k ≤ n) : RowU w (.slice A k c) (xs.take k) := by
  obtain ⟨A', c', hv, hR, hc⟩ := h
  cases hv
  refine ⟨A, c, by rw [List.length_take, Nat.min_eq_left hk], fun j u hu => ?_, by rw [List.length_take]; omega⟩
  refine hR j u ?_
  rw [u8s, List.map_take, List.getElem?_take] at hu
  split at hu
  · exact hu
  · cases hu

theorem inI_of_wf {n : Int} (h : (Lit.int .i64 n).wf = true) : inI n := by
  simp [Lit.wf, IntKind.min, IntKind.max, IntKind.signed, IntKind.bits] at h
  exact h
theorem u8_of_wf {n : Int} (h : (Lit.int .u8 n).wf = true) : 0 ≤ n ∧ n ≤ 255 := by
  simp [Lit.wf, IntKind.min, IntKind.max, IntKind.signed, IntKind.bits] at h
  omega

section
variable {H : Type} {enc : TypeId × Value → H} {w : World} {base : Nat} {spare : Nat → Bool} {held : Bool}
set_option maxRecDepth 100000 in
theorem open_bytes {r : Reach} {b0 : Nat} {v : Value} {d : DataW H} {p : List MemPlace} (hv : Value.okWide Tryd.prog w r b0 62 v) (h : DataW.Trod enc Tryd.prog w base spare held 62 v d p) :
    ∃ xs : List Int, RowU w v xs ∧ isB xs ∧ xs.length ≤ maxLen := by
  obtain ⟨a0, len0, cap0, rfl⟩ := okWide_slice Tryd.underlying62 hv
  obtain ⟨fuel, hf⟩ := h
  rcases open_ints Tryd.underlying62 Tryd.underlying5 (by kernel_rfl) hf with ⟨hcs, _⟩ | ⟨x, l, c, zs, hcs, _, hl, hm, hz, _, hcell, hwz⟩
  · simp [Value.cells] at hcs
    obtain ⟨rfl, rfl, rfl⟩ := hcs
    exact ⟨[], RowU.nil _, (fun x hx => by cases hx), Nat.zero_le _⟩
  · simp [Value.cells] at hcs
    obtain ⟨rfl, rfl, rfl⟩ := hcs
    have hlz : len0 ≤ zs.length := by rw [hz]; split <;> omega
    have hlt : (zs.take len0).length = len0 := by rw [List.length_take]; omega
    refine ⟨zs.take len0, ⟨some x, cap0, by rw [hlt], fun j u hu => ?_, by rw [hlt]; exact hl⟩, fun n hn => u8_of_wf (hwz n (List.mem_of_mem_take hn)), by rw [hlt]; omega⟩
    rw [u8s, List.map_take, List.getElem?_take] at hu
    split at hu
    · rename_i hj
      have hjz : j < zs.length := by omega
      refine ⟨x, rfl, ?_⟩
      rw [hcell j hjz]
      simpa [List.getElem?_eq_getElem hjz, List.getD_eq_getElem?_getD] using hu
    · cases hu
end
end Go.Proofs.YtnmjglnllokklaaDoor
