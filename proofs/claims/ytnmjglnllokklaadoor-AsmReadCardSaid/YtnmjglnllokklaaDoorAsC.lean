/- The world's tables; Name; the program's. -/
import Derived.Test.YtnmjglnllokklaaDoorAsB
import Derived.WalkSmall
set_option linter.unusedVariables false
set_option linter.unusedSimpArgs false
namespace Go.Proofs.YtnmjglnllokklaaDoor
open Go.RowKit

/-- What package-level variables hold. -/
def Env (W : World) : Prop :=
  Lib.TabIs Tryd.prog W "internal/strconv.uint64pow10" .u64 Lib.pow10Tab ∧ Lib.TabIs Tryd.prog W "strings.asciiSpace" .u8 Lib.asciiSpaceTab ∧ (∃ m, W.cell? ⟨2, 0, none⟩ = some (.int .i64 m)) ∧ (∃ te pe, W.cell? ⟨3, 0, none⟩ = some (.iface te pe)) ∧ (∃ te pe, W.cell? ⟨4, 0, none⟩ = some (.iface te pe)) ∧ 6 ≤ W.heap.size
theorem Env.grow {W W1 : World} (h : Env W) (hb : Below W.heap.size W W1) : Env W1 := by
  obtain ⟨h1, h2, ⟨m, h3⟩, ⟨te, pe, h4⟩, ⟨tf, pf, h5⟩, h6⟩ := h
  refine ⟨var?_below hb (g := 5) (by kernel_rfl) (by omega) h1, var?_below hb (g := 0) (by kernel_rfl) (by omega) h2, ⟨m, ?_⟩, ⟨te, pe, ?_⟩, ⟨tf, pf, ?_⟩, Nat.le_trans h6 hb.size⟩
  · rw [← h3]; exact hb.cell (p := ⟨2, 0, none⟩) (by show 2 < _; omega)
  · rw [← h4]; exact hb.cell (p := ⟨3, 0, none⟩) (by show 3 < _; omega)
  · rw [← h5]; exact hb.cell (p := ⟨4, 0, none⟩) (by show 4 < _; omega)

def namesB : ByteArray := ⟨#[104, 97, 108, 116, 32, 109, 111, 118, 105, 32, 109, 111, 118, 32, 97, 100, 100, 32, 115, 117, 98, 32, 109, 117, 108, 32, 100, 105, 118, 32, 108, 116, 32, 101, 113, 32, 106, 109, 112, 32, 106, 122, 32, 108, 100, 98, 32, 115, 116, 98, 32, 108, 100, 119, 32, 115, 116, 119, 32, 108, 100, 99, 32, 115, 116, 99, 32, 105, 110, 99, 32, 98, 110, 100, 32, 112, 114, 109, 32, 115, 101, 108, 32, 117, 110, 115, 32, 101, 110, 116, 32, 99, 97, 108, 108, 32, 114, 101, 116, 32, 108, 101, 110, 32, 111, 102, 102, 32, 116, 97, 103, 32, 97, 100, 100, 114, 32, 115, 121, 115]⟩
/-- All names, in order. -/
def nameL : List (List UInt8) := Lib.fields namesB.data.toList
theorem nameL_len : nameL.length = 30 := by decide +kernel
/-- An instruction's name. -/
def nameN (op : Int) : List UInt8 := if op < 0 then [] else nameL.getD op.toNat []
def nameS (op : Int) : ByteArray := ⟨(nameN op).toArray⟩
theorem fields_names (w : World) (h : Env w) :
    Calls Tryd.prog 24 #[.string namesB] w fun e w' => e = .returned (.slice (some ⟨w.heap.size, 0, none⟩) 30 30) ∧ w' = w.alloc (.cells (nameL.map fun l => Value.string ⟨l.toArray⟩).toArray 9) := by
  have g := Tryd.strings_Fields_laid namesB w (by decide +kernel) (fun j b hb => by
    have hm := List.mem_of_getElem? hb
    revert b
    intro b _ hm
    have : ∀ b ∈ namesB.data.toList, b.toNat < 128 := by decide +kernel
    exact this b hm) h.2.1
  rw [show (Lib.fields namesB.data.toList).length = 30 from nameL_len] at g
  exact g

set_option maxRecDepth 100000 in
set_option maxHeartbeats 800000 in
theorem name_any (op : Int) (w : World) (h : Env w) (ho : inI op) :
    Calls Tryd.prog 12 #[.int .i64 op] w fun e w' => e = .returned (.string (nameS op)) ∧ Below w.heap.size w w' := by
  have HF := Lib.hid (fields_names w h)
  obtain ⟨o0, o1⟩ := ho
  clear h
  go_enter Tryd.func12, Tryd.ntmps12
  go_wp2_with fail
  refine HF.out.mono ?_
  rintro e w1 ⟨rfl, hw1⟩
  have hb1 : Below w.heap.size w w1 := by rw [hw1]; go_grown
  have hcell : ∀ j, j < 30 → w1.cell? ⟨w.heap.size, j, none⟩ = some (.string ⟨(nameL.getD j []).toArray⟩) := fun j hj => by
    rw [hw1]
    obtain ⟨ad, e1, hc⟩ := RdL.new w (nameL.map fun l => Value.string ⟨l.toArray⟩).toArray 9 j (.string ⟨(nameL.getD j []).toArray⟩) (by
      have h2 : j < nameL.length := by rw [nameL_len]; exact hj
      simp [List.getElem?_eq_getElem h2, List.getD_eq_getElem?_getD])
    cases e1
    rw [← hc]
    congr 1
    simp [Addr.add]
  have hlt : w.heap.size < w1.heap.size := by rw [hw1]; simp
  have HB := Lib.hid hb1
  have HC := Lib.hid hcell
  clear hw1 hb1 hcell HF
  rcases (show op < 0 ∨ (¬ op < 0 ∧ 30 ≤ op) ∨ (¬ op < 0 ∧ ¬ 30 ≤ op) by omega) with h | ⟨h, h2⟩ | ⟨h, h2⟩
  · have HN := Lib.hid (show nameS op = ⟨#[]⟩ by unfold nameS nameN; rw [if_pos h])
    go_wp2
    go_ret
    exact ⟨by rw [HN.out]; rfl, HB.out⟩
  · have HN := Lib.hid (show nameS op = ⟨#[]⟩ by
      unfold nameS nameN
      rw [if_neg h, List.getD_eq_getElem?_getD, List.getElem?_eq_none (by rw [nameL_len]; omega)]
      rfl)
    go_wp2
    go_ret
    exact ⟨by rw [HN.out]; rfl, HB.out⟩
  · obtain ⟨k, rfl⟩ := Int.eq_ofNat_of_zero_le (show 0 ≤ op by omega)
    have HN := Lib.hid (show nameS (k : Int) = ⟨(nameL.getD k []).toArray⟩ by unfold nameS nameN; rw [if_neg h, Int.toNat_natCast])
    have hk := HC.out k (by omega)
    have i1 : (k : Int) < 30 := by omega
    generalize (⟨(nameL.getD k []).toArray⟩ : ByteArray) = S at *
    go_wp2
    go_ret
    exact ⟨by rw [HN.out]; rfl, HB.out⟩
end Go.Proofs.YtnmjglnllokklaaDoor
