/- A rune of ASCII written into a builder. -/
import Derived.Test.YtjbfidgggfokcaaPermD
import Derived.Test.YtjbfidgggfokcaaShelf
import Derived.Lib.OthersKept
set_option linter.unusedVariables false
set_option linter.unusedSimpArgs false
namespace Go.Proofs.Ytjbfidgggfokcaa
open Go.RowKit

theorem sizeBuilder : (Try.prog.info? 41).map (·.size) = some 2 := by kernel_rfl
theorem liesBuilder : liesAt Try.prog Try.prog.depth 41 (2 / Try.prog.cellsOf 41) 0 41 1 = true := by kernel_rfl

set_option maxRecDepth 100000 in
set_option maxHeartbeats 800000 in
theorem copy_used (b : Nat) (w : World) (h0 : w.cell? ⟨b, 0, none⟩ = some (.pointer (some ⟨b, 0, none⟩))) :
    Calls Try.prog 31 #[.pointer (some ⟨b, 0, none⟩)] w fun e w' => e = .returned (.tuple #[]) ∧ w' = w := by
  obtain ⟨j, hj, _⟩ := Option.map_eq_some_iff.1 sizeBuilder
  go_enter Try.func31, Try.ntmps31
  go_wp2
  rw [Lib.run_neq_ptr_same w _ Try.underlying38 hj]
  go_wp2
  go_end0
  exact ⟨rfl, rfl⟩
set_option maxRecDepth 100000 in
set_option maxHeartbeats 800000 in
theorem copy_fresh (b : Nat) (w : World) (h0 : w.cell? ⟨b, 0, none⟩ = some (.pointer none)) (hsh : w.shape? b = some (41, 2)) (hfz : w.frozen? ⟨b, 0, none⟩ = false) :
    Calls Try.prog 31 #[.pointer (some ⟨b, 0, none⟩)] w fun e w' => e = .returned (.tuple #[]) ∧ w' = w.setCell ⟨b, 0, none⟩ (.pointer (some ⟨b, 0, none⟩)) := by
  obtain ⟨j, hj, hjs⟩ := Option.map_eq_some_iff.1 sizeBuilder
  go_enter Try.func31, Try.ntmps31
  go_wp2
  rw [Lib.run_to_unsafe w ⟨b, 0, none⟩ Try.underlying38 Try.underlying53 hj (by rw [hjs]; decide) hsh (Nat.zero_lt_succ 1)]
  simp only [Result.andThen]
  rw [Oper.upon_value]
  go_wp2
  rw [run_callFunc_extern Try.func34 (by kernel_rfl) (by kernel_rfl) (by kernel_rfl) (e := Extern.AbiNoEscape.same) (by kernel_rfl)]
  rw [Lib.run_noEscape]
  simp only [Result.andThen]
  rw [Oper.upon_value]
  go_wp2
  rw [Lib.run_from_unsafe w ⟨b, 0, none⟩ Try.underlying53 Try.underlying38 hj hsh liesBuilder]
  simp only [Result.andThen]
  rw [Oper.upon_value]
  go_wp2
  go_end0
  exact ⟨rfl, rfl⟩

set_option maxRecDepth 100000 in
set_option maxHeartbeats 800000 in
theorem append_rune (B : Nat) (v : Value) (xs : List Value) (r : Int) (w : World) (h0 : 0 ≤ r) (h1 : r ≤ 127) (h : w.ownsRow B 5 1 v xs.length xs) (hl : xs.length ≤ 1000) (hB : B ≤ w.heap.size) :
    Calls Try.prog 32 #[v, .int .i32 r] w fun e w' => ∃ v1, e = .returned v1 ∧ w'.ownsRow B 5 1 v1 (xs.length + 1) (xs ++ [.int .u8 r]) ∧ Below B w w' ∧ ∃ o, (w.alloc o).grownBy w' v.ownBlock := by
  go_enter Try.func32, Try.ntmps32
  go_wp2_with (at_builtin; refine app (w0 := w) (W := w.alloc _) B rfl _ _ 39 5 (.int .u8 0) 1 1 rfl Try.underlying39 infoU8 rfl (by decide) (by decide) _ _ _ (u8s [r]) (some ⟨w.heap.size, 0, none⟩) 1 1 rfl rfl rfl (by intro u hu; simp [u8s] at hu; subst hu; rfl) (h.alloc _) (RdL.new w _ _) ((Below.refl _ _).alloc hB _) (by simp; omega) (by omega) ?_; intro v1 w1 hown1 hb1 hg1)
  go_ret
  exact ⟨_, rfl, hown1, hb1, _, hg1⟩

theorem own_kind {w : World} {B : Nat} {e : TypeId} {size : Nat} {v : Value} {n : Nat} {xs : List Value} (h : w.ownsRow B e size v n xs) : ∀ g, v.ownBlock = some g → ∃ c, w.heap[g]? = some (.cells c e (0, 0)) := by
  intro g hg
  rcases h.2 with ⟨rfl, _⟩ | ⟨g', cap, cur, rfl, _, hgg, _⟩
  · simp [Value.ownBlock] at hg
  · simp [Value.ownBlock] at hg
    subst hg
    exact ⟨cur, hgg⟩
theorem own_iter {w : World} {B e size n : Nat} {v : Value} {xs : List Value} {k : Nat} {s : ByteArray} {pos : Nat} (h : w.ownsRow B e size v n xs) (hk : w.heap[k]? = some (.stringIter s pos)) (pos' : Nat) : (w.iterAt k s pos').ownsRow B e size v n xs := by
  refine ⟨h.1, ?_⟩
  rcases h.2 with h2 | ⟨g, cap, cur, hv, hB, hg, r⟩
  · exact .inl h2
  · refine .inr ⟨g, cap, cur, hv, hB, ?_, r⟩
    have hkg : g ≠ k := by
      intro e1
      rw [e1, hk] at hg
      cases hg
    rw [Lib.iterAt_other w k g s pos' hkg]
    exact hg

theorem size_set (w : World) (p : Addr) (v : Value) : (w.setCell p v).heap.size = w.heap.size := by simp [World.setCell]
theorem grown_set (w : World) (b o : Nat) (v : Value) : w.grownBy (w.setCell ⟨b, o, none⟩ v) (some b) :=
  ⟨rfl, rfl, rfl, by rw [size_set]; exact Nat.le_refl _, fun i hi hne => Below.heap_setCell _ _ _ _ (fun e => hne (by rw [e]))⟩
/-- A builder of the call's own, fresh or used. -/
def BldR (w : World) (B b : Nat) (xs : List Value) : Prop := ∃ p v, (p = .pointer none ∨ p = .pointer (some ⟨b, 0, none⟩)) ∧ B ≤ b ∧ Blk w b #[p, v] 41 ∧ w.ownsRow B 5 1 v xs.length xs
theorem BldR.ne {w : World} {B b : Nat} {cs : Array Value} {v : Value} {xs : List Value} {n : Nat} (h : Blk w b cs 41) (ho : w.ownsRow B 5 1 v n xs) : v.ownBlock ≠ some b := by
  intro hc
  obtain ⟨c, hg⟩ := own_kind ho b hc
  unfold Blk at h
  rw [h] at hg
  cases hg
theorem BldR.iter {w : World} {B b : Nat} {xs : List Value} {k : Nat} {s : ByteArray} {pos : Nat} (h : BldR w B b xs) (hk : w.heap[k]? = some (.stringIter s pos)) (pos' : Nat) : BldR (w.iterAt k s pos') B b xs := by
  obtain ⟨p, v, hp, hB, hb, ho⟩ := h
  refine ⟨p, v, hp, hB, ?_, own_iter ho hk pos'⟩
  have hkb : b ≠ k := by
    intro e1
    unfold Blk at hb
    rw [e1, hk] at hb
    cases hb
  exact (Lib.iterAt_other w k b s pos' hkb).trans hb
theorem BldR.is {w : World} {B b : Nat} {xs : List Value} (h : BldR w B b xs) : Lib.IsBuilder 41 5 B b xs w := by
  obtain ⟨p, v, hp, hB, hb, ho⟩ := h
  rcases hp with rfl | rfl
  · exact .inl ⟨hB, v, hb, ho, BldR.ne hb ho⟩
  · exact .inr ⟨hB, v, hb, ho, BldR.ne hb ho⟩

theorem copy_any (B b : Nat) (xs : List Value) (w : World) (h : BldR w B b xs) :
    Calls Try.prog 31 #[.pointer (some ⟨b, 0, none⟩)] w fun e w' => e = .returned (.tuple #[]) ∧ (∃ v, Blk w' b #[.pointer (some ⟨b, 0, none⟩), v] 41 ∧ w'.ownsRow B 5 1 v xs.length xs) ∧ Below B w w' ∧ Lib.OthersKept 5 (some b) w w' := by
  obtain ⟨p, v, hp, hB, hb, ho⟩ := h
  rcases hp with rfl | rfl
  · refine (copy_fresh b w (hb.cell 0) hb.shape (hb.frozen 0)).mono ?_
    rintro e w' ⟨rfl, rfl⟩
    refine ⟨rfl, ⟨v, hb.set 0 _, ho.kept (grown_set w b 0 _) (.inr (BldR.ne hb ho))⟩, (Below.refl B w).setCell hB _, (Lib.OthersKept.refl 5 (some b) w).setCell ⟨b, 0, none⟩ rfl _⟩
  · refine (copy_used b w (hb.cell 0)).mono ?_
    rintro e w' ⟨rfl, rfl⟩
    exact ⟨rfl, ⟨v, hb, ho⟩, Below.refl _ _, Lib.OthersKept.refl _ _ _⟩

set_option maxRecDepth 100000 in
set_option maxHeartbeats 800000 in
theorem write_rune (B b : Nat) (xs : List Value) (r : Int) (w : World) (h0 : 0 ≤ r) (h1 : r ≤ 127) (h : BldR w B b xs) (hl : xs.length ≤ 1000) :
    Calls Try.prog 25 #[.pointer (some ⟨b, 0, none⟩), .int .i32 r] w fun e w' => e = .returned (.tuple #[.int .i64 1, .nilIface]) ∧ BldR w' B b (xs ++ [.int .u8 r]) ∧ Below B w w' ∧ Lib.OthersKept 5 (some b) w w' := by
  have hB : B ≤ b := by obtain ⟨_, _, _, hB, _⟩ := h; exact hB
  go_enter Try.func25, Try.ntmps25
  go_wp2_with fail
  refine (copy_any B b xs w h).mono ?_
  rintro e w1 ⟨rfl, ⟨v, hb1, ho1⟩, b1, k1⟩
  obtain ⟨A, c, rfl⟩ := own_form ho1
  have L := hb1.cell
  have F := hb1.frozen
  have hn := BldR.ne hb1 ho1
  have hk := own_kind ho1
  have l1 : (xs.length : Int) ≤ 1000 := by omega
  have HB1 := Lib.hid hb1
  have HO1 := Lib.hid ho1
  have HN := Lib.hid hn
  have HK := Lib.hid hk
  have HL := Lib.hid hl
  clear hb1 ho1 hn hk h hl
  go_wp2_with fail
  refine (append_rune B _ xs r w1 h0 h1 HO1.out HL.out (by have := HB1.out.lt; omega)).mono ?_
  rintro e w2 ⟨v1, rfl, ho2, b2, o, g2⟩
  have hb2 : Blk w2 b #[.pointer (some ⟨b, 0, none⟩), .slice A xs.length c] 41 := (HB1.out.alloc o).grown g2 (Ne.symm HN.out)
  have k2 : Lib.OthersKept 5 (some b) w w2 := (k1.alloc o).grown g2 (fun g hg => by
    obtain ⟨c', hc⟩ := HK.out g hg
    exact ⟨c', (0, 0), (Below.heap_alloc w1 o g (Array.getElem?_eq_some_iff.1 hc).1).trans hc⟩)
  have B2 : Below B w w2 := b1.trans b2
  have L2 := hb2.cell
  have F2 := hb2.frozen
  have n2 := BldR.ne hb2 ho2
  have HB2 := Lib.hid hb2
  have HO2 := Lib.hid ho2
  have N2 := Lib.hid n2
  clear L F hb2 ho2 n2 g2 b1 b2 k1
  obtain ⟨A2, c2, rfl⟩ := own_form HO2.out
  go_wp2
  go_ret2
  refine ⟨congrArg (fun z => Ending.returned (Value.tuple #[.int .i64 z, .nilIface])) (show ((xs.length : Int) + 1 - xs.length) = 1 by omega), ⟨_, _, .inr rfl, hB, HB2.out.set 1 _, ?_⟩, B2.setCell hB _, k2.setCell ⟨b, 1, none⟩ rfl _⟩
  rw [List.length_append, List.length_singleton]
  exact HO2.out.kept (grown_set w2 b 1 _) (.inr N2.out)
end Go.Proofs.Ytjbfidgggfokcaa
