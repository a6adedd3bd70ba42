/- Memory with tags, the document's: New, Tag, Strip, Clean, Tags, Dirty. -/
import Derived.Test.YtjimkkkiilcpoaaTmC
import Derived.Test.YtjimkkkiilcpoaaFlow
import Derived.Test.YtjimkkkiilcpoaaShC
set_option linter.unusedVariables false
set_option linter.unusedSimpArgs false
namespace Go.Proofs.Ytjimkkkiilcpoaa
open Go.RowKit

theorem infoU8' : (Try.prog.info? 5).map (fun i => (i.zero, i.size, i.bytes)) = some (some (.int .u8 0), 1, 1) := by kernel_rfl
theorem u8s_new (n : Nat) : (u8s (List.replicate n 0)).toArray = madeCells #[.int .u8 0] n := by
  apply Array.ext'
  rw [toList_madeCells_one, u8s]
  simp

set_option maxRecDepth 100000 in
set_option maxHeartbeats 1600000 in
theorem tr_new (n : Nat) (w : World) (h1 : (1 : Int) ≤ n) (h2 : (n : Int) ≤ 65536) :
    Calls Try.prog 48 #[.int .i64 n] w fun e w' => ∃ b bB bT bP, e = .returned (.pointer (some ⟨b, 0, none⟩)) ∧ TrM w' b bB bT bP (List.replicate (256 * n) 0) (List.replicate (16 * n) false) (List.replicate n false) ∧
      w.heap.size ≤ b ∧ w.heap.size ≤ bB ∧ w.heap.size ≤ bT ∧ w.heap.size ≤ bP ∧ Below w.heap.size w w' := by
  have m1 : ∀ W : World, (Instr.makeSlice 24 (.int .i64 ((n : Int) * 256)) (.int .i64 ((n : Int) * 256))).run Try.prog W = .ok (.slice (some ⟨W.heap.size, 0, none⟩) (n * 256) (n * 256)) (W.alloc (.cells (u8s (List.replicate (n * 256) 0)).toArray 5)) := fun W => by
    have := run_make_row' (P := Try.prog) 24 5 (.int .u8 0) 1 Try.underlying24 infoU8' rfl .i64 .i64 (n * 256) (by omega) (by omega) W
    rw [← u8s_new] at this
    rw [Int.natCast_mul] at this
    exact this
  have m2 : ∀ W : World, (Instr.makeSlice 102 (.int .i64 ((n : Int) * 16)) (.int .i64 ((n : Int) * 16))).run Try.prog W = .ok (.slice (some ⟨W.heap.size, 0, none⟩) (n * 16) (n * 16)) (W.alloc (.cells (bools (List.replicate (n * 16) false)) 4)) := fun W => by
    have := run_make_row' (P := Try.prog) 102 4 (.bool false) 1 Try.underlying102 infoBool rfl .i64 .i64 (n * 16) (by omega) (by omega) W
    rw [← bools_new] at this
    rw [Int.natCast_mul] at this
    exact this
  have m3 : ∀ W : World, (Instr.makeSlice 102 (.int .i64 (n : Int)) (.int .i64 (n : Int))).run Try.prog W = .ok (.slice (some ⟨W.heap.size, 0, none⟩) n n) (W.alloc (.cells (bools (List.replicate n false)) 4)) := fun W => by
    have := run_make_row' (P := Try.prog) 102 4 (.bool false) 1 Try.underlying102 infoBool rfl .i64 .i64 n (by omega) (by omega) W
    rw [← bools_new] at this
    exact this
  have hw1 : IntKind.i64.wrap ((n : Int) * 256) = (n : Int) * 256 := IntWalk.i64_in _ (by omega)
  have hw2 : IntKind.i64.wrap ((n : Int) * 16) = (n : Int) * 16 := IntWalk.i64_in _ (by omega)
  have hw3 : IntKind.i64.wrap (256 * (n : Int)) = (n : Int) * 256 := by rw [Int.mul_comm]; exact hw1
  have hw4 : IntKind.i64.wrap (16 * (n : Int)) = (n : Int) * 16 := by rw [Int.mul_comm]; exact hw2
  generalize hX1 : (u8s (List.replicate (n * 256) 0)).toArray = X1 at *
  generalize hX2 : bools (List.replicate (n * 16) false) = X2 at *
  generalize hX3 : bools (List.replicate n false) = X3 at *
  have Y1 := Lib.hid hX1
  have Y2 := Lib.hid hX2
  have Y3 := Lib.hid hX3
  clear hX1 hX2 hX3
  go_enter Try.func48, Try.ntmps48
  go_wp2_with fail
  refine wp_flow_lit 8 (fun _ => True)
    [none, none, some (fun v w' => ∃ q, v = .slice (some ⟨q, 0, none⟩) (n * 256) (n * 256) ∧ w.heap.size ≤ q ∧ Blk w' q X1 5), none, none, some (fun v w' => ∃ q, v = .slice (some ⟨q, 0, none⟩) (n * 16) (n * 16) ∧ w.heap.size ≤ q ∧ Blk w' q X2 4), none, some (fun v w' => ∃ q, v = .slice (some ⟨q, 0, none⟩) n n ∧ w.heap.size ≤ q ∧ Blk w' q X3 4)]
    (by kernel_rfl) (by kernel_rfl) trivial (fun _ _ _ _ => trivial)
    ⟨fun v w1 w2 ⟨q, e1, e2, e3⟩ hb => ⟨q, e1, e2, e3.below hb e3.lt⟩, fun v w1 w2 ⟨q, e1, e2, e3⟩ hb => ⟨q, e1, e2, e3.below hb e3.lt⟩, fun v w1 w2 ⟨q, e1, e2, e3⟩ hb => ⟨q, e1, e2, e3.below hb e3.lt⟩, trivial⟩ ?_
  try simp (config := { maxSteps := 10000000 }) only [specV, addF, Act.put, List.setIfInBounds_toArray, List.set_cons_zero, List.set_cons_succ, List.take_succ_cons, List.take_zero, List.drop_succ_cons, List.drop_zero]
  (apply Exists.intro; refine ⟨fun vs w1 hS hB hf => ?_, ?_⟩; (focus (clear hS hB hf; go_simp; first | exact ⟨Below.refl _ _, rfl⟩ | exact rfl)); try simp (config := { maxSteps := 10000000 }) only [specV, addF, Act.put, List.setIfInBounds_toArray, List.set_cons_zero, List.set_cons_succ, List.take_succ_cons, List.take_zero, List.drop_succ_cons, List.drop_zero])
  (apply Exists.intro; refine ⟨fun vs w1 hS hB hf => ?_, ?_⟩; (focus (clear hS hB hf; go_simp; first | exact ⟨Below.refl _ _, rfl⟩ | exact rfl)); try simp (config := { maxSteps := 10000000 }) only [specV, addF, Act.put, List.setIfInBounds_toArray, List.set_cons_zero, List.set_cons_succ, List.take_succ_cons, List.take_zero, List.drop_succ_cons, List.drop_zero])
  (refine ⟨fun vs w1 hS hB hf => ?_, ?_⟩; (focus (have hs1 := hB.size; clear hS hB hf; go_simp; exact ⟨(Below.refl _ _).alloc (Nat.le_refl _) _, w1.heap.size, rfl, hs1, Blk.new _ _ _⟩)); try simp (config := { maxSteps := 10000000 }) only [specV, addF, Act.put, List.setIfInBounds_toArray, List.set_cons_zero, List.set_cons_succ, List.take_succ_cons, List.take_zero, List.drop_succ_cons, List.drop_zero])
  (apply Exists.intro; refine ⟨fun vs w1 hS hB hf => ?_, ?_⟩; (focus (clear hS hB hf; go_simp; first | exact ⟨Below.refl _ _, rfl⟩ | exact rfl)); try simp (config := { maxSteps := 10000000 }) only [specV, addF, Act.put, List.setIfInBounds_toArray, List.set_cons_zero, List.set_cons_succ, List.take_succ_cons, List.take_zero, List.drop_succ_cons, List.drop_zero])
  (apply Exists.intro; refine ⟨fun vs w1 hS hB hf => ?_, ?_⟩; (focus (clear hS hB hf; go_simp; first | exact ⟨Below.refl _ _, rfl⟩ | exact rfl)); try simp (config := { maxSteps := 10000000 }) only [specV, addF, Act.put, List.setIfInBounds_toArray, List.set_cons_zero, List.set_cons_succ, List.take_succ_cons, List.take_zero, List.drop_succ_cons, List.drop_zero])
  (refine ⟨fun vs w1 hS hB hf => ?_, ?_⟩; (focus (have hs1 := hB.size; clear hS hB hf; go_simp; exact ⟨(Below.refl _ _).alloc (Nat.le_refl _) _, w1.heap.size, rfl, hs1, Blk.new _ _ _⟩)); try simp (config := { maxSteps := 10000000 }) only [specV, addF, Act.put, List.setIfInBounds_toArray, List.set_cons_zero, List.set_cons_succ, List.take_succ_cons, List.take_zero, List.drop_succ_cons, List.drop_zero])
  (apply Exists.intro; refine ⟨fun vs w1 hS hB hf => ?_, ?_⟩; (focus (clear hS hB hf; go_simp; first | exact ⟨Below.refl _ _, rfl⟩ | exact rfl)); try simp (config := { maxSteps := 10000000 }) only [specV, addF, Act.put, List.setIfInBounds_toArray, List.set_cons_zero, List.set_cons_succ, List.take_succ_cons, List.take_zero, List.drop_succ_cons, List.drop_zero])
  (refine ⟨fun vs w1 hS hB hf => ?_, ?_⟩; (focus (have hs1 := hB.size; clear hS hB hf; go_simp; exact ⟨(Below.refl _ _).alloc (Nat.le_refl _) _, w1.heap.size, rfl, hs1, Blk.new _ _ _⟩)); try simp (config := { maxSteps := 10000000 }) only [specV, addF, Act.put, List.setIfInBounds_toArray, List.set_cons_zero, List.set_cons_succ, List.take_succ_cons, List.take_zero, List.drop_succ_cons, List.drop_zero])
  intro vs w5 hS hB hF
  obtain ⟨⟨bP, e3, l3, k3⟩, ⟨bT, e2, l2, k2⟩, ⟨bB, e1, l1, k1⟩, _⟩ := hF
  dsimp only
  rw [e1, e2, e3]
  have HB := Lib.hid hB
  have K1 := Lib.hid k1
  have K2 := Lib.hid k2
  have K3 := Lib.hid k3
  clear e1 e2 e3 hS hB k1 k2 k3
  go_wp2
  go_ret
  have hs : w.heap.size ≤ w5.heap.size := HB.out.size
  have n1 : bB ≠ bT := fun e => by have h1 := K1.out; have h2 := K2.out; subst e; unfold Blk at h1 h2; rw [h1] at h2; simp at h2
  have n2 : bB ≠ bP := fun e => by have h1 := K1.out; have h2 := K3.out; subst e; unfold Blk at h1 h2; rw [h1] at h2; simp at h2
  have n3 : bT ≠ bP := fun e => by
    have h1 := K2.out; have h2 := K3.out; subst e; unfold Blk at h1 h2; rw [h1] at h2; simp at h2
    rw [← Y2.out, ← Y3.out] at h2
    have := congrArg Array.size h2
    simp [bools] at this
    omega
  have lB := K1.out.lt
  have lT := K2.out.lt
  have lP := K3.out.lt
  refine ⟨w5.heap.size, bB, bT, bP, rfl, ⟨⟨by simp, by simp, by rw [List.length_replicate]; omega, fun x hx => by rw [List.eq_of_mem_replicate hx]; decide⟩, ⟨by omega, by omega, by omega, n1, n2, n3⟩, ?_, ?_, ?_, ?_⟩, by omega, l1, l2, l3, ?_⟩
  · rw [List.length_replicate, List.length_replicate, List.length_replicate, Nat.mul_comm 256 n, Nat.mul_comm 16 n]
    exact Blk.new _ _ _
  · rw [Nat.mul_comm 256 n, Y1.out]; exact K1.out.alloc _
  · rw [Nat.mul_comm 16 n, Y2.out]; exact K2.out.alloc _
  · rw [Y3.out]; exact K3.out.alloc _
  · exact HB.out.alloc hs _
end Go.Proofs.Ytjimkkkiilcpoaa
