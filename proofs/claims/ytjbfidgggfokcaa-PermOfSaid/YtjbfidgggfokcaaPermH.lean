/- Where a rune stands among the letters. -/
import Derived.Test.YtjbfidgggfokcaaPermG
import Derived.Test.YtjbfidgggfokcaaFlow
import Derived.Laws.Runes
import Derived.WalkSpells
set_option linter.unusedVariables false
set_option linter.unusedSimpArgs false
namespace Go.Proofs.Ytjbfidgggfokcaa
open Go.RowKit

def idxOf (r : Int) : Int := if 0 ≤ r ∧ r < 128 then Lib.indexByte letterB.data.toList r.toNat.toUInt8 else -1

theorem indexByte_none (l : List UInt8) (c : UInt8) (h : ∀ b ∈ l, b ≠ c) : Lib.indexByte l c = -1 := by
  induction l with
  | nil => rfl
  | cons b l ih =>
    have hb := h b (List.mem_cons_self ..)
    have e : (b == c) = false := by rw [beq_eq_false_iff_ne]; exact hb
    rw [Lib.indexByte, e, ih fun b hb => h b (List.mem_cons_of_mem _ hb)]
    rfl
theorem ib_none (T : ByteArray) (hT : ∀ b ∈ T.data.toList, b.toNat < 128) (c : Int) (h0 : 128 ≤ c) (h1 : c ≤ 255) (w : World) :
    Calls Try.prog 27 #[.string T, .int .u8 c] w fun e w' => e = .returned (.int .i64 (-1)) ∧ w' = w := by
  refine (Try.strings_IndexByte T c w).mono fun e w' ⟨h2, h3⟩ => ⟨?_, h3⟩
  rw [h2, indexByte_none _ _ fun b hb e => ?_]
  have := hT b hb
  rw [e] at this
  have h4 : c.toNat.toUInt8.toNat = c.toNat := UInt8.toNat_ofNat_of_lt' (by simp [UInt8.size]; omega)
  omega
set_option maxRecDepth 100000 in
theorem encode_index {S : ByteArray} {k : Nat} (i : Int) (hik : i = k) (hS : S.size = k + 1) (sb : ∀ h : S.size - 1 < S.size, 128 ≤ (S[S.size - 1]'h).toNat) :
    ∃ c : Int, 128 ≤ c ∧ c ≤ 255 ∧ ∀ w, (Instr.index 9 (.string S) (.int .i64 i)).run Try.prog w = .ok (.int .u8 c) w := by
  subst hik
  have hlt : S.size - 1 < S.size := by omega
  refine ⟨(S[S.size - 1]'hlt).toNat, by have := sb hlt; omega, by have := (S[S.size - 1]'hlt).toNat_lt; omega, fun w => ?_⟩
  rw [run_index_string w 9 S .i64 k Try.underlying9, dif_pos ⟨by omega, by omega⟩]
  simp [hS]

theorem letters_lt : ∀ b ∈ letterB.data.toList, b.toNat < 128 := by decide
theorem slice_letters (k : Nat) (i : Int) (hik : i = k) (hk : k ≤ 7) : ∃ T : ByteArray, (∀ b ∈ T.data.toList, b.toNat < 128) ∧ ∀ w, (Instr.slice 9 (.string { data := #[114, 119, 120, 108, 115, 101, 117] }) (some (.int .i64 i)) none none).run Try.prog w = .ok (.string T) w := by
  subst hik
  refine ⟨letterB.extract ((k : Int)).toNat letterB.size, fun b hb => letters_lt b (mem_extract hb), fun w => ?_⟩
  exact run_slice_string_l (P := Try.prog) (w := w) 9 letterB Try.underlying9 .i64 (k : Int) (by omega) (by show (k : Int) ≤ 7; omega)

set_option maxRecDepth 100000 in
set_option maxHeartbeats 1600000 in
theorem index_valid1 (r : Int) (S : ByteArray) (w : World) (h0 : 128 ≤ r) (h1 : r ≤ 2147483647) (hz : r ≠ 65533) (hv : Utf8.valid r = true) (s3 : S.size = 2) (c : Int) (c0 : 128 ≤ c) (c1 : c ≤ 255)
    (hx : ∀ w, (convert 21 9 (.int .i32 r)).run Try.prog w = .ok (.string S) w)
    (hi : ∀ w, (Instr.index 9 (.string S) (.int .i64 1)).run Try.prog w = .ok (.int .u8 c) w) :
    Calls Try.prog 23 #[.string { data := #[114, 119, 120, 108, 115, 101, 117] }, .int .i32 r] w fun e w' => e = .returned (.int .i64 (-1)) ∧ Below w.heap.size w w' := by
  have z1 : (r == 65533) = false := by rw [beq_eq_false_iff_ne]; omega
  have hr : Hid (Lib.validRune r = true) := Lib.hid (by rw [validRune_eq] at hv; exact hv)
  have cl1 : (119 != c) = true := by simp only [bne_iff_ne]; omega
  have il1 : ∀ w, (Instr.index 9 (.string { data := #[114, 119, 120, 108, 115, 101, 117] }) (.int .i64 1)).run Try.prog w = .ok (.int .u8 119) w := fun _ => by kernel_rfl
  obtain ⟨T, hT, hsl⟩ := slice_letters 2 2 rfl (by decide)
  have HT := Lib.hid hT
  have hw : IntKind.i64.wrap 2 = 2 := by decide
  clear hv hz hT
  go_enter Try.func23, Try.ntmps23
  go_wp2_with fail
  refine (Try.utf8_ValidRune r w).mono ?_
  rintro e w1 ⟨rfl, rfl⟩
  rw [hr.out]
  go_wp2
  go_step3
  go_wp2
  refine wp_loop_rounds 1 ?_
  rw [rounds_succ]
  go_wp2
  go_step3
  go_wp2
  go_quiet (fail)
  go_wp2
  have B2 : Below w1.heap.size w1 (w1.drewN nq) := below_drewN (Below.refl _ _) _
  generalize w1.drewN nq = w2 at *
  refine wp_flow_lit 8 (fun _ => True) [none, none, none, none, none, none, none, none]
    (by kernel_rfl) (by kernel_rfl) trivial (fun _ _ _ _ => trivial) trivial ?_
  try simp only [specV, addF, Act.put, List.setIfInBounds_toArray, List.set_cons_zero, List.set_cons_succ, List.take_succ_cons, List.take_zero, List.drop_succ_cons, List.drop_zero]
  (apply Exists.intro; refine ⟨fun vs w1 hS hB hf => ?_, ?_⟩; (focus (clear hS hB hf; go_simp; first | exact ⟨Below.refl _ _, rfl⟩ | exact rfl)); try simp only [specV, addF, Act.put, List.setIfInBounds_toArray, List.set_cons_zero, List.set_cons_succ, List.take_succ_cons, List.take_zero, List.drop_succ_cons, List.drop_zero])
  (apply Exists.intro; refine ⟨fun vs w1 hS hB hf => ?_, ?_⟩; (focus (clear hS hB hf; go_simp; first | exact ⟨Below.refl _ _, rfl⟩ | exact rfl)); try simp only [specV, addF, Act.put, List.setIfInBounds_toArray, List.set_cons_zero, List.set_cons_succ, List.take_succ_cons, List.take_zero, List.drop_succ_cons, List.drop_zero])
  (apply Exists.intro; refine ⟨fun vs w1 hS hB hf => ?_, ?_⟩; (focus (clear hS hB hf; go_simp; first | exact ⟨Below.refl _ _, rfl⟩ | exact rfl)); try simp only [specV, addF, Act.put, List.setIfInBounds_toArray, List.set_cons_zero, List.set_cons_succ, List.take_succ_cons, List.take_zero, List.drop_succ_cons, List.drop_zero])
  (apply Exists.intro; refine ⟨fun vs w1 hS hB hf => ?_, ?_⟩; (focus (clear hS hB hf; go_simp; first | exact ⟨Below.refl _ _, rfl⟩ | exact rfl)); try simp only [specV, addF, Act.put, List.setIfInBounds_toArray, List.set_cons_zero, List.set_cons_succ, List.take_succ_cons, List.take_zero, List.drop_succ_cons, List.drop_zero])
  (apply Exists.intro; refine ⟨fun vs w1 hS hB hf => ?_, ?_⟩; (focus (clear hS hB hf; go_simp; first | exact ⟨Below.refl _ _, rfl⟩ | exact rfl)); try simp only [specV, addF, Act.put, List.setIfInBounds_toArray, List.set_cons_zero, List.set_cons_succ, List.take_succ_cons, List.take_zero, List.drop_succ_cons, List.drop_zero])
  (apply Exists.intro; refine ⟨fun vs w1 hS hB hf => ?_, ?_⟩; (focus (clear hS hB hf; go_simp; first | exact ⟨Below.refl _ _, rfl⟩ | exact rfl)); try simp only [specV, addF, Act.put, List.setIfInBounds_toArray, List.set_cons_zero, List.set_cons_succ, List.take_succ_cons, List.take_zero, List.drop_succ_cons, List.drop_zero])
  (apply Exists.intro; refine ⟨fun vs w1 hS hB hf => ?_, ?_⟩; (focus (clear hS hB hf; go_simp; first | exact ⟨Below.refl _ _, rfl⟩ | exact rfl)); try simp only [specV, addF, Act.put, List.setIfInBounds_toArray, List.set_cons_zero, List.set_cons_succ, List.take_succ_cons, List.take_zero, List.drop_succ_cons, List.drop_zero])
  (apply Exists.intro; refine ⟨fun vs w1 hS hB hf => ?_, ?_⟩; (focus (go_simp; exact (ib_none T HT.out c c0 c1 w1).mono fun e w2 ⟨he, hb⟩ => callPost.of (v := .int .i64 (-1)) he (by rw [hb]; exact Below.refl _ _) rfl)); try simp only [specV, addF, Act.put, List.setIfInBounds_toArray, List.set_cons_zero, List.set_cons_succ, List.take_succ_cons, List.take_zero, List.drop_succ_cons, List.drop_zero])
  intro vs w5 hS hB _
  have B5 := B2.trans (hB.mono B2.size)
  dsimp only
  go_wp2
  go_ret
  exact ⟨rfl, B5⟩

set_option maxRecDepth 100000 in
set_option maxHeartbeats 1600000 in
theorem index_valid2 (r : Int) (S : ByteArray) (w : World) (h0 : 128 ≤ r) (h1 : r ≤ 2147483647) (hz : r ≠ 65533) (hv : Utf8.valid r = true) (s3 : S.size = 3) (c : Int) (c0 : 128 ≤ c) (c1 : c ≤ 255)
    (hx : ∀ w, (convert 21 9 (.int .i32 r)).run Try.prog w = .ok (.string S) w)
    (hi : ∀ w, (Instr.index 9 (.string S) (.int .i64 2)).run Try.prog w = .ok (.int .u8 c) w) :
    Calls Try.prog 23 #[.string { data := #[114, 119, 120, 108, 115, 101, 117] }, .int .i32 r] w fun e w' => e = .returned (.int .i64 (-1)) ∧ Below w.heap.size w w' := by
  have z1 : (r == 65533) = false := by rw [beq_eq_false_iff_ne]; omega
  have hr : Hid (Lib.validRune r = true) := Lib.hid (by rw [validRune_eq] at hv; exact hv)
  have cl1 : (120 != c) = true := by simp only [bne_iff_ne]; omega
  have il1 : ∀ w, (Instr.index 9 (.string { data := #[114, 119, 120, 108, 115, 101, 117] }) (.int .i64 2)).run Try.prog w = .ok (.int .u8 120) w := fun _ => by kernel_rfl
  obtain ⟨T, hT, hsl⟩ := slice_letters 3 3 rfl (by decide)
  have HT := Lib.hid hT
  have hw : IntKind.i64.wrap 3 = 3 := by decide
  clear hv hz hT
  go_enter Try.func23, Try.ntmps23
  go_wp2_with fail
  refine (Try.utf8_ValidRune r w).mono ?_
  rintro e w1 ⟨rfl, rfl⟩
  rw [hr.out]
  go_wp2
  go_step3
  go_wp2
  refine wp_loop_rounds 1 ?_
  rw [rounds_succ]
  go_wp2
  go_step3
  go_wp2
  go_quiet (fail)
  go_wp2
  have B2 : Below w1.heap.size w1 (w1.drewN nq) := below_drewN (Below.refl _ _) _
  generalize w1.drewN nq = w2 at *
  refine wp_flow_lit 8 (fun _ => True) [none, none, none, none, none, none, none, none]
    (by kernel_rfl) (by kernel_rfl) trivial (fun _ _ _ _ => trivial) trivial ?_
  try simp only [specV, addF, Act.put, List.setIfInBounds_toArray, List.set_cons_zero, List.set_cons_succ, List.take_succ_cons, List.take_zero, List.drop_succ_cons, List.drop_zero]
  (apply Exists.intro; refine ⟨fun vs w1 hS hB hf => ?_, ?_⟩; (focus (clear hS hB hf; go_simp; first | exact ⟨Below.refl _ _, rfl⟩ | exact rfl)); try simp only [specV, addF, Act.put, List.setIfInBounds_toArray, List.set_cons_zero, List.set_cons_succ, List.take_succ_cons, List.take_zero, List.drop_succ_cons, List.drop_zero])
  (apply Exists.intro; refine ⟨fun vs w1 hS hB hf => ?_, ?_⟩; (focus (clear hS hB hf; go_simp; first | exact ⟨Below.refl _ _, rfl⟩ | exact rfl)); try simp only [specV, addF, Act.put, List.setIfInBounds_toArray, List.set_cons_zero, List.set_cons_succ, List.take_succ_cons, List.take_zero, List.drop_succ_cons, List.drop_zero])
  (apply Exists.intro; refine ⟨fun vs w1 hS hB hf => ?_, ?_⟩; (focus (clear hS hB hf; go_simp; first | exact ⟨Below.refl _ _, rfl⟩ | exact rfl)); try simp only [specV, addF, Act.put, List.setIfInBounds_toArray, List.set_cons_zero, List.set_cons_succ, List.take_succ_cons, List.take_zero, List.drop_succ_cons, List.drop_zero])
  (apply Exists.intro; refine ⟨fun vs w1 hS hB hf => ?_, ?_⟩; (focus (clear hS hB hf; go_simp; first | exact ⟨Below.refl _ _, rfl⟩ | exact rfl)); try simp only [specV, addF, Act.put, List.setIfInBounds_toArray, List.set_cons_zero, List.set_cons_succ, List.take_succ_cons, List.take_zero, List.drop_succ_cons, List.drop_zero])
  (apply Exists.intro; refine ⟨fun vs w1 hS hB hf => ?_, ?_⟩; (focus (clear hS hB hf; go_simp; first | exact ⟨Below.refl _ _, rfl⟩ | exact rfl)); try simp only [specV, addF, Act.put, List.setIfInBounds_toArray, List.set_cons_zero, List.set_cons_succ, List.take_succ_cons, List.take_zero, List.drop_succ_cons, List.drop_zero])
  (apply Exists.intro; refine ⟨fun vs w1 hS hB hf => ?_, ?_⟩; (focus (clear hS hB hf; go_simp; first | exact ⟨Below.refl _ _, rfl⟩ | exact rfl)); try simp only [specV, addF, Act.put, List.setIfInBounds_toArray, List.set_cons_zero, List.set_cons_succ, List.take_succ_cons, List.take_zero, List.drop_succ_cons, List.drop_zero])
  (apply Exists.intro; refine ⟨fun vs w1 hS hB hf => ?_, ?_⟩; (focus (clear hS hB hf; go_simp; first | exact ⟨Below.refl _ _, rfl⟩ | exact rfl)); try simp only [specV, addF, Act.put, List.setIfInBounds_toArray, List.set_cons_zero, List.set_cons_succ, List.take_succ_cons, List.take_zero, List.drop_succ_cons, List.drop_zero])
  (apply Exists.intro; refine ⟨fun vs w1 hS hB hf => ?_, ?_⟩; (focus (go_simp; exact (ib_none T HT.out c c0 c1 w1).mono fun e w2 ⟨he, hb⟩ => callPost.of (v := .int .i64 (-1)) he (by rw [hb]; exact Below.refl _ _) rfl)); try simp only [specV, addF, Act.put, List.setIfInBounds_toArray, List.set_cons_zero, List.set_cons_succ, List.take_succ_cons, List.take_zero, List.drop_succ_cons, List.drop_zero])
  intro vs w5 hS hB _
  have B5 := B2.trans (hB.mono B2.size)
  dsimp only
  go_wp2
  go_ret
  exact ⟨rfl, B5⟩

set_option maxRecDepth 100000 in
set_option maxHeartbeats 1600000 in
theorem index_valid3 (r : Int) (S : ByteArray) (w : World) (h0 : 128 ≤ r) (h1 : r ≤ 2147483647) (hz : r ≠ 65533) (hv : Utf8.valid r = true) (s3 : S.size = 4) (c : Int) (c0 : 128 ≤ c) (c1 : c ≤ 255)
    (hx : ∀ w, (convert 21 9 (.int .i32 r)).run Try.prog w = .ok (.string S) w)
    (hi : ∀ w, (Instr.index 9 (.string S) (.int .i64 3)).run Try.prog w = .ok (.int .u8 c) w) :
    Calls Try.prog 23 #[.string { data := #[114, 119, 120, 108, 115, 101, 117] }, .int .i32 r] w fun e w' => e = .returned (.int .i64 (-1)) ∧ Below w.heap.size w w' := by
  have z1 : (r == 65533) = false := by rw [beq_eq_false_iff_ne]; omega
  have hr : Hid (Lib.validRune r = true) := Lib.hid (by rw [validRune_eq] at hv; exact hv)
  have cl1 : (108 != c) = true := by simp only [bne_iff_ne]; omega
  have il1 : ∀ w, (Instr.index 9 (.string { data := #[114, 119, 120, 108, 115, 101, 117] }) (.int .i64 3)).run Try.prog w = .ok (.int .u8 108) w := fun _ => by kernel_rfl
  obtain ⟨T, hT, hsl⟩ := slice_letters 4 4 rfl (by decide)
  have HT := Lib.hid hT
  have hw : IntKind.i64.wrap 4 = 4 := by decide
  clear hv hz hT
  go_enter Try.func23, Try.ntmps23
  go_wp2_with fail
  refine (Try.utf8_ValidRune r w).mono ?_
  rintro e w1 ⟨rfl, rfl⟩
  rw [hr.out]
  go_wp2
  go_step3
  go_wp2
  refine wp_loop_rounds 1 ?_
  rw [rounds_succ]
  go_wp2
  go_step3
  go_wp2
  go_quiet (fail)
  go_wp2
  have B2 : Below w1.heap.size w1 (w1.drewN nq) := below_drewN (Below.refl _ _) _
  generalize w1.drewN nq = w2 at *
  refine wp_flow_lit 8 (fun _ => True) [none, none, none, none, none, none, none, none]
    (by kernel_rfl) (by kernel_rfl) trivial (fun _ _ _ _ => trivial) trivial ?_
  try simp only [specV, addF, Act.put, List.setIfInBounds_toArray, List.set_cons_zero, List.set_cons_succ, List.take_succ_cons, List.take_zero, List.drop_succ_cons, List.drop_zero]
  (apply Exists.intro; refine ⟨fun vs w1 hS hB hf => ?_, ?_⟩; (focus (clear hS hB hf; go_simp; first | exact ⟨Below.refl _ _, rfl⟩ | exact rfl)); try simp only [specV, addF, Act.put, List.setIfInBounds_toArray, List.set_cons_zero, List.set_cons_succ, List.take_succ_cons, List.take_zero, List.drop_succ_cons, List.drop_zero])
  (apply Exists.intro; refine ⟨fun vs w1 hS hB hf => ?_, ?_⟩; (focus (clear hS hB hf; go_simp; first | exact ⟨Below.refl _ _, rfl⟩ | exact rfl)); try simp only [specV, addF, Act.put, List.setIfInBounds_toArray, List.set_cons_zero, List.set_cons_succ, List.take_succ_cons, List.take_zero, List.drop_succ_cons, List.drop_zero])
  (apply Exists.intro; refine ⟨fun vs w1 hS hB hf => ?_, ?_⟩; (focus (clear hS hB hf; go_simp; first | exact ⟨Below.refl _ _, rfl⟩ | exact rfl)); try simp only [specV, addF, Act.put, List.setIfInBounds_toArray, List.set_cons_zero, List.set_cons_succ, List.take_succ_cons, List.take_zero, List.drop_succ_cons, List.drop_zero])
  (apply Exists.intro; refine ⟨fun vs w1 hS hB hf => ?_, ?_⟩; (focus (clear hS hB hf; go_simp; first | exact ⟨Below.refl _ _, rfl⟩ | exact rfl)); try simp only [specV, addF, Act.put, List.setIfInBounds_toArray, List.set_cons_zero, List.set_cons_succ, List.take_succ_cons, List.take_zero, List.drop_succ_cons, List.drop_zero])
  (apply Exists.intro; refine ⟨fun vs w1 hS hB hf => ?_, ?_⟩; (focus (clear hS hB hf; go_simp; first | exact ⟨Below.refl _ _, rfl⟩ | exact rfl)); try simp only [specV, addF, Act.put, List.setIfInBounds_toArray, List.set_cons_zero, List.set_cons_succ, List.take_succ_cons, List.take_zero, List.drop_succ_cons, List.drop_zero])
  (apply Exists.intro; refine ⟨fun vs w1 hS hB hf => ?_, ?_⟩; (focus (clear hS hB hf; go_simp; first | exact ⟨Below.refl _ _, rfl⟩ | exact rfl)); try simp only [specV, addF, Act.put, List.setIfInBounds_toArray, List.set_cons_zero, List.set_cons_succ, List.take_succ_cons, List.take_zero, List.drop_succ_cons, List.drop_zero])
  (apply Exists.intro; refine ⟨fun vs w1 hS hB hf => ?_, ?_⟩; (focus (clear hS hB hf; go_simp; first | exact ⟨Below.refl _ _, rfl⟩ | exact rfl)); try simp only [specV, addF, Act.put, List.setIfInBounds_toArray, List.set_cons_zero, List.set_cons_succ, List.take_succ_cons, List.take_zero, List.drop_succ_cons, List.drop_zero])
  (apply Exists.intro; refine ⟨fun vs w1 hS hB hf => ?_, ?_⟩; (focus (go_simp; exact (ib_none T HT.out c c0 c1 w1).mono fun e w2 ⟨he, hb⟩ => callPost.of (v := .int .i64 (-1)) he (by rw [hb]; exact Below.refl _ _) rfl)); try simp only [specV, addF, Act.put, List.setIfInBounds_toArray, List.set_cons_zero, List.set_cons_succ, List.take_succ_cons, List.take_zero, List.drop_succ_cons, List.drop_zero])
  intro vs w5 hS hB _
  have B5 := B2.trans (hB.mono B2.size)
  dsimp only
  go_wp2
  go_ret
  exact ⟨rfl, B5⟩

set_option maxRecDepth 100000 in
set_option maxHeartbeats 1600000 in
theorem index_bad (r : Int) (w : World) (hv : Utf8.valid r = false) (h128 : r < 0 ∨ 128 ≤ r) (h0 : -2147483648 ≤ r) (h1 : r ≤ 2147483647) :
    Calls Try.prog 23 #[.string { data := #[114, 119, 120, 108, 115, 101, 117] }, .int .i32 r] w fun e w' => e = .returned (.int .i64 (-1)) ∧ Below w.heap.size w w' := by
  have z1 : (r == 65533) = false := by
    rw [beq_eq_false_iff_ne]
    rintro rfl
    have : Utf8.valid 65533 = true := by decide
    rw [this] at hv
    cases hv
  have hr : Hid (Lib.validRune r = false) := Lib.hid (by rw [validRune_eq] at hv; exact hv)
  clear hv
  rcases h128 with h | h
  all_goals
    go_enter Try.func23, Try.ntmps23
    go_wp2_with fail
    refine (Try.utf8_ValidRune r w).mono ?_
    rintro e w1 ⟨rfl, rfl⟩
    rw [hr.out]
    go_wp2
    go_ret
    exact ⟨rfl, Below.refl _ _⟩

set_option maxRecDepth 100000 in
set_option maxHeartbeats 1600000 in
theorem index_error (w : World) :
    Calls Try.prog 23 #[.string { data := #[114, 119, 120, 108, 115, 101, 117] }, .int .i32 65533] w fun e w' => e = .returned (.int .i64 (-1)) ∧ Below w.heap.size w w' := by
  go_enter Try.func23, Try.ntmps23
  go_wp2
  go_loopg [5, 6] 7 (fun k v5 v6 wr => ∃ j : Nat, j + k = 7 ∧ wr.heap[w.heap.size]? = some (.stringIter letterB j) ∧ Below w.heap.size w wr)
  case atStart => exact ⟨0, by omega, World.iter_heap w letterB 0, (Below.refl _ _).alloc (Nat.le_refl _) _⟩
  case round =>
    obtain ⟨j, hj, hit, hb⟩ := hrel
    have Hj := Lib.hid hj
    have Hit := Lib.hid hit
    have HB := Lib.hid hb
    clear hj hit hb
    rcases Nat.lt_or_ge j 7 with hlt | hge
    · have Hlt := Lib.hid hlt
      obtain ⟨hl0, hl1, hl2⟩ := letter_at j hlt
      have hnx := fun ty => Lib.run_next_ascii_at (P := Try.prog) wr w.heap.size letterB j ty Hit.out hl0 hl2
      rw [hl1] at hnx hl2
      have Hit2 := Lib.hid (Lib.iterAt_heap wr w.heap.size letterB j (j + 1) Hit.out)
      have HB2 := Lib.hid (Lib.below_iterAt HB.out (Nat.le_refl w.heap.size) letterB (j + 1))
      generalize wr.iterAt w.heap.size letterB (j + 1) = wi at *
      generalize letters.getD j 0 = c at *
      have z1 : ((c.toNat : Int) == 65533) = false := by rw [beq_eq_false_iff_ne]; omega
      clear hlt hl0 hl1 hl2
      go_wp2
      go_roundg (gk - 1)
      case measure => have := Hj.out; have := Hlt.out; omega
      case rel => exact ⟨j + 1, by have := Hj.out; have := Hlt.out; omega, Hit2.out, HB2.out⟩
    · have e7 : j = 7 := by have := Hj.out; omega
      subst e7
      have hnx := fun ty => Lib.run_next_end_at (P := Try.prog) wr w.heap.size letterB 7 ty Hit.out (by decide)
      clear hge
      go_wp2
      go_ret
      exact ⟨rfl, HB.out⟩

theorem index_any (r : Int) (w : World) (h0 : -2147483648 ≤ r) (h1 : r ≤ 2147483647) :
    Calls Try.prog 23 #[.string { data := #[114, 119, 120, 108, 115, 101, 117] }, .int .i32 r] w fun e w' => e = .returned (.int .i64 (idxOf r)) ∧ Below w.heap.size w w' := by
  unfold idxOf
  by_cases ha : 0 ≤ r ∧ r < 128
  · rw [if_pos ha]
    exact (Try.strings_IndexRune_ascii letterB r w ha.1 ha.2).mono fun e w' ⟨h2, h3⟩ => ⟨h2, by rw [h3]; exact Below.refl _ _⟩
  · rw [if_neg ha]
    cases hv : Utf8.valid r with
    | false => exact index_bad r w hv (by omega) h0 h1
    | true =>
      by_cases hz : r = 65533
      · subst hz; exact index_error w
      · have h128 : 128 ≤ r := by
          have : 0 ≤ r := by
            rw [validRune_eq] at hv
            have := of_decide_eq_true hv
            omega
          omega
        have hx := fun w => run_convert_int_string (P := Try.prog) w 21 9 .i32 r (by kernel_rfl) Try.underlying9
        obtain ⟨s2, s4, sb⟩ := encode_facts r hv h128
        generalize Utf8.encode r = S at *
        have s3 : S.size = 1 + 1 ∨ S.size = 2 + 1 ∨ S.size = 3 + 1 := by omega
        rcases s3 with s3 | s3 | s3
        · obtain ⟨c, c0, c1, hi⟩ := encode_index 1 rfl s3 sb
          exact index_valid1 r S w h128 h1 hz hv s3 c c0 c1 hx hi
        · obtain ⟨c, c0, c1, hi⟩ := encode_index 2 rfl s3 sb
          exact index_valid2 r S w h128 h1 hz hv s3 c c0 c1 hx hi
        · obtain ⟨c, c0, c1, hi⟩ := encode_index 3 rfl s3 sb
          exact index_valid3 r S w h128 h1 hz hv s3 c c0 c1 hx hi
end Go.Proofs.Ytjbfidgggfokcaa
