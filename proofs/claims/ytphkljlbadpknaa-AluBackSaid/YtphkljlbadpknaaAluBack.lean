/-
  AluBack: for every 32-bit number, every size and all bytes the law returns true, and each argument reads as it did. Condition: none.
-/
import Derived.Test.YtphkljlbadpknaaRows
import Derived.Test.YtphkljlbadpknaaAluG
import Derived.Test.YtphkljlbadpknaaFlow
import Derived.IntWalk
set_option linter.unusedVariables false
set_option linter.unusedSimpArgs false
namespace Go.Proofs.Ytphkljlbadpknaa.AluBack
open Go.ChangeShapes Go.WideShapes Go.ChangeAt Go.RowKit Go.Proofs.Ytphkljlbadpknaa

theorem own : ownKnob Try.prog.godebug = none := by kernel_rfl
theorem laidOut : laidOutB Try.prog = true := by kernel_rfl

theorem num_bytes {n : Int} (h : 0 ≤ n ∧ n ≤ 4294967295) : numT (bytes4 n) = n := by
  simp only [numT, bytes4, List.foldl]
  unfold m32
  omega
theorem bytes_num {xs : List Int} (hx : isB xs) (h1 : 1 ≤ xs.length) (h4 : xs.length ≤ 4) : bytesN (numT xs) (xs.length : Int) = xs := by
  match xs, h1, h4 with
  | [a], _, _ =>
    have ha := hx a (by simp)
    have e : numT [a] = a := by simp only [numT, List.foldl]; unfold m32; omega
    rw [e]
    show [a % 256] = [a]
    congr 1; omega
  | [a, b], _, _ =>
    have ha := hx a (by simp)
    have hb := hx b (by simp)
    have e : numT [a, b] = 256 * a + b := by simp only [numT, List.foldl]; unfold m32; omega
    rw [e]
    show [(256 * a + b) / 256 % 256, (256 * a + b) % 256] = [a, b]
    rw [show (256 * a + b) / 256 % 256 = a by omega, show (256 * a + b) % 256 = b by omega]
  | [a, b, c], _, _ =>
    have ha := hx a (by simp)
    have hb := hx b (by simp)
    have hc := hx c (by simp)
    have e : numT [a, b, c] = 65536 * a + 256 * b + c := by simp only [numT, List.foldl]; unfold m32; omega
    rw [e]
    show [(65536 * a + 256 * b + c) / 65536 % 256, (65536 * a + 256 * b + c) / 256 % 256, (65536 * a + 256 * b + c) % 256] = [a, b, c]
    rw [show (65536 * a + 256 * b + c) / 65536 % 256 = a by omega, show (65536 * a + 256 * b + c) / 256 % 256 = b by omega, show (65536 * a + 256 * b + c) % 256 = c by omega]
  | [a, b, c, d], _, _ =>
    have ha := hx a (by simp)
    have hb := hx b (by simp)
    have hc := hx c (by simp)
    have hd := hx d (by simp)
    have e : numT [a, b, c, d] = 16777216 * a + 65536 * b + 256 * c + d := by simp only [numT, List.foldl]; unfold m32; omega
    rw [e]
    show [(16777216 * a + 65536 * b + 256 * c + d) / 16777216 % 256, (16777216 * a + 65536 * b + 256 * c + d) / 65536 % 256, (16777216 * a + 65536 * b + 256 * c + d) / 256 % 256, (16777216 * a + 65536 * b + 256 * c + d) % 256] = [a, b, c, d]
    rw [show (16777216 * a + 65536 * b + 256 * c + d) / 16777216 % 256 = a by omega, show (16777216 * a + 65536 * b + 256 * c + d) / 65536 % 256 = b by omega, show (16777216 * a + 65536 * b + 256 * c + d) / 256 % 256 = c by omega, show (16777216 * a + 65536 * b + 256 * c + d) % 256 = d by omega]
  | _ :: _ :: _ :: _ :: _ :: _, _, h => simp at h

/-- The end of a row. -/
theorem RowU.drop {w : World} {b o n c : Nat} {xs : List Int} (h : RowU w (.slice (some ⟨b, o, none⟩) n c) xs) (d : Nat) (hd : d ≤ n) : RowU w (.slice (some ⟨b, o + d, none⟩) (n - d) (c - d)) (xs.drop d) := by
  obtain ⟨A', c', hv, hR, hc⟩ := h
  cases hv
  refine ⟨_, _, by rw [List.length_drop], fun j u hu => ⟨_, rfl, ?_⟩, by rw [List.length_drop]; omega⟩
  rw [u8s, List.map_drop, List.getElem?_drop] at hu
  obtain ⟨ad, e, hcell⟩ := hR (d + j) u hu
  cases e
  rw [add_plain] at hcell ⊢
  rw [Nat.add_assoc]
  exact hcell

set_option maxRecDepth 100000 in
set_option maxHeartbeats 3200000 in
theorem walk (n k : Int) (v : Value) (xs : List Int) (w : World) (wn : (Lit.int .u32 n).wf = true) (wk : (Lit.int .u8 k).wf = true) (hv : RowU w v xs) (hx : isB xs) (hm : xs.length ≤ maxLen) :
    Calls Try.prog 7 #[.int .u32 n, .int .u8 k, v] w fun e w' => e = .returned (.bool true) ∧ Below w.heap.size w w' := by
  unfold maxLen at hm
  obtain ⟨n0, n1⟩ := u32_of_wf wn
  have k0 : 0 ≤ k ∧ k ≤ 255 := u8_of_wf wk
  clear wn wk
  obtain ⟨A, c, rfl, _⟩ := hv.form
  have r0 := Lib.hid hv
  have hnb := Lib.hid (num_bytes ⟨n0, n1⟩)
  clear hv
  have hk : k % 4 = 0 ∨ k % 4 = 1 ∨ k % 4 = 2 ∨ k % 4 = 3 := by omega
  obtain ⟨k0, k1⟩ := k0
  rcases hk with hk | hk | hk | hk
  · go_enter Try.func7, Try.ntmps7
    go_wp2_with fail
    refine (head20_true _).mono ?_
    rintro e W1 ⟨rfl, B1⟩
    have r1 := Lib.hid (r0.out.below B1)
    clear r0
    go_wp2_with fail
    refine (bytes_4 n _).mono ?_
    rintro e W2 ⟨rfl, bp, b2⟩
    have rp : RowU W2 (.slice (some ⟨W1.heap.size, 0, none⟩) 4 4) (bytes4 n) := RowU.blk bp
    have r2 := Lib.hid (r1.out.below b2)
    have B2 := below_then B1 B1.size b2
    clear B1 b2 bp r1
    go_wp2_with fail
    refine (bytes_1 n _).mono ?_
    rintro e W3 ⟨rfl, bq, b3⟩
    have rq : RowU W3 (.slice (some ⟨W2.heap.size, 0, none⟩) 1 1) ((bytes4 n).drop 3) := RowU.blk bq
    have rp := rp.below b3
    have r3 := r2.out.below b3
    have B3 := below_then B2 B2.size b3
    clear B2 b3 bq r2
    obtain ⟨s1, e1⟩ : ∃ s, s = strOfNums ((bytes4 n).drop 3) := ⟨_, rfl⟩
    have E1 := Lib.hid e1
    clear e1
    go_wp2_with fail
    have hw : IntKind.i64.wrap n = n := IntWalk.i64_in _ (by omega)
    have hw2 : IntKind.i64.wrap 3 = 3 := by decide
    refine wp_flow_lit 25 (fun w' => RowU w' (.slice (some ⟨W1.heap.size, 0, none⟩) 4 4) (bytes4 n) ∧ RowU w' (.slice (some ⟨W2.heap.size, 0, none⟩) 1 1) ((bytes4 n).drop 3) ∧ RowU w' (.slice A xs.length c) xs) [none, none, none, none, none, none, none, none, none, none, none, none, none, none, none, none, none, none, none, none, none, none, none, none, none]
      (by kernel_rfl) (by kernel_rfl) ⟨rp, rq, r3⟩ (fun w1 w2 h hb => ⟨h.1.below hb, h.2.1.below hb, h.2.2.below hb⟩) trivial ?_
    try simp only [specV, addF, Act.put, List.setIfInBounds_toArray, List.set_cons_zero, List.set_cons_succ, List.take_succ_cons, List.take_zero, List.drop_succ_cons, List.drop_zero]
    (apply Exists.intro; refine ⟨fun vs w1 hS hB hf => ?_, ?_⟩; (focus (clear hS hB hf; go_simp; first | exact ⟨Below.refl _ _, rfl⟩ | exact rfl)); try simp only [specV, addF, Act.put, List.setIfInBounds_toArray, List.set_cons_zero, List.set_cons_succ, List.take_succ_cons, List.take_zero, List.drop_succ_cons, List.drop_zero])
    (apply Exists.intro; refine ⟨fun vs w1 hS hB hf => ?_, ?_⟩; (focus (clear hS hB hf; go_simp; first | exact ⟨Below.refl _ _, rfl⟩ | exact rfl)); try simp only [specV, addF, Act.put, List.setIfInBounds_toArray, List.set_cons_zero, List.set_cons_succ, List.take_succ_cons, List.take_zero, List.drop_succ_cons, List.drop_zero])
    (apply Exists.intro; refine ⟨fun vs w1 hS hB hf => ?_, ?_⟩; (focus (clear hS hB hf; go_simp; first | exact ⟨Below.refl _ _, rfl⟩ | exact rfl)); try simp only [specV, addF, Act.put, List.setIfInBounds_toArray, List.set_cons_zero, List.set_cons_succ, List.take_succ_cons, List.take_zero, List.drop_succ_cons, List.drop_zero])
    (apply Exists.intro; refine ⟨fun vs w1 hS hB hf => ?_, ?_⟩; (focus (clear hS hB hf; go_simp; first | exact ⟨Below.refl _ _, rfl⟩ | exact rfl)); try simp only [specV, addF, Act.put, List.setIfInBounds_toArray, List.set_cons_zero, List.set_cons_succ, List.take_succ_cons, List.take_zero, List.drop_succ_cons, List.drop_zero])
    (apply Exists.intro; refine ⟨fun vs w1 hS hB hf => ?_, ?_⟩; (focus (clear hS hB hf; go_simp; first | exact ⟨Below.refl _ _, rfl⟩ | exact rfl)); try simp only [specV, addF, Act.put, List.setIfInBounds_toArray, List.set_cons_zero, List.set_cons_succ, List.take_succ_cons, List.take_zero, List.drop_succ_cons, List.drop_zero])
    (apply Exists.intro; refine ⟨fun vs w1 hS hB hf => ?_, ?_⟩; (focus (clear hS hB hf; go_simp; first | exact ⟨Below.refl _ _, rfl⟩ | exact rfl)); try simp only [specV, addF, Act.put, List.setIfInBounds_toArray, List.set_cons_zero, List.set_cons_succ, List.take_succ_cons, List.take_zero, List.drop_succ_cons, List.drop_zero])
    (apply Exists.intro; refine ⟨fun vs w1 hS hB hf => ?_, ?_⟩; (focus (clear hS hB hf; go_simp; first | exact ⟨Below.refl _ _, rfl⟩ | exact rfl)); try simp only [specV, addF, Act.put, List.setIfInBounds_toArray, List.set_cons_zero, List.set_cons_succ, List.take_succ_cons, List.take_zero, List.drop_succ_cons, List.drop_zero])
    (apply Exists.intro; refine ⟨fun vs w1 hS hB hf => ?_, ?_⟩; (focus (clear hS hB hf; go_simp; first | exact ⟨Below.refl _ _, rfl⟩ | exact rfl)); try simp only [specV, addF, Act.put, List.setIfInBounds_toArray, List.set_cons_zero, List.set_cons_succ, List.take_succ_cons, List.take_zero, List.drop_succ_cons, List.drop_zero])
    (apply Exists.intro; refine ⟨fun vs w1 hS hB hf => ?_, ?_⟩; (focus (clear hS hB hf; go_simp; first | exact ⟨Below.refl _ _, rfl⟩ | exact rfl)); try simp only [specV, addF, Act.put, List.setIfInBounds_toArray, List.set_cons_zero, List.set_cons_succ, List.take_succ_cons, List.take_zero, List.drop_succ_cons, List.drop_zero])
    (apply Exists.intro; refine ⟨fun vs w1 hS hB hf => ?_, ?_⟩; (focus (clear hS hB hf; go_simp; first | exact ⟨Below.refl _ _, rfl⟩ | exact rfl)); try simp only [specV, addF, Act.put, List.setIfInBounds_toArray, List.set_cons_zero, List.set_cons_succ, List.take_succ_cons, List.take_zero, List.drop_succ_cons, List.drop_zero])
    (apply Exists.intro; refine ⟨fun vs w1 hS hB hf => ?_, ?_⟩; (focus (clear hS hB hf; go_simp; first | exact ⟨Below.refl _ _, rfl⟩ | exact rfl)); try simp only [specV, addF, Act.put, List.setIfInBounds_toArray, List.set_cons_zero, List.set_cons_succ, List.take_succ_cons, List.take_zero, List.drop_succ_cons, List.drop_zero])
    (apply Exists.intro; refine ⟨fun vs w1 hS hB hf => ?_, ?_⟩; (focus (go_simp; exact (number_row _ _ w1 hS.1 (isB_bytes4 n) (by show (4 : Int) ≤ 4611686018427387904; decide)).mono fun e w2 ⟨he, hb⟩ => callPost.of (v := .int .i64 n) (by rw [he, hnb.out]) (by rw [← hb]; exact Below.refl _ _) rfl)); try simp only [specV, addF, Act.put, List.setIfInBounds_toArray, List.set_cons_zero, List.set_cons_succ, List.take_succ_cons, List.take_zero, List.drop_succ_cons, List.drop_zero])
    (apply Exists.intro; refine ⟨fun vs w1 hS hB hf => ?_, ?_⟩; (focus (clear hS hB hf; go_simp; first | exact ⟨Below.refl _ _, rfl⟩ | exact rfl)); try simp only [specV, addF, Act.put, List.setIfInBounds_toArray, List.set_cons_zero, List.set_cons_succ, List.take_succ_cons, List.take_zero, List.drop_succ_cons, List.drop_zero])
    (apply Exists.intro; refine ⟨fun vs w1 hS hB hf => ?_, ?_⟩; (focus (clear hS hB hf; go_simp; first | exact ⟨Below.refl _ _, rfl⟩ | exact rfl)); try simp only [specV, addF, Act.put, List.setIfInBounds_toArray, List.set_cons_zero, List.set_cons_succ, List.take_succ_cons, List.take_zero, List.drop_succ_cons, List.drop_zero])
    (apply Exists.intro; refine ⟨fun vs w1 hS hB hf => ?_, ?_⟩; (focus (clear hS hB hf; go_simp; first | exact ⟨Below.refl _ _, rfl⟩ | exact rfl)); try simp only [specV, addF, Act.put, List.setIfInBounds_toArray, List.set_cons_zero, List.set_cons_succ, List.take_succ_cons, List.take_zero, List.drop_succ_cons, List.drop_zero])
    (apply Exists.intro; refine ⟨fun vs w1 hS hB hf => ?_, ?_⟩; (focus (clear hS hB hf; go_simp; first | exact ⟨Below.refl _ _, rfl⟩ | exact rfl)); try simp only [specV, addF, Act.put, List.setIfInBounds_toArray, List.set_cons_zero, List.set_cons_succ, List.take_succ_cons, List.take_zero, List.drop_succ_cons, List.drop_zero])
    (apply Exists.intro; refine ⟨fun vs w1 hS hB hf => ?_, ?_⟩; (focus (clear hS hB hf; go_simp; first | exact ⟨Below.refl _ _, rfl⟩ | exact rfl)); try simp only [specV, addF, Act.put, List.setIfInBounds_toArray, List.set_cons_zero, List.set_cons_succ, List.take_succ_cons, List.take_zero, List.drop_succ_cons, List.drop_zero])
    (apply Exists.intro; refine ⟨fun vs w1 hS hB hf => ?_, ?_⟩; (focus (clear hS hB hf; go_simp; first | exact ⟨Below.refl _ _, rfl⟩ | exact rfl)); try simp only [specV, addF, Act.put, List.setIfInBounds_toArray, List.set_cons_zero, List.set_cons_succ, List.take_succ_cons, List.take_zero, List.drop_succ_cons, List.drop_zero])
    (apply Exists.intro; refine ⟨fun vs w1 hS hB hf => ?_, ?_⟩; (focus (have k2 : (convert 22 9 (.slice (some ⟨W2.heap.size, 0, none⟩) 1 1)).run Try.prog w1 = .ok (.string (strOfNums ((bytes4 n).drop 3))) w1 := hS.2.1.str; rw [← E1.out] at k2; clear hS hB hf; go_simp; first | exact ⟨Below.refl _ _, rfl⟩ | exact rfl)); try simp only [specV, addF, Act.put, List.setIfInBounds_toArray, List.set_cons_zero, List.set_cons_succ, List.take_succ_cons, List.take_zero, List.drop_succ_cons, List.drop_zero])
    (apply Exists.intro; refine ⟨fun vs w1 hS hB hf => ?_, ?_⟩; (focus (clear hS hB hf; go_simp; first | exact ⟨Below.refl _ _, rfl⟩ | exact rfl)); try simp only [specV, addF, Act.put, List.setIfInBounds_toArray, List.set_cons_zero, List.set_cons_succ, List.take_succ_cons, List.take_zero, List.drop_succ_cons, List.drop_zero])
    (apply Exists.intro; refine ⟨fun vs w1 hS hB hf => ?_, ?_⟩; (focus (clear hS hB hf; go_simp; first | exact ⟨Below.refl _ _, rfl⟩ | exact rfl)); try simp only [specV, addF, Act.put, List.setIfInBounds_toArray, List.set_cons_zero, List.set_cons_succ, List.take_succ_cons, List.take_zero, List.drop_succ_cons, List.drop_zero])
    (apply Exists.intro; refine ⟨fun vs w1 hS hB hf => ?_, ?_⟩; (focus (clear hS hB hf; go_simp; first | exact ⟨Below.refl _ _, rfl⟩ | exact rfl)); try simp only [specV, addF, Act.put, List.setIfInBounds_toArray, List.set_cons_zero, List.set_cons_succ, List.take_succ_cons, List.take_zero, List.drop_succ_cons, List.drop_zero])
    (apply Exists.intro; refine ⟨fun vs w1 hS hB hf => ?_, ?_⟩; (focus (clear hS hB hf; go_simp; first | exact ⟨Below.refl _ _, rfl⟩ | exact rfl)); try simp only [specV, addF, Act.put, List.setIfInBounds_toArray, List.set_cons_zero, List.set_cons_succ, List.take_succ_cons, List.take_zero, List.drop_succ_cons, List.drop_zero])
    (apply Exists.intro; refine ⟨fun vs w1 hS hB hf => ?_, ?_⟩; (focus (have k2 : (convert 22 9 (.slice (some ⟨W1.heap.size, 3, none⟩) 1 1)).run Try.prog w1 = .ok (.string (strOfNums ((bytes4 n).drop 3))) w1 := (RowU.drop hS.1 3 (by decide)).str; rw [← E1.out] at k2; clear hS hB hf; go_simp; first | exact ⟨Below.refl _ _, rfl⟩ | exact rfl)); try simp only [specV, addF, Act.put, List.setIfInBounds_toArray, List.set_cons_zero, List.set_cons_succ, List.take_succ_cons, List.take_zero, List.drop_succ_cons, List.drop_zero])
    (apply Exists.intro; refine ⟨fun vs w1 hS hB hf => ?_, ?_⟩; (focus (clear hS hB hf; go_simp; first | exact ⟨Below.refl _ _, rfl⟩ | exact rfl)); try simp only [specV, addF, Act.put, List.setIfInBounds_toArray, List.set_cons_zero, List.set_cons_succ, List.take_succ_cons, List.take_zero, List.drop_succ_cons, List.drop_zero])
    intro vs W5 hS hB _
    have HB5 : Below w.heap.size w W5 := below_then B3 B3.size hB
    have r5 := hS.2.2
    clear hS hB B3 rp rq r3 E1 hw hw2
    dsimp only
    have hl : (4 : Int) < xs.length ∨ (xs.length : Int) = 0 ∨ (1 ≤ xs.length ∧ xs.length ≤ 4) := by omega
    rcases hl with hl | hl | ⟨hl, hl4⟩
    · clear r5
      go_wp2
      go_ret
      exact ⟨rfl, HB5⟩
    · clear r5
      go_wp2
      go_ret
      exact ⟨rfl, HB5⟩
    · have hl' : (1 : Int) ≤ xs.length := by omega
      have hl4' : (xs.length : Int) ≤ 4 := by omega
      have hl0 : ((xs.length : Int) == 0) = false := by rw [beq_eq_false_iff_ne]; omega
      have HX := Lib.hid (bytes_num hx hl hl4)
      obtain ⟨s2, e2⟩ : ∃ s, s = strOfNums xs := ⟨_, rfl⟩
      have E2 := Lib.hid e2
      obtain ⟨M, hM⟩ : ∃ M, M = numT xs := ⟨_, rfl⟩
      have HM := Lib.hid hM
      clear e2 hM hl hl4
      go_wp2_with fail
      refine wp_flow_lit 12 (fun w' => RowU w' (.slice A xs.length c) xs) [none, none, none, none, none, none, some (RowS xs), none, none, none, none, none]
        (by kernel_rfl) (by kernel_rfl) r5 (fun w1 w2 h hb => h.below hb) ⟨rowS_stab _, trivial⟩ ?_
      try simp only [specV, addF, Act.put, List.setIfInBounds_toArray, List.set_cons_zero, List.set_cons_succ, List.take_succ_cons, List.take_zero, List.drop_succ_cons, List.drop_zero]
      (apply Exists.intro; refine ⟨fun vs w1 hS hB hf => ?_, ?_⟩; (focus (clear hS hB hf; go_simp; first | exact ⟨Below.refl _ _, rfl⟩ | exact rfl)); try simp only [specV, addF, Act.put, List.setIfInBounds_toArray, List.set_cons_zero, List.set_cons_succ, List.take_succ_cons, List.take_zero, List.drop_succ_cons, List.drop_zero])
      (apply Exists.intro; refine ⟨fun vs w1 hS hB hf => ?_, ?_⟩; (focus (clear hS hB hf; go_simp; first | exact ⟨Below.refl _ _, rfl⟩ | exact rfl)); try simp only [specV, addF, Act.put, List.setIfInBounds_toArray, List.set_cons_zero, List.set_cons_succ, List.take_succ_cons, List.take_zero, List.drop_succ_cons, List.drop_zero])
      (apply Exists.intro; refine ⟨fun vs w1 hS hB hf => ?_, ?_⟩; (focus (clear hS hB hf; go_simp; first | exact ⟨Below.refl _ _, rfl⟩ | exact rfl)); try simp only [specV, addF, Act.put, List.setIfInBounds_toArray, List.set_cons_zero, List.set_cons_succ, List.take_succ_cons, List.take_zero, List.drop_succ_cons, List.drop_zero])
      (apply Exists.intro; refine ⟨fun vs w1 hS hB hf => ?_, ?_⟩; (focus (go_simp; exact (number_row _ _ w1 hS hx (by omega)).mono fun e w2 ⟨he, hb⟩ => callPost.of (v := .int .i64 M) (by rw [he, HM.out]) (by rw [← hb]; exact Below.refl _ _) rfl)); try simp only [specV, addF, Act.put, List.setIfInBounds_toArray, List.set_cons_zero, List.set_cons_succ, List.take_succ_cons, List.take_zero, List.drop_succ_cons, List.drop_zero])
      (apply Exists.intro; refine ⟨fun vs w1 hS hB hf => ?_, ?_⟩; (focus (clear hS hB hf; go_simp; first | exact ⟨Below.refl _ _, rfl⟩ | exact rfl)); try simp only [specV, addF, Act.put, List.setIfInBounds_toArray, List.set_cons_zero, List.set_cons_succ, List.take_succ_cons, List.take_zero, List.drop_succ_cons, List.drop_zero])
      (apply Exists.intro; refine ⟨fun vs w1 hS hB hf => ?_, ?_⟩; (focus (clear hS hB hf; go_simp; first | exact ⟨Below.refl _ _, rfl⟩ | exact rfl)); try simp only [specV, addF, Act.put, List.setIfInBounds_toArray, List.set_cons_zero, List.set_cons_succ, List.take_succ_cons, List.take_zero, List.drop_succ_cons, List.drop_zero])
      (refine ⟨fun vs w1 hS hB hf => ?_, ?_⟩; (focus (go_simp; exact (bytes_all M (xs.length : Int) w1).mono fun e w2 ⟨v, he, ho, hb⟩ => callPost.of he hb (by rw [HM.out, HX.out] at ho; exact ho))); try simp only [specV, addF, Act.put, List.setIfInBounds_toArray, List.set_cons_zero, List.set_cons_succ, List.take_succ_cons, List.take_zero, List.drop_succ_cons, List.drop_zero])
      (apply Exists.intro; refine ⟨fun vs w1 hS hB hf => ?_, ?_⟩; (focus (obtain ⟨h6, _⟩ := hf; have r6 : RowU w1 (vs 6) xs := h6 rfl; obtain ⟨A2, c2, hv2, r2, _⟩ := r6; have k2 := run_str (P := Try.prog) Try.underlying22 Try.underlying5 Try.underlying9 c2 rfl r2; rw [← E2.out] at k2; clear hS hB h6; simp only [Nat.zero_add, Nat.reduceAdd, hv2]; go_simp; first | exact ⟨Below.refl _ _, rfl⟩ | exact rfl)); try simp only [specV, addF, Act.put, List.setIfInBounds_toArray, List.set_cons_zero, List.set_cons_succ, List.take_succ_cons, List.take_zero, List.drop_succ_cons, List.drop_zero])
      (apply Exists.intro; refine ⟨fun vs w1 hS hB hf => ?_, ?_⟩; (focus (clear hS hB hf; go_simp; first | exact ⟨Below.refl _ _, rfl⟩ | exact rfl)); try simp only [specV, addF, Act.put, List.setIfInBounds_toArray, List.set_cons_zero, List.set_cons_succ, List.take_succ_cons, List.take_zero, List.drop_succ_cons, List.drop_zero])
      (apply Exists.intro; refine ⟨fun vs w1 hS hB hf => ?_, ?_⟩; (focus (have k2 := RowU.str hS; rw [← E2.out] at k2; clear hS hB hf; go_simp; first | exact ⟨Below.refl _ _, rfl⟩ | exact rfl)); try simp only [specV, addF, Act.put, List.setIfInBounds_toArray, List.set_cons_zero, List.set_cons_succ, List.take_succ_cons, List.take_zero, List.drop_succ_cons, List.drop_zero])
      (apply Exists.intro; refine ⟨fun vs w1 hS hB hf => ?_, ?_⟩; (focus (clear hS hB hf; go_simp; first | exact ⟨Below.refl _ _, rfl⟩ | exact rfl)); try simp only [specV, addF, Act.put, List.setIfInBounds_toArray, List.set_cons_zero, List.set_cons_succ, List.take_succ_cons, List.take_zero, List.drop_succ_cons, List.drop_zero])
      (apply Exists.intro; refine ⟨fun vs w1 hS hB hf => ?_, ?_⟩; (focus (clear hS hB hf; go_simp; first | exact ⟨Below.refl _ _, rfl⟩ | exact rfl)); try simp only [specV, addF, Act.put, List.setIfInBounds_toArray, List.set_cons_zero, List.set_cons_succ, List.take_succ_cons, List.take_zero, List.drop_succ_cons, List.drop_zero])
      intro vs W6 hS hB _
      have HB6 : Below w.heap.size w W6 := below_then HB5 HB5.size hB
      clear hS hB HB5
      dsimp only
      go_wp2
      go_ret
      exact ⟨rfl, HB6⟩
  · go_enter Try.func7, Try.ntmps7
    go_wp2_with fail
    refine (head20_true _).mono ?_
    rintro e W1 ⟨rfl, B1⟩
    have r1 := Lib.hid (r0.out.below B1)
    clear r0
    go_wp2_with fail
    refine (bytes_4 n _).mono ?_
    rintro e W2 ⟨rfl, bp, b2⟩
    have rp : RowU W2 (.slice (some ⟨W1.heap.size, 0, none⟩) 4 4) (bytes4 n) := RowU.blk bp
    have r2 := Lib.hid (r1.out.below b2)
    have B2 := below_then B1 B1.size b2
    clear B1 b2 bp r1
    go_wp2_with fail
    refine (bytes_2 n _).mono ?_
    rintro e W3 ⟨rfl, bq, b3⟩
    have rq : RowU W3 (.slice (some ⟨W2.heap.size, 0, none⟩) 2 2) ((bytes4 n).drop 2) := RowU.blk bq
    have rp := rp.below b3
    have r3 := r2.out.below b3
    have B3 := below_then B2 B2.size b3
    clear B2 b3 bq r2
    obtain ⟨s1, e1⟩ : ∃ s, s = strOfNums ((bytes4 n).drop 2) := ⟨_, rfl⟩
    have E1 := Lib.hid e1
    clear e1
    go_wp2_with fail
    have hw : IntKind.i64.wrap n = n := IntWalk.i64_in _ (by omega)
    have hw2 : IntKind.i64.wrap 2 = 2 := by decide
    refine wp_flow_lit 25 (fun w' => RowU w' (.slice (some ⟨W1.heap.size, 0, none⟩) 4 4) (bytes4 n) ∧ RowU w' (.slice (some ⟨W2.heap.size, 0, none⟩) 2 2) ((bytes4 n).drop 2) ∧ RowU w' (.slice A xs.length c) xs) [none, none, none, none, none, none, none, none, none, none, none, none, none, none, none, none, none, none, none, none, none, none, none, none, none]
      (by kernel_rfl) (by kernel_rfl) ⟨rp, rq, r3⟩ (fun w1 w2 h hb => ⟨h.1.below hb, h.2.1.below hb, h.2.2.below hb⟩) trivial ?_
    try simp only [specV, addF, Act.put, List.setIfInBounds_toArray, List.set_cons_zero, List.set_cons_succ, List.take_succ_cons, List.take_zero, List.drop_succ_cons, List.drop_zero]
    (apply Exists.intro; refine ⟨fun vs w1 hS hB hf => ?_, ?_⟩; (focus (clear hS hB hf; go_simp; first | exact ⟨Below.refl _ _, rfl⟩ | exact rfl)); try simp only [specV, addF, Act.put, List.setIfInBounds_toArray, List.set_cons_zero, List.set_cons_succ, List.take_succ_cons, List.take_zero, List.drop_succ_cons, List.drop_zero])
    (apply Exists.intro; refine ⟨fun vs w1 hS hB hf => ?_, ?_⟩; (focus (clear hS hB hf; go_simp; first | exact ⟨Below.refl _ _, rfl⟩ | exact rfl)); try simp only [specV, addF, Act.put, List.setIfInBounds_toArray, List.set_cons_zero, List.set_cons_succ, List.take_succ_cons, List.take_zero, List.drop_succ_cons, List.drop_zero])
    (apply Exists.intro; refine ⟨fun vs w1 hS hB hf => ?_, ?_⟩; (focus (clear hS hB hf; go_simp; first | exact ⟨Below.refl _ _, rfl⟩ | exact rfl)); try simp only [specV, addF, Act.put, List.setIfInBounds_toArray, List.set_cons_zero, List.set_cons_succ, List.take_succ_cons, List.take_zero, List.drop_succ_cons, List.drop_zero])
    (apply Exists.intro; refine ⟨fun vs w1 hS hB hf => ?_, ?_⟩; (focus (clear hS hB hf; go_simp; first | exact ⟨Below.refl _ _, rfl⟩ | exact rfl)); try simp only [specV, addF, Act.put, List.setIfInBounds_toArray, List.set_cons_zero, List.set_cons_succ, List.take_succ_cons, List.take_zero, List.drop_succ_cons, List.drop_zero])
    (apply Exists.intro; refine ⟨fun vs w1 hS hB hf => ?_, ?_⟩; (focus (clear hS hB hf; go_simp; first | exact ⟨Below.refl _ _, rfl⟩ | exact rfl)); try simp only [specV, addF, Act.put, List.setIfInBounds_toArray, List.set_cons_zero, List.set_cons_succ, List.take_succ_cons, List.take_zero, List.drop_succ_cons, List.drop_zero])
    (apply Exists.intro; refine ⟨fun vs w1 hS hB hf => ?_, ?_⟩; (focus (clear hS hB hf; go_simp; first | exact ⟨Below.refl _ _, rfl⟩ | exact rfl)); try simp only [specV, addF, Act.put, List.setIfInBounds_toArray, List.set_cons_zero, List.set_cons_succ, List.take_succ_cons, List.take_zero, List.drop_succ_cons, List.drop_zero])
    (apply Exists.intro; refine ⟨fun vs w1 hS hB hf => ?_, ?_⟩; (focus (clear hS hB hf; go_simp; first | exact ⟨Below.refl _ _, rfl⟩ | exact rfl)); try simp only [specV, addF, Act.put, List.setIfInBounds_toArray, List.set_cons_zero, List.set_cons_succ, List.take_succ_cons, List.take_zero, List.drop_succ_cons, List.drop_zero])
    (apply Exists.intro; refine ⟨fun vs w1 hS hB hf => ?_, ?_⟩; (focus (clear hS hB hf; go_simp; first | exact ⟨Below.refl _ _, rfl⟩ | exact rfl)); try simp only [specV, addF, Act.put, List.setIfInBounds_toArray, List.set_cons_zero, List.set_cons_succ, List.take_succ_cons, List.take_zero, List.drop_succ_cons, List.drop_zero])
    (apply Exists.intro; refine ⟨fun vs w1 hS hB hf => ?_, ?_⟩; (focus (clear hS hB hf; go_simp; first | exact ⟨Below.refl _ _, rfl⟩ | exact rfl)); try simp only [specV, addF, Act.put, List.setIfInBounds_toArray, List.set_cons_zero, List.set_cons_succ, List.take_succ_cons, List.take_zero, List.drop_succ_cons, List.drop_zero])
    (apply Exists.intro; refine ⟨fun vs w1 hS hB hf => ?_, ?_⟩; (focus (clear hS hB hf; go_simp; first | exact ⟨Below.refl _ _, rfl⟩ | exact rfl)); try simp only [specV, addF, Act.put, List.setIfInBounds_toArray, List.set_cons_zero, List.set_cons_succ, List.take_succ_cons, List.take_zero, List.drop_succ_cons, List.drop_zero])
    (apply Exists.intro; refine ⟨fun vs w1 hS hB hf => ?_, ?_⟩; (focus (clear hS hB hf; go_simp; first | exact ⟨Below.refl _ _, rfl⟩ | exact rfl)); try simp only [specV, addF, Act.put, List.setIfInBounds_toArray, List.set_cons_zero, List.set_cons_succ, List.take_succ_cons, List.take_zero, List.drop_succ_cons, List.drop_zero])
    (apply Exists.intro; refine ⟨fun vs w1 hS hB hf => ?_, ?_⟩; (focus (go_simp; exact (number_row _ _ w1 hS.1 (isB_bytes4 n) (by show (4 : Int) ≤ 4611686018427387904; decide)).mono fun e w2 ⟨he, hb⟩ => callPost.of (v := .int .i64 n) (by rw [he, hnb.out]) (by rw [← hb]; exact Below.refl _ _) rfl)); try simp only [specV, addF, Act.put, List.setIfInBounds_toArray, List.set_cons_zero, List.set_cons_succ, List.take_succ_cons, List.take_zero, List.drop_succ_cons, List.drop_zero])
    (apply Exists.intro; refine ⟨fun vs w1 hS hB hf => ?_, ?_⟩; (focus (clear hS hB hf; go_simp; first | exact ⟨Below.refl _ _, rfl⟩ | exact rfl)); try simp only [specV, addF, Act.put, List.setIfInBounds_toArray, List.set_cons_zero, List.set_cons_succ, List.take_succ_cons, List.take_zero, List.drop_succ_cons, List.drop_zero])
    (apply Exists.intro; refine ⟨fun vs w1 hS hB hf => ?_, ?_⟩; (focus (clear hS hB hf; go_simp; first | exact ⟨Below.refl _ _, rfl⟩ | exact rfl)); try simp only [specV, addF, Act.put, List.setIfInBounds_toArray, List.set_cons_zero, List.set_cons_succ, List.take_succ_cons, List.take_zero, List.drop_succ_cons, List.drop_zero])
    (apply Exists.intro; refine ⟨fun vs w1 hS hB hf => ?_, ?_⟩; (focus (clear hS hB hf; go_simp; first | exact ⟨Below.refl _ _, rfl⟩ | exact rfl)); try simp only [specV, addF, Act.put, List.setIfInBounds_toArray, List.set_cons_zero, List.set_cons_succ, List.take_succ_cons, List.take_zero, List.drop_succ_cons, List.drop_zero])
    (apply Exists.intro; refine ⟨fun vs w1 hS hB hf => ?_, ?_⟩; (focus (clear hS hB hf; go_simp; first | exact ⟨Below.refl _ _, rfl⟩ | exact rfl)); try simp only [specV, addF, Act.put, List.setIfInBounds_toArray, List.set_cons_zero, List.set_cons_succ, List.take_succ_cons, List.take_zero, List.drop_succ_cons, List.drop_zero])
    (apply Exists.intro; refine ⟨fun vs w1 hS hB hf => ?_, ?_⟩; (focus (clear hS hB hf; go_simp; first | exact ⟨Below.refl _ _, rfl⟩ | exact rfl)); try simp only [specV, addF, Act.put, List.setIfInBounds_toArray, List.set_cons_zero, List.set_cons_succ, List.take_succ_cons, List.take_zero, List.drop_succ_cons, List.drop_zero])
    (apply Exists.intro; refine ⟨fun vs w1 hS hB hf => ?_, ?_⟩; (focus (clear hS hB hf; go_simp; first | exact ⟨Below.refl _ _, rfl⟩ | exact rfl)); try simp only [specV, addF, Act.put, List.setIfInBounds_toArray, List.set_cons_zero, List.set_cons_succ, List.take_succ_cons, List.take_zero, List.drop_succ_cons, List.drop_zero])
    (apply Exists.intro; refine ⟨fun vs w1 hS hB hf => ?_, ?_⟩; (focus (have k2 : (convert 22 9 (.slice (some ⟨W2.heap.size, 0, none⟩) 2 2)).run Try.prog w1 = .ok (.string (strOfNums ((bytes4 n).drop 2))) w1 := hS.2.1.str; rw [← E1.out] at k2; clear hS hB hf; go_simp; first | exact ⟨Below.refl _ _, rfl⟩ | exact rfl)); try simp only [specV, addF, Act.put, List.setIfInBounds_toArray, List.set_cons_zero, List.set_cons_succ, List.take_succ_cons, List.take_zero, List.drop_succ_cons, List.drop_zero])
    (apply Exists.intro; refine ⟨fun vs w1 hS hB hf => ?_, ?_⟩; (focus (clear hS hB hf; go_simp; first | exact ⟨Below.refl _ _, rfl⟩ | exact rfl)); try simp only [specV, addF, Act.put, List.setIfInBounds_toArray, List.set_cons_zero, List.set_cons_succ, List.take_succ_cons, List.take_zero, List.drop_succ_cons, List.drop_zero])
    (apply Exists.intro; refine ⟨fun vs w1 hS hB hf => ?_, ?_⟩; (focus (clear hS hB hf; go_simp; first | exact ⟨Below.refl _ _, rfl⟩ | exact rfl)); try simp only [specV, addF, Act.put, List.setIfInBounds_toArray, List.set_cons_zero, List.set_cons_succ, List.take_succ_cons, List.take_zero, List.drop_succ_cons, List.drop_zero])
    (apply Exists.intro; refine ⟨fun vs w1 hS hB hf => ?_, ?_⟩; (focus (clear hS hB hf; go_simp; first | exact ⟨Below.refl _ _, rfl⟩ | exact rfl)); try simp only [specV, addF, Act.put, List.setIfInBounds_toArray, List.set_cons_zero, List.set_cons_succ, List.take_succ_cons, List.take_zero, List.drop_succ_cons, List.drop_zero])
    (apply Exists.intro; refine ⟨fun vs w1 hS hB hf => ?_, ?_⟩; (focus (clear hS hB hf; go_simp; first | exact ⟨Below.refl _ _, rfl⟩ | exact rfl)); try simp only [specV, addF, Act.put, List.setIfInBounds_toArray, List.set_cons_zero, List.set_cons_succ, List.take_succ_cons, List.take_zero, List.drop_succ_cons, List.drop_zero])
    (apply Exists.intro; refine ⟨fun vs w1 hS hB hf => ?_, ?_⟩; (focus (have k2 : (convert 22 9 (.slice (some ⟨W1.heap.size, 2, none⟩) 2 2)).run Try.prog w1 = .ok (.string (strOfNums ((bytes4 n).drop 2))) w1 := (RowU.drop hS.1 2 (by decide)).str; rw [← E1.out] at k2; clear hS hB hf; go_simp; first | exact ⟨Below.refl _ _, rfl⟩ | exact rfl)); try simp only [specV, addF, Act.put, List.setIfInBounds_toArray, List.set_cons_zero, List.set_cons_succ, List.take_succ_cons, List.take_zero, List.drop_succ_cons, List.drop_zero])
    (apply Exists.intro; refine ⟨fun vs w1 hS hB hf => ?_, ?_⟩; (focus (clear hS hB hf; go_simp; first | exact ⟨Below.refl _ _, rfl⟩ | exact rfl)); try simp only [specV, addF, Act.put, List.setIfInBounds_toArray, List.set_cons_zero, List.set_cons_succ, List.take_succ_cons, List.take_zero, List.drop_succ_cons, List.drop_zero])
    intro vs W5 hS hB _
    have HB5 : Below w.heap.size w W5 := below_then B3 B3.size hB
    have r5 := hS.2.2
    clear hS hB B3 rp rq r3 E1 hw hw2
    dsimp only
    have hl : (4 : Int) < xs.length ∨ (xs.length : Int) = 0 ∨ (1 ≤ xs.length ∧ xs.length ≤ 4) := by omega
    rcases hl with hl | hl | ⟨hl, hl4⟩
    · clear r5
      go_wp2
      go_ret
      exact ⟨rfl, HB5⟩
    · clear r5
      go_wp2
      go_ret
      exact ⟨rfl, HB5⟩
    · have hl' : (1 : Int) ≤ xs.length := by omega
      have hl4' : (xs.length : Int) ≤ 4 := by omega
      have hl0 : ((xs.length : Int) == 0) = false := by rw [beq_eq_false_iff_ne]; omega
      have HX := Lib.hid (bytes_num hx hl hl4)
      obtain ⟨s2, e2⟩ : ∃ s, s = strOfNums xs := ⟨_, rfl⟩
      have E2 := Lib.hid e2
      obtain ⟨M, hM⟩ : ∃ M, M = numT xs := ⟨_, rfl⟩
      have HM := Lib.hid hM
      clear e2 hM hl hl4
      go_wp2_with fail
      refine wp_flow_lit 12 (fun w' => RowU w' (.slice A xs.length c) xs) [none, none, none, none, none, none, some (RowS xs), none, none, none, none, none]
        (by kernel_rfl) (by kernel_rfl) r5 (fun w1 w2 h hb => h.below hb) ⟨rowS_stab _, trivial⟩ ?_
      try simp only [specV, addF, Act.put, List.setIfInBounds_toArray, List.set_cons_zero, List.set_cons_succ, List.take_succ_cons, List.take_zero, List.drop_succ_cons, List.drop_zero]
      (apply Exists.intro; refine ⟨fun vs w1 hS hB hf => ?_, ?_⟩; (focus (clear hS hB hf; go_simp; first | exact ⟨Below.refl _ _, rfl⟩ | exact rfl)); try simp only [specV, addF, Act.put, List.setIfInBounds_toArray, List.set_cons_zero, List.set_cons_succ, List.take_succ_cons, List.take_zero, List.drop_succ_cons, List.drop_zero])
      (apply Exists.intro; refine ⟨fun vs w1 hS hB hf => ?_, ?_⟩; (focus (clear hS hB hf; go_simp; first | exact ⟨Below.refl _ _, rfl⟩ | exact rfl)); try simp only [specV, addF, Act.put, List.setIfInBounds_toArray, List.set_cons_zero, List.set_cons_succ, List.take_succ_cons, List.take_zero, List.drop_succ_cons, List.drop_zero])
      (apply Exists.intro; refine ⟨fun vs w1 hS hB hf => ?_, ?_⟩; (focus (clear hS hB hf; go_simp; first | exact ⟨Below.refl _ _, rfl⟩ | exact rfl)); try simp only [specV, addF, Act.put, List.setIfInBounds_toArray, List.set_cons_zero, List.set_cons_succ, List.take_succ_cons, List.take_zero, List.drop_succ_cons, List.drop_zero])
      (apply Exists.intro; refine ⟨fun vs w1 hS hB hf => ?_, ?_⟩; (focus (go_simp; exact (number_row _ _ w1 hS hx (by omega)).mono fun e w2 ⟨he, hb⟩ => callPost.of (v := .int .i64 M) (by rw [he, HM.out]) (by rw [← hb]; exact Below.refl _ _) rfl)); try simp only [specV, addF, Act.put, List.setIfInBounds_toArray, List.set_cons_zero, List.set_cons_succ, List.take_succ_cons, List.take_zero, List.drop_succ_cons, List.drop_zero])
      (apply Exists.intro; refine ⟨fun vs w1 hS hB hf => ?_, ?_⟩; (focus (clear hS hB hf; go_simp; first | exact ⟨Below.refl _ _, rfl⟩ | exact rfl)); try simp only [specV, addF, Act.put, List.setIfInBounds_toArray, List.set_cons_zero, List.set_cons_succ, List.take_succ_cons, List.take_zero, List.drop_succ_cons, List.drop_zero])
      (apply Exists.intro; refine ⟨fun vs w1 hS hB hf => ?_, ?_⟩; (focus (clear hS hB hf; go_simp; first | exact ⟨Below.refl _ _, rfl⟩ | exact rfl)); try simp only [specV, addF, Act.put, List.setIfInBounds_toArray, List.set_cons_zero, List.set_cons_succ, List.take_succ_cons, List.take_zero, List.drop_succ_cons, List.drop_zero])
      (refine ⟨fun vs w1 hS hB hf => ?_, ?_⟩; (focus (go_simp; exact (bytes_all M (xs.length : Int) w1).mono fun e w2 ⟨v, he, ho, hb⟩ => callPost.of he hb (by rw [HM.out, HX.out] at ho; exact ho))); try simp only [specV, addF, Act.put, List.setIfInBounds_toArray, List.set_cons_zero, List.set_cons_succ, List.take_succ_cons, List.take_zero, List.drop_succ_cons, List.drop_zero])
      (apply Exists.intro; refine ⟨fun vs w1 hS hB hf => ?_, ?_⟩; (focus (obtain ⟨h6, _⟩ := hf; have r6 : RowU w1 (vs 6) xs := h6 rfl; obtain ⟨A2, c2, hv2, r2, _⟩ := r6; have k2 := run_str (P := Try.prog) Try.underlying22 Try.underlying5 Try.underlying9 c2 rfl r2; rw [← E2.out] at k2; clear hS hB h6; simp only [Nat.zero_add, Nat.reduceAdd, hv2]; go_simp; first | exact ⟨Below.refl _ _, rfl⟩ | exact rfl)); try simp only [specV, addF, Act.put, List.setIfInBounds_toArray, List.set_cons_zero, List.set_cons_succ, List.take_succ_cons, List.take_zero, List.drop_succ_cons, List.drop_zero])
      (apply Exists.intro; refine ⟨fun vs w1 hS hB hf => ?_, ?_⟩; (focus (clear hS hB hf; go_simp; first | exact ⟨Below.refl _ _, rfl⟩ | exact rfl)); try simp only [specV, addF, Act.put, List.setIfInBounds_toArray, List.set_cons_zero, List.set_cons_succ, List.take_succ_cons, List.take_zero, List.drop_succ_cons, List.drop_zero])
      (apply Exists.intro; refine ⟨fun vs w1 hS hB hf => ?_, ?_⟩; (focus (have k2 := RowU.str hS; rw [← E2.out] at k2; clear hS hB hf; go_simp; first | exact ⟨Below.refl _ _, rfl⟩ | exact rfl)); try simp only [specV, addF, Act.put, List.setIfInBounds_toArray, List.set_cons_zero, List.set_cons_succ, List.take_succ_cons, List.take_zero, List.drop_succ_cons, List.drop_zero])
      (apply Exists.intro; refine ⟨fun vs w1 hS hB hf => ?_, ?_⟩; (focus (clear hS hB hf; go_simp; first | exact ⟨Below.refl _ _, rfl⟩ | exact rfl)); try simp only [specV, addF, Act.put, List.setIfInBounds_toArray, List.set_cons_zero, List.set_cons_succ, List.take_succ_cons, List.take_zero, List.drop_succ_cons, List.drop_zero])
      (apply Exists.intro; refine ⟨fun vs w1 hS hB hf => ?_, ?_⟩; (focus (clear hS hB hf; go_simp; first | exact ⟨Below.refl _ _, rfl⟩ | exact rfl)); try simp only [specV, addF, Act.put, List.setIfInBounds_toArray, List.set_cons_zero, List.set_cons_succ, List.take_succ_cons, List.take_zero, List.drop_succ_cons, List.drop_zero])
      intro vs W6 hS hB _
      have HB6 : Below w.heap.size w W6 := below_then HB5 HB5.size hB
      clear hS hB HB5
      dsimp only
      go_wp2
      go_ret
      exact ⟨rfl, HB6⟩
  · go_enter Try.func7, Try.ntmps7
    go_wp2_with fail
    refine (head20_true _).mono ?_
    rintro e W1 ⟨rfl, B1⟩
    have r1 := Lib.hid (r0.out.below B1)
    clear r0
    go_wp2_with fail
    refine (bytes_4 n _).mono ?_
    rintro e W2 ⟨rfl, bp, b2⟩
    have rp : RowU W2 (.slice (some ⟨W1.heap.size, 0, none⟩) 4 4) (bytes4 n) := RowU.blk bp
    have r2 := Lib.hid (r1.out.below b2)
    have B2 := below_then B1 B1.size b2
    clear B1 b2 bp r1
    go_wp2_with fail
    refine (bytes_3 n _).mono ?_
    rintro e W3 ⟨rfl, bq, b3⟩
    have rq : RowU W3 (.slice (some ⟨W2.heap.size, 0, none⟩) 3 3) ((bytes4 n).drop 1) := RowU.blk bq
    have rp := rp.below b3
    have r3 := r2.out.below b3
    have B3 := below_then B2 B2.size b3
    clear B2 b3 bq r2
    obtain ⟨s1, e1⟩ : ∃ s, s = strOfNums ((bytes4 n).drop 1) := ⟨_, rfl⟩
    have E1 := Lib.hid e1
    clear e1
    go_wp2_with fail
    have hw : IntKind.i64.wrap n = n := IntWalk.i64_in _ (by omega)
    have hw2 : IntKind.i64.wrap 1 = 1 := by decide
    refine wp_flow_lit 25 (fun w' => RowU w' (.slice (some ⟨W1.heap.size, 0, none⟩) 4 4) (bytes4 n) ∧ RowU w' (.slice (some ⟨W2.heap.size, 0, none⟩) 3 3) ((bytes4 n).drop 1) ∧ RowU w' (.slice A xs.length c) xs) [none, none, none, none, none, none, none, none, none, none, none, none, none, none, none, none, none, none, none, none, none, none, none, none, none]
      (by kernel_rfl) (by kernel_rfl) ⟨rp, rq, r3⟩ (fun w1 w2 h hb => ⟨h.1.below hb, h.2.1.below hb, h.2.2.below hb⟩) trivial ?_
    try simp only [specV, addF, Act.put, List.setIfInBounds_toArray, List.set_cons_zero, List.set_cons_succ, List.take_succ_cons, List.take_zero, List.drop_succ_cons, List.drop_zero]
    (apply Exists.intro; refine ⟨fun vs w1 hS hB hf => ?_, ?_⟩; (focus (clear hS hB hf; go_simp; first | exact ⟨Below.refl _ _, rfl⟩ | exact rfl)); try simp only [specV, addF, Act.put, List.setIfInBounds_toArray, List.set_cons_zero, List.set_cons_succ, List.take_succ_cons, List.take_zero, List.drop_succ_cons, List.drop_zero])
    (apply Exists.intro; refine ⟨fun vs w1 hS hB hf => ?_, ?_⟩; (focus (clear hS hB hf; go_simp; first | exact ⟨Below.refl _ _, rfl⟩ | exact rfl)); try simp only [specV, addF, Act.put, List.setIfInBounds_toArray, List.set_cons_zero, List.set_cons_succ, List.take_succ_cons, List.take_zero, List.drop_succ_cons, List.drop_zero])
    (apply Exists.intro; refine ⟨fun vs w1 hS hB hf => ?_, ?_⟩; (focus (clear hS hB hf; go_simp; first | exact ⟨Below.refl _ _, rfl⟩ | exact rfl)); try simp only [specV, addF, Act.put, List.setIfInBounds_toArray, List.set_cons_zero, List.set_cons_succ, List.take_succ_cons, List.take_zero, List.drop_succ_cons, List.drop_zero])
    (apply Exists.intro; refine ⟨fun vs w1 hS hB hf => ?_, ?_⟩; (focus (clear hS hB hf; go_simp; first | exact ⟨Below.refl _ _, rfl⟩ | exact rfl)); try simp only [specV, addF, Act.put, List.setIfInBounds_toArray, List.set_cons_zero, List.set_cons_succ, List.take_succ_cons, List.take_zero, List.drop_succ_cons, List.drop_zero])
    (apply Exists.intro; refine ⟨fun vs w1 hS hB hf => ?_, ?_⟩; (focus (clear hS hB hf; go_simp; first | exact ⟨Below.refl _ _, rfl⟩ | exact rfl)); try simp only [specV, addF, Act.put, List.setIfInBounds_toArray, List.set_cons_zero, List.set_cons_succ, List.take_succ_cons, List.take_zero, List.drop_succ_cons, List.drop_zero])
    (apply Exists.intro; refine ⟨fun vs w1 hS hB hf => ?_, ?_⟩; (focus (clear hS hB hf; go_simp; first | exact ⟨Below.refl _ _, rfl⟩ | exact rfl)); try simp only [specV, addF, Act.put, List.setIfInBounds_toArray, List.set_cons_zero, List.set_cons_succ, List.take_succ_cons, List.take_zero, List.drop_succ_cons, List.drop_zero])
    (apply Exists.intro; refine ⟨fun vs w1 hS hB hf => ?_, ?_⟩; (focus (clear hS hB hf; go_simp; first | exact ⟨Below.refl _ _, rfl⟩ | exact rfl)); try simp only [specV, addF, Act.put, List.setIfInBounds_toArray, List.set_cons_zero, List.set_cons_succ, List.take_succ_cons, List.take_zero, List.drop_succ_cons, List.drop_zero])
    (apply Exists.intro; refine ⟨fun vs w1 hS hB hf => ?_, ?_⟩; (focus (clear hS hB hf; go_simp; first | exact ⟨Below.refl _ _, rfl⟩ | exact rfl)); try simp only [specV, addF, Act.put, List.setIfInBounds_toArray, List.set_cons_zero, List.set_cons_succ, List.take_succ_cons, List.take_zero, List.drop_succ_cons, List.drop_zero])
    (apply Exists.intro; refine ⟨fun vs w1 hS hB hf => ?_, ?_⟩; (focus (clear hS hB hf; go_simp; first | exact ⟨Below.refl _ _, rfl⟩ | exact rfl)); try simp only [specV, addF, Act.put, List.setIfInBounds_toArray, List.set_cons_zero, List.set_cons_succ, List.take_succ_cons, List.take_zero, List.drop_succ_cons, List.drop_zero])
    (apply Exists.intro; refine ⟨fun vs w1 hS hB hf => ?_, ?_⟩; (focus (clear hS hB hf; go_simp; first | exact ⟨Below.refl _ _, rfl⟩ | exact rfl)); try simp only [specV, addF, Act.put, List.setIfInBounds_toArray, List.set_cons_zero, List.set_cons_succ, List.take_succ_cons, List.take_zero, List.drop_succ_cons, List.drop_zero])
    (apply Exists.intro; refine ⟨fun vs w1 hS hB hf => ?_, ?_⟩; (focus (clear hS hB hf; go_simp; first | exact ⟨Below.refl _ _, rfl⟩ | exact rfl)); try simp only [specV, addF, Act.put, List.setIfInBounds_toArray, List.set_cons_zero, List.set_cons_succ, List.take_succ_cons, List.take_zero, List.drop_succ_cons, List.drop_zero])
    (apply Exists.intro; refine ⟨fun vs w1 hS hB hf => ?_, ?_⟩; (focus (go_simp; exact (number_row _ _ w1 hS.1 (isB_bytes4 n) (by show (4 : Int) ≤ 4611686018427387904; decide)).mono fun e w2 ⟨he, hb⟩ => callPost.of (v := .int .i64 n) (by rw [he, hnb.out]) (by rw [← hb]; exact Below.refl _ _) rfl)); try simp only [specV, addF, Act.put, List.setIfInBounds_toArray, List.set_cons_zero, List.set_cons_succ, List.take_succ_cons, List.take_zero, List.drop_succ_cons, List.drop_zero])
    (apply Exists.intro; refine ⟨fun vs w1 hS hB hf => ?_, ?_⟩; (focus (clear hS hB hf; go_simp; first | exact ⟨Below.refl _ _, rfl⟩ | exact rfl)); try simp only [specV, addF, Act.put, List.setIfInBounds_toArray, List.set_cons_zero, List.set_cons_succ, List.take_succ_cons, List.take_zero, List.drop_succ_cons, List.drop_zero])
    (apply Exists.intro; refine ⟨fun vs w1 hS hB hf => ?_, ?_⟩; (focus (clear hS hB hf; go_simp; first | exact ⟨Below.refl _ _, rfl⟩ | exact rfl)); try simp only [specV, addF, Act.put, List.setIfInBounds_toArray, List.set_cons_zero, List.set_cons_succ, List.take_succ_cons, List.take_zero, List.drop_succ_cons, List.drop_zero])
    (apply Exists.intro; refine ⟨fun vs w1 hS hB hf => ?_, ?_⟩; (focus (clear hS hB hf; go_simp; first | exact ⟨Below.refl _ _, rfl⟩ | exact rfl)); try simp only [specV, addF, Act.put, List.setIfInBounds_toArray, List.set_cons_zero, List.set_cons_succ, List.take_succ_cons, List.take_zero, List.drop_succ_cons, List.drop_zero])
    (apply Exists.intro; refine ⟨fun vs w1 hS hB hf => ?_, ?_⟩; (focus (clear hS hB hf; go_simp; first | exact ⟨Below.refl _ _, rfl⟩ | exact rfl)); try simp only [specV, addF, Act.put, List.setIfInBounds_toArray, List.set_cons_zero, List.set_cons_succ, List.take_succ_cons, List.take_zero, List.drop_succ_cons, List.drop_zero])
    (apply Exists.intro; refine ⟨fun vs w1 hS hB hf => ?_, ?_⟩; (focus (clear hS hB hf; go_simp; first | exact ⟨Below.refl _ _, rfl⟩ | exact rfl)); try simp only [specV, addF, Act.put, List.setIfInBounds_toArray, List.set_cons_zero, List.set_cons_succ, List.take_succ_cons, List.take_zero, List.drop_succ_cons, List.drop_zero])
    (apply Exists.intro; refine ⟨fun vs w1 hS hB hf => ?_, ?_⟩; (focus (clear hS hB hf; go_simp; first | exact ⟨Below.refl _ _, rfl⟩ | exact rfl)); try simp only [specV, addF, Act.put, List.setIfInBounds_toArray, List.set_cons_zero, List.set_cons_succ, List.take_succ_cons, List.take_zero, List.drop_succ_cons, List.drop_zero])
    (apply Exists.intro; refine ⟨fun vs w1 hS hB hf => ?_, ?_⟩; (focus (have k2 : (convert 22 9 (.slice (some ⟨W2.heap.size, 0, none⟩) 3 3)).run Try.prog w1 = .ok (.string (strOfNums ((bytes4 n).drop 1))) w1 := hS.2.1.str; rw [← E1.out] at k2; clear hS hB hf; go_simp; first | exact ⟨Below.refl _ _, rfl⟩ | exact rfl)); try simp only [specV, addF, Act.put, List.setIfInBounds_toArray, List.set_cons_zero, List.set_cons_succ, List.take_succ_cons, List.take_zero, List.drop_succ_cons, List.drop_zero])
    (apply Exists.intro; refine ⟨fun vs w1 hS hB hf => ?_, ?_⟩; (focus (clear hS hB hf; go_simp; first | exact ⟨Below.refl _ _, rfl⟩ | exact rfl)); try simp only [specV, addF, Act.put, List.setIfInBounds_toArray, List.set_cons_zero, List.set_cons_succ, List.take_succ_cons, List.take_zero, List.drop_succ_cons, List.drop_zero])
    (apply Exists.intro; refine ⟨fun vs w1 hS hB hf => ?_, ?_⟩; (focus (clear hS hB hf; go_simp; first | exact ⟨Below.refl _ _, rfl⟩ | exact rfl)); try simp only [specV, addF, Act.put, List.setIfInBounds_toArray, List.set_cons_zero, List.set_cons_succ, List.take_succ_cons, List.take_zero, List.drop_succ_cons, List.drop_zero])
    (apply Exists.intro; refine ⟨fun vs w1 hS hB hf => ?_, ?_⟩; (focus (clear hS hB hf; go_simp; first | exact ⟨Below.refl _ _, rfl⟩ | exact rfl)); try simp only [specV, addF, Act.put, List.setIfInBounds_toArray, List.set_cons_zero, List.set_cons_succ, List.take_succ_cons, List.take_zero, List.drop_succ_cons, List.drop_zero])
    (apply Exists.intro; refine ⟨fun vs w1 hS hB hf => ?_, ?_⟩; (focus (clear hS hB hf; go_simp; first | exact ⟨Below.refl _ _, rfl⟩ | exact rfl)); try simp only [specV, addF, Act.put, List.setIfInBounds_toArray, List.set_cons_zero, List.set_cons_succ, List.take_succ_cons, List.take_zero, List.drop_succ_cons, List.drop_zero])
    (apply Exists.intro; refine ⟨fun vs w1 hS hB hf => ?_, ?_⟩; (focus (have k2 : (convert 22 9 (.slice (some ⟨W1.heap.size, 1, none⟩) 3 3)).run Try.prog w1 = .ok (.string (strOfNums ((bytes4 n).drop 1))) w1 := (RowU.drop hS.1 1 (by decide)).str; rw [← E1.out] at k2; clear hS hB hf; go_simp; first | exact ⟨Below.refl _ _, rfl⟩ | exact rfl)); try simp only [specV, addF, Act.put, List.setIfInBounds_toArray, List.set_cons_zero, List.set_cons_succ, List.take_succ_cons, List.take_zero, List.drop_succ_cons, List.drop_zero])
    (apply Exists.intro; refine ⟨fun vs w1 hS hB hf => ?_, ?_⟩; (focus (clear hS hB hf; go_simp; first | exact ⟨Below.refl _ _, rfl⟩ | exact rfl)); try simp only [specV, addF, Act.put, List.setIfInBounds_toArray, List.set_cons_zero, List.set_cons_succ, List.take_succ_cons, List.take_zero, List.drop_succ_cons, List.drop_zero])
    intro vs W5 hS hB _
    have HB5 : Below w.heap.size w W5 := below_then B3 B3.size hB
    have r5 := hS.2.2
    clear hS hB B3 rp rq r3 E1 hw hw2
    dsimp only
    have hl : (4 : Int) < xs.length ∨ (xs.length : Int) = 0 ∨ (1 ≤ xs.length ∧ xs.length ≤ 4) := by omega
    rcases hl with hl | hl | ⟨hl, hl4⟩
    · clear r5
      go_wp2
      go_ret
      exact ⟨rfl, HB5⟩
    · clear r5
      go_wp2
      go_ret
      exact ⟨rfl, HB5⟩
    · have hl' : (1 : Int) ≤ xs.length := by omega
      have hl4' : (xs.length : Int) ≤ 4 := by omega
      have hl0 : ((xs.length : Int) == 0) = false := by rw [beq_eq_false_iff_ne]; omega
      have HX := Lib.hid (bytes_num hx hl hl4)
      obtain ⟨s2, e2⟩ : ∃ s, s = strOfNums xs := ⟨_, rfl⟩
      have E2 := Lib.hid e2
      obtain ⟨M, hM⟩ : ∃ M, M = numT xs := ⟨_, rfl⟩
      have HM := Lib.hid hM
      clear e2 hM hl hl4
      go_wp2_with fail
      refine wp_flow_lit 12 (fun w' => RowU w' (.slice A xs.length c) xs) [none, none, none, none, none, none, some (RowS xs), none, none, none, none, none]
        (by kernel_rfl) (by kernel_rfl) r5 (fun w1 w2 h hb => h.below hb) ⟨rowS_stab _, trivial⟩ ?_
      try simp only [specV, addF, Act.put, List.setIfInBounds_toArray, List.set_cons_zero, List.set_cons_succ, List.take_succ_cons, List.take_zero, List.drop_succ_cons, List.drop_zero]
      (apply Exists.intro; refine ⟨fun vs w1 hS hB hf => ?_, ?_⟩; (focus (clear hS hB hf; go_simp; first | exact ⟨Below.refl _ _, rfl⟩ | exact rfl)); try simp only [specV, addF, Act.put, List.setIfInBounds_toArray, List.set_cons_zero, List.set_cons_succ, List.take_succ_cons, List.take_zero, List.drop_succ_cons, List.drop_zero])
      (apply Exists.intro; refine ⟨fun vs w1 hS hB hf => ?_, ?_⟩; (focus (clear hS hB hf; go_simp; first | exact ⟨Below.refl _ _, rfl⟩ | exact rfl)); try simp only [specV, addF, Act.put, List.setIfInBounds_toArray, List.set_cons_zero, List.set_cons_succ, List.take_succ_cons, List.take_zero, List.drop_succ_cons, List.drop_zero])
      (apply Exists.intro; refine ⟨fun vs w1 hS hB hf => ?_, ?_⟩; (focus (clear hS hB hf; go_simp; first | exact ⟨Below.refl _ _, rfl⟩ | exact rfl)); try simp only [specV, addF, Act.put, List.setIfInBounds_toArray, List.set_cons_zero, List.set_cons_succ, List.take_succ_cons, List.take_zero, List.drop_succ_cons, List.drop_zero])
      (apply Exists.intro; refine ⟨fun vs w1 hS hB hf => ?_, ?_⟩; (focus (go_simp; exact (number_row _ _ w1 hS hx (by omega)).mono fun e w2 ⟨he, hb⟩ => callPost.of (v := .int .i64 M) (by rw [he, HM.out]) (by rw [← hb]; exact Below.refl _ _) rfl)); try simp only [specV, addF, Act.put, List.setIfInBounds_toArray, List.set_cons_zero, List.set_cons_succ, List.take_succ_cons, List.take_zero, List.drop_succ_cons, List.drop_zero])
      (apply Exists.intro; refine ⟨fun vs w1 hS hB hf => ?_, ?_⟩; (focus (clear hS hB hf; go_simp; first | exact ⟨Below.refl _ _, rfl⟩ | exact rfl)); try simp only [specV, addF, Act.put, List.setIfInBounds_toArray, List.set_cons_zero, List.set_cons_succ, List.take_succ_cons, List.take_zero, List.drop_succ_cons, List.drop_zero])
      (apply Exists.intro; refine ⟨fun vs w1 hS hB hf => ?_, ?_⟩; (focus (clear hS hB hf; go_simp; first | exact ⟨Below.refl _ _, rfl⟩ | exact rfl)); try simp only [specV, addF, Act.put, List.setIfInBounds_toArray, List.set_cons_zero, List.set_cons_succ, List.take_succ_cons, List.take_zero, List.drop_succ_cons, List.drop_zero])
      (refine ⟨fun vs w1 hS hB hf => ?_, ?_⟩; (focus (go_simp; exact (bytes_all M (xs.length : Int) w1).mono fun e w2 ⟨v, he, ho, hb⟩ => callPost.of he hb (by rw [HM.out, HX.out] at ho; exact ho))); try simp only [specV, addF, Act.put, List.setIfInBounds_toArray, List.set_cons_zero, List.set_cons_succ, List.take_succ_cons, List.take_zero, List.drop_succ_cons, List.drop_zero])
      (apply Exists.intro; refine ⟨fun vs w1 hS hB hf => ?_, ?_⟩; (focus (obtain ⟨h6, _⟩ := hf; have r6 : RowU w1 (vs 6) xs := h6 rfl; obtain ⟨A2, c2, hv2, r2, _⟩ := r6; have k2 := run_str (P := Try.prog) Try.underlying22 Try.underlying5 Try.underlying9 c2 rfl r2; rw [← E2.out] at k2; clear hS hB h6; simp only [Nat.zero_add, Nat.reduceAdd, hv2]; go_simp; first | exact ⟨Below.refl _ _, rfl⟩ | exact rfl)); try simp only [specV, addF, Act.put, List.setIfInBounds_toArray, List.set_cons_zero, List.set_cons_succ, List.take_succ_cons, List.take_zero, List.drop_succ_cons, List.drop_zero])
      (apply Exists.intro; refine ⟨fun vs w1 hS hB hf => ?_, ?_⟩; (focus (clear hS hB hf; go_simp; first | exact ⟨Below.refl _ _, rfl⟩ | exact rfl)); try simp only [specV, addF, Act.put, List.setIfInBounds_toArray, List.set_cons_zero, List.set_cons_succ, List.take_succ_cons, List.take_zero, List.drop_succ_cons, List.drop_zero])
      (apply Exists.intro; refine ⟨fun vs w1 hS hB hf => ?_, ?_⟩; (focus (have k2 := RowU.str hS; rw [← E2.out] at k2; clear hS hB hf; go_simp; first | exact ⟨Below.refl _ _, rfl⟩ | exact rfl)); try simp only [specV, addF, Act.put, List.setIfInBounds_toArray, List.set_cons_zero, List.set_cons_succ, List.take_succ_cons, List.take_zero, List.drop_succ_cons, List.drop_zero])
      (apply Exists.intro; refine ⟨fun vs w1 hS hB hf => ?_, ?_⟩; (focus (clear hS hB hf; go_simp; first | exact ⟨Below.refl _ _, rfl⟩ | exact rfl)); try simp only [specV, addF, Act.put, List.setIfInBounds_toArray, List.set_cons_zero, List.set_cons_succ, List.take_succ_cons, List.take_zero, List.drop_succ_cons, List.drop_zero])
      (apply Exists.intro; refine ⟨fun vs w1 hS hB hf => ?_, ?_⟩; (focus (clear hS hB hf; go_simp; first | exact ⟨Below.refl _ _, rfl⟩ | exact rfl)); try simp only [specV, addF, Act.put, List.setIfInBounds_toArray, List.set_cons_zero, List.set_cons_succ, List.take_succ_cons, List.take_zero, List.drop_succ_cons, List.drop_zero])
      intro vs W6 hS hB _
      have HB6 : Below w.heap.size w W6 := below_then HB5 HB5.size hB
      clear hS hB HB5
      dsimp only
      go_wp2
      go_ret
      exact ⟨rfl, HB6⟩
  · go_enter Try.func7, Try.ntmps7
    go_wp2_with fail
    refine (head20_true _).mono ?_
    rintro e W1 ⟨rfl, B1⟩
    have r1 := Lib.hid (r0.out.below B1)
    clear r0
    go_wp2_with fail
    refine (bytes_4 n _).mono ?_
    rintro e W2 ⟨rfl, bp, b2⟩
    have rp : RowU W2 (.slice (some ⟨W1.heap.size, 0, none⟩) 4 4) (bytes4 n) := RowU.blk bp
    have r2 := Lib.hid (r1.out.below b2)
    have B2 := below_then B1 B1.size b2
    clear B1 b2 bp r1
    go_wp2_with fail
    refine (bytes_4 n _).mono ?_
    rintro e W3 ⟨rfl, bq, b3⟩
    have rq : RowU W3 (.slice (some ⟨W2.heap.size, 0, none⟩) 4 4) ((bytes4 n).drop 0) := RowU.blk bq
    have rp := rp.below b3
    have r3 := r2.out.below b3
    have B3 := below_then B2 B2.size b3
    clear B2 b3 bq r2
    obtain ⟨s1, e1⟩ : ∃ s, s = strOfNums ((bytes4 n).drop 0) := ⟨_, rfl⟩
    have E1 := Lib.hid e1
    clear e1
    go_wp2_with fail
    have hw : IntKind.i64.wrap n = n := IntWalk.i64_in _ (by omega)
    have hw2 : IntKind.i64.wrap 0 = 0 := by decide
    refine wp_flow_lit 25 (fun w' => RowU w' (.slice (some ⟨W1.heap.size, 0, none⟩) 4 4) (bytes4 n) ∧ RowU w' (.slice (some ⟨W2.heap.size, 0, none⟩) 4 4) ((bytes4 n).drop 0) ∧ RowU w' (.slice A xs.length c) xs) [none, none, none, none, none, none, none, none, none, none, none, none, none, none, none, none, none, none, none, none, none, none, none, none, none]
      (by kernel_rfl) (by kernel_rfl) ⟨rp, rq, r3⟩ (fun w1 w2 h hb => ⟨h.1.below hb, h.2.1.below hb, h.2.2.below hb⟩) trivial ?_
    try simp only [specV, addF, Act.put, List.setIfInBounds_toArray, List.set_cons_zero, List.set_cons_succ, List.take_succ_cons, List.take_zero, List.drop_succ_cons, List.drop_zero]
    (apply Exists.intro; refine ⟨fun vs w1 hS hB hf => ?_, ?_⟩; (focus (clear hS hB hf; go_simp; first | exact ⟨Below.refl _ _, rfl⟩ | exact rfl)); try simp only [specV, addF, Act.put, List.setIfInBounds_toArray, List.set_cons_zero, List.set_cons_succ, List.take_succ_cons, List.take_zero, List.drop_succ_cons, List.drop_zero])
    (apply Exists.intro; refine ⟨fun vs w1 hS hB hf => ?_, ?_⟩; (focus (clear hS hB hf; go_simp; first | exact ⟨Below.refl _ _, rfl⟩ | exact rfl)); try simp only [specV, addF, Act.put, List.setIfInBounds_toArray, List.set_cons_zero, List.set_cons_succ, List.take_succ_cons, List.take_zero, List.drop_succ_cons, List.drop_zero])
    (apply Exists.intro; refine ⟨fun vs w1 hS hB hf => ?_, ?_⟩; (focus (clear hS hB hf; go_simp; first | exact ⟨Below.refl _ _, rfl⟩ | exact rfl)); try simp only [specV, addF, Act.put, List.setIfInBounds_toArray, List.set_cons_zero, List.set_cons_succ, List.take_succ_cons, List.take_zero, List.drop_succ_cons, List.drop_zero])
    (apply Exists.intro; refine ⟨fun vs w1 hS hB hf => ?_, ?_⟩; (focus (clear hS hB hf; go_simp; first | exact ⟨Below.refl _ _, rfl⟩ | exact rfl)); try simp only [specV, addF, Act.put, List.setIfInBounds_toArray, List.set_cons_zero, List.set_cons_succ, List.take_succ_cons, List.take_zero, List.drop_succ_cons, List.drop_zero])
    (apply Exists.intro; refine ⟨fun vs w1 hS hB hf => ?_, ?_⟩; (focus (clear hS hB hf; go_simp; first | exact ⟨Below.refl _ _, rfl⟩ | exact rfl)); try simp only [specV, addF, Act.put, List.setIfInBounds_toArray, List.set_cons_zero, List.set_cons_succ, List.take_succ_cons, List.take_zero, List.drop_succ_cons, List.drop_zero])
    (apply Exists.intro; refine ⟨fun vs w1 hS hB hf => ?_, ?_⟩; (focus (clear hS hB hf; go_simp; first | exact ⟨Below.refl _ _, rfl⟩ | exact rfl)); try simp only [specV, addF, Act.put, List.setIfInBounds_toArray, List.set_cons_zero, List.set_cons_succ, List.take_succ_cons, List.take_zero, List.drop_succ_cons, List.drop_zero])
    (apply Exists.intro; refine ⟨fun vs w1 hS hB hf => ?_, ?_⟩; (focus (clear hS hB hf; go_simp; first | exact ⟨Below.refl _ _, rfl⟩ | exact rfl)); try simp only [specV, addF, Act.put, List.setIfInBounds_toArray, List.set_cons_zero, List.set_cons_succ, List.take_succ_cons, List.take_zero, List.drop_succ_cons, List.drop_zero])
    (apply Exists.intro; refine ⟨fun vs w1 hS hB hf => ?_, ?_⟩; (focus (clear hS hB hf; go_simp; first | exact ⟨Below.refl _ _, rfl⟩ | exact rfl)); try simp only [specV, addF, Act.put, List.setIfInBounds_toArray, List.set_cons_zero, List.set_cons_succ, List.take_succ_cons, List.take_zero, List.drop_succ_cons, List.drop_zero])
    (apply Exists.intro; refine ⟨fun vs w1 hS hB hf => ?_, ?_⟩; (focus (clear hS hB hf; go_simp; first | exact ⟨Below.refl _ _, rfl⟩ | exact rfl)); try simp only [specV, addF, Act.put, List.setIfInBounds_toArray, List.set_cons_zero, List.set_cons_succ, List.take_succ_cons, List.take_zero, List.drop_succ_cons, List.drop_zero])
    (apply Exists.intro; refine ⟨fun vs w1 hS hB hf => ?_, ?_⟩; (focus (clear hS hB hf; go_simp; first | exact ⟨Below.refl _ _, rfl⟩ | exact rfl)); try simp only [specV, addF, Act.put, List.setIfInBounds_toArray, List.set_cons_zero, List.set_cons_succ, List.take_succ_cons, List.take_zero, List.drop_succ_cons, List.drop_zero])
    (apply Exists.intro; refine ⟨fun vs w1 hS hB hf => ?_, ?_⟩; (focus (clear hS hB hf; go_simp; first | exact ⟨Below.refl _ _, rfl⟩ | exact rfl)); try simp only [specV, addF, Act.put, List.setIfInBounds_toArray, List.set_cons_zero, List.set_cons_succ, List.take_succ_cons, List.take_zero, List.drop_succ_cons, List.drop_zero])
    (apply Exists.intro; refine ⟨fun vs w1 hS hB hf => ?_, ?_⟩; (focus (go_simp; exact (number_row _ _ w1 hS.1 (isB_bytes4 n) (by show (4 : Int) ≤ 4611686018427387904; decide)).mono fun e w2 ⟨he, hb⟩ => callPost.of (v := .int .i64 n) (by rw [he, hnb.out]) (by rw [← hb]; exact Below.refl _ _) rfl)); try simp only [specV, addF, Act.put, List.setIfInBounds_toArray, List.set_cons_zero, List.set_cons_succ, List.take_succ_cons, List.take_zero, List.drop_succ_cons, List.drop_zero])
    (apply Exists.intro; refine ⟨fun vs w1 hS hB hf => ?_, ?_⟩; (focus (clear hS hB hf; go_simp; first | exact ⟨Below.refl _ _, rfl⟩ | exact rfl)); try simp only [specV, addF, Act.put, List.setIfInBounds_toArray, List.set_cons_zero, List.set_cons_succ, List.take_succ_cons, List.take_zero, List.drop_succ_cons, List.drop_zero])
    (apply Exists.intro; refine ⟨fun vs w1 hS hB hf => ?_, ?_⟩; (focus (clear hS hB hf; go_simp; first | exact ⟨Below.refl _ _, rfl⟩ | exact rfl)); try simp only [specV, addF, Act.put, List.setIfInBounds_toArray, List.set_cons_zero, List.set_cons_succ, List.take_succ_cons, List.take_zero, List.drop_succ_cons, List.drop_zero])
    (apply Exists.intro; refine ⟨fun vs w1 hS hB hf => ?_, ?_⟩; (focus (clear hS hB hf; go_simp; first | exact ⟨Below.refl _ _, rfl⟩ | exact rfl)); try simp only [specV, addF, Act.put, List.setIfInBounds_toArray, List.set_cons_zero, List.set_cons_succ, List.take_succ_cons, List.take_zero, List.drop_succ_cons, List.drop_zero])
    (apply Exists.intro; refine ⟨fun vs w1 hS hB hf => ?_, ?_⟩; (focus (clear hS hB hf; go_simp; first | exact ⟨Below.refl _ _, rfl⟩ | exact rfl)); try simp only [specV, addF, Act.put, List.setIfInBounds_toArray, List.set_cons_zero, List.set_cons_succ, List.take_succ_cons, List.take_zero, List.drop_succ_cons, List.drop_zero])
    (apply Exists.intro; refine ⟨fun vs w1 hS hB hf => ?_, ?_⟩; (focus (clear hS hB hf; go_simp; first | exact ⟨Below.refl _ _, rfl⟩ | exact rfl)); try simp only [specV, addF, Act.put, List.setIfInBounds_toArray, List.set_cons_zero, List.set_cons_succ, List.take_succ_cons, List.take_zero, List.drop_succ_cons, List.drop_zero])
    (apply Exists.intro; refine ⟨fun vs w1 hS hB hf => ?_, ?_⟩; (focus (clear hS hB hf; go_simp; first | exact ⟨Below.refl _ _, rfl⟩ | exact rfl)); try simp only [specV, addF, Act.put, List.setIfInBounds_toArray, List.set_cons_zero, List.set_cons_succ, List.take_succ_cons, List.take_zero, List.drop_succ_cons, List.drop_zero])
    (apply Exists.intro; refine ⟨fun vs w1 hS hB hf => ?_, ?_⟩; (focus (have k2 : (convert 22 9 (.slice (some ⟨W2.heap.size, 0, none⟩) 4 4)).run Try.prog w1 = .ok (.string (strOfNums ((bytes4 n).drop 0))) w1 := hS.2.1.str; rw [← E1.out] at k2; clear hS hB hf; go_simp; first | exact ⟨Below.refl _ _, rfl⟩ | exact rfl)); try simp only [specV, addF, Act.put, List.setIfInBounds_toArray, List.set_cons_zero, List.set_cons_succ, List.take_succ_cons, List.take_zero, List.drop_succ_cons, List.drop_zero])
    (apply Exists.intro; refine ⟨fun vs w1 hS hB hf => ?_, ?_⟩; (focus (clear hS hB hf; go_simp; first | exact ⟨Below.refl _ _, rfl⟩ | exact rfl)); try simp only [specV, addF, Act.put, List.setIfInBounds_toArray, List.set_cons_zero, List.set_cons_succ, List.take_succ_cons, List.take_zero, List.drop_succ_cons, List.drop_zero])
    (apply Exists.intro; refine ⟨fun vs w1 hS hB hf => ?_, ?_⟩; (focus (clear hS hB hf; go_simp; first | exact ⟨Below.refl _ _, rfl⟩ | exact rfl)); try simp only [specV, addF, Act.put, List.setIfInBounds_toArray, List.set_cons_zero, List.set_cons_succ, List.take_succ_cons, List.take_zero, List.drop_succ_cons, List.drop_zero])
    (apply Exists.intro; refine ⟨fun vs w1 hS hB hf => ?_, ?_⟩; (focus (clear hS hB hf; go_simp; first | exact ⟨Below.refl _ _, rfl⟩ | exact rfl)); try simp only [specV, addF, Act.put, List.setIfInBounds_toArray, List.set_cons_zero, List.set_cons_succ, List.take_succ_cons, List.take_zero, List.drop_succ_cons, List.drop_zero])
    (apply Exists.intro; refine ⟨fun vs w1 hS hB hf => ?_, ?_⟩; (focus (clear hS hB hf; go_simp; first | exact ⟨Below.refl _ _, rfl⟩ | exact rfl)); try simp only [specV, addF, Act.put, List.setIfInBounds_toArray, List.set_cons_zero, List.set_cons_succ, List.take_succ_cons, List.take_zero, List.drop_succ_cons, List.drop_zero])
    (apply Exists.intro; refine ⟨fun vs w1 hS hB hf => ?_, ?_⟩; (focus (have k2 : (convert 22 9 (.slice (some ⟨W1.heap.size, 0, none⟩) 4 4)).run Try.prog w1 = .ok (.string (strOfNums ((bytes4 n).drop 0))) w1 := (RowU.drop hS.1 0 (by decide)).str; rw [← E1.out] at k2; clear hS hB hf; go_simp; first | exact ⟨Below.refl _ _, rfl⟩ | exact rfl)); try simp only [specV, addF, Act.put, List.setIfInBounds_toArray, List.set_cons_zero, List.set_cons_succ, List.take_succ_cons, List.take_zero, List.drop_succ_cons, List.drop_zero])
    (apply Exists.intro; refine ⟨fun vs w1 hS hB hf => ?_, ?_⟩; (focus (clear hS hB hf; go_simp; first | exact ⟨Below.refl _ _, rfl⟩ | exact rfl)); try simp only [specV, addF, Act.put, List.setIfInBounds_toArray, List.set_cons_zero, List.set_cons_succ, List.take_succ_cons, List.take_zero, List.drop_succ_cons, List.drop_zero])
    intro vs W5 hS hB _
    have HB5 : Below w.heap.size w W5 := below_then B3 B3.size hB
    have r5 := hS.2.2
    clear hS hB B3 rp rq r3 E1 hw hw2
    dsimp only
    have hl : (4 : Int) < xs.length ∨ (xs.length : Int) = 0 ∨ (1 ≤ xs.length ∧ xs.length ≤ 4) := by omega
    rcases hl with hl | hl | ⟨hl, hl4⟩
    · clear r5
      go_wp2
      go_ret
      exact ⟨rfl, HB5⟩
    · clear r5
      go_wp2
      go_ret
      exact ⟨rfl, HB5⟩
    · have hl' : (1 : Int) ≤ xs.length := by omega
      have hl4' : (xs.length : Int) ≤ 4 := by omega
      have hl0 : ((xs.length : Int) == 0) = false := by rw [beq_eq_false_iff_ne]; omega
      have HX := Lib.hid (bytes_num hx hl hl4)
      obtain ⟨s2, e2⟩ : ∃ s, s = strOfNums xs := ⟨_, rfl⟩
      have E2 := Lib.hid e2
      obtain ⟨M, hM⟩ : ∃ M, M = numT xs := ⟨_, rfl⟩
      have HM := Lib.hid hM
      clear e2 hM hl hl4
      go_wp2_with fail
      refine wp_flow_lit 12 (fun w' => RowU w' (.slice A xs.length c) xs) [none, none, none, none, none, none, some (RowS xs), none, none, none, none, none]
        (by kernel_rfl) (by kernel_rfl) r5 (fun w1 w2 h hb => h.below hb) ⟨rowS_stab _, trivial⟩ ?_
      try simp only [specV, addF, Act.put, List.setIfInBounds_toArray, List.set_cons_zero, List.set_cons_succ, List.take_succ_cons, List.take_zero, List.drop_succ_cons, List.drop_zero]
      (apply Exists.intro; refine ⟨fun vs w1 hS hB hf => ?_, ?_⟩; (focus (clear hS hB hf; go_simp; first | exact ⟨Below.refl _ _, rfl⟩ | exact rfl)); try simp only [specV, addF, Act.put, List.setIfInBounds_toArray, List.set_cons_zero, List.set_cons_succ, List.take_succ_cons, List.take_zero, List.drop_succ_cons, List.drop_zero])
      (apply Exists.intro; refine ⟨fun vs w1 hS hB hf => ?_, ?_⟩; (focus (clear hS hB hf; go_simp; first | exact ⟨Below.refl _ _, rfl⟩ | exact rfl)); try simp only [specV, addF, Act.put, List.setIfInBounds_toArray, List.set_cons_zero, List.set_cons_succ, List.take_succ_cons, List.take_zero, List.drop_succ_cons, List.drop_zero])
      (apply Exists.intro; refine ⟨fun vs w1 hS hB hf => ?_, ?_⟩; (focus (clear hS hB hf; go_simp; first | exact ⟨Below.refl _ _, rfl⟩ | exact rfl)); try simp only [specV, addF, Act.put, List.setIfInBounds_toArray, List.set_cons_zero, List.set_cons_succ, List.take_succ_cons, List.take_zero, List.drop_succ_cons, List.drop_zero])
      (apply Exists.intro; refine ⟨fun vs w1 hS hB hf => ?_, ?_⟩; (focus (go_simp; exact (number_row _ _ w1 hS hx (by omega)).mono fun e w2 ⟨he, hb⟩ => callPost.of (v := .int .i64 M) (by rw [he, HM.out]) (by rw [← hb]; exact Below.refl _ _) rfl)); try simp only [specV, addF, Act.put, List.setIfInBounds_toArray, List.set_cons_zero, List.set_cons_succ, List.take_succ_cons, List.take_zero, List.drop_succ_cons, List.drop_zero])
      (apply Exists.intro; refine ⟨fun vs w1 hS hB hf => ?_, ?_⟩; (focus (clear hS hB hf; go_simp; first | exact ⟨Below.refl _ _, rfl⟩ | exact rfl)); try simp only [specV, addF, Act.put, List.setIfInBounds_toArray, List.set_cons_zero, List.set_cons_succ, List.take_succ_cons, List.take_zero, List.drop_succ_cons, List.drop_zero])
      (apply Exists.intro; refine ⟨fun vs w1 hS hB hf => ?_, ?_⟩; (focus (clear hS hB hf; go_simp; first | exact ⟨Below.refl _ _, rfl⟩ | exact rfl)); try simp only [specV, addF, Act.put, List.setIfInBounds_toArray, List.set_cons_zero, List.set_cons_succ, List.take_succ_cons, List.take_zero, List.drop_succ_cons, List.drop_zero])
      (refine ⟨fun vs w1 hS hB hf => ?_, ?_⟩; (focus (go_simp; exact (bytes_all M (xs.length : Int) w1).mono fun e w2 ⟨v, he, ho, hb⟩ => callPost.of he hb (by rw [HM.out, HX.out] at ho; exact ho))); try simp only [specV, addF, Act.put, List.setIfInBounds_toArray, List.set_cons_zero, List.set_cons_succ, List.take_succ_cons, List.take_zero, List.drop_succ_cons, List.drop_zero])
      (apply Exists.intro; refine ⟨fun vs w1 hS hB hf => ?_, ?_⟩; (focus (obtain ⟨h6, _⟩ := hf; have r6 : RowU w1 (vs 6) xs := h6 rfl; obtain ⟨A2, c2, hv2, r2, _⟩ := r6; have k2 := run_str (P := Try.prog) Try.underlying22 Try.underlying5 Try.underlying9 c2 rfl r2; rw [← E2.out] at k2; clear hS hB h6; simp only [Nat.zero_add, Nat.reduceAdd, hv2]; go_simp; first | exact ⟨Below.refl _ _, rfl⟩ | exact rfl)); try simp only [specV, addF, Act.put, List.setIfInBounds_toArray, List.set_cons_zero, List.set_cons_succ, List.take_succ_cons, List.take_zero, List.drop_succ_cons, List.drop_zero])
      (apply Exists.intro; refine ⟨fun vs w1 hS hB hf => ?_, ?_⟩; (focus (clear hS hB hf; go_simp; first | exact ⟨Below.refl _ _, rfl⟩ | exact rfl)); try simp only [specV, addF, Act.put, List.setIfInBounds_toArray, List.set_cons_zero, List.set_cons_succ, List.take_succ_cons, List.take_zero, List.drop_succ_cons, List.drop_zero])
      (apply Exists.intro; refine ⟨fun vs w1 hS hB hf => ?_, ?_⟩; (focus (have k2 := RowU.str hS; rw [← E2.out] at k2; clear hS hB hf; go_simp; first | exact ⟨Below.refl _ _, rfl⟩ | exact rfl)); try simp only [specV, addF, Act.put, List.setIfInBounds_toArray, List.set_cons_zero, List.set_cons_succ, List.take_succ_cons, List.take_zero, List.drop_succ_cons, List.drop_zero])
      (apply Exists.intro; refine ⟨fun vs w1 hS hB hf => ?_, ?_⟩; (focus (clear hS hB hf; go_simp; first | exact ⟨Below.refl _ _, rfl⟩ | exact rfl)); try simp only [specV, addF, Act.put, List.setIfInBounds_toArray, List.set_cons_zero, List.set_cons_succ, List.take_succ_cons, List.take_zero, List.drop_succ_cons, List.drop_zero])
      (apply Exists.intro; refine ⟨fun vs w1 hS hB hf => ?_, ?_⟩; (focus (clear hS hB hf; go_simp; first | exact ⟨Below.refl _ _, rfl⟩ | exact rfl)); try simp only [specV, addF, Act.put, List.setIfInBounds_toArray, List.set_cons_zero, List.set_cons_succ, List.take_succ_cons, List.take_zero, List.drop_succ_cons, List.drop_zero])
      intro vs W6 hS hB _
      have HB6 : Below w.heap.size w W6 := below_then HB5 HB5.size hB
      clear hS hB HB5
      dsimp only
      go_wp2
      go_ret
      exact ⟨rfl, HB6⟩

set_option maxRecDepth 100000 in
theorem lifted (os : Os) (started : os.Started) (H : Type) (enc : TypeId × Value → H) :
    ReturnsInHanded {} Try.checked os 7 .any (Rows.aluBackSpec.pre6 enc Try.prog Try.f7 Rows.aluBackRow.domain false) (Rows.aluBackSpec.post enc Try.prog Try.f7 false true false false) := by
  refine returnsInHanded_of_change (C := Try.checked) own started (by kernel_rfl) Try.func7
    (ChangeSpec.witness6 (enc := enc) (C := Try.checked) false ⟨#[], #[.int .u32 0, .int .u8 0, .slice none 0 0], []⟩ 8 (by kernel_rfl) (by kernel_rfl) (by kernel_rfl) (by kernel_rfl)) ?_
  intro W base args ds gs before hval0 hW hcnd _
  have hval : ∀ (j : Nat) t v, Try.f7.params[j]? = some t → args[j]? = some v → Value.okWide Try.prog W .any base t v := hval0
  have hW' := hW
  obtain ⟨p, q, hA0, hV, rfl, hfz, hnd⟩ := hW
  have hA : DataW.TrodAll enc Try.prog W 0 (fun _ => true) true Try.f7.params.toList args.toList ds p := hA0
  rw [Try.params7] at hA hval
  obtain ⟨v0, vs0, d0, ds0, p0, q0, hargs, rfl, rfl, h0, r0⟩ := trodAll_cons hA
  obtain ⟨v1, vs1, d1, ds1, p1, q1, rfl, rfl, rfl, h1, r1⟩ := trodAll_cons r0
  obtain ⟨v2, vs2, d2, ds2, p2, q2, rfl, rfl, rfl, h2, r2⟩ := trodAll_cons r1
  obtain ⟨rfl, rfl, rfl⟩ := trodAll_nil r2
  obtain rfl : args = #[v0, v1, v2] := by cases args; simp_all
  obtain ⟨rfl, rfl⟩ := trodVars_none hV
  have k0 := h0
  have lt0 : ∀ x ∈ p0, x.block < W.heap.size := by obtain ⟨m, hm⟩ := k0; exact DataW.trod_lt m _ _ _ hm
  obtain ⟨x0, rfl, _, _, w0⟩ := open_int Try.underlying31 (hval 0 31 v0 rfl rfl) h0
  have k1 := h1
  have lt1 : ∀ x ∈ p1, x.block < W.heap.size := by obtain ⟨m, hm⟩ := k1; exact DataW.trod_lt m _ _ _ hm
  obtain ⟨x1, rfl, _, _, w1⟩ := open_int Try.underlying5 (hval 1 5 v1 rfl rfl) h1
  have k2 := h2
  have lt2 : ∀ x ∈ p2, x.block < W.heap.size := by obtain ⟨m, hm⟩ := k2; exact DataW.trod_lt m _ _ _ hm
  obtain ⟨x2, hx2, hb2, hm2⟩ := open_bytes (hval 2 22 v2 rfl rfl) h2
  clear hA0 hval0
  refine (walk x0 x1 v2 x2 W w0 w1 hx2 hb2 hm2).mono fun e W' ⟨he, bel⟩ => ?_
  subst he
  exact ⟨_, rfl, _, _, _, [], _, [], hW', trodAll_mk1 (shut_bool Try.underlying4 _), (trodAll_cons_mk (Below.trod laidOut (by kernel_rfl) (of_decide_eq_true (by kernel_rfl)) k0 bel lt0) (trodAll_cons_mk (Below.trod laidOut (by kernel_rfl) (of_decide_eq_true (by kernel_rfl)) k1 bel lt1) (trodAll_cons_mk (Below.trod laidOut (by kernel_rfl) (of_decide_eq_true (by kernel_rfl)) k2 bel lt2) trodAll_mk0))), rfl, bel.frame _, fun h => by cases h⟩

theorem over : Rows.aluBackRow.holds Try.pinned (OpenSpec.ofChange Rows.aluBackSpec) :=
  OpenClaim.holds_of_wide 7 Try.f7 rfl rfl rfl rfl rfl rfl rfl ⟨rfl, rfl, rfl, rfl, rfl⟩ rfl rfl rfl rfl rfl (by kernel_rfl) Try.func7 (by kernel_rfl)
    (of_decide_eq_true (by kernel_rfl)) (by unfold Func.isWrapper; rw [if_neg (of_decide_eq_false (by kernel_rfl))]; exact ⟨rfl, rfl⟩)
    (fun os started H enc _ => lifted os started H enc)

/-- The statement. -/
theorem proved : Rows.AluBackSaid := over

#print axioms proved
end Go.Proofs.Ytphkljlbadpknaa.AluBack
