/- Kinds, fine, Right, Same; the document's. -/
import Derived.Test.YtnmjglnllokklaaDoorAsB
import Derived.BigQuiet
set_option linter.unusedVariables false
set_option linter.unusedSimpArgs false
namespace Go.Proofs.YtnmjglnllokklaaDoor
open Go.RowKit

set_option maxRecDepth 100000 in
set_option maxHeartbeats 3200000 in
theorem rkinds_any (op : Int) (w : World) (ho : inI op) :
    Calls Tryd.prog 29 #[.int .i64 op] w fun e w' => e = .returned (.string (kndS op)) ∧ w = w' := by
  obtain ⟨o0, o1⟩ := ho
  by_cases h : 0 ≤ op ∧ op ≤ 29
  · obtain ⟨h0, h1⟩ := h
    obtain rfl | rfl | rfl | rfl | rfl | rfl | rfl | rfl | rfl | rfl | rfl | rfl | rfl | rfl | rfl | rfl | rfl | rfl | rfl | rfl | rfl | rfl | rfl | rfl | rfl | rfl | rfl | rfl | rfl | rfl : op = 0 ∨ op = 1 ∨ op = 2 ∨ op = 3 ∨ op = 4 ∨ op = 5 ∨ op = 6 ∨ op = 7 ∨ op = 8 ∨ op = 9 ∨ op = 10 ∨ op = 11 ∨ op = 12 ∨ op = 13 ∨ op = 14 ∨ op = 15 ∨ op = 16 ∨ op = 17 ∨ op = 18 ∨ op = 19 ∨ op = 20 ∨ op = 21 ∨ op = 22 ∨ op = 23 ∨ op = 24 ∨ op = 25 ∨ op = 26 ∨ op = 27 ∨ op = 28 ∨ op = 29 := by omega
    all_goals (clear o0 o1 h0 h1; go_enter Tryd.func29, Tryd.ntmps29; go_wp2; go_ret; exact ⟨rfl, rfl⟩)
  · have HK := Lib.hid (show kndS op = ⟨#[]⟩ by
      have h2 : kndL op = [] := List.length_eq_zero_iff.1 (by rw [knd_len, if_neg h])
      unfold kndS
      rw [h2])
    have hk : ∀ k : Int, 0 ≤ k → k ≤ 29 → (op == k) = false := fun k h1 h2 => by
      rw [beq_eq_false_iff_ne]
      intro e
      subst e
      exact h ⟨h1, h2⟩
    clear h
    go_enter Tryd.func29, Tryd.ntmps29
    go_wp2
    go_ret
    exact ⟨by rw [HK.out]; rfl, rfl⟩

set_option maxRecDepth 100000 in
set_option maxHeartbeats 1600000 in
theorem rfine_any (c n : Int) (w : World) (hc : c = 45 ∨ c = 114 ∨ c = 105 ∨ c = 119 ∨ c = 118) (hn : inI n) :
    Calls Tryd.prog 34 #[.int .u8 c, .int .i64 n] w fun e w' => e = .returned (.bool (fineB c n)) ∧ w = w' := by
  obtain ⟨n0, n1⟩ := hn
  rcases hc with rfl | rfl | rfl | rfl | rfl
  all_goals (go_enter Tryd.func34, Tryd.ntmps34; go_wp2)
  all_goals (go_ret; refine ⟨?_, rfl⟩; refine congrArg Ending.returned (congrArg Value.bool ?_); rw [Bool.eq_iff_iff]; simp [fineB, loB, hiB]; try omega)

theorem knd_three (op : Int) (h : 0 ≤ op ∧ op ≤ 29) : ∃ c0 c1 c2 : UInt8, kndL op = [c0, c1, c2] := by
  have hl : (kndL op).length = 3 := by rw [knd_len, if_pos h]
  match hk : kndL op, hl with
  | [c0, c1, c2], _ => exact ⟨c0, c1, c2, rfl⟩

set_option maxRecDepth 100000 in
set_option maxHeartbeats 3200000 in
theorem rright_any (op a b c : Int) (w : World) (ho : inI op) (ha : inI a) (hb : inI b) (hc : inI c) :
    Calls Tryd.prog 16 #[.agg #[.int .i64 (op), .int .i64 (a), .int .i64 (b), .int .i64 (c)]] w fun e w' => e = .returned (.bool (rightI op a b c)) ∧ Below w.heap.size w w' := by
  by_cases h : 0 ≤ op ∧ op ≤ 29
  · obtain ⟨c0, c1, c2, hk⟩ := knd_three op h
    have hm : ∀ x ∈ kndL op, (x.toNat : Int) = 45 ∨ (x.toNat : Int) = 114 ∨ (x.toNat : Int) = 105 ∨ (x.toNat : Int) = 119 ∨ (x.toNat : Int) = 118 := fun x hx => by
      rcases knd_all op x hx with h | h | h | h | h <;> rw [h] <;> decide
    rw [hk] at hm
    have F0 := Lib.hid (fun w => rfine_any (c0.toNat : Int) a w (hm c0 (by simp)) ha)
    have F1 := Lib.hid (fun w => rfine_any (c1.toNat : Int) b w (hm c1 (by simp)) hb)
    have F2 := Lib.hid (fun w => rfine_any (c2.toNat : Int) c w (hm c2 (by simp)) hc)
    have HR := Lib.hid (show rightI op a b c = (fineB c0.toNat a && fineB c1.toNat b && fineB c2.toNat c) by
      unfold rightI kc
      rw [decide_eq_true h, Bool.true_and, hk]
      rfl)
    have HK := Lib.hid (rkinds_any op · ho)
    have HS := Lib.hid (show kndS op = ⟨#[c0, c1, c2]⟩ by unfold kndS; rw [hk])
    generalize fineB (c0.toNat : Int) a = f0 at *
    generalize fineB (c1.toNat : Int) b = f1 at *
    generalize fineB (c2.toNat : Int) c = f2 at *
    clear h hk hm ho ha hb hc
    go_enter Tryd.func16, Tryd.ntmps16
    go_wp2_with fail
    refine (HK.out _).mono ?_
    rintro e w1 ⟨rfl, rfl⟩
    rw [HS.out]
    clear HK HS
    go_wp2_with fail
    have x0 : ∀ h : 0 < (⟨#[c0, c1, c2]⟩ : ByteArray).size, ((⟨#[c0, c1, c2]⟩ : ByteArray)[0]'h) = c0 := fun _ => rfl
    have x1 : ∀ h : 1 < (⟨#[c0, c1, c2]⟩ : ByteArray).size, ((⟨#[c0, c1, c2]⟩ : ByteArray)[1]'h) = c1 := fun _ => rfl
    have x2 : ∀ h : 2 < (⟨#[c0, c1, c2]⟩ : ByteArray).size, ((⟨#[c0, c1, c2]⟩ : ByteArray)[2]'h) = c2 := fun _ => rfl
    cases f0 with
    | false =>
      refine wp_region_quiet_lit (by kernel_rfl) (by kernel_rfl) ?_
      repeat (go_big_quiet_step ((first | with_reducible exact Calls.quiet_of_same ((F0.out _).mono fun e w' ⟨h1, h2⟩ => ⟨h1, h2.symm⟩) | with_reducible exact Calls.quiet_of_same ((F1.out _).mono fun e w' ⟨h1, h2⟩ => ⟨h1, h2.symm⟩) | with_reducible exact Calls.quiet_of_same ((F2.out _).mono fun e w' ⟨h1, h2⟩ => ⟨h1, h2.symm⟩))))
      refine wpQuiet_nil ?_
      intro _ hw'
      obtain ⟨nq, hw''⟩ := hw'
      subst hw''
      go_wp2
      go_ret
      exact ⟨by rw [HR.out]; rfl, below_drewN ((Below.refl _ _).alloc (Nat.le_refl _) _) _⟩
    | true =>
      cases f1 with
      | false =>
        refine wp_region_quiet_lit (by kernel_rfl) (by kernel_rfl) ?_
        repeat (go_big_quiet_step ((first | with_reducible exact Calls.quiet_of_same ((F0.out _).mono fun e w' ⟨h1, h2⟩ => ⟨h1, h2.symm⟩) | with_reducible exact Calls.quiet_of_same ((F1.out _).mono fun e w' ⟨h1, h2⟩ => ⟨h1, h2.symm⟩) | with_reducible exact Calls.quiet_of_same ((F2.out _).mono fun e w' ⟨h1, h2⟩ => ⟨h1, h2.symm⟩))))
        refine wpQuiet_nil ?_
        intro _ hw'
        obtain ⟨nq, hw''⟩ := hw'
        subst hw''
        go_wp2
        go_ret
        exact ⟨by rw [HR.out]; rfl, below_drewN ((Below.refl _ _).alloc (Nat.le_refl _) _) _⟩
      | true =>
        refine wp_region_quiet_lit (by kernel_rfl) (by kernel_rfl) ?_
        repeat (go_big_quiet_step ((first | with_reducible exact Calls.quiet_of_same ((F0.out _).mono fun e w' ⟨h1, h2⟩ => ⟨h1, h2.symm⟩) | with_reducible exact Calls.quiet_of_same ((F1.out _).mono fun e w' ⟨h1, h2⟩ => ⟨h1, h2.symm⟩) | with_reducible exact Calls.quiet_of_same ((F2.out _).mono fun e w' ⟨h1, h2⟩ => ⟨h1, h2.symm⟩))))
        refine wpQuiet_nil ?_
        intro _ hw'
        obtain ⟨nq, hw''⟩ := hw'
        subst hw''
        go_wp2
        go_ret
        exact ⟨by rw [HR.out]; rfl, below_drewN ((Below.refl _ _).alloc (Nat.le_refl _) _) _⟩
  · have HS := Lib.hid (show kndS op = ⟨#[]⟩ by
      have h2 : kndL op = [] := List.length_eq_zero_iff.1 (by rw [knd_len, if_neg h])
      unfold kndS
      rw [h2])
    have HR := Lib.hid (show rightI op a b c = false by unfold rightI; rw [decide_eq_false h, Bool.false_and])
    have HK := Lib.hid (rkinds_any op · ho)
    clear h ho ha hb hc
    go_enter Tryd.func16, Tryd.ntmps16
    go_wp2_with fail
    refine (HK.out _).mono ?_
    rintro e w1 ⟨rfl, rfl⟩
    rw [HS.out]
    clear HK HS
    go_wp2_with fail
    refine wp_region_quiet_lit (by kernel_rfl) (by kernel_rfl) ?_
    repeat (go_big_quiet_step (fail))
    refine wpQuiet_nil ?_
    intro _ hw'
    obtain ⟨nq, hw''⟩ := hw'
    subst hw''
    go_wp2
    go_ret
    exact ⟨by rw [HR.out]; rfl, below_drewN ((Below.refl _ _).alloc (Nat.le_refl _) _) _⟩
end Go.Proofs.YtnmjglnllokklaaDoor
