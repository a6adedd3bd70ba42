/-
  PermBack: for every byte and every text the law returns true, and each argument reads as it did. Condition: none.
-/
import Derived.Test.YtjbfidgggfokcaaRows
import Derived.Test.YtjbfidgggfokcaaPermJ
set_option linter.unusedVariables false
set_option linter.unusedSimpArgs false
namespace Go.Proofs.Ytjbfidgggfokcaa.PermBack
open Go.ChangeShapes Go.WideShapes Go.ChangeAt Go.RowKit Go.Proofs.Ytjbfidgggfokcaa
open Go.ChangeMaps (open_string)

theorem own : ownKnob Try.prog.godebug = none := by kernel_rfl
theorem laidOut : laidOutB Try.prog = true := by kernel_rfl

set_option maxRecDepth 100000 in
set_option maxHeartbeats 3200000 in
theorem walk (x : Int) (s : ByteArray) (w : World) (wx : (Lit.int .u8 x).wf = true) (hs : s.size ≤ maxLen) :
    Calls Try.prog 7 #[.int .u8 x, .string s] w fun e w' => e = .returned (.bool true) ∧ Below w.heap.size w w' := by
  unfold maxLen at hs
  obtain ⟨a, ha, ea⟩ := and127 (u8_of_wf wx).1 (u8_of_wf wx).2
  obtain ⟨x0, x1⟩ := u8_of_wf wx
  obtain ⟨p1, p2⟩ := parse_some (s := strB (textL (a : Nat))) ha rfl
  have hl := fun h => text_len ⟨a, ha⟩ h
  simp only at hl
  have hle : (textL (a : Nat)).length ≤ 7 := by
    by_cases h : a = 0
    · subst h; decide
    · rw [hl h]; exact cnt_le ⟨a, ha⟩
  have hts := fun W => text_any (a : Int) W ⟨by omega, by omega⟩
  have hsz : (strB (textL (a : Nat))).size = (textL (a : Nat)).length := rfl
  generalize strB (textL (a : Nat)) = T at *
  have hps := fun W => parse_any T W (by omega)
  rw [p1, p2] at hps
  have hmn := fun W => many_any (a : Int) W ⟨by omega, by omega⟩
  rw [manyP_nat ha] at hmn
  have hq := fun (h : s.size ≤ 900) W => parse_any s W (by omega)
  have hpv := pv_facts s
  have a1 : (a : Int) ≤ 127 := by omega
  have HT := Lib.hid hts
  have HPs := Lib.hid hps
  have HMn := Lib.hid hmn
  have HQ := Lib.hid hq
  have t2 : a ≠ 0 → ((T.size : Int) == (cnt a : Int)) = true := fun h => by rw [beq_iff_eq, hsz, hl h]
  have T2 := Lib.hid t2
  have Ha := Lib.hid ha
  clear hts hps hmn hq p1 p2 hl hle hsz wx ha t2
  generalize cnt a = C at *
  rcases Nat.eq_zero_or_pos a with h0 | h0
  · subst h0
    go_enter Try.func7, Try.ntmps7
    go_wp2_with fail
    refine (head1_true _).mono ?_
    rintro e w1 ⟨rfl, B1⟩
    go_wp2_with fail
    refine (HT.out _).mono ?_
    rintro e w2 ⟨rfl, b2⟩
    have B2 := below_then B1 B1.size b2
    clear B1 b2
    go_wp2_with fail
    refine (HPs.out _).mono ?_
    rintro e w3 ⟨rfl, b3⟩
    have B3 := below_then B2 B2.size b3
    clear B2 b3
    by_cases h9 : (s.size : Int) ≤ 900
    · have hq := HQ.out (by omega)
      rcases hpv with ⟨q1, q2⟩ | ⟨q1, q2, q3⟩
      · rw [q1, q2] at hq
        have HQ2 := Lib.hid hq
        clear hq q1 q2
        go_wp2_with fail
        refine (HQ2.out _).mono ?_
        rintro e w5 ⟨rfl, b5⟩
        have B5 := below_then B3 B3.size b5
        clear B3 b5
        go_wp2
        go_ret
        exact ⟨rfl, B5⟩
      · rw [q1] at hq
        have ht := fun W => text_any (pvN s : Nat) W ⟨by omega, by omega⟩
        rw [q3] at ht
        generalize pvN s = N at *
        have HQ2 := Lib.hid hq
        have HT2 := Lib.hid ht
        have n1 : (N : Int) ≤ 127 := by omega
        clear hq q1 q2 q3 ht
        go_wp2_with fail
        refine (HQ2.out _).mono ?_
        rintro e w5 ⟨rfl, b5⟩
        have B5 := below_then B3 B3.size b5
        clear B3 b5
        go_wp2_with fail
        refine (HT2.out _).mono ?_
        rintro e w6 ⟨rfl, b6⟩
        have B6 := below_then B5 B5.size b6
        clear B5 b6
        go_wp2
        go_ret
        exact ⟨rfl, B6⟩
    · clear hpv
      go_wp2
      go_ret
      exact ⟨rfl, B3⟩
  · have t3 := T2.out (by omega)
    have i1 : (0 : Int) < a := by omega
    clear h0
    go_enter Try.func7, Try.ntmps7
    go_wp2_with fail
    refine (head1_true _).mono ?_
    rintro e w1 ⟨rfl, B1⟩
    go_wp2_with fail
    refine (HT.out _).mono ?_
    rintro e w2 ⟨rfl, b2⟩
    have B2 := below_then B1 B1.size b2
    clear B1 b2
    go_wp2_with fail
    refine (HPs.out _).mono ?_
    rintro e w3 ⟨rfl, b3⟩
    have B3 := below_then B2 B2.size b3
    clear B2 b3
    go_wp2_with fail
    refine (HMn.out _).mono ?_
    rintro e w4 ⟨rfl, rfl⟩
    by_cases h9 : (s.size : Int) ≤ 900
    · have hq := HQ.out (by omega)
      rcases hpv with ⟨q1, q2⟩ | ⟨q1, q2, q3⟩
      · rw [q1, q2] at hq
        have HQ2 := Lib.hid hq
        clear hq q1 q2
        go_wp2_with fail
        refine (HQ2.out _).mono ?_
        rintro e w5 ⟨rfl, b5⟩
        have B5 := below_then B3 B3.size b5
        clear B3 b5
        go_wp2
        go_ret
        exact ⟨rfl, B5⟩
      · rw [q1] at hq
        have ht := fun W => text_any (pvN s : Nat) W ⟨by omega, by omega⟩
        rw [q3] at ht
        generalize pvN s = N at *
        have HQ2 := Lib.hid hq
        have HT2 := Lib.hid ht
        have n1 : (N : Int) ≤ 127 := by omega
        clear hq q1 q2 q3 ht
        go_wp2_with fail
        refine (HQ2.out _).mono ?_
        rintro e w5 ⟨rfl, b5⟩
        have B5 := below_then B3 B3.size b5
        clear B3 b5
        go_wp2_with fail
        refine (HT2.out _).mono ?_
        rintro e w6 ⟨rfl, b6⟩
        have B6 := below_then B5 B5.size b6
        clear B5 b6
        go_wp2
        go_ret
        exact ⟨rfl, B6⟩
    · clear hpv
      go_wp2
      go_ret
      exact ⟨rfl, B3⟩

set_option maxRecDepth 100000 in
theorem lifted (os : Os) (started : os.Started) (H : Type) (enc : TypeId × Value → H) :
    ReturnsInHanded {} Try.checked os 7 .any (Rows.permBackSpec.pre6 enc Try.prog Try.f7 Rows.permBackRow.domain false) (Rows.permBackSpec.post enc Try.prog Try.f7 false true false false) := by
  refine returnsInHanded_of_change (C := Try.checked) own started (by kernel_rfl) Try.func7
    (ChangeSpec.witness6 (enc := enc) (C := Try.checked) false ⟨#[], #[.int .u8 0, .string ByteArray.empty], []⟩ 8 (by kernel_rfl) (by kernel_rfl) (by kernel_rfl) (by kernel_rfl)) ?_
  intro W base args ds gs before hval0 hW hcnd _
  have hval : ∀ (j : Nat) t v, Try.f7.params[j]? = some t → args[j]? = some v → Value.okWide Try.prog W .any base t v := hval0
  have hW' := hW
  obtain ⟨p, q, hA0, hV, rfl, hfz, hnd⟩ := hW
  have hA : DataW.TrodAll enc Try.prog W 0 (fun _ => true) true Try.f7.params.toList args.toList ds p := hA0
  rw [Try.params7] at hA hval
  obtain ⟨v0, vs0, d0, ds0, p0, q0, hargs, rfl, rfl, h0, r0⟩ := trodAll_cons hA
  obtain ⟨v1, vs1, d1, ds1, p1, q1, rfl, rfl, rfl, h1, r1⟩ := trodAll_cons r0
  obtain ⟨rfl, rfl, rfl⟩ := trodAll_nil r1
  obtain rfl : args = #[v0, v1] := by cases args; simp_all
  obtain ⟨rfl, rfl⟩ := trodVars_none hV
  have k0 := h0
  have lt0 : ∀ x ∈ p0, x.block < W.heap.size := by obtain ⟨m, hm⟩ := k0; exact DataW.trod_lt m _ _ _ hm
  obtain ⟨x0, rfl, _, _, w0⟩ := open_int Try.underlying5 (hval 0 5 v0 rfl rfl) h0
  have k1 := h1
  have lt1 : ∀ x ∈ p1, x.block < W.heap.size := by obtain ⟨m, hm⟩ := k1; exact DataW.trod_lt m _ _ _ hm
  obtain ⟨x1, rfl, _, _, hs1⟩ := open_string Try.underlying9 (hval 1 9 v1 rfl rfl) h1
  clear hA0 hval0
  refine (walk x0 x1 W w0 hs1).mono fun e W' ⟨he, bel⟩ => ?_
  subst he
  exact ⟨_, rfl, _, _, _, [], _, [], hW', trodAll_mk1 (shut_bool Try.underlying4 _), (trodAll_cons_mk (Below.trod laidOut (by kernel_rfl) (of_decide_eq_true (by kernel_rfl)) k0 bel lt0) (trodAll_cons_mk (Below.trod laidOut (by kernel_rfl) (of_decide_eq_true (by kernel_rfl)) k1 bel lt1) trodAll_mk0)), rfl, bel.frame _, fun h => by cases h⟩

theorem over : Rows.permBackRow.holds Try.pinned (OpenSpec.ofChange Rows.permBackSpec) :=
  OpenClaim.holds_of_wide 7 Try.f7 rfl rfl rfl rfl rfl rfl rfl ⟨rfl, rfl, rfl, rfl, rfl⟩ rfl rfl rfl rfl rfl (by kernel_rfl) Try.func7 (by kernel_rfl)
    (of_decide_eq_true (by kernel_rfl)) (by unfold Func.isWrapper; rw [if_neg (of_decide_eq_false (by kernel_rfl))]; exact ⟨rfl, rfl⟩)
    (fun os started H enc _ => lifted os started H enc)

/-- The statement. -/
theorem proved : Rows.PermBackSaid := over

#print axioms proved
end Go.Proofs.Ytjbfidgggfokcaa.PermBack
