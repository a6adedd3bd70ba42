/- Permissions as numbers: which are right, which are among others, how many there are. -/
import Derived.Test.YtjbfidgggfokcaaRow
import Derived.WalkLawsBesides
set_option linter.unusedVariables false
set_option linter.unusedSimpArgs false
namespace Go.Proofs.Ytjbfidgggfokcaa
open Go.RowKit

theorem perm_right (p : Int) (w : World) (h : inI p) : Calls Try.prog 13 #[.int .i64 p] w fun e w' => e = .returned (.bool (permB p)) ∧ w' = w := by
  have hb := andNot127 p h.1 h.2
  go_enter Try.func13, Try.ntmps13
  go_wp2
  go_ret
  exact ⟨rfl, rfl⟩
theorem ref_perm (p : Int) (w : World) : Calls Try.prog 14 #[.int .i64 p] w fun e w' => e = .returned (.bool (permB p)) ∧ w' = w := by
  unfold permB
  go_enter Try.func14, Try.ntmps14
  go_wp2
  all_goals (go_ret; refine ⟨congrArg Ending.returned (congrArg Value.bool ?_), rfl⟩; rw [Bool.eq_iff_iff]; simp; omega)

/-- The i-th permission. -/
def bitV (p : Int) (i : Nat) : Bool := (p / 2 ^ i).tmod 2 == 1
theorem bitV_nat (n i : Nat) : bitV (n : Int) i = n.testBit i := by
  unfold bitV
  have e : ((n : Int) / 2 ^ i) = ((n / 2 ^ i : Nat) : Int) := by push_cast; rfl
  rw [e, Int.tmod_eq_emod_of_nonneg (Int.natCast_nonneg _), Nat.testBit_eq_decide_div_mod_eq, Bool.eq_iff_iff, beq_iff_eq, decide_eq_true_eq]
  omega
set_option maxRecDepth 100000 in
theorem ref_bit (p : Int) (i : Nat) (w : World) (hi : (i : Int) ≤ 6) (hp : inI p) : Calls Try.prog 24 #[.int .i64 p, .int .i64 i] w fun e w' => e = .returned (.bool (bitV p i)) ∧ w' = w := by
  unfold bitV
  obtain ⟨h0, h1⟩ := hp
  go_enter Try.func24, Try.ntmps24
  go_wp2
  go_ret
  exact ⟨rfl, rfl⟩

theorem permB_nat {p : Int} (h : permB p = true) : ∃ n : Nat, p = n ∧ n < 128 := by
  have h : 0 ≤ p ∧ p ≤ 127 := by simpa [permB] using h
  exact ⟨p.toNat, by omega, by omega⟩
theorem permB_of {n : Nat} (h : n < 128) : permB (n : Int) = true := by unfold permB; rw [decide_eq_true_eq]; omega

set_option maxRecDepth 100000 in
theorem andNot_sub : ∀ p q : Fin 128, (bits .andNot .i64 ((q.val : Nat) : Int) ((p.val : Nat) : Int) == 0) = (q.val &&& p.val == q.val) := by decide +kernel
set_option maxRecDepth 100000 in
theorem sub_bits : ∀ p q : Fin 128, (q.val &&& p.val == q.val) = (List.range 7).all fun i => !q.val.testBit i || p.val.testBit i := by decide +kernel
/-- Are all of others among some? -/
def hasP (p q : Int) : Bool := permB p && permB q && (q.toNat &&& p.toNat == q.toNat)
theorem hasP_nat {p q : Nat} (hp : p < 128) (hq : q < 128) : hasP p q = (q &&& p == q) := by
  rw [hasP, permB_of hp, permB_of hq]; rfl
theorem hasP_raw (p q : Int) (hp : permB p = true) (hq : permB q = true) : (bits .andNot .i64 q p == 0) = hasP p q := by
  obtain ⟨m, rfl, hm⟩ := permB_nat hp
  obtain ⟨n, rfl, hn⟩ := permB_nat hq
  rw [hasP_nat hm hn]
  exact andNot_sub ⟨m, hm⟩ ⟨n, hn⟩
theorem hasP_bits {p q : Int} (hp : permB p = true) (hq : permB q = true) : hasP p q = (List.range 7).all fun i => !bitV q i || bitV p i := by
  obtain ⟨m, rfl, hm⟩ := permB_nat hp
  obtain ⟨n, rfl, hn⟩ := permB_nat hq
  rw [hasP_nat hm hn, sub_bits ⟨m, hm⟩ ⟨n, hn⟩]
  simp only [bitV_nat]

set_option maxRecDepth 100000 in
set_option maxHeartbeats 800000 in
theorem has_any (p q : Int) (w : World) (hp : inI p) (hq : inI q) : Calls Try.prog 15 #[.int .i64 p, .int .i64 q] w fun e w' => e = .returned (.bool (hasP p q)) ∧ w' = w := by
  have c1 := perm_right p w hp
  have c2 := perm_right q w hq
  cases h1 : permB p with
  | false =>
    rw [h1] at c1
    have e : hasP p q = false := by rw [hasP, h1]; rfl
    rw [e]
    clear c2 e h1
    go_enter Try.func15, Try.ntmps15
    go_wp2_with fail
    refine c1.mono ?_
    rintro e w1 ⟨rfl, rfl⟩
    go_wp2
    go_ret
    exact ⟨rfl, rfl⟩
  | true =>
    rw [h1] at c1
    cases h2 : permB q with
    | false =>
      rw [h2] at c2
      have e : hasP p q = false := by rw [hasP, h2, Bool.and_false]; rfl
      rw [e]
      clear e h1 h2
      go_enter Try.func15, Try.ntmps15
      go_wp2_with fail
      refine c1.mono ?_
      rintro e w1 ⟨rfl, rfl⟩
      go_wp2_with fail
      refine c2.mono ?_
      rintro e w1 ⟨rfl, rfl⟩
      go_wp2
      go_ret
      exact ⟨rfl, rfl⟩
    | true =>
      rw [h2] at c2
      have e := hasP_raw p q h1 h2
      clear h1 h2
      have E := Lib.hid e
      clear e
      go_enter Try.func15, Try.ntmps15
      go_wp2_with fail
      refine c1.mono ?_
      rintro e w1 ⟨rfl, rfl⟩
      go_wp2_with fail
      refine c2.mono ?_
      rintro e w1 ⟨rfl, rfl⟩
      go_wp2
      go_ret
      exact ⟨congrArg Ending.returned (congrArg Value.bool E.out), rfl⟩

theorem hasP_no {p q : Int} {j : Nat} (hj : j < 7) (h1 : bitV q j = true) (h2 : bitV p j = false) : hasP p q = false := by
  cases hp : permB p with
  | false => rw [hasP, hp]; rfl
  | true =>
    cases hq : permB q with
    | false => rw [hasP, hq, Bool.and_false]; rfl
    | true =>
      rw [hasP_bits hp hq]
      apply Bool.eq_false_iff.2
      intro h
      have := List.all_eq_true.1 h j (List.mem_range.2 hj)
      rw [h1, h2] at this
      cases this
theorem hasP_yes {p q : Int} (h : ∀ i, i < 7 → (!bitV q i || bitV p i) = true) : (permB p && permB q) = hasP p q := by
  cases hp : permB p with
  | false => rw [hasP, hp]; rfl
  | true =>
    cases hq : permB q with
    | false => rw [hasP, hq, Bool.and_false, Bool.and_false]; rfl
    | true =>
      rw [hasP_bits hp hq]
      symm
      apply List.all_eq_true.2
      intro i hi
      exact h i (List.mem_range.1 hi)

set_option maxRecDepth 100000 in
set_option maxHeartbeats 1600000 in
theorem ref_has (p q : Int) (w : World) (hp : inI p) (hq : inI q) : Calls Try.prog 16 #[.int .i64 p, .int .i64 q] w fun e w' => e = .returned (.bool (hasP p q)) ∧ w' = w := by
  go_enter Try.func16, Try.ntmps16
  go_wp2
  go_loopg [5] 7 (fun k i wr => ∃ j : Nat, j + k = 7 ∧ i = .int .i64 j ∧ (∀ m, m < j → (!bitV q m || bitV p m) = true) ∧ wr = w)
  case atStart => exact ⟨0, by omega, rfl, fun m h => by omega, rfl⟩
  case round =>
    obtain ⟨j, hj, rfl, hall, rfl⟩ := hrel
    have Hj := Lib.hid hj
    have Hall := Lib.hid hall
    clear hj hall
    rcases Nat.lt_or_ge j 7 with hlt | hge
    · have i1 : (j : Int) < 7 := by omega
      have Hlt := Lib.hid hlt
      have b1 := Lib.hid (ref_bit q j wr (by omega) hq)
      have b2 := Lib.hid (ref_bit p j wr (by omega) hp)
      clear hlt
      go_wp2_with fail
      refine b1.out.mono ?_
      rintro e w1 ⟨rfl, rfl⟩
      cases h1 : bitV q j with
      | false =>
        have H1 := Lib.hid h1
        clear h1
        go_wp2
        go_roundg (gk - 1)
        case measure => have := Hj.out; have := Hlt.out; omega
        case rel =>
          refine ⟨j + 1, by have := Hj.out; have := Hlt.out; omega, by go_num, fun m hm => ?_, rfl⟩
          rcases Nat.lt_or_ge m j with h | h
          · exact Hall.out m h
          · rw [show m = j by omega, H1.out]; rfl
      | true =>
        have H1 := Lib.hid h1
        clear h1
        go_wp2_with fail
        refine b2.out.mono ?_
        rintro e w1 ⟨rfl, rfl⟩
        cases h2 : bitV p j with
        | false =>
          have E := Lib.hid (hasP_no Hlt.out H1.out h2)
          clear h2
          go_wp2
          go_ret
          exact ⟨by rw [E.out]; rfl, rfl⟩
        | true =>
          have H2 := Lib.hid h2
          clear h2
          go_wp2
          go_roundg (gk - 1)
          case measure => have := Hj.out; have := Hlt.out; omega
          case rel =>
            refine ⟨j + 1, by have := Hj.out; have := Hlt.out; omega, by go_num, fun m hm => ?_, rfl⟩
            rcases Nat.lt_or_ge m j with h | h
            · exact Hall.out m h
            · rw [show m = j by omega, H2.out, Bool.or_true]
    · have i1 : ¬ (j : Int) < 7 := by omega
      have e := Lib.hid (hasP_yes (p := p) (q := q) fun m hm => Hall.out m (by omega))
      clear hge
      go_wp2_with fail
      refine (ref_perm p _).mono ?_
      rintro e w1 ⟨rfl, rfl⟩
      generalize permB p = P at *
      cases P with
      | false =>
        go_wp2
        go_ret
        exact ⟨congrArg Ending.returned (congrArg Value.bool e.out), rfl⟩
      | true =>
        go_wp2_with fail
        refine (ref_perm q _).mono ?_
        rintro e w1 ⟨rfl, rfl⟩
        go_wp2
        go_ret
        exact ⟨congrArg Ending.returned (congrArg Value.bool (by rw [← e.out]; rfl)), rfl⟩
end Go.Proofs.Ytjbfidgggfokcaa
