/-
  AsmNames: for every two numbers the law returns true, and each argument reads as it did. Condition: none.
-/
import Derived.Test.YtnmjglnllokklaaDoorAsL
set_option linter.unusedVariables false
set_option linter.unusedSimpArgs false
namespace Go.Proofs.YtnmjglnllokklaaDoor.AsmNames
open Go.RowKit Go.Proofs.YtnmjglnllokklaaDoor

def bt (s : ByteArray) (k : Nat) : Int := if h : k < s.size then ((s[k]'h).toNat : Int) else 0
theorem get_bt (s : ByteArray) : ∀ (n : Nat) (h : n < s.size), ((s[n]'h).toNat : Int) = bt s n := fun n h => by unfold bt; rw [dif_pos h]
theorem name_fact : ∀ i, i < 40 → (nameS (i : Nat)).toList.isEmpty = decide (30 ≤ i) ∧ (nameS (i : Nat)).size ≤ 4 ∧ ∀ j, j < (nameS (i : Nat)).size → 97 ≤ bt (nameS (i : Nat)) j ∧ bt (nameS (i : Nat)) j ≤ 122 := by decide +kernel
theorem name_none : ∀ i, i < 40 → 30 ≤ i → nameS (i : Nat) = ⟨#[]⟩ := by decide +kernel
theorem name_unlike : ∀ i, i < 30 → ∀ k, k < 30 → ((nameS (i : Nat)).toList == (nameS (k : Nat)).toList) = decide (i = k) := by decide +kernel

set_option maxRecDepth 100000 in
set_option maxHeartbeats 3200000 in
theorem walk (w : World) (a b : Int) (hE : Env w) (ha : (Lit.int .u8 a).wf = true) (hb : (Lit.int .u8 b).wf = true) :
    Calls Tryd.prog 6 #[.int .u8 a, .int .u8 b] w fun e w' => e = .returned (.bool true) ∧ Below w.heap.size w w' := by
  have ha2 : 0 ≤ a ∧ a ≤ 255 := by simpa [Lit.wf, IntKind.min, IntKind.max, IntKind.signed, IntKind.bits] using ha
  have hb2 : 0 ≤ b ∧ b ≤ 255 := by simpa [Lit.wf, IntKind.min, IntKind.max, IntKind.signed, IntKind.bits] using hb
  obtain ⟨a0, a1⟩ := ha2
  obtain ⟨b0, b1⟩ := hb2
  have HE := Lib.hid hE
  clear ha hb hE
  obtain ⟨i, hi⟩ : ∃ i : Nat, a.tmod 40 = i := ⟨(a.tmod 40).toNat, by have := Int.tmod_nonneg 40 a0; omega⟩
  obtain ⟨k, hk⟩ : ∃ k : Nat, b.tmod 40 = k := ⟨(b.tmod 40).toNat, by have := Int.tmod_nonneg 40 b0; omega⟩
  have i40 : i < 40 := by have := Int.tmod_lt_of_pos a (show (0 : Int) < 40 by decide); omega
  have k40 : k < 40 := by have := Int.tmod_lt_of_pos b (show (0 : Int) < 40 by decide); omega
  have HI := Lib.hid (And.intro i40 k40)
  go_enter Tryd.func6, Tryd.ntmps6
  go_wp2_with fail
  refine (Head.head_any w HE.out).mono ?_
  rintro e w1 ⟨rfl, b1'⟩
  have B1 := Lib.hid b1'
  clear b1'
  go_wp2_with fail
  refine (name_any i w1 (HE.out.grow B1.out) ⟨by omega, by omega⟩).mono ?_
  rintro e w2 ⟨rfl, b2⟩
  have B2 := Lib.hid (below_then B1.out B1.out.size b2)
  clear b2 B1
  go_wp2_with fail
  refine (name_any k w2 (HE.out.grow B2.out) ⟨by omega, by omega⟩).mono ?_
  rintro e w3 ⟨rfl, b3⟩
  have B3 := Lib.hid (below_then B2.out B2.out.size b3)
  clear b3 B2
  obtain ⟨f1, f2, f3⟩ := name_fact i i40
  obtain ⟨g1, g2, g3⟩ := name_fact k k40
  have hxy := name_unlike i
  have gb := get_bt (nameS (i : Nat))
  have F3 := Lib.hid f3
  have HXY := Lib.hid hxy
  clear f3 g3 hxy
  by_cases hi30 : i < 30
  · have e1 : (nameS (i : Nat)).toList.isEmpty = false := by rw [f1, decide_eq_false (by omega)]
    have e1' : ¬ (nameS (i : Nat)).toList = [] := by simpa [List.isEmpty_iff] using e1
    have l1 : (i : Int) ≤ 29 := by omega
    by_cases hk30 : k < 30
    · have e2 : (nameS (k : Nat)).toList.isEmpty = false := by rw [g1, decide_eq_false (by omega)]
      have e2' : ¬ (nameS (k : Nat)).toList = [] := by simpa [List.isEmpty_iff] using e2
      have l2 : (k : Int) ≤ 29 := by omega
      have hxy := HXY.out hi30 k hk30
      generalize nameS (i : Nat) = x at *
      generalize nameS (k : Nat) = y at *
      have f2' : (x.size : Int) ≤ 4 := by omega
      clear f1 g1 f2 g2 hi hk HXY
      go_wp2_with fail
      obtain ⟨n, hn⟩ : ∃ n, x.size = n := ⟨_, rfl⟩
      have HN := Lib.hid hn
      have hn4 : n ≤ 4 := by omega
      have GB := Lib.hid gb
      clear gb hn f2'
      go_loopg [10] n (fun gk v wr => ∃ j : Nat, j + gk = n ∧ v = .int .i64 j ∧ wr = w3)
      case atStart => exact ⟨0, by omega, rfl, rfl⟩
      case round =>
        obtain ⟨j, hj, rfl, rfl⟩ := hrel
        have HJ := Lib.hid hj
        clear hj
        rcases Nat.lt_or_ge j n with hlt | hge
        · have HLT := Lib.hid hlt
          have hjx : j < x.size := by rw [HN.out]; exact hlt
          have hj1 : (j : Int) < x.size := by omega
          have hj4 : (j : Int) ≤ 4 := by omega
          have hx4 : (x.size : Int) ≤ 4 := by rw [HN.out]; omega
          obtain ⟨q1, q2⟩ := F3.out j hjx
          have q0 := GB.out j hjx
          have q3 : ¬ bt x j < 97 := by omega
          have q4 : ¬ 122 < bt x j := by omega
          clear hlt
          go_wp2
          go_roundg (gk - 1)
          case measure => have := HJ.out; have := HLT.out; omega
          case rel => exact ⟨j + 1, by have := HJ.out; have := HLT.out; omega, by go_num, rfl⟩
        · have hj1 : ¬ (j : Int) < x.size := by rw [HN.out]; omega
          have hx4 : (x.size : Int) ≤ 4 := by rw [HN.out]; omega
          by_cases he : i = k
          · have he' : (i : Int) = k := by omega
            rw [decide_eq_true he] at hxy
            clear hge he
            go_wp2
            go_ret
            exact ⟨rfl, B3.out⟩
          · have he' : ¬ (i : Int) = k := by omega
            rw [decide_eq_false he] at hxy
            clear hge he
            go_wp2
            go_ret
            exact ⟨rfl, B3.out⟩
    · have e2 : nameS (k : Nat) = ⟨#[]⟩ := name_none k k40 (by omega)
      have l2 : ¬ (k : Int) ≤ 29 := by omega
      have he' : ¬ (i : Int) = k := by omega
      rw [e2]
      generalize nameS (i : Nat) = x at *
      have f2' : (x.size : Int) ≤ 4 := by omega
      clear f1 g1 f2 g2 hi hk HXY e2
      go_wp2_with fail
      obtain ⟨n, hn⟩ : ∃ n, x.size = n := ⟨_, rfl⟩
      have HN := Lib.hid hn
      have hn4 : n ≤ 4 := by omega
      have GB := Lib.hid gb
      clear gb hn f2'
      go_loopg [10] n (fun gk v wr => ∃ j : Nat, j + gk = n ∧ v = .int .i64 j ∧ wr = w3)
      case atStart => exact ⟨0, by omega, rfl, rfl⟩
      case round =>
        obtain ⟨j, hj, rfl, rfl⟩ := hrel
        have HJ := Lib.hid hj
        clear hj
        rcases Nat.lt_or_ge j n with hlt | hge
        · have HLT := Lib.hid hlt
          have hjx : j < x.size := by rw [HN.out]; exact hlt
          have hj1 : (j : Int) < x.size := by omega
          have hj4 : (j : Int) ≤ 4 := by omega
          have hx4 : (x.size : Int) ≤ 4 := by rw [HN.out]; omega
          obtain ⟨q1, q2⟩ := F3.out j hjx
          have q0 := GB.out j hjx
          have q3 : ¬ bt x j < 97 := by omega
          have q4 : ¬ 122 < bt x j := by omega
          clear hlt
          go_wp2
          go_roundg (gk - 1)
          case measure => have := HJ.out; have := HLT.out; omega
          case rel => exact ⟨j + 1, by have := HJ.out; have := HLT.out; omega, by go_num, rfl⟩
        · have hj1 : ¬ (j : Int) < x.size := by rw [HN.out]; omega
          have hx4 : (x.size : Int) ≤ 4 := by rw [HN.out]; omega
          clear hge
          go_wp2
          go_ret
          exact ⟨rfl, B3.out⟩
  · have e1 : nameS (i : Nat) = ⟨#[]⟩ := name_none i i40 (by omega)
    have l1 : ¬ (i : Int) ≤ 29 := by omega
    rw [e1]
    by_cases hk30 : k < 30
    · have e2 : (nameS (k : Nat)).toList.isEmpty = false := by rw [g1, decide_eq_false (by omega)]
      have e2' : ¬ (nameS (k : Nat)).toList = [] := by simpa [List.isEmpty_iff] using e2
      have l2 : (k : Int) ≤ 29 := by omega
      have he' : ¬ (i : Int) = k := by omega
      generalize nameS (k : Nat) = y at *
      clear f1 g1 f2 g2 hi hk HXY e1 gb F3
      go_wp2_with fail
      go_loopg [10] 0 (fun gk v wr => v = .int .i64 0 ∧ wr = w3)
      case atStart => exact ⟨rfl, rfl⟩
      case round =>
        obtain ⟨rfl, rfl⟩ := hrel
        go_wp2
        go_ret
        exact ⟨rfl, B3.out⟩
    · have e2 : nameS (k : Nat) = ⟨#[]⟩ := name_none k k40 (by omega)
      have l2 : ¬ (k : Int) ≤ 29 := by omega
      rw [e2]
      clear f1 g1 f2 g2 hi hk HXY e1 gb F3 e2
      go_wp2_with fail
      go_loopg [10] 0 (fun gk v wr => v = .int .i64 0 ∧ wr = w3)
      case atStart => exact ⟨rfl, rfl⟩
      case round =>
        obtain ⟨rfl, rfl⟩ := hrel
        by_cases he : i = k
        · have he' : (i : Int) = k := by omega
          clear he
          go_wp2
          go_ret
          exact ⟨rfl, B3.out⟩
        · have he' : ¬ (i : Int) = k := by omega
          clear he
          go_wp2
          go_ret
          exact ⟨rfl, B3.out⟩
end Go.Proofs.YtnmjglnllokklaaDoor.AsmNames
