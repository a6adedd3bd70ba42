/- Kinds of instructions; the program's and the document's. -/
import Derived.Test.YtnmjglnllokklaaDoorAsShelf
import Derived.Test.YtnmjglnllokklaaDoorChecked
import Derived.Test.YtnmjglnllokklaaDoorRow
set_option linter.unusedVariables false
set_option linter.unusedSimpArgs false
namespace Go.Proofs.YtnmjglnllokklaaDoor
open Go.RowKit

/-- An instruction's kinds. -/
def kndL (op : Int) : List UInt8 :=
  if op < 0 then [] else if 29 < op then [] else if op ∈ [0, 24] then [45, 45, 45] else if op ∈ [1, 10] then [114, 119, 118] else if op = 9 then [45, 119, 118] else if op = 29 then [105, 45, 45]
  else if op ∈ [2, 22, 23, 25, 26, 27, 28] then [114, 114, 45] else if op ∈ [11, 12, 13, 14, 15, 16, 19] then [114, 114, 105] else [114, 114, 114]
def kndS (op : Int) : ByteArray := ⟨(kndL op).toArray⟩
/-- None beyond, three within; small letters. -/
theorem knd_len (op : Int) : (kndL op).length = if 0 ≤ op ∧ op ≤ 29 then 3 else 0 := by
  unfold kndL
  by_cases h : op < 0
  · rw [if_pos h, if_neg (show ¬ (0 ≤ op ∧ op ≤ 29) by omega)]; rfl
  · by_cases h2 : 29 < op
    · rw [if_neg h, if_pos h2, if_neg (show ¬ (0 ≤ op ∧ op ≤ 29) by omega)]; rfl
    · rw [if_neg h, if_neg h2, if_pos (show 0 ≤ op ∧ op ≤ 29 by omega)]
      split
      · rfl
      split
      · rfl
      split
      · rfl
      split
      · rfl
      split
      · rfl
      split <;> rfl
theorem knd_all (op : Int) : ∀ c ∈ kndL op, c = 45 ∨ c = 114 ∨ c = 105 ∨ c = 119 ∨ c = 118 := by
  unfold kndL
  repeat' split
  all_goals (intro c hc; simp only [List.mem_cons, List.not_mem_nil, or_false] at hc; try (rcases hc with h | h | h <;> simp [h]))
theorem knd_at (op : Int) (j : Nat) (hj : j < (kndL op).length) : ∃ h : j < (kndS op).size, ((kndS op)[j]'h) = (kndL op).getD j 0 ∧ ((kndS op)[j]'h).toNat < 128 := by
  have hs : (kndS op).size = (kndL op).length := by simp [kndS, ByteArray.size]
  refine ⟨by omega, ?_, ?_⟩
  · rw [List.getD_eq_getElem?_getD, List.getElem?_eq_getElem hj]
    rfl
  · have hm := knd_all op _ (List.getElem_mem hj)
    have : ((kndS op)[j]'(by omega)) = (kndL op)[j] := rfl
    rw [this]
    rcases hm with h | h | h | h | h <;> rw [h] <;> decide

set_option maxRecDepth 100000 in
theorem among_any (b c : Nat) (zs : List Int) (x : Int) (w : World) (hl : (zs.length : Int) ≤ 1000) (hc : ∀ j, j < zs.length → w.cell? ⟨b, 0 + j, none⟩ = some (.int .i64 (zs.getD j 0))) :
    Calls Tryd.prog 42 #[.int .i64 x, .slice (some ⟨b, 0, none⟩) zs.length c] w fun e w' => e = .returned (.bool (decide (x ∈ zs))) ∧ w = w' := by
  have g := Tryd.slices_Contains_int b 0 zs.length c zs x w (Nat.le_refl _) (by omega) hc
  rw [List.take_length, List.contains_eq_mem] at g
  have G := Lib.hid g
  generalize decide (x ∈ zs) = v at *
  generalize zs.length = n at *
  clear hc g
  go_enter Tryd.func42, Tryd.ntmps42
  go_wp2_with fail
  refine G.out.mono ?_
  rintro e w1 ⟨rfl, rfl⟩
  go_wp2
  go_ret
  exact ⟨rfl, rfl⟩
theorem row_cells (W : World) (zs : List Int) (e : TypeId) : ∀ j, j < zs.length → (W.alloc (.cells (zs.map (Value.int .i64)).toArray e)).cell? ⟨W.heap.size, 0 + j, none⟩ = some (.int .i64 (zs.getD j 0)) := fun j hj => by
  obtain ⟨ad, e1, h⟩ := RdL.new W (zs.map (Value.int .i64)).toArray e j (.int .i64 (zs.getD j 0)) (by simp [List.getElem?_eq_getElem hj, List.getD_eq_getElem?_getD])
  cases e1
  rw [← h]
  congr 1
  simp [Addr.add]
theorem among_new (zs : List Int) (x : Int) (c : Nat) (W : World) (e : TypeId) (hl : (zs.length : Int) ≤ 1000) (v : Bool) (hv : decide (x ∈ zs) = v) :
    Calls Tryd.prog 42 #[.int .i64 x, .slice (some ⟨W.heap.size, 0, none⟩) zs.length c] (W.alloc (.cells (zs.map (Value.int .i64)).toArray e)) fun e w' => e = .returned (.bool v) ∧ Below W.heap.size W w' :=
  (among_any W.heap.size c zs x _ hl (row_cells W zs e)).mono fun e' w' ⟨h1, h2⟩ => ⟨by rw [h1, hv], by subst h2; go_grown⟩

set_option maxRecDepth 100000 in
set_option maxHeartbeats 1600000 in
theorem kinds_any (op : Int) (w : World) (ho : inI op) :
    Calls Tryd.prog 25 #[.int .i64 op] w fun e w' => e = .returned (.string (kndS op)) ∧ Below w.heap.size w w' := by
  obtain ⟨o0, o1⟩ := ho
  rcases (show op < 0 ∨ 29 < op ∨ (¬ op < 0 ∧ ¬ 29 < op) by omega) with h | h | ⟨h0, h1⟩
  · have HK := Lib.hid (show kndL op = [] by unfold kndL; rw [if_pos h])
    go_enter Tryd.func25, Tryd.ntmps25
    go_wp2
    go_ret
    exact ⟨by rw [kndS, HK.out]; rfl, by go_grown⟩
  · have h0 : ¬ op < 0 := by omega
    have HK := Lib.hid (show kndL op = [] by unfold kndL; rw [if_neg h0, if_pos h])
    go_enter Tryd.func25, Tryd.ntmps25
    go_wp2
    go_ret
    exact ⟨by rw [kndS, HK.out]; rfl, by go_grown⟩
  · have HK := Lib.hid (show kndL op = _ by unfold kndL; rw [if_neg h0, if_neg h1])
    go_enter Tryd.func25, Tryd.ntmps25
    go_wp2_with fail
    cases hb1 : decide (op ∈ ([0, 24] : List Int)) with
    | true =>
      have HA := Lib.hid (fun (W : World) => among_new [0, 24] op 2 W 3 (by decide) true hb1)
      rw [if_pos (of_decide_eq_true hb1)] at HK
      clear hb1
      refine (HA.out w).mono ?_
      rintro e w1 ⟨rfl, b1⟩
      have B1 := Lib.hid (b1)
      clear b1
      go_wp2
      go_ret
      exact ⟨by rw [kndS, HK.out]; rfl, B1.out⟩
    | false =>
    have HA := Lib.hid (fun (W : World) => among_new [0, 24] op 2 W 3 (by decide) false hb1)
    rw [if_neg (of_decide_eq_false hb1)] at HK
    clear hb1
    refine (HA.out w).mono ?_
    rintro e w1 ⟨rfl, b1⟩
    have B1 := Lib.hid (b1)
    clear b1 HA
    go_wp2_with fail
    cases hb2 : decide (op ∈ ([1, 10] : List Int)) with
    | true =>
      have HA := Lib.hid (fun (W : World) => among_new [1, 10] op 2 W 3 (by decide) true hb2)
      rw [if_pos (of_decide_eq_true hb2)] at HK
      clear hb2
      refine (HA.out w1).mono ?_
      rintro e w2 ⟨rfl, b2⟩
      have B2 := Lib.hid (below_then B1.out B1.out.size b2)
      clear b2
      go_wp2
      go_ret
      exact ⟨by rw [kndS, HK.out]; rfl, B2.out⟩
    | false =>
    have HA := Lib.hid (fun (W : World) => among_new [1, 10] op 2 W 3 (by decide) false hb2)
    rw [if_neg (of_decide_eq_false hb2)] at HK
    clear hb2
    refine (HA.out w1).mono ?_
    rintro e w2 ⟨rfl, b2⟩
    have B2 := Lib.hid (below_then B1.out B1.out.size b2)
    clear b2 HA
    by_cases h9 : op = 9
    · subst h9
      rw [if_pos rfl] at HK
      go_wp2
      go_ret
      exact ⟨by rw [kndS, HK.out]; rfl, B2.out⟩
    · rw [if_neg h9] at HK
      by_cases h29 : op = 29
      · subst h29
        rw [if_pos rfl] at HK
        go_wp2
        go_ret
        exact ⟨by rw [kndS, HK.out]; rfl, B2.out⟩
      · rw [if_neg h29] at HK
        have i9 : (op == 9) = false := by simpa using h9
        have i29 : (op == 29) = false := by simpa using h29
        go_wp2_with fail
        cases hb3 : decide (op ∈ ([2, 22, 23, 25, 26, 27, 28] : List Int)) with
        | true =>
          have HA := Lib.hid (fun (W : World) => among_new [2, 22, 23, 25, 26, 27, 28] op 7 W 3 (by decide) true hb3)
          rw [if_pos (of_decide_eq_true hb3)] at HK
          clear hb3
          refine (HA.out w2).mono ?_
          rintro e w3 ⟨rfl, b3⟩
          have B3 := Lib.hid (below_then B2.out B2.out.size b3)
          clear b3
          go_wp2
          go_ret
          exact ⟨by rw [kndS, HK.out]; rfl, B3.out⟩
        | false =>
        have HA := Lib.hid (fun (W : World) => among_new [2, 22, 23, 25, 26, 27, 28] op 7 W 3 (by decide) false hb3)
        rw [if_neg (of_decide_eq_false hb3)] at HK
        clear hb3
        refine (HA.out w2).mono ?_
        rintro e w3 ⟨rfl, b3⟩
        have B3 := Lib.hid (below_then B2.out B2.out.size b3)
        clear b3 HA
        go_wp2_with fail
        cases hb4 : decide (op ∈ ([11, 12, 13, 14, 15, 16, 19] : List Int)) with
        | true =>
          have HA := Lib.hid (fun (W : World) => among_new [11, 12, 13, 14, 15, 16, 19] op 7 W 3 (by decide) true hb4)
          rw [if_pos (of_decide_eq_true hb4)] at HK
          clear hb4
          refine (HA.out w3).mono ?_
          rintro e w4 ⟨rfl, b4⟩
          have B4 := Lib.hid (below_then B3.out B3.out.size b4)
          clear b4
          go_wp2
          go_ret
          exact ⟨by rw [kndS, HK.out]; rfl, B4.out⟩
        | false =>
        have HA := Lib.hid (fun (W : World) => among_new [11, 12, 13, 14, 15, 16, 19] op 7 W 3 (by decide) false hb4)
        rw [if_neg (of_decide_eq_false hb4)] at HK
        clear hb4
        refine (HA.out w3).mono ?_
        rintro e w4 ⟨rfl, b4⟩
        have B4 := Lib.hid (below_then B3.out B3.out.size b4)
        clear b4 HA
        go_wp2
        go_ret
        exact ⟨by rw [kndS, HK.out]; rfl, B4.out⟩
/-- From where up to where numbers of a kind go. -/
def loB (c : Int) : Int := if c = 119 then -32768 else 0
def hiB (c : Int) : Int := if c = 114 then 7 else if c = 105 then 255 else if c = 119 then 32767 else 0
def fineB (c n : Int) : Bool := decide (loB c ≤ n ∧ n ≤ hiB c)
theorem loB_in (c : Int) : -32768 ≤ loB c ∧ loB c ≤ 0 := by unfold loB; split <;> omega
theorem hiB_in (c : Int) : 0 ≤ hiB c ∧ hiB c ≤ 32767 := by
  unfold hiB
  split
  · omega
  · split
    · omega
    · split <;> omega
set_option maxRecDepth 100000 in
theorem bounds_any (c : Int) (w : World) :
    Calls Tryd.prog 47 #[.int .i32 c] w fun e w' => e = .returned (.tuple #[.int .i64 (loB c), .int .i64 (hiB c)]) ∧ w = w' := by
  rcases (show c = 114 ∨ c = 105 ∨ c = 119 ∨ (¬ c = 114 ∧ ¬ c = 105 ∧ ¬ c = 119) by omega) with h | h | h | ⟨h1, h2, h3⟩
  · subst h
    go_enter Tryd.func47, Tryd.ntmps47
    go_wp2
    go_ret2
    exact ⟨rfl, rfl⟩
  · subst h
    go_enter Tryd.func47, Tryd.ntmps47
    go_wp2
    go_ret2
    exact ⟨rfl, rfl⟩
  · subst h
    go_enter Tryd.func47, Tryd.ntmps47
    go_wp2
    go_ret2
    exact ⟨rfl, rfl⟩
  · have i1 : (c == 114) = false := by simpa using h1
    have i2 : (c == 105) = false := by simpa using h2
    have i3 : (c == 119) = false := by simpa using h3
    have HL := Lib.hid (show loB c = 0 by unfold loB; rw [if_neg h3])
    have HH := Lib.hid (show hiB c = 0 by unfold hiB; rw [if_neg h1, if_neg h2, if_neg h3])
    clear h1 h2 h3
    go_enter Tryd.func47, Tryd.ntmps47
    go_wp2
    go_ret2
    exact ⟨by rw [HL.out, HH.out]; rfl, rfl⟩
end Go.Proofs.YtnmjglnllokklaaDoor
