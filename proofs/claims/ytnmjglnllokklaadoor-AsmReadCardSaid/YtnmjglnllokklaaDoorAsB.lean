/- Is an instruction right; the program's. -/
import Derived.Test.YtnmjglnllokklaaDoorAsA
import Derived.Test.YtnmjglnllokklaaDoorFlow
import Derived.Laws.Runes
import Derived.WalkSpells
set_option linter.unusedVariables false
set_option linter.unusedSimpArgs false
namespace Go.Proofs.YtnmjglnllokklaaDoor
open Go.RowKit

/-- The j-th kind. -/
def kc (op : Int) (j : Nat) : Int := (((kndL op).getD j 0).toNat : Int)
/-- The j-th number. -/
def nm (a b c : Int) (j : Nat) : Int := [a, b, c].getD j 0
def rightI (op a b c : Int) : Bool := decide (0 ≤ op ∧ op ≤ 29) && (fineB (kc op 0) a && fineB (kc op 1) b && fineB (kc op 2) c)
theorem nm_in {a b c : Int} (ha : inI a) (hb : inI b) (hc : inI c) (j : Nat) : inI (nm a b c j) := by
  unfold nm
  match j with
  | 0 => exact ha
  | 1 => exact hb
  | 2 => exact hc
  | j + 3 => exact (⟨by decide, by decide⟩ : inI 0)
theorem right_of {op a b c : Int} (h : 0 ≤ op ∧ op ≤ 29) (hf : ∀ j, j < 3 → fineB (kc op j) (nm a b c j) = true) : rightI op a b c = true := by
  unfold rightI
  rw [decide_eq_true h, show fineB (kc op 0) a = true from hf 0 (by decide), show fineB (kc op 1) b = true from hf 1 (by decide), show fineB (kc op 2) c = true from hf 2 (by decide)]
  rfl
theorem right_not {op a b c : Int} {j : Nat} (hj : j < 3) (hf : fineB (kc op j) (nm a b c j) = false) : rightI op a b c = false := by
  unfold rightI
  match j, hj with
  | 0, _ => rw [show fineB (kc op 0) a = false from hf]; simp
  | 1, _ => rw [show fineB (kc op 1) b = false from hf]; simp
  | 2, _ => rw [show fineB (kc op 2) c = false from hf]; simp

set_option maxRecDepth 100000 in
set_option maxHeartbeats 1600000 in
theorem right_any (op a b c : Int) (w : World) (ho : inI op) (ha : inI a) (hb : inI b) (hc : inI c) :
    Calls Tryd.prog 31 #[.agg #[.int .i64 (op), .int .i64 (a), .int .i64 (b), .int .i64 (c)]] w fun e w' => e = .returned (.bool (rightI op a b c)) ∧ Below w.heap.size w w' := by
  have HIN := Lib.hid (nm_in ha hb hc)
  have HO := Lib.hid ho
  obtain ⟨o0, o1⟩ := ho
  clear ha hb hc
  go_enter Tryd.func31, Tryd.ntmps31
  go_wp2_with fail
  obtain ⟨W1, hW1⟩ : ∃ W1, (w.alloc (.cells #[.int .i64 (op), .int .i64 (a), .int .i64 (b), .int .i64 (c)] 23)).alloc (.cells #[.int .i64 a, .int .i64 b, .int .i64 c] 45) = W1 := ⟨_, rfl⟩
  have K1 : Blk W1 w.heap.size #[.int .i64 (op), .int .i64 (a), .int .i64 (b), .int .i64 (c)] 23 := by rw [← hW1]; exact (Blk.new _ _ _).alloc _
  have N1 : Blk W1 (w.heap.size + 1) #[.int .i64 a, .int .i64 b, .int .i64 c] 45 := by
    rw [← hW1]
    have := Blk.new (w.alloc (.cells #[.int .i64 (op), .int .i64 (a), .int .i64 (b), .int .i64 (c)] 23)) #[.int .i64 a, .int .i64 b, .int .i64 c] 45
    rw [World.size_alloc] at this
    exact this
  have B1 : Below w.heap.size w W1 := by rw [← hW1]; go_grown
  rw [hW1]
  clear hW1
  refine (kinds_any op W1 HO.out).mono ?_
  rintro e w2 ⟨rfl, b2⟩
  have K2 := Lib.hid (K1.below b2 K1.lt)
  have N2 := Lib.hid (N1.below b2 N1.lt)
  have B2 := Lib.hid (below_then B1 B1.size b2)
  have HS2 := Lib.hid N2.out.lt
  clear K1 N1 B1 b2
  obtain ⟨kx, hkx⟩ : ∃ kx, w.heap.size = kx := ⟨_, rfl⟩
  rw [hkx] at K2 N2 HS2 ⊢
  generalize hkn : kx + 1 = kn at *
  clear hkx hkn
  have HL := Lib.hid (knd_len op)
  have HAT := Lib.hid (knd_at op)
  generalize hn : (kndL op).length = n at *
  have Hn := Lib.hid hn
  clear hn
  go_wp2
  go_loopg [4, 5, 6, 7] n (fun gk v4 v5 v6 v7 wr => ∃ j : Nat, j + gk = n ∧ wr.heap[w2.heap.size]? = some (.stringIter (kndS op) j) ∧ Below w2.heap.size w2 wr ∧ ∀ i, i < j → fineB (kc op i) (nm a b c i) = true)
  case atStart => exact ⟨0, by omega, World.iter_heap w2 (kndS op) 0, (Below.refl _ _).alloc (Nat.le_refl _) _, fun i hi => by omega⟩
  case round =>
    obtain ⟨j, hj, hit, hb, hf⟩ := hrel
    have Hj := Lib.hid hj
    have Hit := Lib.hid hit
    have HB := Lib.hid hb
    have HF := Lib.hid hf
    clear hj hit hb hf
    have hn3 : n = 3 ∨ n = 0 := by have h1 := HL.out; split at h1 <;> omega
    rcases Nat.lt_or_ge j n with hlt | hge
    · have Hlt := Lib.hid hlt
      have hj3 : j < 3 := by omega
      obtain ⟨hl0, hl1, hl2⟩ := HAT.out j hlt
      have hnx := fun ty => Lib.run_next_ascii_at (P := Tryd.prog) wr w2.heap.size (kndS op) j ty Hit.out hl0 hl2
      rw [hl1] at hnx hl2
      have Hit2 := Lib.hid (Lib.iterAt_heap wr w2.heap.size (kndS op) j (j + 1) Hit.out)
      have HB2 := Lib.hid (Lib.below_iterAt HB.out (Nat.le_refl w2.heap.size) (kndS op) (j + 1))
      generalize wr.iterAt w2.heap.size (kndS op) (j + 1) = wi at *
      have hkc : kc op j = ((((kndL op).getD j 0).toNat : Nat) : Int) := rfl
      have hcb : ((((kndL op).getD j 0).toNat : Nat) : Int) ≤ 127 := by omega
      have HKC := Lib.hid hkc
      generalize ((((kndL op).getD j 0).toNat : Nat) : Int) = ch at *
      have hk : wi.cell? ⟨kn, j, none⟩ = some (.int .i64 (nm a b c j)) := by
        rw [((N2.out.below HB2.out N2.out.lt).cell j)]
        match j, hj3 with
        | 0, _ => rfl
        | 1, _ => rfl
        | 2, _ => rfl
      have hkl : kn < wi.heap.size := (N2.out.below HB2.out N2.out.lt).lt
      obtain ⟨l0, l1⟩ := loB_in ch
      obtain ⟨u0, u1⟩ := hiB_in ch
      have HFN := Lib.hid (show fineB (kc op j) (nm a b c j) = decide (loB ch ≤ nm a b c j ∧ nm a b c j ≤ hiB ch) by rw [fineB, HKC.out])
      have HNO := Lib.hid (fun h : fineB (kc op j) (nm a b c j) = false => right_not hj3 h)
      have HYES := Lib.hid (fun (h : fineB (kc op j) (nm a b c j) = true) (i : Nat) (hi : i < j + 1) => show fineB (kc op i) (nm a b c i) = true by
        rcases Nat.lt_or_ge i j with h1 | h1
        · exact HF.out i h1
        · have : i = j := by omega
          subst this
          exact h)
      have hbd := bounds_any ch wi
      obtain ⟨n0, n1⟩ := HIN.out j
      generalize loB ch = lo at *
      generalize hiB ch = hi at *
      generalize nm a b c j = nj at *
      have i3 : (j : Int) < 3 := by omega
      clear hlt hl0 hl1 hl2 hkc
      rcases (show nj < lo ∨ hi < nj ∨ (¬ nj < lo ∧ ¬ hi < nj) by omega) with h | h | ⟨h, h2⟩
      · have HR := Lib.hid (HNO.out (by rw [HFN.out]; exact decide_eq_false (by omega)))
        go_wp2_with fail
        refine hbd.mono ?_
        rintro e w4 ⟨rfl, rfl⟩
        clear hbd
        go_wp2
        go_ret
        exact ⟨by rw [HR.out]; rfl, below_then B2.out B2.out.size HB2.out⟩
      · have h2 : ¬ nj < lo := by omega
        have HR := Lib.hid (HNO.out (by rw [HFN.out]; exact decide_eq_false (by omega)))
        go_wp2_with fail
        refine hbd.mono ?_
        rintro e w4 ⟨rfl, rfl⟩
        clear hbd
        go_wp2
        go_ret
        exact ⟨by rw [HR.out]; rfl, below_then B2.out B2.out.size HB2.out⟩
      · have HY := Lib.hid (HYES.out (by rw [HFN.out]; exact decide_eq_true (by omega)))
        clear HNO HYES
        go_wp2_with fail
        refine hbd.mono ?_
        rintro e w4 ⟨rfl, rfl⟩
        clear hbd
        go_wp2
        go_roundg (gk - 1)
        case measure => have := Hj.out; have := Hlt.out; omega
        case rel => exact ⟨j + 1, by have := Hj.out; have := Hlt.out; omega, Hit2.out, HB2.out, HY.out⟩
    · have hjn : j = n := by have := Hj.out; omega
      subst hjn
      have hnx := fun ty => Lib.run_next_end_at (P := Tryd.prog) wr w2.heap.size (kndS op) j ty Hit.out (by have h := Hn.out; simp [kndS, ByteArray.size]; omega)
      have c3 := (K2.out.below HB.out K2.out.lt).cell
      have l3 := (K2.out.below HB.out K2.out.lt).lt
      have hop : (0 ≤ op ∧ op ≤ 29 ∧ rightI op a b c = true) ∨ (op < 0 ∧ rightI op a b c = false) ∨ (0 ≤ op ∧ 29 < op ∧ rightI op a b c = false) := by
        have h1 := HL.out
        by_cases h0 : 0 ≤ op ∧ op ≤ 29
        · rw [if_pos h0] at h1
          exact .inl ⟨h0.1, h0.2, right_of h0 (fun i hi => HF.out i (by omega))⟩
        · have : rightI op a b c = false := by unfold rightI; rw [decide_eq_false h0]; rfl
          rcases (show op < 0 ∨ (0 ≤ op ∧ 29 < op) by omega) with h | h
          · exact .inr (.inl ⟨h, this⟩)
          · exact .inr (.inr ⟨h.1, h.2, this⟩)
      clear hge
      rcases hop with ⟨h1, h2, h3⟩ | ⟨h1, h3⟩ | ⟨h1, h2, h3⟩
      all_goals
        have HR := Lib.hid h3
        clear h3
        go_wp2
        go_ret
        exact ⟨by rw [HR.out]; first | rfl | exact congrArg Ending.returned (congrArg Value.bool (decide_eq_true (by omega))) | exact congrArg Ending.returned (congrArg Value.bool (decide_eq_false (by omega))), below_then B2.out B2.out.size HB.out⟩
end Go.Proofs.YtnmjglnllokklaaDoor
