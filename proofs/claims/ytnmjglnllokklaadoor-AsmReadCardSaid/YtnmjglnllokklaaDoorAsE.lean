/- Atoi, Split, the names' index; the program's. -/
import Derived.Test.YtnmjglnllokklaaDoorAsD
import Derived.Lib.SplitLaws
set_option linter.unusedVariables false
set_option linter.unusedSimpArgs false
namespace Go.Proofs.YtnmjglnllokklaaDoor
open Go.RowKit

/-- What Atoi makes of a text. -/
def atoiV (l : List UInt8) : Int := match Lib.atoiAll l with | .ok v => v | .«syntax» => 0 | .range => Lib.atoiSat l
theorem atoiV_in (l : List UInt8) : inI (atoiV l) := by
  unfold atoiV
  cases h : Lib.atoiAll l with
  | «syntax» => exact (⟨by decide, by decide⟩ : inI 0)
  | range =>
    show inI (Lib.atoiSat l)
    unfold Lib.atoiSat
    split
    · exact (⟨by decide, by decide⟩ : inI (-9223372036854775808))
    · exact (⟨by decide, by decide⟩ : inI 9223372036854775807)
  | ok v =>
    show inI v
    unfold Lib.atoiAll at h
    cases l with
    | nil => cases h
    | cons c r =>
      dsimp only at h
      split at h
      · cases h
      · cases h
      · rename_i u _
        split at h
        · cases h
        · rename_i h1
          split at h
          · cases h
          · rename_i h2
            cases h
            unfold inI
            by_cases hn : c.toNat = 45
            · rw [if_pos hn]
              have : ¬ 9223372036854775808 < u := fun h3 => h2 ⟨hn, h3⟩
              omega
            · rw [if_neg hn]
              have : ¬ 9223372036854775808 ≤ u := fun h3 => h1 ⟨hn, h3⟩
              omega
theorem atoi_any (s : ByteArray) (w : World) (h : Env w) (hs : s.size ≤ 1000000) :
    Calls Tryd.prog 27 #[.string s] w fun e w' => (∃ e2, e = .returned (.tuple #[.int .i64 (atoiV s.data.toList), e2])) ∧ Below w.heap.size w w' := by
  obtain ⟨_, _, _, ⟨te, pe, h3⟩, ⟨tf, pf, h4⟩, _⟩ := h
  unfold atoiV
  cases ha : Lib.atoiAll s.data.toList with
  | ok v =>
    refine (Tryd.strconv_Atoi_ok s (by omega) v ha w).mono fun e w' ⟨h1, h2⟩ => ⟨⟨_, h1⟩, ?_⟩
    rcases h2 with h2 | ⟨t, h2⟩
    · rw [h2]; exact Below.refl _ _
    · rw [h2]; exact Lib.bytesWorld_below _ _ _
  | «syntax» =>
    exact (Tryd.strconv_Atoi_syntax s (by omega) ha (.iface te pe) w h3 (.inr ⟨te, pe, rfl⟩)).mono fun e w' ⟨N, h1, _, _, h2⟩ => ⟨⟨_, h1⟩, h2⟩
  | range =>
    exact (Tryd.strconv_Atoi_range s (by omega) ha (.iface tf pf) w h4 (.inr ⟨tf, pf, rfl⟩)).mono fun e w' ⟨N, h1, _, _, h2⟩ => ⟨⟨_, h1⟩, h2⟩

/-- A text's pieces between blanks. -/
def pcs (s : ByteArray) : List ByteArray := Lib.splitB ⟨#[32]⟩ 0 (Lib.countB s ⟨#[32]⟩) s
theorem pcs_len (s : ByteArray) : (pcs s).length = Lib.countB s ⟨#[32]⟩ + 1 := Lib.splitB_all ⟨#[32]⟩ (by decide) 0 _ s rfl
theorem splitB_size (sep : ByteArray) (save : Nat) : ∀ (k : Nat) (s : ByteArray), ∀ p ∈ Lib.splitB sep save k s, p.size ≤ s.size
  | 0, s, p, hp => by
    rw [Lib.splitB_zero, List.mem_singleton] at hp
    rw [hp]; exact Nat.le_refl _
  | k + 1, s, p, hp => by
    rw [Lib.splitB] at hp
    split at hp
    · rw [List.mem_singleton] at hp
      rw [hp]; exact Nat.le_refl _
    · rcases List.mem_cons.1 hp with h | h
      · rw [h, ByteArray.size_extract]; omega
      · have := splitB_size sep save k _ p h
        rw [ByteArray.size_extract] at this
        omega
theorem pcs_size (s : ByteArray) : ∀ p ∈ pcs s, p.size ≤ s.size := splitB_size _ _ _ s
def namesBA : List ByteArray := nameL.map fun l => ⟨l.toArray⟩
/-- Which instruction a text names: -1: none. -/
def opIx (s : ByteArray) : Int := Lib.idxOfS namesBA ((pcs s).getD 0 ByteArray.empty)
def isN (c : Int) : Bool := decide (c = 114 ∨ c = 105 ∨ c = 119)
def numV (p : ByteArray) : Int := atoiV (Lib.trimPrefix p.data.toList [114])
/-- How many pieces are taken, and the numbers, behind j kinds. -/
def tk (op : Int) (R : List ByteArray) : Nat → Nat × List Int
  | 0 => (0, [])
  | j + 1 => if isN (kc op j) && decide ((tk op R j).1 < R.length) then ((tk op R j).1 + 1, (tk op R j).2 ++ [numV (R.getD (tk op R j).1 ByteArray.empty)]) else ((tk op R j).1, (tk op R j).2 ++ [0])
theorem tk_len (op : Int) (R : List ByteArray) : ∀ j, (tk op R j).2.length = j
  | 0 => rfl
  | j + 1 => by
    rw [tk]
    split <;> simp [tk_len op R j]
theorem tk_le (op : Int) (R : List ByteArray) : ∀ j, (tk op R j).1 ≤ R.length
  | 0 => Nat.zero_le _
  | j + 1 => by
    have := tk_le op R j
    rw [tk]
    split
    · rename_i h
      rw [Bool.and_eq_true, decide_eq_true_eq] at h
      exact h.2
    · exact this
theorem tk_in (op : Int) (R : List ByteArray) : ∀ j, ∀ x ∈ (tk op R j).2, inI x
  | 0, x, hx => by cases hx
  | j + 1, x, hx => by
    rw [tk] at hx
    split at hx
    · rcases List.mem_append.1 hx with h | h
      · exact tk_in op R j x h
      · rw [List.mem_singleton.1 h]; exact atoiV_in _
    · rcases List.mem_append.1 hx with h | h
      · exact tk_in op R j x h
      · rw [List.mem_singleton.1 h]; exact (⟨by decide, by decide⟩ : inI 0)
/-- A text's numbers. -/
def pNum (s : ByteArray) (j : Nat) : Int := (tk (opIx s) ((pcs s).drop 1) 3).2.getD j 0
theorem pNum_in (s : ByteArray) (j : Nat) : inI (pNum s j) := by
  unfold pNum
  rw [List.getD_eq_getElem?_getD]
  cases h : (tk (opIx s) ((pcs s).drop 1) 3).2[j]? with
  | none => exact (⟨by decide, by decide⟩ : inI 0)
  | some x => exact tk_in _ _ _ x (List.mem_of_getElem? h)
/-- Does a text tell an instruction; which. -/
def parseB (s : ByteArray) : Bool := decide (0 ≤ opIx s) && decide (textS (opIx s) (pNum s 0) (pNum s 1) (pNum s 2) = s)
def parseV (s : ByteArray) : Value := if parseB s then .agg #[.int .i64 (opIx s), .int .i64 (pNum s 0), .int .i64 (pNum s 1), .int .i64 (pNum s 2)] else .agg #[.int .i64 (0), .int .i64 (0), .int .i64 (0), .int .i64 (0)]
theorem idxFromS_in (x : ByteArray) : ∀ (zs : List ByteArray) (i : Nat), Lib.idxFromS zs x i = -1 ∨ ((i : Int) ≤ Lib.idxFromS zs x i ∧ Lib.idxFromS zs x i < i + zs.length)
  | [], i => .inl rfl
  | z :: zs, i => by
    rw [Lib.idxFromS, List.length_cons]
    split
    · exact .inr ⟨Int.le_refl _, by omega⟩
    · rcases idxFromS_in x zs (i + 1) with h | h
      · exact .inl h
      · exact .inr (by omega)
theorem opIx_in (s : ByteArray) : opIx s = -1 ∨ (0 ≤ opIx s ∧ opIx s < 30) := by
  have h := idxFromS_in ((pcs s).getD 0 ByteArray.empty) namesBA 0
  have hl : namesBA.length = 30 := by unfold namesBA; rw [List.length_map, nameL_len]
  unfold opIx Lib.idxOfS
  rw [hl] at h
  omega
theorem isN_of (c : Int) (h : c = 45 ∨ c = 114 ∨ c = 105 ∨ c = 119 ∨ c = 118) : decide (0 ≤ Lib.indexByte (⟨#[114, 105, 119]⟩ : ByteArray).data.toList c.toNat.toUInt8) = isN c := by
  rcases h with h | h | h | h | h <;> subst h <;> decide
end Go.Proofs.YtnmjglnllokklaaDoor
