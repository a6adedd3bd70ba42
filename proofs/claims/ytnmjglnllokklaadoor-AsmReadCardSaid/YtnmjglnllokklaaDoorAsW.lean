/- Parse; the document's: plain laws. -/
import Derived.Test.YtnmjglnllokklaaDoorAsV
set_option linter.unusedVariables false
set_option linter.unusedSimpArgs false
namespace Go.Proofs.YtnmjglnllokklaaDoor
open Go.RowKit

/-! Pieces, letter by letter. -/
def stStep (p : List (List UInt8) × List UInt8) (c : UInt8) : List (List UInt8) × List UInt8 := if c = 32 then (p.1 ++ [p.2], []) else (p.1, p.2 ++ [c])
def stS (l : List UInt8) : List (List UInt8) × List UInt8 := l.foldl stStep ([], [])
def hdApp (x : List UInt8) : List (List UInt8) → List (List UInt8)
  | [] => [x]
  | y :: ys => (x ++ y) :: ys
theorem hdApp_nil (l : List UInt8) : hdApp [] (spl l) = spl l := by
  cases h : spl l with
  | nil => exact absurd h (spl_ne l)
  | cons y ys => rfl
theorem stS_gen : ∀ (l : List UInt8) (E : List (List UInt8)) (x : List UInt8), (l.foldl stStep (E, x)).1 ++ [(l.foldl stStep (E, x)).2] = E ++ hdApp x (spl l)
  | [], E, x => by show E ++ [x] = E ++ [x ++ []]; rw [List.append_nil]
  | c :: r, E, x => by
    rw [List.foldl_cons]
    by_cases hc : c = 32
    · rw [show stStep (E, x) c = (E ++ [x], []) by unfold stStep; rw [if_pos hc], stS_gen r, hdApp_nil, spl, if_pos hc, List.append_assoc]
      show E ++ ([x] ++ spl r) = E ++ ((x ++ []) :: spl r)
      rw [List.append_nil]; rfl
    · rw [show stStep (E, x) c = (E, x ++ [c]) by unfold stStep; rw [if_neg hc], stS_gen r, spl, if_neg hc]
      cases h : spl r with
      | nil => exact absurd h (spl_ne r)
      | cons y ys =>
        show E ++ ((x ++ [c] ++ y) :: ys) = E ++ ((x ++ c :: y) :: ys)
        rw [List.append_assoc]; rfl
theorem stS_spl (l : List UInt8) : (stS l).1 ++ [(stS l).2] = spl l := by
  have := stS_gen l [] []
  rw [hdApp_nil] at this
  exact this
theorem stS_snoc (l : List UInt8) (j : Nat) (hj : j < l.length) : stS (l.take (j + 1)) = stStep (stS (l.take j)) (l.getD j 0) := by
  rw [List.take_add_one, List.getElem?_eq_getElem hj, List.getD_eq_getElem?_getD, List.getElem?_eq_getElem hj]
  unfold stS
  rw [List.foldl_append]
  rfl

/-! Numbers, as the document reads them. -/
def tkR (op : Int) (R : List ByteArray) : Nat → Nat × List Int
  | 0 => (0, [])
  | j + 1 => if isN (kc op j) && decide ((tkR op R j).1 < R.length) then ((tkR op R j).1 + 1, (tkR op R j).2 ++ [numR (R.getD (tkR op R j).1 ByteArray.empty).data.toList]) else ((tkR op R j).1, (tkR op R j).2 ++ [0])
theorem tkR_len (op : Int) (R : List ByteArray) : ∀ j, (tkR op R j).2.length = j
  | 0 => rfl
  | j + 1 => by
    rw [tkR]
    split <;> simp [tkR_len op R j]
theorem tkR_le (op : Int) (R : List ByteArray) : ∀ j, (tkR op R j).1 ≤ R.length
  | 0 => Nat.zero_le _
  | j + 1 => by
    have := tkR_le op R j
    rw [tkR]
    split
    · rename_i h
      rw [Bool.and_eq_true, decide_eq_true_eq] at h
      exact h.2
    · exact this
theorem tkR_small (op : Int) (R : List ByteArray) : ∀ j, (tkR op R j).1 ≤ j
  | 0 => Nat.le_refl _
  | j + 1 => by
    have := tkR_small op R j
    rw [tkR]
    split
    · show _ + 1 ≤ _; omega
    · show (tkR op R j).1 ≤ _; omega
theorem tkR_in (op : Int) (R : List ByteArray) : ∀ j, ∀ x ∈ (tkR op R j).2, inI x
  | 0, x, hx => by cases hx
  | j + 1, x, hx => by
    rw [tkR] at hx
    split at hx
    · rcases List.mem_append.1 hx with h | h
      · exact tkR_in op R j x h
      · rw [List.mem_singleton.1 h]; exact numR_in _
    · rcases List.mem_append.1 hx with h | h
      · exact tkR_in op R j x h
      · rw [List.mem_singleton.1 h]; exact (⟨by decide, by decide⟩ : inI 0)
def nR (s : ByteArray) (op : Int) (j : Nat) : Int := (tkR op ((pcs s).drop 1) 3).2.getD j 0
theorem nR_in (s : ByteArray) (op : Int) (j : Nat) : inI (nR s op j) := by
  unfold nR
  rw [List.getD_eq_getElem?_getD]
  cases h : (tkR op ((pcs s).drop 1) 3).2[j]? with
  | none => exact (⟨by decide, by decide⟩ : inI 0)
  | some x => exact tkR_in _ _ _ x (List.mem_of_getElem? h)
theorem numF_dec : ∀ (l : List UInt8) (acc n : Nat), Lib.decFrom acc l = some n → l.foldl numSt (acc : Int) = n
  | [], acc, n, h => by
    rw [Lib.decFrom] at h
    cases h
    rfl
  | b :: l, acc, n, h => by
    rw [Lib.decFrom] at h
    unfold Lib.digitVal at h
    by_cases hb : 48 ≤ b.toNat ∧ b.toNat ≤ 57
    · rw [if_pos hb] at h
      have := numF_dec l _ n h
      rw [List.foldl_cons, ← this]
      congr 1
      unfold numSt
      rw [if_pos hb]
      omega
    · rw [if_neg hb] at h
      cases h
theorem numR_r : ∀ n : Nat, n < 8 → numR (114 :: Lib.itoa (n : Int)) = (n : Int) := by decide +kernel
theorem numR_n (n : Int) (h1 : -32768 ≤ n) (h2 : n ≤ 32767) : numR (Lib.itoa n) = n := by
  unfold numR numF
  by_cases h : n < 0
  · have hl := dec_len 4 n.natAbs (by omega)
    have e : Lib.itoa n = 45 :: Lib.decDigits n.natAbs := by unfold Lib.itoa; rw [if_pos h]
    rw [e, List.head?_cons, if_pos rfl, List.take_of_length_le (by rw [List.length_cons]; omega), List.foldl_cons]
    rw [show numSt 0 45 = ((0 : Nat) : Int) from rfl, numF_dec _ 0 n.natAbs (dec_all n.natAbs).1]
    omega
  · have hl := dec_len 4 n.toNat (by omega)
    have e : Lib.itoa n = Lib.decDigits n.toNat := by unfold Lib.itoa; rw [if_neg h]
    have hd := dec_all n.toNat
    rw [e, List.take_of_length_le (by omega), if_neg]
    · have := numF_dec _ 0 n.toNat hd.1
      rw [show ((0 : Nat) : Int) = 0 from rfl] at this
      rw [this]
      omega
    · cases hc : Lib.decDigits n.toNat with
      | nil => simp
      | cons b r =>
        rw [List.head?_cons]
        intro e2
        cases e2
        have := hd.2.2 45 (by rw [hc]; exact List.mem_cons_self ..)
        simp at this
theorem part_numR {c n : Int} (h : fineB c n = true) (hc : isN c = true) : ∃ y, partK c n = [y] ∧ numR y = n := by
  obtain ⟨h1, h2⟩ := fine_num h
  unfold isN at hc
  rw [decide_eq_true_eq] at hc
  unfold partK
  by_cases e1 : c = 114
  · refine ⟨_, by rw [if_pos e1], ?_⟩
    subst e1
    unfold fineB at h
    rw [decide_eq_true_eq, show loB 114 = 0 from rfl, show hiB 114 = 7 from rfl] at h
    obtain ⟨k, rfl⟩ : ∃ k : Nat, n = k := ⟨n.toNat, by omega⟩
    exact numR_r k (by omega)
  · by_cases e2 : c = 105
    · exact ⟨_, by rw [if_neg e1, if_pos e2], numR_n n h1 h2⟩
    · exact ⟨_, by rw [if_neg e1, if_neg e2, if_pos (by omega)], numR_n n h1 h2⟩
theorem tkR_text {op a b c : Int} (h : rightI op a b c = true) : ∀ j, j ≤ 3 → tkR op ((partsT op a b c 3).map fun l => ⟨l.toArray⟩) j = ((partsT op a b c j).length, (List.range j).map (nm a b c))
  | 0, _ => rfl
  | j + 1, hj => by
    obtain ⟨h0, hf⟩ := right_parts h
    have hfj := hf j (by omega)
    rw [tkR, tkR_text h j (by omega), partsT_succ op a b c j, List.range_succ, List.map_append (l₁ := List.range j), List.map_singleton]
    have hsplit : ∃ r, partsT op a b c 3 = partsT op a b c j ++ partK (kc op j) (nm a b c j) ++ r := by
      rw [← partsT_succ]
      have : ∀ d, ∃ r, partsT op a b c (j + 1 + d) = partsT op a b c (j + 1) ++ r := fun d => by
        induction d with
        | zero => exact ⟨[], by simp⟩
        | succ d ih =>
          obtain ⟨r, hr⟩ := ih
          exact ⟨r ++ partK (kc op (j + 1 + d)) (nm a b c (j + 1 + d)), by rw [← Nat.add_assoc, partsT_succ, hr, List.append_assoc]⟩
      obtain ⟨r, hr⟩ := this (2 - j)
      exact ⟨r, by rw [← hr]; congr 1; omega⟩
    obtain ⟨r, hr⟩ := hsplit
    cases hN : isN (kc op j) with
    | false =>
      rw [Bool.false_and, if_neg (by decide), part_none hN, List.append_nil, fine_zero hfj hN]
    | true =>
      obtain ⟨y, hy, hn⟩ := part_numR hfj hN
      rw [hy] at hr
      have hlen : (partsT op a b c j).length < ((partsT op a b c 3).map fun l => (⟨l.toArray⟩ : ByteArray)).length := by rw [List.length_map, hr]; simp
      have hget : ((partsT op a b c 3).map fun l => (⟨l.toArray⟩ : ByteArray)).getD (partsT op a b c j).length ByteArray.empty = ⟨y.toArray⟩ := by
        rw [hr, List.getD_eq_getElem?_getD]
        simp
      rw [Bool.true_and, if_pos (by simpa using hlen), hget, List.toList_toArray, hn, hy, List.length_append, List.length_singleton]
theorem nR_text {op a b c : Int} (h : rightI op a b c = true) (j : Nat) (hj : j < 3) : nR (textS op a b c) op j = nm a b c j := by
  unfold nR
  rw [text_pcs h, List.drop_succ_cons, List.drop_zero, tkR_text h 3 (Nat.le_refl _)]
  rw [List.getD_eq_getElem?_getD, List.getElem?_map, List.getElem?_range hj]
  rfl
theorem parse_empty : parseB ⟨#[]⟩ = false := by kernel_rfl
theorem name_ne (o : Nat) (ho : o < 30) : nameS (o : Int) ≠ ⟨#[]⟩ := fun e => by
  have : nameN (o : Int) = [] := by
    have h := congrArg (fun b : ByteArray => b.data.toList) e
    simpa [nameS] using h
  exact name_some o ho this
/-- What the document takes is told. -/
theorem ref_hit {s : ByteArray} {o : Nat} (ho : o < 30) (hn : nameS (o : Int) = (pcs s).getD 0 ByteArray.empty) {a b c : Int} (ht : textS (o : Int) a b c = s) : parseB s = true ∧ parseV s = .agg #[.int .i64 ((o : Int)), .int .i64 (a), .int .i64 (b), .int .i64 (c)] := by
  cases hr : rightI (o : Int) a b c with
  | true =>
    have := parse_text hr
    rwa [ht] at this
  | false =>
    have e : textS (o : Int) a b c = ⟨#[]⟩ := by unfold textS; rw [text_none hr]
    rw [e] at ht
    subst ht
    rw [show (pcs ⟨#[]⟩).getD 0 ByteArray.empty = (⟨#[]⟩ : ByteArray) by decide +kernel] at hn
    exact absurd hn (name_ne o ho)
theorem ref_miss {s : ByteArray} (h : ∀ o : Nat, o < 30 → nameS (o : Int) = (pcs s).getD 0 ByteArray.empty → textS (o : Int) (nR s o 0) (nR s o 1) (nR s o 2) ≠ s) : parseB s = false := by
  cases hp : parseB s with
  | false => rfl
  | true =>
    exfalso
    have ht := text_parse hp
    have ho := opIx_in s
    cases hr : rightI (opIx s) (pNum s 0) (pNum s 1) (pNum s 2) with
    | false =>
      have e : textS (opIx s) (pNum s 0) (pNum s 1) (pNum s 2) = ⟨#[]⟩ := by unfold textS; rw [text_none hr]
      rw [e] at ht
      rw [← ht, parse_empty] at hp
      cases hp
    | true =>
      obtain ⟨h0, _⟩ := right_parts hr
      obtain ⟨o, hoo⟩ : ∃ o : Nat, opIx s = o := ⟨(opIx s).toNat, by omega⟩
      have p0 := text_pcs hr
      have n0 := nR_text hr 0 (by decide)
      have n1 := nR_text hr 1 (by decide)
      have n2 := nR_text hr 2 (by decide)
      rw [ht] at p0 n0 n1 n2
      rw [hoo] at p0 n0 n1 n2 ht h0
      refine h o (by omega) (by rw [p0]; rfl) ?_
      rw [n0, n1, n2]
      exact ht
end Go.Proofs.YtnmjglnllokklaaDoor
