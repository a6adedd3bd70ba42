/- What is written is read: plain laws. -/
import Derived.Test.YtnmjglnllokklaaDoorAsE
import Derived.Lib.IndexLaws
import Derived.Lib.AtoiTie
set_option linter.unusedVariables false
set_option linter.unusedSimpArgs false
namespace Go.Proofs.YtnmjglnllokklaaDoor
open Go.RowKit

/-- A text's pieces between blanks, byte by byte. -/
def spl : List UInt8 → List (List UInt8)
  | [] => [[]]
  | c :: r => if c = 32 then [] :: spl r else match spl r with
    | [] => [[c]]
    | x :: xs => (c :: x) :: xs
theorem spl_ne : ∀ l : List UInt8, spl l ≠ []
  | [] => by simp [spl]
  | c :: r => by
    rw [spl]
    split
    · simp
    · split <;> simp
theorem spl_none : ∀ {l : List UInt8}, (∀ k : Nat, l[k]? ≠ some 32) → spl l = [l]
  | [], _ => rfl
  | c :: r, h => by
    have hc : c ≠ 32 := fun e => h 0 (by simp [e])
    have ih := spl_none (l := r) (fun k hk => h (k + 1) (by simpa using hk))
    rw [spl, if_neg hc, ih]
theorem spl_some : ∀ {l : List UInt8} {o : Nat}, l[o]? = some 32 → (∀ k, k < o → l[k]? ≠ some 32) → spl l = l.take o :: spl (l.drop (o + 1))
  | [], o, h, _ => by simp at h
  | c :: r, 0, h, _ => by
    simp at h
    subst h
    rw [spl, if_pos rfl]; rfl
  | c :: r, o + 1, h, hk => by
    have hc : c ≠ 32 := fun e => hk 0 (by omega) (by simp [e])
    rw [spl, if_neg hc, spl_some (l := r) (o := o) (by simpa using h) (fun k h1 => by have := hk (k + 1) (by omega); simpa using this)]
    rfl
theorem splitK_spl : ∀ (k : Nat) (l : List UInt8), l.count 32 = k → Lib.splitK [32] 0 k l = spl l
  | 0, l, h => by
    rw [spl_none (fun j hj => by
      have := List.count_eq_zero.1 h
      exact this (List.mem_of_getElem? hj))]
    rfl
  | k + 1, l, h => by
    have hge := Lib.indexByte_ge l 32
    by_cases hm : Lib.indexByte l 32 = -1
    · have := Lib.indexByte_none hm
      have h0 : l.count 32 = 0 := List.count_eq_zero.2 fun hmem => by
        obtain ⟨j, hj⟩ := List.getElem?_of_mem hmem
        exact this j hj
      omega
    · obtain ⟨o, ho⟩ : ∃ o : Nat, Lib.indexByte l 32 = o := ⟨(Lib.indexByte l 32).toNat, by omega⟩
      obtain ⟨h1, h2⟩ := Lib.indexByte_some ho
      rw [Lib.splitK, Lib.index_one, ho, if_neg (by simp), spl_some h1 h2]
      simp only [Int.toNat_natCast, Nat.add_zero, List.length_singleton]
      rw [splitK_spl k]
      have hlt := (List.getElem?_eq_some_iff.1 h1).1
      have e : l = l.take o ++ 32 :: l.drop (o + 1) := by
        have h3 : l[o] = 32 := (List.getElem?_eq_some_iff.1 h1).2
        rw [← h3, ← List.drop_eq_getElem_cons hlt, List.take_append_drop]
      have h4 : (l.take o).count 32 = 0 := List.count_eq_zero.2 fun hmem => by
        obtain ⟨j, hj⟩ := List.getElem?_of_mem hmem
        have hj2 : j < o := by have := (List.getElem?_eq_some_iff.1 hj).1; simp at this; omega
        rw [List.getElem?_take_of_lt hj2] at hj
        exact h2 j hj2 hj
      rw [e, List.count_append, h4, List.count_cons_self] at h
      omega
theorem pcs_spl (s : ByteArray) : pcs s = (spl s.data.toList).map fun l => ⟨l.toArray⟩ := by
  have h1 := Lib.splitB_data ⟨#[32]⟩ 0 (Lib.countB s ⟨#[32]⟩) s
  have h2 : Lib.countB s ⟨#[32]⟩ = s.data.toList.count 32 := Lib.count_one 32 s.data.toList
  rw [show (⟨#[32]⟩ : ByteArray).data.toList = [32] from rfl, splitK_spl _ _ h2.symm] at h1
  rw [← h1, List.map_map]
  unfold pcs
  exact (List.map_id' _).symm.trans (List.map_congr_left fun x _ => rfl)
theorem spl_app : ∀ {x : List UInt8} (r : List UInt8), (∀ c ∈ x, c ≠ 32) → spl (x ++ 32 :: r) = x :: spl r
  | [], r, _ => by rw [List.nil_append, spl, if_pos rfl]
  | c :: x, r, h => by
    rw [List.cons_append, spl, if_neg (h c (List.mem_cons_self ..)), spl_app r fun d hd => h d (List.mem_cons_of_mem _ hd)]
theorem spl_join : ∀ (x : List UInt8) (r : List (List UInt8)), (∀ y ∈ x :: r, ∀ c ∈ y, c ≠ 32) → spl (x ++ Lib.joinTail [32] r) = x :: r
  | x, [], h => by
    show spl (x ++ []) = _
    rw [List.append_nil]
    exact spl_none fun k hk => h x (List.mem_cons_self ..) _ (List.mem_of_getElem? hk) rfl
  | x, y :: r, h => by
    show spl (x ++ ([32] ++ y ++ Lib.joinTail [32] r)) = _
    rw [show x ++ ([32] ++ y ++ Lib.joinTail [32] r) = x ++ 32 :: (y ++ Lib.joinTail [32] r) by simp]
    rw [spl_app _ (h x (List.mem_cons_self ..)), spl_join y r fun z hz => h z (List.mem_cons_of_mem _ hz)]

/-! Numbers. -/
theorem dec_digit {u : Nat} (h : u < 10) : Lib.digitVal (UInt8.ofNat (48 + u)) = some u ∧ (UInt8.ofNat (48 + u)).toNat = 48 + u := by
  have e : (UInt8.ofNat (48 + u)).toNat = 48 + u := UInt8.toNat_ofNat_of_lt' (by simp [UInt8.size]; omega)
  refine ⟨?_, e⟩
  unfold Lib.digitVal
  rw [e, if_pos (by omega)]
  congr 1
  omega
theorem decFrom_snoc (l : List UInt8) (acc n d : Nat) (b : UInt8) (h : Lib.decFrom acc l = some n) (hd : Lib.digitVal b = some d) : Lib.decFrom acc (l ++ [b]) = some (n * 10 + d) := by
  have := Lib.decFrom_take (l ++ [b]) l.length acc n b d (by rw [List.take_left]; exact h) (by simp) hd
  rwa [List.take_of_length_le (by simp)] at this
theorem dec_all (u : Nat) : Lib.decFrom 0 (Lib.decDigits u) = some u ∧ Lib.decDigits u ≠ [] ∧ ∀ b ∈ Lib.decDigits u, 48 ≤ b.toNat ∧ b.toNat ≤ 57 := by
  induction u using Nat.strongRecOn with
  | ind u ih =>
    rw [Lib.decDigits]
    by_cases h : u < 10
    · rw [dif_pos h]
      obtain ⟨h1, h2⟩ := dec_digit h
      refine ⟨by unfold Lib.decFrom; rw [h1]; simp [Lib.decFrom], by simp, fun b hb => ?_⟩
      rw [List.mem_singleton.1 hb, h2]
      omega
    · rw [dif_neg h]
      obtain ⟨i1, i2, i3⟩ := ih (u / 10) (by omega)
      obtain ⟨h1, h2⟩ := dec_digit (u := u % 10) (by omega)
      refine ⟨?_, by simp, fun b hb => ?_⟩
      · rw [decFrom_snoc _ _ _ _ _ i1 h1]
        congr 1
        omega
      · rcases List.mem_append.1 hb with h3 | h3
        · exact i3 b h3
        · rw [List.mem_singleton.1 h3, h2]; omega
theorem dec_len : ∀ (k u : Nat), u < 10 ^ (k + 1) → (Lib.decDigits u).length ≤ k + 1
  | 0, u, h => by
    rw [Lib.decDigits, dif_pos (by omega)]
    simp
  | k + 1, u, h => by
    rw [Lib.decDigits]
    split
    · simp
    · have := dec_len k (u / 10) (by rw [Nat.pow_succ] at h; omega)
      rw [List.length_append, List.length_singleton]
      omega
theorem itoa_chars (n : Int) : ∀ b ∈ Lib.itoa n, b ≠ 32 ∧ b ≠ 114 := by
  intro b hb
  unfold Lib.itoa at hb
  have hd : ∀ u, b ∈ Lib.decDigits u → b ≠ 32 ∧ b ≠ 114 := fun u h => by
    have := (dec_all u).2.2 b h
    constructor
    · intro e; subst e; simp at this
    · intro e; subst e; simp at this
  split at hb
  · rcases List.mem_cons.1 hb with h | h
    · subst h; decide
    · exact hd _ h
  · exact hd _ hb
theorem atoi_itoa (n : Int) (h1 : -32768 ≤ n) (h2 : n ≤ 32767) : atoiV (Lib.itoa n) = n := by
  unfold atoiV
  have hl : (Lib.itoa n).length ≤ 18 := by
    unfold Lib.itoa
    split
    · have := dec_len 4 n.natAbs (by omega); simp; omega
    · have := dec_len 4 n.toNat (by omega); omega
  rw [Lib.atoiAll_short _ hl]
  have : Lib.atoi (Lib.itoa n) = some n := by
    unfold Lib.itoa
    split
    · have hd := dec_all n.natAbs
      rw [Lib.atoi, if_pos (by decide), Lib.decNat, if_neg (by simpa [List.isEmpty_iff] using hd.2.1), hd.1]
      show some (-(n.natAbs : Int)) = _
      congr 1
      omega
    · have hd := dec_all n.toNat
      cases hc : Lib.decDigits n.toNat with
      | nil => exact absurd hc hd.2.1
      | cons b r =>
        have hb := hd.2.2 b (by rw [hc]; exact List.mem_cons_self ..)
        have n1 : (b == 45) = false := by rw [beq_eq_false_iff_ne]; intro e; subst e; simp at hb
        have n2 : (b == 43) = false := by rw [beq_eq_false_iff_ne]; intro e; subst e; simp at hb
        rw [Lib.atoi, n1, n2, if_neg (by decide), if_neg (by decide), Lib.decNat, if_neg (by simp), ← hc, hd.1]
        show some (n.toNat : Int) = _
        congr 1
        omega
  rw [this]
  rfl
theorem numV_r (n : Int) (h1 : -32768 ≤ n) (h2 : n ≤ 32767) : numV ⟨(114 :: Lib.itoa n).toArray⟩ = n := by
  unfold numV
  rw [List.toList_toArray, Lib.trimPrefix, Lib.hasPrefix, if_pos (by simp [List.isPrefixOf])]
  exact atoi_itoa n h1 h2
theorem numV_n (n : Int) (h1 : -32768 ≤ n) (h2 : n ≤ 32767) : numV ⟨(Lib.itoa n).toArray⟩ = n := by
  unfold numV
  have : Lib.trimPrefix (Lib.itoa n) [114] = Lib.itoa n := by
    rw [Lib.trimPrefix, Lib.hasPrefix]
    cases hc : Lib.itoa n with
    | nil => rfl
    | cons b r =>
      have hb := (itoa_chars n b (by rw [hc]; exact List.mem_cons_self ..)).2
      rw [if_neg (by simp [List.isPrefixOf]; exact fun e => hb e.symm)]
  rw [List.toList_toArray, this]
  exact atoi_itoa n h1 h2

/-! What is written is read. -/
theorem name_at : ∀ op : Nat, op < 30 → Lib.idxOfS namesBA (nameS (op : Int)) = (op : Int) ∧ ∀ c ∈ nameN (op : Int), c ≠ 32 := by decide +kernel
theorem part_chars (c n : Int) : ∀ y ∈ partK c n, ∀ b ∈ y, b ≠ 32 := by
  intro y hy b hb
  have hi : ∀ b ∈ Lib.itoa n, b ≠ 32 := fun b hb => (itoa_chars n b hb).1
  unfold partK at hy
  split at hy
  · rw [List.mem_singleton.1 hy] at hb
    rcases List.mem_cons.1 hb with h | h
    · subst h; decide
    · exact hi b h
  split at hy
  · rw [List.mem_singleton.1 hy] at hb; exact hi b hb
  split at hy
  · rw [List.mem_singleton.1 hy] at hb; exact hi b hb
  · cases hy
theorem fine_num {c n : Int} (h : fineB c n = true) : -32768 ≤ n ∧ n ≤ 32767 := by
  unfold fineB at h
  rw [decide_eq_true_eq] at h
  have h1 := loB_in c
  have h2 := hiB_in c
  omega
theorem fine_zero {c n : Int} (h : fineB c n = true) (hc : isN c = false) : n = 0 := by
  unfold isN at hc
  rw [decide_eq_false_iff_not] at hc
  unfold fineB loB hiB at h
  rw [decide_eq_true_eq, if_neg (fun e => hc (by simp [e])), if_neg (fun e => hc (by simp [e])), if_neg (fun e => hc (by simp [e])), if_neg (fun e => hc (by simp [e]))] at h
  omega
theorem right_parts {op a b c : Int} (h : rightI op a b c = true) : (0 ≤ op ∧ op ≤ 29) ∧ ∀ j, j < 3 → fineB (kc op j) (nm a b c j) = true := by
  unfold rightI at h
  simp only [Bool.and_eq_true, decide_eq_true_eq] at h
  refine ⟨h.1, fun j hj => ?_⟩
  match j, hj with
  | 0, _ => exact h.2.1.1
  | 1, _ => exact h.2.1.2
  | 2, _ => exact h.2.2
theorem text_pcs {op a b c : Int} (h : rightI op a b c = true) : pcs (textS op a b c) = nameS op :: (partsT op a b c 3).map fun l => ⟨l.toArray⟩ := by
  obtain ⟨h0, _⟩ := right_parts h
  obtain ⟨o, rfl⟩ : ∃ o : Nat, op = o := ⟨op.toNat, by omega⟩
  rw [pcs_spl]
  unfold textS textL
  rw [if_pos h, List.toList_toArray, Lib.join_cons, spl_join]
  · rfl
  · intro y hy
    rcases List.mem_cons.1 hy with h1 | h1
    · subst h1; exact (name_at o (by omega)).2
    · unfold partsT at h1
      obtain ⟨i, _, h2⟩ := List.mem_flatMap.1 h1
      exact part_chars _ _ y h2
theorem text_op {op a b c : Int} (h : rightI op a b c = true) : opIx (textS op a b c) = op := by
  obtain ⟨h0, _⟩ := right_parts h
  unfold opIx
  rw [text_pcs h]
  obtain ⟨o, rfl⟩ : ∃ o : Nat, op = o := ⟨op.toNat, by omega⟩
  exact (name_at o (by omega)).1
theorem part_num {c n : Int} (h : fineB c n = true) (hc : isN c = true) : ∃ y, partK c n = [y] ∧ numV ⟨y.toArray⟩ = n := by
  obtain ⟨h1, h2⟩ := fine_num h
  unfold isN at hc
  rw [decide_eq_true_eq] at hc
  unfold partK
  by_cases e1 : c = 114
  · exact ⟨_, by rw [if_pos e1], numV_r n h1 h2⟩
  · by_cases e2 : c = 105
    · exact ⟨_, by rw [if_neg e1, if_pos e2], numV_n n h1 h2⟩
    · exact ⟨_, by rw [if_neg e1, if_neg e2, if_pos (by omega)], numV_n n h1 h2⟩
theorem part_none {c n : Int} (hc : isN c = false) : partK c n = [] := by
  unfold isN at hc
  rw [decide_eq_false_iff_not] at hc
  unfold partK
  rw [if_neg (fun e => hc (by simp [e])), if_neg (fun e => hc (by simp [e])), if_neg (fun e => hc (by simp [e]))]
theorem tk_text {op a b c : Int} (h : rightI op a b c = true) : ∀ j, j ≤ 3 → tk op ((partsT op a b c 3).map fun l => ⟨l.toArray⟩) j = ((partsT op a b c j).length, (List.range j).map (nm a b c))
  | 0, _ => rfl
  | j + 1, hj => by
    obtain ⟨h0, hf⟩ := right_parts h
    have hfj := hf j (by omega)
    rw [tk, tk_text h j (by omega), partsT_succ op a b c j, List.range_succ, List.map_append (l₁ := List.range j), List.map_singleton]
    have hsplit : ∃ r, partsT op a b c 3 = partsT op a b c j ++ partK (kc op j) (nm a b c j) ++ r := by
      rw [← partsT_succ]
      have : ∀ d, ∃ r, partsT op a b c (j + 1 + d) = partsT op a b c (j + 1) ++ r := fun d => by
        induction d with
        | zero => exact ⟨[], by simp⟩
        | succ d ih =>
          obtain ⟨r, hr⟩ := ih
          exact ⟨r ++ partK (kc op (j + 1 + d)) (nm a b c (j + 1 + d)), by rw [← Nat.add_assoc, partsT_succ, hr, List.append_assoc]⟩
      obtain ⟨r, hr⟩ := this (2 - j)
      exact ⟨r, by rw [← hr]; congr 1; omega⟩
    obtain ⟨r, hr⟩ := hsplit
    cases hN : isN (kc op j) with
    | false =>
      rw [Bool.false_and, if_neg (by decide), part_none hN, List.append_nil, fine_zero hfj hN]
    | true =>
      obtain ⟨y, hy, hn⟩ := part_num hfj hN
      rw [hy] at hr
      have hlen : (partsT op a b c j).length < ((partsT op a b c 3).map fun l => (⟨l.toArray⟩ : ByteArray)).length := by rw [List.length_map, hr]; simp
      have hget : ((partsT op a b c 3).map fun l => (⟨l.toArray⟩ : ByteArray)).getD (partsT op a b c j).length ByteArray.empty = ⟨y.toArray⟩ := by
        rw [hr, List.getD_eq_getElem?_getD]
        simp
      rw [Bool.true_and, if_pos (by simpa using hlen), hget, hn, hy, List.length_append, List.length_singleton]
theorem text_num {op a b c : Int} (h : rightI op a b c = true) (j : Nat) (hj : j < 3) : pNum (textS op a b c) j = nm a b c j := by
  unfold pNum
  rw [text_op h, text_pcs h, List.drop_succ_cons, List.drop_zero, tk_text h 3 (Nat.le_refl _)]
  rw [List.getD_eq_getElem?_getD, List.getElem?_map, List.getElem?_range hj]
  rfl
/-- What is written is read. -/
theorem parse_text {op a b c : Int} (h : rightI op a b c = true) : parseB (textS op a b c) = true ∧ parseV (textS op a b c) = .agg #[.int .i64 (op), .int .i64 (a), .int .i64 (b), .int .i64 (c)] := by
  obtain ⟨h0, _⟩ := right_parts h
  have n0 := text_num h 0 (by decide)
  have n1 := text_num h 1 (by decide)
  have n2 := text_num h 2 (by decide)
  have hb : parseB (textS op a b c) = true := by
    unfold parseB
    rw [text_op h, n0, n1, n2, decide_eq_true h0.1, Bool.true_and]
    exact decide_eq_true rfl
  refine ⟨hb, ?_⟩
  unfold parseV
  rw [hb, if_pos rfl, text_op h, n0, n1, n2]
  rfl
/-- What is read is written. -/
theorem text_parse {s : ByteArray} (h : parseB s = true) : textS (opIx s) (pNum s 0) (pNum s 1) (pNum s 2) = s := by
  unfold parseB at h
  rw [Bool.and_eq_true, decide_eq_true_eq, decide_eq_true_eq] at h
  exact h.2
theorem name_some : ∀ op : Nat, op < 30 → nameN (op : Int) ≠ [] := by decide +kernel
theorem text_some {op a b c : Int} (h : rightI op a b c = true) : textL op a b c ≠ [] := by
  obtain ⟨h0, _⟩ := right_parts h
  obtain ⟨o, rfl⟩ : ∃ o : Nat, op = o := ⟨op.toNat, by omega⟩
  unfold textL
  rw [if_pos h, Lib.join_cons]
  intro e
  exact name_some o (by omega) (List.append_eq_nil_iff.1 e).1
theorem text_none {op a b c : Int} (h : rightI op a b c = false) : textL op a b c = [] := by unfold textL; rw [h, if_neg (by decide)]
end Go.Proofs.YtnmjglnllokklaaDoor
