/- Plain: the lines of instructions' texts, and what is read of them. -/
import Derived.Test.YtnmjglnllokklaaDoorAsP
import Derived.Test.YtnmjglnllokklaaDoorAsI
set_option linter.unusedVariables false
set_option linter.unusedSimpArgs false
namespace Go.Proofs.YtnmjglnllokklaaDoor
open Go.RowKit

def right4 (x : I4) : Bool := rightI x.1 x.2.1 x.2.2.1 x.2.2.2
def tx4 (x : I4) : List UInt8 := textL x.1 x.2.1 x.2.2.1 x.2.2.2
def lnX (x : I4) : List UInt8 := if right4 x then tx4 x ++ [10] else []
def lnS (l : List I4) : List UInt8 := l.flatMap lnX
theorem lnS_snoc (l : List I4) (x : I4) : lnS (l ++ [x]) = lnS l ++ lnX x := by simp [lnS]
theorem lnS_filter : ∀ l : List I4, lnS l = lnS (l.filter right4)
  | [] => rfl
  | x :: r => by
    have ih := lnS_filter r
    unfold lnS at ih ⊢
    rw [List.filter_cons]
    cases h : right4 x with
    | true => rw [if_pos rfl, List.flatMap_cons, List.flatMap_cons, ih]
    | false => rw [if_neg (by decide), List.flatMap_cons, ih]; unfold lnX; rw [h, if_neg (by decide)]; rfl
theorem lnS_right : ∀ l : List I4, (∀ x ∈ l, right4 x = true) → lnS l = (l.map tx4).flatMap (· ++ [10])
  | [], _ => rfl
  | x :: r, h => by
    have ih := lnS_right r (fun y hy => h y (List.mem_cons_of_mem _ hy))
    unfold lnS at ih ⊢
    rw [List.flatMap_cons, List.map_cons, List.flatMap_cons, ih]
    unfold lnX
    rw [h x List.mem_cons_self, if_pos rfl]

theorem itoa_no10 (n : Int) : ∀ b ∈ Lib.itoa n, b ≠ 10 := by
  intro b hb
  unfold Lib.itoa at hb
  have hd : ∀ u, b ∈ Lib.decDigits u → b ≠ 10 := fun u h => by
    have := (dec_all u).2.2 b h
    intro e; subst e; simp at this
  split at hb
  · rcases List.mem_cons.1 hb with rfl | h
    · decide
    · exact hd _ h
  · exact hd _ hb
theorem part_no10 (c n : Int) : ∀ y ∈ partK c n, ∀ b ∈ y, b ≠ 10 := by
  intro y hy b hb
  unfold partK at hy
  split at hy
  · simp at hy
    subst hy
    rcases List.mem_cons.1 hb with rfl | h
    · decide
    · exact itoa_no10 n b h
  · split at hy
    · simp at hy; subst hy; exact itoa_no10 n b hb
    · split at hy
      · simp at hy; subst hy; exact itoa_no10 n b hb
      · cases hy
theorem name_no10 : ∀ op : Nat, op < 30 → ∀ c ∈ nameN (op : Int), c ≠ 10 := by decide +kernel
theorem tx_no10 (x : I4) : ∀ b ∈ tx4 x, b ≠ 10 := by
  intro b hb
  unfold tx4 textL at hb
  split at hb
  · rename_i hr
    have ho := (right_parts hr).1
    rw [Lib.join_cons] at hb
    rcases List.mem_append.1 hb with h | h
    · have e : ((x.1.toNat : Nat) : Int) = x.1 := by omega
      have := name_no10 x.1.toNat (by omega)
      rw [e] at this
      exact this b h
    · unfold Lib.joinTail at h
      obtain ⟨l, hl, hbl⟩ := List.mem_flatten.1 h
      obtain ⟨y, hy, rfl⟩ := List.mem_map.1 hl
      rcases List.mem_append.1 hbl with h1 | h1
      · simp at h1; subst h1; decide
      · unfold partsT at hy
        obtain ⟨i, _, hi⟩ := List.mem_flatMap.1 hy
        exact part_no10 _ _ y hi b h1
  · cases hb
theorem text4_len (x : I4) (ha : inI x.2.1) (hb : inI x.2.2.1) (hc : inI x.2.2.2) : (tx4 x).length ≤ 200 := by
  unfold tx4 textL
  split
  · have h1 := partsT_len x.1 x.2.1 x.2.2.1 x.2.2.2 3
    have h2 := lens_le 30 (nameN x.1 :: partsT x.1 x.2.1 x.2.2.1 x.2.2.2 3) fun y hy => by
      rcases List.mem_cons.1 hy with h | h
      · rw [h]; exact name_short _
      · exact parts_short _ _ _ _ (nm_in ha hb hc) 3 y h
    rw [Lib.join_length]
    rw [List.length_cons] at h2
    show 1 * _ + _ ≤ _
    omega
  · exact Nat.zero_le _
theorem lnX_len (x : I4) (h : inI x.1 ∧ inI x.2.1 ∧ inI x.2.2.1 ∧ inI x.2.2.2) : (lnX x).length ≤ 201 := by
  unfold lnX
  split
  · have := text4_len x h.2.1 h.2.2.1 h.2.2.2
    rw [List.length_append, List.length_singleton]
    omega
  · exact Nat.zero_le _
theorem lnS_len : ∀ l : List I4, (∀ x ∈ l, inI x.1 ∧ inI x.2.1 ∧ inI x.2.2.1 ∧ inI x.2.2.2) → (lnS l).length ≤ 201 * l.length
  | [], _ => Nat.le_refl _
  | x :: r, h => by
    have ih := lnS_len r (fun y hy => h y (List.mem_cons_of_mem _ hy))
    have h1 := lnX_len x (h x List.mem_cons_self)
    unfold lnS at ih ⊢
    rw [List.flatMap_cons, List.length_append, List.length_cons]
    omega

theorem linesL_app : ∀ {a : List UInt8} (r : List UInt8), (∀ b ∈ a, b ≠ 10) → linesL (a ++ 10 :: r) = (a ++ [10]) :: linesL r
  | [], r, _ => by show linesL (10 :: r) = _; rw [linesL, if_pos rfl]; rfl
  | c :: a, r, h => by
    show linesL (c :: (a ++ 10 :: r)) = _
    rw [linesL, if_neg (h c List.mem_cons_self), linesL_app r (fun b hb => h b (List.mem_cons_of_mem _ hb))]
    rfl
theorem linesL_texts : ∀ (ts : List (List UInt8)) (r : List UInt8), (∀ t ∈ ts, ∀ b ∈ t, b ≠ 10) → linesL (ts.flatMap (· ++ [10]) ++ r) = ts.map (· ++ [10]) ++ linesL r
  | [], r, _ => rfl
  | t :: ts, r, h => by
    rw [List.flatMap_cons, List.map_cons, List.append_assoc, List.append_assoc]
    show linesL (t ++ 10 :: (ts.flatMap (· ++ [10]) ++ r)) = _
    rw [linesL_app _ (h t List.mem_cons_self), linesL_texts ts r (fun y hy => h y (List.mem_cons_of_mem _ hy))]
    rfl
theorem suffix_ten (t : List UInt8) : Lib.hasSuffix (t ++ [10]) [10] = true := by
  unfold Lib.hasSuffix
  rw [List.isSuffixOf_iff_suffix]
  exact List.suffix_append _ _
theorem good_line (t : List UInt8) : cutB ⟨(t ++ [10]).toArray⟩ = ⟨t.toArray⟩ ∧ goodB ⟨(t ++ [10]).toArray⟩ = parseB ⟨t.toArray⟩ := by
  have h1 : cutB ⟨(t ++ [10]).toArray⟩ = ⟨t.toArray⟩ := by
    unfold cutB Lib.trimSuffix
    dsimp only
    rw [suffix_ten, if_pos rfl]
    congr 2
    rw [List.length_append, List.length_singleton, Nat.add_sub_cancel, List.take_left']
    rfl
  refine ⟨h1, ?_⟩
  unfold goodB wholeB
  rw [h1]
  dsimp only
  rw [suffix_ten, Bool.true_and]
theorem parse4 {x : I4} (h : right4 x = true) : parseB ⟨(tx4 x).toArray⟩ = true ∧ parseT ⟨(tx4 x).toArray⟩ = x := by
  have h1 : parseB ⟨(tx4 x).toArray⟩ = true := (parse_text h).1
  refine ⟨h1, ?_⟩
  unfold parseT
  rw [show opIx ⟨(tx4 x).toArray⟩ = x.1 from text_op h, show pNum ⟨(tx4 x).toArray⟩ 0 = x.2.1 from text_num h 0 (by decide), show pNum ⟨(tx4 x).toArray⟩ 1 = x.2.2.1 from text_num h 1 (by decide), show pNum ⟨(tx4 x).toArray⟩ 2 = x.2.2.2 from text_num h 2 (by decide)]
/-- A text's line. -/
def lineB (t : List UInt8) : ByteArray := ⟨(t ++ [10]).toArray⟩
theorem all_good (l : List I4) (h : ∀ x ∈ l, right4 x = true) : (l.map fun x => lineB (tx4 x)).all goodB = true := by
  rw [List.all_eq_true]
  intro y hy
  obtain ⟨x, hx, rfl⟩ := List.mem_map.1 hy
  exact (good_line _).2.trans (parse4 (h x hx)).1
theorem lines_right (l : List I4) (r : List UInt8) (h : ∀ x ∈ l, right4 x = true) : linesL (lnS l ++ r) = (l.map fun x => tx4 x ++ [10]) ++ linesL r := by
  rw [lnS_right l h, linesL_texts _ r (fun t ht => by obtain ⟨x, _, rfl⟩ := List.mem_map.1 ht; exact tx_no10 x), List.map_map]
  rfl
theorem read_right (l : List I4) (h : ∀ x ∈ l, right4 x = true) : rdOk (linesB ⟨(lnS l).toArray⟩) = true ∧ rdN (linesB ⟨(lnS l).toArray⟩) = l.length ∧ rdT (linesB ⟨(lnS l).toArray⟩) = l := by
  have e : linesB ⟨(lnS l).toArray⟩ = l.map fun x => lineB (tx4 x) := by
    have := lines_right l [] h
    rw [List.append_nil] at this
    unfold linesB
    dsimp only
    rw [this, List.map_append, List.map_map]
    show _ ++ [] = _
    rw [List.append_nil]
    rfl
  rw [e]
  have hg := all_good l h
  refine ⟨hg, ?_, ?_⟩
  · unfold rdN
    rw [takeWhile_all hg, List.length_map]
  · unfold rdT rdOk
    rw [hg, if_pos rfl, List.map_map]
    have : ∀ x ∈ l, ((fun x => parseT (cutB x)) ∘ fun x => lineB (tx4 x)) x = x := fun x hx => by
      show parseT (cutB (lineB (tx4 x))) = x
      rw [show cutB (lineB (tx4 x)) = ⟨(tx4 x).toArray⟩ from (good_line _).1, (parse4 (h x hx)).2]
    rw [List.map_congr_left this, List.map_id']
theorem read_lines (l : List I4) : rdOk (linesB ⟨(lnS l).toArray⟩) = true ∧ rdN (linesB ⟨(lnS l).toArray⟩) = (l.filter right4).length ∧ rdT (linesB ⟨(lnS l).toArray⟩) = l.filter right4 := by
  rw [lnS_filter l]
  exact read_right _ (fun x hx => (List.mem_filter.1 hx).2)
theorem read_mid (l : List I4) (h : ∀ x ∈ l, right4 x = true) (k : Nat) (hk : k ≤ l.length) (s : List UInt8) (hs : ∀ b ∈ s, b ≠ 10) :
    (parseB ⟨s.toArray⟩ = true → rdOk (linesB ⟨(lnS (l.take k) ++ (s ++ 10 :: lnS (l.drop k))).toArray⟩) = true ∧ rdN (linesB ⟨(lnS (l.take k) ++ (s ++ 10 :: lnS (l.drop k))).toArray⟩) = l.length + 1) ∧
    (parseB ⟨s.toArray⟩ = false → rdOk (linesB ⟨(lnS (l.take k) ++ (s ++ 10 :: lnS (l.drop k))).toArray⟩) = false ∧ rdN (linesB ⟨(lnS (l.take k) ++ (s ++ 10 :: lnS (l.drop k))).toArray⟩) = k) := by
  have e : linesB ⟨(lnS (l.take k) ++ (s ++ 10 :: lnS (l.drop k))).toArray⟩ = ((l.take k).map fun x => lineB (tx4 x)) ++ lineB s :: (l.drop k).map fun x => lineB (tx4 x) := by
    unfold linesB
    dsimp only
    have h2 := lines_right (l.drop k) [] (fun x hx => h x (List.mem_of_mem_drop hx))
    rw [List.append_nil] at h2
    rw [lines_right (l.take k) _ (fun x hx => h x (List.mem_of_mem_take hx)), linesL_app _ hs, h2, List.map_append, List.map_cons, List.map_append, List.map_map, List.map_map]
    show _ ++ _ :: (_ ++ []) = _
    rw [List.append_nil]
    rfl
  rw [e]
  have g1 := all_good (l.take k) (fun x hx => h x (List.mem_of_mem_take hx))
  have g2 := all_good (l.drop k) (fun x hx => h x (List.mem_of_mem_drop hx))
  have gs : goodB (lineB s) = parseB ⟨s.toArray⟩ := (good_line s).2
  constructor
  · intro hp
    have hg : (((l.take k).map fun x => lineB (tx4 x)) ++ lineB s :: (l.drop k).map fun x => lineB (tx4 x)).all goodB = true := by
      rw [List.all_append, List.all_cons, g1, g2, gs, hp]; rfl
    refine ⟨hg, ?_⟩
    unfold rdN
    rw [takeWhile_all hg, List.length_append, List.length_cons, List.length_map, List.length_map, List.length_take, List.length_drop]
    omega
  · intro hp
    have hl : ((l.take k).map fun x => lineB (tx4 x)).length = k := by rw [List.length_map, List.length_take]; omega
    refine rd_stop (k := k) (x := lineB s) ?_ ?_ (gs.trans hp)
    · rw [List.take_append_of_le_length (by omega), List.take_of_length_le (by omega)]
      exact g1
    · rw [List.getElem?_append_right (by omega), hl, Nat.sub_self]
      rfl
end Go.Proofs.YtnmjglnllokklaaDoor
