/- Memory with tags: how the program's pages lie, and the document's bytes, tags and dirty pages; over lists D (bytes), T (tags), P (dirty pages). -/
import Derived.Test.YtjimkkkiilcpoaaShB
import Derived.Test.YtjimkkkiilcpoaaRf
import Derived.Test.YtjimkkkiilcpoaaEncE
set_option linter.unusedVariables false
set_option linter.unusedSimpArgs false
namespace Go.Proofs.Ytjimkkkiilcpoaa
open Go.RowKit

/-- What cell x of the pages holds. -/
def cellV (D : List Int) (T P : List Bool) (x : Nat) : Value :=
  if x % 273 < 256 then .int .u8 (D.getD (x / 273 * 256 + x % 273) 0) else if x % 273 < 272 then .bool (T.getD (x / 273 * 16 + (x % 273 - 256)) false) else .bool (P.getD (x / 273) false)
def pagesA (D : List Int) (T P : List Bool) : Array Value := ((List.range (273 * P.length)).map (cellV D T P)).toArray
theorem pagesA_size (D : List Int) (T P : List Bool) : (pagesA D T P).size = 273 * P.length := by simp [pagesA]
theorem pagesA_at (D : List Int) (T P : List Bool) (x : Nat) : (pagesA D T P)[x]? = if x < 273 * P.length then some (cellV D T P x) else none := by
  simp only [pagesA, List.getElem?_toArray, List.getElem?_map]
  by_cases h : x < 273 * P.length
  · rw [if_pos h, List.getElem?_range h]; rfl
  · rw [if_neg h, List.getElem?_eq_none (by simp; omega)]; rfl
theorem pg_div (i j : Nat) (hj : j < 273) : (i * 273 + j) / 273 = i ∧ (i * 273 + j) % 273 = j := by omega
theorem pg_byte (D : List Int) (T P : List Bool) (i j : Nat) (hi : i < P.length) (hj : j < 256) : (pagesA D T P)[i * 273 + j]? = some (.int .u8 (D.getD (i * 256 + j) 0)) := by
  obtain ⟨h1, h2⟩ := pg_div i j (by omega)
  rw [pagesA_at, if_pos (by omega), cellV, h1, h2, if_pos hj]
theorem pg_tag (D : List Int) (T P : List Bool) (i k : Nat) (hi : i < P.length) (hk : k < 16) : (pagesA D T P)[i * 273 + (256 + k)]? = some (.bool (T.getD (i * 16 + k) false)) := by
  obtain ⟨h1, h2⟩ := pg_div i (256 + k) (by omega)
  rw [pagesA_at, if_pos (by omega), cellV, h1, h2, if_neg (by omega), if_pos (by omega), Nat.add_sub_cancel_left]
theorem pg_dirty (D : List Int) (T P : List Bool) (i : Nat) (hi : i < P.length) : (pagesA D T P)[i * 273 + 272]? = some (.bool (P.getD i false)) := by
  obtain ⟨h1, h2⟩ := pg_div i 272 (by omega)
  rw [pagesA_at, if_pos (by omega), cellV, h1, h2, if_neg (by omega), if_neg (by omega)]
theorem getD_setL {α : Type} (l : List α) (i j : Nat) (v d : α) (h : i < l.length) : (l.set i v).getD j d = if i = j then v else l.getD j d := by
  rw [List.getD_eq_getElem?_getD, List.getD_eq_getElem?_getD, List.getElem?_set]
  by_cases e : i = j
  · subst e; simp [h]
  · simp [e]
theorem pg_set_tag (D : List Int) (T P : List Bool) (i k : Nat) (v : Bool) (hi : i < P.length) (hk : k < 16) (hT : T.length = 16 * P.length) :
    (pagesA D T P).setIfInBounds (i * 273 + (256 + k)) (.bool v) = pagesA D (T.set (i * 16 + k) v) P := by
  apply Array.ext_getElem?
  intro x
  rw [Array.getElem?_setIfInBounds, pagesA_size, pagesA_at, pagesA_at]
  have h1 : i * 273 + (256 + k) < 273 * P.length := by omega
  by_cases hx : i * 273 + (256 + k) = x
  · subst hx
    obtain ⟨e1, e2⟩ := pg_div i (256 + k) (by omega)
    rw [if_pos rfl, if_pos h1, if_pos h1, cellV, e1, e2, if_neg (by omega), if_pos (by omega), Nat.add_sub_cancel_left, getD_setL _ _ _ _ _ (by omega), if_pos rfl]
  · rw [if_neg hx]
    congr 2
    unfold cellV
    split
    · rfl
    · split
      · rw [getD_setL _ _ _ _ _ (by omega), if_neg (by omega)]
      · rfl
theorem pg_set_dirty (D : List Int) (T P : List Bool) (i : Nat) (v : Bool) (hi : i < P.length) :
    (pagesA D T P).setIfInBounds (i * 273 + 272) (.bool v) = pagesA D T (P.set i v) := by
  apply Array.ext_getElem?
  intro x
  rw [Array.getElem?_setIfInBounds, pagesA_size, pagesA_at, pagesA_at, List.length_set]
  have h1 : i * 273 + 272 < 273 * P.length := by omega
  by_cases hx : i * 273 + 272 = x
  · subst hx
    obtain ⟨e1, e2⟩ := pg_div i 272 (by omega)
    rw [if_pos rfl, if_pos h1, if_pos h1, cellV, e1, e2, if_neg (by omega), if_neg (by omega), getD_setL _ _ _ _ _ (by omega), if_pos rfl]
  · rw [if_neg hx]
    congr 2
    unfold cellV
    split
    · rfl
    · split
      · rfl
      · rw [getD_setL _ _ _ _ _ (by omega), if_neg (by omega)]

/-- Bytes bs over D from a on. -/
def writeL (D : List Int) (a : Nat) (bs : List Int) : List Int := D.take a ++ bs ++ D.drop (a + bs.length)
theorem writeL_length (D : List Int) (a : Nat) (bs : List Int) (h : a + bs.length ≤ D.length) : (writeL D a bs).length = D.length := by simp [writeL]; omega
theorem writeL_getD (D : List Int) (a : Nat) (bs : List Int) (h : a + bs.length ≤ D.length) (x : Nat) (d : Int) :
    (writeL D a bs).getD x d = if a ≤ x ∧ x < a + bs.length then bs.getD (x - a) d else D.getD x d := by
  simp only [writeL, List.getD_eq_getElem?_getD]
  congr 1
  have hl : (D.take a).length = a := by simp; omega
  by_cases h1 : x < a
  · rw [if_neg (by omega), List.append_assoc, List.getElem?_append_left (by omega), List.getElem?_take, if_pos h1]
  · by_cases h2 : x < a + bs.length
    · rw [if_pos ⟨by omega, h2⟩, List.append_assoc, List.getElem?_append_right (by omega), hl, List.getElem?_append_left (by omega)]
    · rw [if_neg (by omega), List.getElem?_append_right (by rw [List.length_append, hl]; omega), List.getElem?_drop, List.length_append, hl, show a + bs.length + (x - (a + bs.length)) = x by omega]
theorem pg_write (D : List Int) (T P : List Bool) (i j : Nat) (bs : List Int) (hi : i < P.length) (hj : j + bs.length ≤ 256) (hD : D.length = 256 * P.length) :
    ((pagesA D T P).toList.take (i * 273 + j) ++ bs.map (Value.int .u8) ++ (pagesA D T P).toList.drop (i * 273 + j + bs.length)).toArray = pagesA (writeL D (i * 256 + j) bs) T P := by
  have hsz : (pagesA D T P).toList.length = 273 * P.length := by rw [Array.length_toList, pagesA_size]
  apply Array.ext_getElem?
  intro x
  rw [List.getElem?_toArray, pagesA_at]
  have hl : ((pagesA D T P).toList.take (i * 273 + j)).length = i * 273 + j := by rw [List.length_take, hsz]; omega
  by_cases h1 : x < i * 273 + j
  · rw [if_pos (by omega), List.append_assoc, List.getElem?_append_left (by omega), List.getElem?_take, if_pos h1, Array.getElem?_toList, pagesA_at, if_pos (by omega)]
    congr 1
    unfold cellV
    split
    · rw [writeL_getD _ _ _ (by omega), if_neg (by omega)]
    · rfl
  · by_cases h2 : x < i * 273 + j + bs.length
    · rw [if_pos (by omega), List.append_assoc, List.getElem?_append_right (by omega), hl, List.getElem?_append_left (by simp; omega)]
      have e1 : x / 273 = i := by omega
      have e2 : x % 273 = x - i * 273 := by omega
      rw [cellV, e1, e2, if_pos (by omega), writeL_getD _ _ _ (by omega), if_pos (by omega), List.getElem?_map, List.getD_eq_getElem?_getD,
        show i * 256 + (x - i * 273) - (i * 256 + j) = x - (i * 273 + j) by omega, List.getElem?_eq_getElem (by omega)]
      rfl
    · have hl2 : (List.take (i * 273 + j) (pagesA D T P).toList ++ List.map (Value.int IntKind.u8) bs).length = i * 273 + j + bs.length := by rw [List.length_append, hl, List.length_map]
      rw [List.getElem?_append_right (by rw [hl2]; omega), List.getElem?_drop, Array.getElem?_toList, pagesA_at, hl2]
      rw [show i * 273 + j + bs.length + (x - (i * 273 + j + bs.length)) = x by omega]
      by_cases hx : x < 273 * P.length
      · rw [if_pos hx, if_pos hx]
        congr 1
        unfold cellV
        split
        · rw [writeL_getD _ _ _ (by omega), if_neg (by omega)]
        · rfl
      · rw [if_neg hx, if_neg hx]

/-- Sizes fit; bytes are bytes. -/
def okL (D : List Int) (T P : List Bool) : Prop := D.length = 256 * P.length ∧ T.length = 16 * P.length ∧ P.length ≤ 65536 ∧ isB D
/-- The program's memory: its block, its pages' block. -/
def TmM (w : World) (b bP : Nat) (D : List Int) (T P : List Bool) : Prop :=
  okL D T P ∧ b ≠ bP ∧ Blk w b #[.slice (some ⟨bP, 0, none⟩) P.length P.length] 107 ∧ Blk w bP (pagesA D T P) 116
theorem TmM.below {w w1 : World} {b bP B : Nat} {D : List Int} {T P : List Bool} (h : TmM w b bP D T P) (hb : Below B w w1) (h1 : b < B) (h2 : bP < B) : TmM w1 b bP D T P :=
  ⟨h.1, h.2.1, h.2.2.1.below hb h1, h.2.2.2.below hb h2⟩
theorem TmM.lt {w : World} {b bP : Nat} {D : List Int} {T P : List Bool} (h : TmM w b bP D T P) : b < w.heap.size ∧ bP < w.heap.size := ⟨h.2.2.1.lt, h.2.2.2.lt⟩
theorem Blk.turns {w w1 : World} {b : Nat} {cs : Array Value} {e : TypeId} {bs : List Nat} (h : Blk w b cs e) (ht : Turns bs w w1) (hn : b ∉ bs) : Blk w1 b cs e := (ht.block b h.lt hn).trans h
theorem TmM.turns {w w1 : World} {b bP : Nat} {bs : List Nat} {D : List Int} {T P : List Bool} (h : TmM w b bP D T P) (ht : Turns bs w w1) (h1 : b ∉ bs) (h2 : bP ∉ bs) : TmM w1 b bP D T P :=
  ⟨h.1, h.2.1, h.2.2.1.turns ht h1, h.2.2.2.turns ht h2⟩

/-- The document's memory: its block, its bytes', tags' and pages' blocks. -/
def TrM (w : World) (b bB bT bP : Nat) (D : List Int) (T P : List Bool) : Prop :=
  okL D T P ∧ (b ≠ bB ∧ b ≠ bT ∧ b ≠ bP ∧ bB ≠ bT ∧ bB ≠ bP ∧ bT ≠ bP) ∧ Blk w b #[.slice (some ⟨bB, 0, none⟩) D.length D.length, .slice (some ⟨bT, 0, none⟩) T.length T.length, .slice (some ⟨bP, 0, none⟩) P.length P.length] 109 ∧
    Blk w bB (u8s D).toArray 5 ∧ Blk w bT (bools T) 4 ∧ Blk w bP (bools P) 4
theorem TrM.below {w w1 : World} {b bB bT bP B : Nat} {D : List Int} {T P : List Bool} (h : TrM w b bB bT bP D T P) (hb : Below B w w1) (h1 : b < B) (h2 : bB < B) (h3 : bT < B) (h4 : bP < B) : TrM w1 b bB bT bP D T P :=
  ⟨h.1, h.2.1, h.2.2.1.below hb h1, h.2.2.2.1.below hb h2, h.2.2.2.2.1.below hb h3, h.2.2.2.2.2.below hb h4⟩
theorem TrM.lt {w : World} {b bB bT bP : Nat} {D : List Int} {T P : List Bool} (h : TrM w b bB bT bP D T P) : b < w.heap.size ∧ bB < w.heap.size ∧ bT < w.heap.size ∧ bP < w.heap.size :=
  ⟨h.2.2.1.lt, h.2.2.2.1.lt, h.2.2.2.2.1.lt, h.2.2.2.2.2.lt⟩
theorem TrM.turns {w w1 : World} {b bB bT bP : Nat} {bs : List Nat} {D : List Int} {T P : List Bool} (h : TrM w b bB bT bP D T P) (ht : Turns bs w w1) (h1 : b ∉ bs) (h2 : bB ∉ bs) (h3 : bT ∉ bs) (h4 : bP ∉ bs) : TrM w1 b bB bT bP D T P :=
  ⟨h.1, h.2.1, h.2.2.1.turns ht h1, h.2.2.2.1.turns ht h2, h.2.2.2.2.1.turns ht h3, h.2.2.2.2.2.turns ht h4⟩

/-! ### New -/
def zeroPageC : Array Value := Array.replicate 256 (.int .u8 0) ++ Array.replicate 16 (.bool false) ++ #[.bool false]
def zeroPage : Value := .agg zeroPageC
theorem infoPage : (Try.prog.info? 116).map (fun i => (i.zero, i.size, i.bytes)) = some (some zeroPage, 273, 273) := by kernel_rfl
theorem zeroPage_cells : zeroPage.cells.size = 273 ∧ ∀ j, j < 273 → zeroPage.cells[j]! = (if j < 256 then .int .u8 0 else .bool false) := by
  have e : zeroPage.cells = zeroPageC := rfl
  rw [e]
  have hs : zeroPageC.size = 273 := by simp [zeroPageC]
  refine ⟨hs, fun j hj => ?_⟩
  rw [getElem!_pos _ _ (by rw [hs]; exact hj)]
  simp only [zeroPageC, Array.getElem_append, Array.getElem_replicate, Array.size_append, Array.size_replicate]
  by_cases h1 : j < 256
  · simp [h1]; omega
  · by_cases h2 : j < 272
    · simp [h1, h2]
    · have : j = 272 := by omega
      subst this
      simp
theorem made_pages (n : Nat) : madeCells zeroPage.cells (n * 273) = pagesA (List.replicate (256 * n) 0) (List.replicate (16 * n) false) (List.replicate n false) := by
  apply Array.ext_getElem?
  intro x
  rw [pagesA_at, List.length_replicate]
  obtain ⟨h1, h2⟩ := zeroPage_cells
  by_cases hx : x < 273 * n
  · have h3 := h2 (x % 273) (by omega)
    have hg : ∀ {α : Type} (m k : Nat) (d : α), (List.replicate m d).getD k d = d := fun m k d => by
      rw [List.getD_eq_getElem?_getD, List.getElem?_replicate]; split <;> rfl
    rw [if_pos hx, cellV, hg, hg, hg]
    simp only [madeCells, Array.getElem?_map, h1]
    have hr : (Array.range (n * 273))[x]? = some x := by rw [Array.getElem?_eq_getElem (by rw [Array.size_range]; omega), Array.getElem_range]
    rw [hr]
    simp only [Option.map_some, h3]
    split <;> simp
  · rw [if_neg hx, Array.getElem?_eq_none (by rw [size_madeCells]; omega)]
theorem mk_pages (n : Nat) (h : n ≤ 65536) (w : World) : (Instr.makeSlice 105 (.int .i64 n) (.int .i64 n)).run Try.prog w = .ok (.slice (some ⟨w.heap.size, 0, none⟩) n n) (w.alloc (.cells (pagesA (List.replicate (256 * n) 0) (List.replicate (16 * n) false) (List.replicate n false)) 116)) := by
  obtain ⟨i0, hi, hz0, hz1, hz2⟩ := info_parts infoPage
  have := run_make (P := Try.prog) w 105 116 i0 zeroPage Try.underlying105 hi hz0 .i64 .i64 n n (by omega) (Int.le_refl _) (by rw [hz2]; omega) (by omega)
  rw [hz1] at this
  simp only [Int.toNat_natCast] at this
  rw [made_pages] at this
  exact this

set_option maxRecDepth 100000 in
set_option maxHeartbeats 800000 in
theorem tm_new (n : Nat) (w : World) (h1 : (1 : Int) ≤ n) (h2 : (n : Int) ≤ 65536) :
    Calls Try.prog 47 #[.int .i64 n] w fun e w' => ∃ b bP, e = .returned (.pointer (some ⟨b, 0, none⟩)) ∧ TmM w' b bP (List.replicate (256 * n) 0) (List.replicate (16 * n) false) (List.replicate n false) ∧ w.heap.size ≤ bP ∧ w.heap.size ≤ b ∧ Below w.heap.size w w' := by
  have hmk := mk_pages n (by omega)
  generalize hA : pagesA (List.replicate (256 * n) 0) (List.replicate (16 * n) false) (List.replicate n false) = A at *
  go_enter Try.func47, Try.ntmps47
  go_wp2
  go_ret
  refine ⟨w.heap.size + 1, w.heap.size, rfl, ⟨⟨by simp, by simp, by rw [List.length_replicate]; omega, fun x hx => by rw [List.eq_of_mem_replicate hx]; decide⟩, by omega, ?_, ?_⟩, Nat.le_refl _, Nat.le_succ _, by go_grown⟩
  · rw [List.length_replicate]
    have := Blk.new (w.alloc (.cells A 116)) #[.slice (some ⟨w.heap.size, 0, none⟩) n n] 107
    rw [World.size_alloc] at this
    exact this
  · rw [hA]
    exact (Blk.new w _ _).alloc _
set_option maxRecDepth 100000 in
theorem tm_new_nil (n : Int) (w : World) (hn : n < 1 ∨ 65536 < n) :
    Calls Try.prog 47 #[.int .i64 n] w fun e w' => e = .returned (.pointer none) ∧ w' = w := by
  rcases (show n < 1 ∨ (¬ n < 1 ∧ 65536 < n) by omega) with h | ⟨h1, h2⟩
  all_goals (go_enter Try.func47, Try.ntmps47; go_wp2; go_ret; exact ⟨rfl, rfl⟩)
end Go.Proofs.Ytjimkkkiilcpoaa
