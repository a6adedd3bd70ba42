/- Memory with tags: how the program's pages lie, and the document's bytes, tags and dirty pages; over lists D (bytes), T (tags), P (dirty pages). -/
import Derived.Test.YtjimkkkiilcpoaaShB
import Derived.Test.YtjimkkkiilcpoaaRf
import Derived.Test.YtjimkkkiilcpoaaEncE
import Derived.Test.YtjimkkkiilcpoaaFlow
set_option linter.unusedVariables false
set_option linter.unusedSimpArgs false
namespace Go.Proofs.Ytjimkkkiilcpoaa
open Go.RowKit

/-- What cell x of the pages holds. -/
def cellV (D : List Int) (T P : List Bool) (x : Nat) : Value :=
  if x % 273 < 256 then .int .u8 (D.getD (x / 273 * 256 + x % 273) 0) else if x % 273 < 272 then .bool (T.getD (x / 273 * 16 + (x % 273 - 256)) false) else .bool (P.getD (x / 273) false)
def pagesA (D : List Int) (T P : List Bool) : Array Value := ((List.range (273 * P.length)).map (cellV D T P)).toArray
theorem pagesA_size (D : List Int) (T P : List Bool) : (pagesA D T P).size = 273 * P.length := by simp [pagesA]
theorem pagesA_at (D : List Int) (T P : List Bool) (x : Nat) : (pagesA D T P)[x]? = if x < 273 * P.length then some (cellV D T P x) else none := by
  simp only [pagesA, List.getElem?_toArray, List.getElem?_map]
  by_cases h : x < 273 * P.length
  · rw [if_pos h, List.getElem?_range h]; rfl
  · rw [if_neg h, List.getElem?_eq_none (by simp; omega)]; rfl
theorem pg_div (i j : Nat) (hj : j < 273) : (i * 273 + j) / 273 = i ∧ (i * 273 + j) % 273 = j := by omega
theorem pg_byte (D : List Int) (T P : List Bool) (i j : Nat) (hi : i < P.length) (hj : j < 256) : (pagesA D T P)[i * 273 + j]? = some (.int .u8 (D.getD (i * 256 + j) 0)) := by
  obtain ⟨h1, h2⟩ := pg_div i j (by omega)
  rw [pagesA_at, if_pos (by omega), cellV, h1, h2, if_pos hj]
theorem pg_tag (D : List Int) (T P : List Bool) (i k : Nat) (hi : i < P.length) (hk : k < 16) : (pagesA D T P)[i * 273 + (256 + k)]? = some (.bool (T.getD (i * 16 + k) false)) := by
  obtain ⟨h1, h2⟩ := pg_div i (256 + k) (by omega)
  rw [pagesA_at, if_pos (by omega), cellV, h1, h2, if_neg (by omega), if_pos (by omega), Nat.add_sub_cancel_left]
theorem pg_dirty (D : List Int) (T P : List Bool) (i : Nat) (hi : i < P.length) : (pagesA D T P)[i * 273 + 272]? = some (.bool (P.getD i false)) := by
  obtain ⟨h1, h2⟩ := pg_div i 272 (by omega)
  rw [pagesA_at, if_pos (by omega), cellV, h1, h2, if_neg (by omega), if_neg (by omega)]
theorem getD_setL {α : Type} (l : List α) (i j : Nat) (v d : α) (h : i < l.length) : (l.set i v).getD j d = if i = j then v else l.getD j d := by
  rw [List.getD_eq_getElem?_getD, List.getD_eq_getElem?_getD, List.getElem?_set]
  by_cases e : i = j
  · subst e; simp [h]
  · simp [e]
theorem pg_set_tag (D : List Int) (T P : List Bool) (i k : Nat) (v : Bool) (hi : i < P.length) (hk : k < 16) (hT : T.length = 16 * P.length) :
    (pagesA D T P).setIfInBounds (i * 273 + (256 + k)) (.bool v) = pagesA D (T.set (i * 16 + k) v) P := by
  apply Array.ext_getElem?
  intro x
  rw [Array.getElem?_setIfInBounds, pagesA_size, pagesA_at, pagesA_at]
  have h1 : i * 273 + (256 + k) < 273 * P.length := by omega
  by_cases hx : i * 273 + (256 + k) = x
  · subst hx
    obtain ⟨e1, e2⟩ := pg_div i (256 + k) (by omega)
    rw [if_pos rfl, if_pos h1, if_pos h1, cellV, e1, e2, if_neg (by omega), if_pos (by omega), Nat.add_sub_cancel_left, getD_setL _ _ _ _ _ (by omega), if_pos rfl]
  · rw [if_neg hx]
    congr 2
    unfold cellV
    split
    · rfl
    · split
      · rw [getD_setL _ _ _ _ _ (by omega), if_neg (by omega)]
      · rfl
theorem pg_set_dirty (D : List Int) (T P : List Bool) (i : Nat) (v : Bool) (hi : i < P.length) :
    (pagesA D T P).setIfInBounds (i * 273 + 272) (.bool v) = pagesA D T (P.set i v) := by
  apply Array.ext_getElem?
  intro x
  rw [Array.getElem?_setIfInBounds, pagesA_size, pagesA_at, pagesA_at, List.length_set]
  have h1 : i * 273 + 272 < 273 * P.length := by omega
  by_cases hx : i * 273 + 272 = x
  · subst hx
    obtain ⟨e1, e2⟩ := pg_div i 272 (by omega)
    rw [if_pos rfl, if_pos h1, if_pos h1, cellV, e1, e2, if_neg (by omega), if_neg (by omega), getD_setL _ _ _ _ _ (by omega), if_pos rfl]
  · rw [if_neg hx]
    congr 2
    unfold cellV
    split
    · rfl
    · split
      · rfl
      · rw [getD_setL _ _ _ _ _ (by omega), if_neg (by omega)]

/-- Bytes bs over D from a on. -/
def writeL (D : List Int) (a : Nat) (bs : List Int) : List Int := D.take a ++ bs ++ D.drop (a + bs.length)
theorem writeL_length (D : List Int) (a : Nat) (bs : List Int) (h : a + bs.length ≤ D.length) : (writeL D a bs).length = D.length := by simp [writeL]; omega
theorem writeL_getD (D : List Int) (a : Nat) (bs : List Int) (h : a + bs.length ≤ D.length) (x : Nat) (d : Int) :
    (writeL D a bs).getD x d = if a ≤ x ∧ x < a + bs.length then bs.getD (x - a) d else D.getD x d := by
  simp only [writeL, List.getD_eq_getElem?_getD]
  congr 1
  have hl : (D.take a).length = a := by simp; omega
  by_cases h1 : x < a
  · rw [if_neg (by omega), List.append_assoc, List.getElem?_append_left (by omega), List.getElem?_take, if_pos h1]
  · by_cases h2 : x < a + bs.length
    · rw [if_pos ⟨by omega, h2⟩, List.append_assoc, List.getElem?_append_right (by omega), hl, List.getElem?_append_left (by omega)]
    · rw [if_neg (by omega), List.getElem?_append_right (by rw [List.length_append, hl]; omega), List.getElem?_drop, List.length_append, hl, show a + bs.length + (x - (a + bs.length)) = x by omega]
theorem pg_write (D : List Int) (T P : List Bool) (i j : Nat) (bs : List Int) (hi : i < P.length) (hj : j + bs.length ≤ 256) (hD : D.length = 256 * P.length) :
    ((pagesA D T P).toList.take (i * 273 + j) ++ bs.map (Value.int .u8) ++ (pagesA D T P).toList.drop (i * 273 + j + bs.length)).toArray = pagesA (writeL D (i * 256 + j) bs) T P := by
  have hsz : (pagesA D T P).toList.length = 273 * P.length := by rw [Array.length_toList, pagesA_size]
  apply Array.ext_getElem?
  intro x
  rw [List.getElem?_toArray, pagesA_at]
  have hl : ((pagesA D T P).toList.take (i * 273 + j)).length = i * 273 + j := by rw [List.length_take, hsz]; omega
  by_cases h1 : x < i * 273 + j
  · rw [if_pos (by omega), List.append_assoc, List.getElem?_append_left (by omega), List.getElem?_take, if_pos h1, Array.getElem?_toList, pagesA_at, if_pos (by omega)]
    congr 1
    unfold cellV
    split
    · rw [writeL_getD _ _ _ (by omega), if_neg (by omega)]
    · rfl
  · by_cases h2 : x < i * 273 + j + bs.length
    · rw [if_pos (by omega), List.append_assoc, List.getElem?_append_right (by omega), hl, List.getElem?_append_left (by simp; omega)]
      have e1 : x / 273 = i := by omega
      have e2 : x % 273 = x - i * 273 := by omega
      rw [cellV, e1, e2, if_pos (by omega), writeL_getD _ _ _ (by omega), if_pos (by omega), List.getElem?_map, List.getD_eq_getElem?_getD,
        show i * 256 + (x - i * 273) - (i * 256 + j) = x - (i * 273 + j) by omega, List.getElem?_eq_getElem (by omega)]
      rfl
    · have hl2 : (List.take (i * 273 + j) (pagesA D T P).toList ++ List.map (Value.int IntKind.u8) bs).length = i * 273 + j + bs.length := by rw [List.length_append, hl, List.length_map]
      rw [List.getElem?_append_right (by rw [hl2]; omega), List.getElem?_drop, Array.getElem?_toList, pagesA_at, hl2]
      rw [show i * 273 + j + bs.length + (x - (i * 273 + j + bs.length)) = x by omega]
      by_cases hx : x < 273 * P.length
      · rw [if_pos hx, if_pos hx]
        congr 1
        unfold cellV
        split
        · rw [writeL_getD _ _ _ (by omega), if_neg (by omega)]
        · rfl
      · rw [if_neg hx, if_neg hx]

/-- Sizes fit; bytes are bytes. -/
def okL (D : List Int) (T P : List Bool) : Prop := D.length = 256 * P.length ∧ T.length = 16 * P.length ∧ P.length ≤ 65536 ∧ isB D
/-- The program's memory: its block, its pages' block. -/
def TmM (w : World) (b bP : Nat) (D : List Int) (T P : List Bool) : Prop :=
  okL D T P ∧ b ≠ bP ∧ Blk w b #[.slice (some ⟨bP, 0, none⟩) P.length P.length] 107 ∧ Blk w bP (pagesA D T P) 116
theorem TmM.below {w w1 : World} {b bP B : Nat} {D : List Int} {T P : List Bool} (h : TmM w b bP D T P) (hb : Below B w w1) (h1 : b < B) (h2 : bP < B) : TmM w1 b bP D T P :=
  ⟨h.1, h.2.1, h.2.2.1.below hb h1, h.2.2.2.below hb h2⟩
theorem TmM.lt {w : World} {b bP : Nat} {D : List Int} {T P : List Bool} (h : TmM w b bP D T P) : b < w.heap.size ∧ bP < w.heap.size := ⟨h.2.2.1.lt, h.2.2.2.lt⟩
theorem Blk.turns {w w1 : World} {b : Nat} {cs : Array Value} {e : TypeId} {bs : List Nat} (h : Blk w b cs e) (ht : Turns bs w w1) (hn : b ∉ bs) : Blk w1 b cs e := (ht.block b h.lt hn).trans h
theorem TmM.turns {w w1 : World} {b bP : Nat} {bs : List Nat} {D : List Int} {T P : List Bool} (h : TmM w b bP D T P) (ht : Turns bs w w1) (h1 : b ∉ bs) (h2 : bP ∉ bs) : TmM w1 b bP D T P :=
  ⟨h.1, h.2.1, h.2.2.1.turns ht h1, h.2.2.2.turns ht h2⟩

/-- The document's memory: its block, its bytes', tags' and pages' blocks. -/
def TrM (w : World) (b bB bT bP : Nat) (D : List Int) (T P : List Bool) : Prop :=
  okL D T P ∧ (b ≠ bB ∧ b ≠ bT ∧ b ≠ bP ∧ bB ≠ bT ∧ bB ≠ bP ∧ bT ≠ bP) ∧ Blk w b #[.slice (some ⟨bB, 0, none⟩) D.length D.length, .slice (some ⟨bT, 0, none⟩) T.length T.length, .slice (some ⟨bP, 0, none⟩) P.length P.length] 109 ∧
    Blk w bB (u8s D).toArray 5 ∧ Blk w bT (bools T) 4 ∧ Blk w bP (bools P) 4
theorem TrM.below {w w1 : World} {b bB bT bP B : Nat} {D : List Int} {T P : List Bool} (h : TrM w b bB bT bP D T P) (hb : Below B w w1) (h1 : b < B) (h2 : bB < B) (h3 : bT < B) (h4 : bP < B) : TrM w1 b bB bT bP D T P :=
  ⟨h.1, h.2.1, h.2.2.1.below hb h1, h.2.2.2.1.below hb h2, h.2.2.2.2.1.below hb h3, h.2.2.2.2.2.below hb h4⟩
theorem TrM.lt {w : World} {b bB bT bP : Nat} {D : List Int} {T P : List Bool} (h : TrM w b bB bT bP D T P) : b < w.heap.size ∧ bB < w.heap.size ∧ bT < w.heap.size ∧ bP < w.heap.size :=
  ⟨h.2.2.1.lt, h.2.2.2.1.lt, h.2.2.2.2.1.lt, h.2.2.2.2.2.lt⟩
theorem TrM.turns {w w1 : World} {b bB bT bP : Nat} {bs : List Nat} {D : List Int} {T P : List Bool} (h : TrM w b bB bT bP D T P) (ht : Turns bs w w1) (h1 : b ∉ bs) (h2 : bB ∉ bs) (h3 : bT ∉ bs) (h4 : bP ∉ bs) : TrM w1 b bB bT bP D T P :=
  ⟨h.1, h.2.1, h.2.2.1.turns ht h1, h.2.2.2.1.turns ht h2, h.2.2.2.2.1.turns ht h3, h.2.2.2.2.2.turns ht h4⟩

/-! ### New -/
def zeroPageC : Array Value := Array.replicate 256 (.int .u8 0) ++ Array.replicate 16 (.bool false) ++ #[.bool false]
def zeroPage : Value := .agg zeroPageC
theorem infoPage : (Try.prog.info? 116).map (fun i => (i.zero, i.size, i.bytes)) = some (some zeroPage, 273, 273) := by kernel_rfl
theorem zeroPage_cells : zeroPage.cells.size = 273 ∧ ∀ j, j < 273 → zeroPage.cells[j]! = (if j < 256 then .int .u8 0 else .bool false) := by
  have e : zeroPage.cells = zeroPageC := rfl
  rw [e]
  have hs : zeroPageC.size = 273 := by simp [zeroPageC]
  refine ⟨hs, fun j hj => ?_⟩
  rw [getElem!_pos _ _ (by rw [hs]; exact hj)]
  simp only [zeroPageC, Array.getElem_append, Array.getElem_replicate, Array.size_append, Array.size_replicate]
  by_cases h1 : j < 256
  · simp [h1]; omega
  · by_cases h2 : j < 272
    · simp [h1, h2]
    · have : j = 272 := by omega
      subst this
      simp
theorem made_pages (n : Nat) : madeCells zeroPage.cells (n * 273) = pagesA (List.replicate (256 * n) 0) (List.replicate (16 * n) false) (List.replicate n false) := by
  apply Array.ext_getElem?
  intro x
  rw [pagesA_at, List.length_replicate]
  obtain ⟨h1, h2⟩ := zeroPage_cells
  by_cases hx : x < 273 * n
  · have h3 := h2 (x % 273) (by omega)
    have hg : ∀ {α : Type} (m k : Nat) (d : α), (List.replicate m d).getD k d = d := fun m k d => by
      rw [List.getD_eq_getElem?_getD, List.getElem?_replicate]; split <;> rfl
    rw [if_pos hx, cellV, hg, hg, hg]
    simp only [madeCells, Array.getElem?_map, h1]
    have hr : (Array.range (n * 273))[x]? = some x := by rw [Array.getElem?_eq_getElem (by rw [Array.size_range]; omega), Array.getElem_range]
    rw [hr]
    simp only [Option.map_some, h3]
    split <;> simp
  · rw [if_neg hx, Array.getElem?_eq_none (by rw [size_madeCells]; omega)]
theorem mk_pages (n : Nat) (h : n ≤ 65536) (w : World) : (Instr.makeSlice 105 (.int .i64 n) (.int .i64 n)).run Try.prog w = .ok (.slice (some ⟨w.heap.size, 0, none⟩) n n) (w.alloc (.cells (pagesA (List.replicate (256 * n) 0) (List.replicate (16 * n) false) (List.replicate n false)) 116)) := by
  obtain ⟨i0, hi, hz0, hz1, hz2⟩ := info_parts infoPage
  have := run_make (P := Try.prog) w 105 116 i0 zeroPage Try.underlying105 hi hz0 .i64 .i64 n n (by omega) (Int.le_refl _) (by rw [hz2]; omega) (by omega)
  rw [hz1] at this
  simp only [Int.toNat_natCast] at this
  rw [made_pages] at this
  exact this

set_option maxRecDepth 100000 in
set_option maxHeartbeats 800000 in
theorem tm_new (n : Nat) (w : World) (h1 : (1 : Int) ≤ n) (h2 : (n : Int) ≤ 65536) :
    Calls Try.prog 47 #[.int .i64 n] w fun e w' => ∃ b bP, e = .returned (.pointer (some ⟨b, 0, none⟩)) ∧ TmM w' b bP (List.replicate (256 * n) 0) (List.replicate (16 * n) false) (List.replicate n false) ∧ w.heap.size ≤ bP ∧ w.heap.size ≤ b ∧ Below w.heap.size w w' := by
  have hmk := mk_pages n (by omega)
  generalize hA : pagesA (List.replicate (256 * n) 0) (List.replicate (16 * n) false) (List.replicate n false) = A at *
  go_enter Try.func47, Try.ntmps47
  go_wp2
  go_ret
  refine ⟨w.heap.size + 1, w.heap.size, rfl, ⟨⟨by simp, by simp, by rw [List.length_replicate]; omega, fun x hx => by rw [List.eq_of_mem_replicate hx]; decide⟩, by omega, ?_, ?_⟩, Nat.le_refl _, Nat.le_succ _, by go_grown⟩
  · rw [List.length_replicate]
    have := Blk.new (w.alloc (.cells A 116)) #[.slice (some ⟨w.heap.size, 0, none⟩) n n] 107
    rw [World.size_alloc] at this
    exact this
  · rw [hA]
    exact (Blk.new w _ _).alloc _
set_option maxRecDepth 100000 in
theorem tm_new_nil (n : Int) (w : World) (hn : n < 1 ∨ 65536 < n) :
    Calls Try.prog 47 #[.int .i64 n] w fun e w' => e = .returned (.pointer none) ∧ w' = w := by
  rcases (show n < 1 ∨ (¬ n < 1 ∧ 65536 < n) by omega) with h | ⟨h1, h2⟩
  all_goals (go_enter Try.func47, Try.ntmps47; go_wp2; go_ret; exact ⟨rfl, rfl⟩)
end Go.Proofs.Ytjimkkkiilcpoaa

/- Memory with tags: places, tags, Strip, Clean; the program's. -/
namespace Go.Proofs.Ytjimkkkiilcpoaa
open Go.RowKit

/-- Is that a place? -/
def plB (n : Nat) (a : Int) : Bool := decide (0 ≤ a ∧ a < n * 256 ∧ a % 16 = 0)
theorem pl_split {n : Nat} {a : Int} (h : plB n a = true) : ∃ i k : Nat, i < n ∧ k < 16 ∧ a = ((i * 256 + k * 16 : Nat) : Int) := by
  simp only [plB, decide_eq_true_eq] at h
  exact ⟨(a / 256).toNat, (a % 256 / 16).toNat, by omega, by omega, by omega⟩

set_option maxRecDepth 100000 in
set_option maxHeartbeats 800000 in
theorem tm_granule (b bP : Nat) (D : List Int) (T P : List Bool) (i k : Nat) (w : World) (h : TmM w b bP D T P) (hi : i < P.length) (hk : k < 16) :
    Calls Try.prog 99 #[.pointer (some ⟨b, 0, none⟩), .int .i64 ((i * 256 + k * 16 : Nat) : Int)] w fun e w' => e = .returned (.tuple #[.pointer (some ⟨bP, i * 273, none⟩), .int .i64 k]) ∧ w = w' := by
  obtain ⟨⟨_, _, hn, _⟩, _, hB, _⟩ := h
  have L := hB.cell
  have hlt := hB.lt
  clear hB
  generalize P.length = n at *
  obtain ⟨a, ha⟩ : ∃ a : Nat, a = i * 256 + k * 16 := ⟨_, rfl⟩
  rw [← ha]
  have h1 : (a : Int) < (n : Int) * 256 := by omega
  have h2 : ((a : Int) % 16 != 0) = false := by rw [bne_eq_false_iff_eq]; omega
  have h6 : ¬ (n : Int) * 256 ≤ a := by omega
  have h3 : (a : Int) / 256 = (i : Int) := by omega
  have h4 : (a : Int) % 256 / 16 = (k : Int) := by omega
  have h5 : (i : Int) < n := by omega
  clear ha
  go_enter Try.func99, Try.ntmps99
  go_wp2
  go_ret2
  exact ⟨rfl, rfl⟩
set_option maxRecDepth 100000 in
set_option maxHeartbeats 800000 in
theorem tm_granule_no (b bP : Nat) (D : List Int) (T P : List Bool) (a : Int) (w : World) (h : TmM w b bP D T P) (ha : inI a) (hn : plB P.length a = false) :
    Calls Try.prog 99 #[.pointer (some ⟨b, 0, none⟩), .int .i64 a] w fun e w' => e = .returned (.tuple #[.pointer none, .int .i64 0]) ∧ w = w' := by
  obtain ⟨⟨_, _, hle, _⟩, _, hB, _⟩ := h
  have L := hB.cell
  have hlt := hB.lt
  clear hB
  generalize P.length = n at *
  obtain ⟨a0, a1⟩ := ha
  have hc : a < 0 ∨ (¬ a < 0 ∧ (n : Int) * 256 ≤ a) ∨ (¬ a < 0 ∧ a < (n : Int) * 256 ∧ (a % 16 != 0) = true) := by
    simp only [plB, decide_eq_false_iff_not] at hn
    rcases (show a < 0 ∨ (¬ a < 0 ∧ (n : Int) * 256 ≤ a) ∨ (¬ a < 0 ∧ a < (n : Int) * 256 ∧ ¬ a % 16 = 0) by omega) with h | h | ⟨h1, h2, h3⟩
    · exact .inl h
    · exact .inr (.inl h)
    · exact .inr (.inr ⟨h1, h2, by simpa using h3⟩)
  clear hn
  rcases hc with h | ⟨h, h1⟩ | ⟨h, h1, h2⟩
  · go_enter Try.func99, Try.ntmps99
    go_wp2
    go_ret2
    exact ⟨rfl, rfl⟩
  · obtain ⟨m, rfl⟩ := Int.eq_ofNat_of_zero_le (show 0 ≤ a by omega)
    clear h
    go_enter Try.func99, Try.ntmps99
    go_wp2
    go_ret2
    exact ⟨rfl, rfl⟩
  · obtain ⟨m, rfl⟩ := Int.eq_ofNat_of_zero_le (show 0 ≤ a by omega)
    clear h
    have h3 : ¬ (n : Int) * 256 ≤ m := by omega
    go_enter Try.func99, Try.ntmps99
    go_wp2
    go_ret2
    exact ⟨rfl, rfl⟩

/-- The tag at an address. -/
def tagL (T : List Bool) (a : Int) : Bool := T.getD (a / 16).toNat false
theorem tag_at (T : List Bool) (i k : Nat) : tagL T ((i * 256 + k * 16 : Nat) : Int) = T.getD (i * 16 + k) false := by
  unfold tagL; congr 1; omega
theorem tag_ix (i k : Nat) : ((((i * 256 + k * 16 : Nat) : Int)) / 16).toNat = i * 16 + k := by omega
theorem TmM.tag {w : World} {b bP : Nat} {D : List Int} {T P : List Bool} (h : TmM w b bP D T P) {i k : Nat} (hi : i < P.length) (hk : k < 16) :
    w.cell? ⟨bP, i * 273 + 256 + k, none⟩ = some (.bool (T.getD (i * 16 + k) false)) ∧ w.frozen? ⟨bP, i * 273 + 256 + k, none⟩ = false :=
  ⟨by rw [h.2.2.2.cell, Nat.add_assoc, pg_tag D T P i k hi hk], h.2.2.2.frozen _⟩
theorem TmM.dirty {w : World} {b bP : Nat} {D : List Int} {T P : List Bool} (h : TmM w b bP D T P) {i : Nat} (hi : i < P.length) :
    w.cell? ⟨bP, i * 273 + 272, none⟩ = some (.bool (P.getD i false)) ∧ w.frozen? ⟨bP, i * 273 + 272, none⟩ = false :=
  ⟨by rw [h.2.2.2.cell, pg_dirty D T P i hi], h.2.2.2.frozen _⟩
theorem TmM.setTag {w : World} {b bP : Nat} {D : List Int} {T P : List Bool} (h : TmM w b bP D T P) {i k : Nat} (hi : i < P.length) (hk : k < 16) (v : Bool) :
    TmM (w.setCell ⟨bP, i * 273 + 256 + k, none⟩ (.bool v)) b bP D (T.set (i * 16 + k) v) P := by
  obtain ⟨⟨h1, h2, h3, h4⟩, hne, hB, hP⟩ := h
  refine ⟨⟨h1, by rw [List.length_set]; exact h2, h3, h4⟩, hne, hB.set_other hne _ _, ?_⟩
  rw [← pg_set_tag D T P i k v hi hk h2, Nat.add_assoc]
  exact hP.set _ _
theorem TmM.setDirty {w : World} {b bP : Nat} {D : List Int} {T P : List Bool} (h : TmM w b bP D T P) {i : Nat} (hi : i < P.length) (v : Bool) :
    TmM (w.setCell ⟨bP, i * 273 + 272, none⟩ (.bool v)) b bP D T (P.set i v) := by
  obtain ⟨⟨h1, h2, h3, h4⟩, hne, hB, hP⟩ := h
  refine ⟨⟨by rw [List.length_set]; exact h1, by rw [List.length_set]; exact h2, by rw [List.length_set]; exact h3, h4⟩, hne, ?_, ?_⟩
  · rw [List.length_set]; exact hB.set_other hne _ _
  · rw [← pg_set_dirty D T P i v hi]
    exact hP.set _ _

set_option maxRecDepth 100000 in
set_option maxHeartbeats 800000 in
theorem tm_tag (b bP : Nat) (D : List Int) (T P : List Bool) (a : Int) (w : World) (h : TmM w b bP D T P) (ha : inI a) :
    Calls Try.prog 66 #[.pointer (some ⟨b, 0, none⟩), .int .i64 a] w fun e w' => e = .returned (.bool (plB P.length a && tagL T a)) ∧ w = w' := by
  cases hp : plB P.length a with
  | false =>
    have g := tm_granule_no b bP D T P a w h ha hp
    clear h hp ha
    go_enter Try.func66, Try.ntmps66
    go_wp2_with fail
    refine g.mono ?_
    rintro e w1 ⟨rfl, rfl⟩
    go_wp2
    go_ret
    exact ⟨rfl, rfl⟩
  | true =>
    obtain ⟨i, k, hi, hk, rfl⟩ := pl_split hp
    have g := tm_granule b bP D T P i k w h hi hk
    obtain ⟨c1, c2⟩ := h.tag hi hk
    have hlt := h.lt.2
    rw [tag_at, Bool.true_and]
    generalize T.getD (i * 16 + k) false = t at *
    generalize hz : ((i * 256 + k * 16 : Nat) : Int) = z at *
    clear h hp ha hz
    go_enter Try.func66, Try.ntmps66
    go_wp2_with fail
    refine g.mono ?_
    rintro e w1 ⟨rfl, rfl⟩
    clear g
    go_wp2
    go_ret
    exact ⟨rfl, rfl⟩

set_option maxRecDepth 100000 in
set_option maxHeartbeats 800000 in
theorem tm_strip (b bP : Nat) (D : List Int) (T P : List Bool) (a : Int) (w : World) (h : TmM w b bP D T P) (ha : inI a) :
    Calls Try.prog 51 #[.pointer (some ⟨b, 0, none⟩), .int .i64 a] w fun e w' => e = .returned (.bool (plB P.length a && tagL T a)) ∧ TmM w' b bP D (if plB P.length a then T.set (a / 16).toNat false else T) P ∧ Turns [bP] w w' := by
  cases hp : plB P.length a with
  | false =>
    have g := tm_granule_no b bP D T P a w h ha hp
    have H := Lib.hid h
    clear h hp ha
    go_enter Try.func51, Try.ntmps51
    go_wp2_with fail
    refine g.mono ?_
    rintro e w1 ⟨rfl, rfl⟩
    go_wp2
    go_ret
    exact ⟨rfl, H.out, Turns.refl _ _⟩
  | true =>
    obtain ⟨i, k, hi, hk, rfl⟩ := pl_split hp
    have g := tm_granule b bP D T P i k w h hi hk
    obtain ⟨c1, c2⟩ := h.tag hi hk
    have hlt := h.lt.2
    have H := Lib.hid (h.setTag hi hk false)
    rw [tag_at, Bool.true_and, tag_ix, if_pos rfl]
    generalize T.getD (i * 16 + k) false = t at *
    generalize hz : ((i * 256 + k * 16 : Nat) : Int) = z at *
    clear h hp ha hz
    go_enter Try.func51, Try.ntmps51
    go_wp2_with fail
    refine g.mono ?_
    rintro e w1 ⟨rfl, rfl⟩
    clear g
    go_wp2
    go_ret
    exact ⟨rfl, H.out, Turns.set _ (List.mem_singleton.2 rfl) _ _⟩
end Go.Proofs.Ytjimkkkiilcpoaa

/- Memory with tags: Clean, Tags, Dirty of the program's; numbers alike. -/
namespace Go.Proofs.Ytjimkkkiilcpoaa
open Go.RowKit

theorem any_take (l : List Bool) (k : Nat) (h : ∀ j, j < k → l.getD j false = false) : (l.take k).any id = false := by
  rw [List.any_eq_false]
  intro x hx
  obtain ⟨j, hj, rfl⟩ := List.mem_iff_getElem.1 hx
  rw [List.length_take] at hj
  have := h j (by omega)
  rw [List.getD_eq_getElem?_getD, List.getElem?_eq_getElem (by omega)] at this
  simpa using this

set_option maxRecDepth 100000 in
set_option maxHeartbeats 800000 in
theorem idx_bool (b o c m : Nat) (l : List Bool) (w : World) (hl : l.length = m) (hm : (m : Int) ≤ 1000) (hc : ∀ k, k < m → w.cell? ⟨b, o + k, none⟩ = some (.bool (l.getD k false))) (hlt : b < w.heap.size) :
    Calls Try.prog 110 #[.slice (some ⟨b, o, none⟩) m c, .bool true] w fun e w' => (∃ z : Int, e = .returned (.int .i64 z) ∧ decide (0 ≤ z) = l.any id) ∧ w = w' := by
  have HC := Lib.hid hc
  have HL := Lib.hid hl
  clear hc hl
  go_enter Try.func110, Try.ntmps110
  go_wp2
  go_loopg [5, 8] m (fun k u i wr => ∃ j : Nat, j + k = m ∧ i = .int .i64 j ∧ (∀ q, q < j → l.getD q false = false) ∧ w = wr)
  case atStart => exact ⟨0, by omega, rfl, fun q hq => by omega, rfl⟩
  case round =>
    obtain ⟨j, hjk, rfl, hall, rfl⟩ := hrel
    have HA := Lib.hid hall
    have HJ := Lib.hid hjk
    clear hall hjk
    rcases Nat.lt_or_ge j m with h1 | h1
    · have i1 : (j : Int) < m := by omega
      have c1 := HC.out j h1
      have H1 := Lib.hid h1
      clear h1
      cases hv : l.getD j false with
      | false =>
        rw [hv] at c1
        have HV := Lib.hid hv
        clear hv
        go_wp2
        go_roundg (gk - 1)
        case measure => have := HJ.out; have := H1.out; omega
        case rel =>
          refine ⟨j + 1, by have := HJ.out; have := H1.out; omega, by go_num, fun q hq => ?_, rfl⟩
          rcases Nat.lt_or_ge q j with h | h
          · exact HA.out q h
          · rw [show q = j by omega]; exact HV.out
      | true =>
        rw [hv] at c1
        have hany : l.any id = true := by
          rw [List.any_eq_true]
          refine ⟨true, ?_, rfl⟩
          rw [List.getD_eq_getElem?_getD, List.getElem?_eq_getElem (by rw [HL.out]; exact H1.out)] at hv
          simp only [Option.getD_some] at hv
          rw [← hv]
          exact List.getElem_mem _
        have HV := Lib.hid hany
        clear hv hany
        go_wp2
        go_ret
        exact ⟨⟨_, rfl, by rw [HV.out]; simp⟩, rfl⟩
    · have i1 : ¬ (j : Int) < m := by omega
      have hany : l.any id = false := by
        have := any_take l m fun q hq => HA.out q (by omega)
        rwa [List.take_of_length_le (by rw [HL.out]; exact Nat.le_refl _)] at this
      have HV := Lib.hid hany
      clear h1 hany
      go_wp2
      go_ret
      exact ⟨⟨_, rfl, by rw [HV.out]; rfl⟩, rfl⟩

set_option maxRecDepth 100000 in
theorem has_bool (b o c m : Nat) (l : List Bool) (w : World) (hl : l.length = m) (hm : (m : Int) ≤ 1000) (hc : ∀ k, k < m → w.cell? ⟨b, o + k, none⟩ = some (.bool (l.getD k false))) (hlt : b < w.heap.size) :
    Calls Try.prog 101 #[.slice (some ⟨b, o, none⟩) m c, .bool true] w fun e w' => e = .returned (.bool (l.any id)) ∧ w = w' := by
  have g := idx_bool b o c m l w hl hm hc hlt
  clear hc hl
  go_enter Try.func101, Try.ntmps101
  go_wp2_with fail
  refine g.mono ?_
  rintro e w1 ⟨⟨z, rfl, hz⟩, rfl⟩
  clear g
  go_wp2
  go_ret
  exact ⟨by rw [← hz]; rfl, rfl⟩

/-- The tags of a page; may it be cleaned? -/
def pageT (T : List Bool) (i : Nat) : List Bool := (T.drop (i * 16)).take 16
theorem pageT_getD (T : List Bool) (i k : Nat) (hk : k < 16) : (pageT T i).getD k false = T.getD (i * 16 + k) false := by
  simp only [pageT, List.getD_eq_getElem?_getD, List.getElem?_take, if_pos hk, List.getElem?_drop]
def cleanB (T P : List Bool) (i : Int) : Bool := decide (0 ≤ i ∧ i < P.length) && !(pageT T i.toNat).any id

set_option maxRecDepth 100000 in
set_option maxHeartbeats 800000 in
theorem tm_clean (b bP : Nat) (D : List Int) (T P : List Bool) (i : Int) (w : World) (h : TmM w b bP D T P) (hin : inI i) :
    Calls Try.prog 53 #[.pointer (some ⟨b, 0, none⟩), .int .i64 i] w fun e w' => e = .returned (.bool (cleanB T P i)) ∧ TmM w' b bP D T (if cleanB T P i then P.set i.toNat false else P) ∧ Turns [bP] w w' := by
  obtain ⟨i0, i1⟩ := hin
  by_cases hp : 0 ≤ i ∧ i < P.length
  · obtain ⟨hp0, hp1⟩ := hp
    obtain ⟨j, rfl⟩ := Int.eq_ofNat_of_zero_le hp0
    have hj : j < P.length := by omega
    have hlen : (pageT T j).length = 16 := by have := h.1.2.1; simp [pageT]; omega
    have g := has_bool bP (j * 273 + 256) 16 16 (pageT T j) w hlen (by decide) (fun k hk => by rw [pageT_getD T j k hk]; exact (h.tag hj hk).1) h.lt.2
    have L := h.2.2.1.cell
    have hlt := h.lt.1
    obtain ⟨c1, c2⟩ := h.dirty hj
    have hlt2 := h.lt.2
    have hle := h.1.2.2.1
    have H := Lib.hid (h.setDirty hj false)
    have H0 := Lib.hid h
    have e : cleanB T P j = !(pageT T j).any id := by rw [cleanB, decide_eq_true ⟨hp0, hp1⟩, Bool.true_and, Int.toNat_natCast]
    rw [e, Int.toNat_natCast]
    generalize (pageT T j).any id = z at *
    generalize P.getD j false = dd at *
    generalize hn : P.length = n at *
    clear h e hlen i0 i1 hp0 hj hn
    have hx : (16 : Int) ≤ 16 := by decide
    cases z with
    | true =>
      go_enter Try.func53, Try.ntmps53
      go_wp2_with fail
      refine g.mono ?_
      rintro e w1 ⟨rfl, rfl⟩
      clear g
      go_wp2
      go_ret
      exact ⟨rfl, H0.out, Turns.refl _ _⟩
    | false =>
      go_enter Try.func53, Try.ntmps53
      go_wp2_with fail
      refine g.mono ?_
      rintro e w1 ⟨rfl, rfl⟩
      clear g
      go_wp2
      go_ret
      exact ⟨rfl, H.out, Turns.set _ (List.mem_singleton.2 rfl) _ _⟩
  · have e : cleanB T P i = false := by rw [cleanB, decide_eq_false hp]; rfl
    rw [e]
    have L := h.2.2.1.cell
    have hlt := h.lt.1
    have hle := h.1.2.2.1
    have H0 := Lib.hid h
    generalize hn : P.length = n at *
    clear h e hn
    rcases (show i < 0 ∨ (¬ i < 0 ∧ (n : Int) ≤ i) by omega) with h1 | ⟨h1, h2⟩
    · clear hp
      go_enter Try.func53, Try.ntmps53
      go_wp2
      go_ret
      exact ⟨rfl, H0.out, Turns.refl _ _⟩
    · clear hp
      obtain ⟨j, rfl⟩ := Int.eq_ofNat_of_zero_le (show 0 ≤ i by omega)
      go_enter Try.func53, Try.ntmps53
      go_wp2
      go_ret
      exact ⟨rfl, H0.out, Turns.refl _ _⟩

/-- Where those are that are so, of the first j. -/
def posL (f : Nat) (B : List Bool) (j : Nat) : List Int := ((List.range j).filter fun i => B.getD i false).map fun i => ((i * f : Nat) : Int)
theorem posL_succ (f : Nat) (B : List Bool) (j : Nat) : posL f B (j + 1) = posL f B j ++ (if B.getD j false then [((j * f : Nat) : Int)] else []) := by
  simp only [posL, List.range_succ, List.filter_append, List.map_append, List.filter_cons, List.filter_nil]
  split <;> simp
theorem posL_len (f : Nat) (B : List Bool) (j : Nat) : (posL f B j).length ≤ j := by
  simp only [posL, List.length_map]
  exact Nat.le_trans (List.length_filter_le _ _) (by simp)
def i64s (l : List Int) : List Value := l.map (Value.int .i64)
theorem i64s_append (xs ys : List Int) : i64s (xs ++ ys) = i64s xs ++ i64s ys := by simp [i64s]
/-- All tags' places; all dirty pages. -/
def tagsL (T : List Bool) : List Int := posL 16 T T.length
def dirtyL (P : List Bool) : List Int := posL 1 P P.length
theorem infoInt : (Try.prog.info? 3).map (fun i => (i.zero, i.size, i.bytes)) = some (some (.int .i64 0), 1, 8) := by kernel_rfl

set_option maxRecDepth 100000 in
set_option maxHeartbeats 800000 in
theorem tm_size (b bP : Nat) (D : List Int) (T P : List Bool) (w : World) (h : TmM w b bP D T P) :
    Calls Try.prog 68 #[.pointer (some ⟨b, 0, none⟩)] w fun e w' => e = .returned (.int .i64 ((P.length : Int) * 256)) ∧ w = w' := by
  have L := h.2.2.1.cell
  have hlt := h.lt.1
  have hle := h.1.2.2.1
  generalize P.length = n at *
  clear h
  go_enter Try.func68, Try.ntmps68
  go_wp2
  go_ret
  exact ⟨rfl, rfl⟩

set_option maxRecDepth 100000 in
set_option maxHeartbeats 800000 in
theorem tm_tags (b bP : Nat) (D : List Int) (T P : List Bool) (w : World) (h : TmM w b bP D T P) :
    Calls Try.prog 62 #[.pointer (some ⟨b, 0, none⟩)] w fun e w' => ∃ v, e = .returned v ∧ w'.ownsRow w.heap.size 3 1 v (tagsL T).length (i64s (tagsL T)) ∧ Below w.heap.size w w' := by
  have H := Lib.hid h
  have hle := h.1.2.2.1
  have hT := h.1.2.1
  have hrl : tagsL T = posL 16 T T.length := rfl
  generalize tagsL T = RL at *
  generalize hg : P.length = n at *
  have Hg := Lib.hid hg
  have Hrl := Lib.hid hrl
  have HT := Lib.hid hT
  clear h hg hrl hT
  go_enter Try.func62, Try.ntmps62
  go_wp2
  go_loopg [3, 4] (16 * n) (fun k v i wr => ∃ j : Nat, j + k = 16 * n ∧ i = .int .i64 ((j * 16 : Nat) : Int) ∧ wr.ownsRow w.heap.size 3 1 v (posL 16 T j).length (i64s (posL 16 T j)) ∧ Below w.heap.size w wr)
  case atStart => exact ⟨0, by omega, rfl, World.ownsRow_nil _ _ _ _, Below.refl _ _⟩
  case round =>
    obtain ⟨j, hjk, rfl, hown, hb⟩ := hrel
    have h2 := H.out.below hb H.out.lt.1 H.out.lt.2
    have L := h2.2.2.1.cell
    have hlt0 := h2.lt.1
    rw [Hg.out] at L
    have Hjk := Lib.hid hjk
    have Hb := Lib.hid hb
    have Hown := Lib.hid hown
    have Hsz := hb.size
    have hpl := posL_len 16 T j
    rcases Nat.lt_or_ge j (16 * n) with h1 | h1
    · have i1 : ((j * 16 : Nat) : Int) < (n : Int) * 256 := by omega
      have g := tm_tag b bP D T P ((j * 16 : Nat) : Int) wr h2 ⟨by omega, by omega⟩
      have g0 := tm_size b bP D T P wr h2
      rw [Hg.out] at g0
      have e1 : plB P.length ((j * 16 : Nat) : Int) = true := by simp only [plB, decide_eq_true_eq, Hg.out]; omega
      have e2 : tagL T ((j * 16 : Nat) : Int) = T.getD j false := by unfold tagL; congr 1; omega
      rw [e1, Bool.true_and, e2] at g
      have i2 : (j : Int) * 16 ≤ 16777216 := by omega
      have H1 := Lib.hid h1
      have hl2 : (posL 16 T j).length ≤ 1048576 := by omega
      clear hjk hb hown h2 e1 e2 h1 hpl
      have hs := posL_succ 16 T j
      cases hv : T.getD j false with
      | false =>
        rw [hv] at g hs
        have HS := Lib.hid hs
        clear hv hs
        generalize hx : ((j * 16 : Nat) : Int) = x at *
        have HX := Lib.hid hx
        clear hx
        have i3 : x ≤ 16777216 := by have := HX.out; omega
        have i4 : 0 ≤ x := by have := HX.out; omega
        go_wp2_with fail
        refine g0.mono ?_
        rintro e w1 ⟨rfl, rfl⟩
        clear g0
        go_wp2_with fail
        refine g.mono ?_
        rintro e w1 ⟨rfl, rfl⟩
        clear g
        go_wp2
        go_roundg (gk - 1)
        case measure => have := Hjk.out; have := H1.out; omega
        case rel => exact ⟨j + 1, by have := Hjk.out; have := H1.out; omega, by have := HX.out; congr 1; omega, by rw [HS.out, if_neg (by decide), List.append_nil]; exact Hown.out, Hb.out⟩
      | true =>
        rw [hv] at g hs
        have HS := Lib.hid hs
        clear hv hs
        generalize hx : ((j * 16 : Nat) : Int) = x at *
        have HX := Lib.hid hx
        clear hx
        have i3 : x ≤ 16777216 := by have := HX.out; omega
        have i4 : 0 ≤ x := by have := HX.out; omega
        go_wp2_with fail
        refine g0.mono ?_
        rintro e w1 ⟨rfl, rfl⟩
        clear g0
        go_wp2_with fail
        refine g.mono ?_
        rintro e w1 ⟨rfl, rfl⟩
        clear g
        go_wp2_with (first
          | (at_builtin; refine app (w0 := w) (W := wr.alloc _) w.heap.size rfl _ _ 68 3 (.int .i64 0) 1 8 rfl Try.underlying68 infoInt rfl (by decide) (by decide) _ _ _ (i64s [x]) (some ⟨wr.heap.size, 0, none⟩) 1 1 rfl rfl rfl (by intro u hu; simp [i64s] at hu; subst hu; rfl) (Hown.out.alloc _) (RdL.new wr _ _) (Hb.out.alloc Hsz _) (by first | omega | (simp only [World.size_alloc, World.size_drew, World.size_setCell]; omega) | (simp; done) | (simp; omega)) (by omega) ?_; intro v1 w3 hown1 hb2 _))
        go_roundg (gk - 1)
        case measure => have := Hjk.out; have := H1.out; omega
        case rel => exact ⟨j + 1, by have := Hjk.out; have := H1.out; omega, by have := HX.out; congr 1; omega, by rw [HS.out, if_pos trivial, List.length_append, i64s_append]; exact hown1, hb2⟩
    · have i1 : ¬ ((j * 16 : Nat) : Int) < (n : Int) * 256 := by omega
      have e1 : posL 16 T j = RL := by rw [Hrl.out, HT.out]; congr 1; omega
      rw [e1] at hown
      have Hown := Lib.hid hown
      have i2 : ((j * 16 : Nat) : Int) ≤ 16777216 := by omega
      clear hjk hb hown h2 h1 hpl
      go_wp2
      go_ret
      exact ⟨_, rfl, Hown.out, Hb.out⟩

set_option maxRecDepth 100000 in
set_option maxHeartbeats 800000 in
theorem tm_dirty (b bP : Nat) (D : List Int) (T P : List Bool) (w : World) (h : TmM w b bP D T P) :
    Calls Try.prog 64 #[.pointer (some ⟨b, 0, none⟩)] w fun e w' => ∃ v, e = .returned v ∧ w'.ownsRow w.heap.size 3 1 v (dirtyL P).length (i64s (dirtyL P)) ∧ Below w.heap.size w w' := by
  have H := Lib.hid h
  have L0 := h.2.2.1.cell
  have hlt := h.lt.1
  have hle := h.1.2.2.1
  have hrl : dirtyL P = posL 1 P P.length := rfl
  generalize dirtyL P = RL at *
  generalize hg : P.length = n at *
  have Hg := Lib.hid hg
  have Hrl := Lib.hid hrl
  clear h hg hrl
  go_enter Try.func64, Try.ntmps64
  go_wp2
  clear L0
  go_loopg [3, 4, 10] n (fun k v u i wr => ∃ j : Nat, j + k = n ∧ i = .int .i64 j ∧ wr.ownsRow w.heap.size 3 1 v (posL 1 P j).length (i64s (posL 1 P j)) ∧ Below w.heap.size w wr)
  case atStart => exact ⟨0, by omega, rfl, World.ownsRow_nil _ _ _ _, Below.refl _ _⟩
  case round =>
    obtain ⟨j, hjk, rfl, hown, hb⟩ := hrel
    have h2 := H.out.below hb H.out.lt.1 H.out.lt.2
    have L := h2.2.2.1.cell
    have hlt0 := h2.lt.1
    have hlt1 := h2.lt.2
    rw [Hg.out] at L
    have Hjk := Lib.hid hjk
    have Hb := Lib.hid hb
    have Hown := Lib.hid hown
    have Hsz := hb.size
    have hpl := posL_len 1 P j
    rcases Nat.lt_or_ge j n with h1 | h1
    · have i1 : (j : Int) < (n : Int) := by omega
      obtain ⟨c1, _⟩ := h2.dirty (i := j) (by rw [Hg.out]; exact h1)
      have H1 := Lib.hid h1
      have hl2 : (posL 1 P j).length ≤ 65536 := by omega
      clear hjk hb hown h2 h1 hpl
      have hs := posL_succ 1 P j
      cases hv : P.getD j false with
      | false =>
        rw [hv] at c1 hs
        have HS := Lib.hid hs
        clear hv hs
        go_wp2
        go_roundg (gk - 1)
        case measure => have := Hjk.out; have := H1.out; omega
        case rel => exact ⟨j + 1, by have := Hjk.out; have := H1.out; omega, by go_num, by rw [HS.out, if_neg (by decide), List.append_nil]; exact Hown.out, Hb.out⟩
      | true =>
        rw [hv, Nat.mul_one] at hs
        rw [hv] at c1
        have HS := Lib.hid hs
        clear hv hs
        go_wp2_with (first
          | (at_builtin; refine app (w0 := w) (W := wr.alloc _) w.heap.size rfl _ _ 68 3 (.int .i64 0) 1 8 rfl Try.underlying68 infoInt rfl (by decide) (by decide) _ _ _ (i64s [(j : Int)]) (some ⟨wr.heap.size, 0, none⟩) 1 1 rfl rfl rfl (by intro u hu; simp [i64s] at hu; subst hu; rfl) (Hown.out.alloc _) (RdL.new wr _ _) (Hb.out.alloc Hsz _) (by first | omega | (simp only [World.size_alloc, World.size_drew, World.size_setCell]; omega) | (simp; done) | (simp; omega)) (by omega) ?_; intro v1 w3 hown1 hb2 _))
        go_roundg (gk - 1)
        case measure => have := Hjk.out; have := H1.out; omega
        case rel => exact ⟨j + 1, by have := Hjk.out; have := H1.out; omega, by go_num, by rw [HS.out, if_pos trivial, List.length_append, i64s_append]; exact hown1, hb2⟩
    · have i1 : ¬ (j : Int) < (n : Int) := by omega
      have e1 : posL 1 P j = RL := by rw [Hrl.out]; congr 1; omega
      rw [e1] at hown
      have Hown := Lib.hid hown
      clear hjk hb hown h2 h1 hpl
      go_wp2
      go_ret
      exact ⟨_, rfl, Hown.out, Hb.out⟩
end Go.Proofs.Ytjimkkkiilcpoaa

/- Memory with tags, the document's: New, Tag, Strip, Clean, Tags, Dirty. -/
namespace Go.Proofs.Ytjimkkkiilcpoaa
open Go.RowKit

theorem infoU8' : (Try.prog.info? 5).map (fun i => (i.zero, i.size, i.bytes)) = some (some (.int .u8 0), 1, 1) := by kernel_rfl
theorem u8s_new (n : Nat) : (u8s (List.replicate n 0)).toArray = madeCells #[.int .u8 0] n := by
  apply Array.ext'
  rw [toList_madeCells_one, u8s]
  simp

set_option maxRecDepth 100000 in
set_option maxHeartbeats 1600000 in
theorem tr_new (n : Nat) (w : World) (h1 : (1 : Int) ≤ n) (h2 : (n : Int) ≤ 65536) :
    Calls Try.prog 48 #[.int .i64 n] w fun e w' => ∃ b bB bT bP, e = .returned (.pointer (some ⟨b, 0, none⟩)) ∧ TrM w' b bB bT bP (List.replicate (256 * n) 0) (List.replicate (16 * n) false) (List.replicate n false) ∧
      w.heap.size ≤ b ∧ w.heap.size ≤ bB ∧ w.heap.size ≤ bT ∧ w.heap.size ≤ bP ∧ Below w.heap.size w w' := by
  have m1 : ∀ W : World, (Instr.makeSlice 24 (.int .i64 ((n : Int) * 256)) (.int .i64 ((n : Int) * 256))).run Try.prog W = .ok (.slice (some ⟨W.heap.size, 0, none⟩) (n * 256) (n * 256)) (W.alloc (.cells (u8s (List.replicate (n * 256) 0)).toArray 5)) := fun W => by
    have := run_make_row' (P := Try.prog) 24 5 (.int .u8 0) 1 Try.underlying24 infoU8' rfl .i64 .i64 (n * 256) (by omega) (by omega) W
    rw [← u8s_new] at this
    rw [Int.natCast_mul] at this
    exact this
  have m2 : ∀ W : World, (Instr.makeSlice 102 (.int .i64 ((n : Int) * 16)) (.int .i64 ((n : Int) * 16))).run Try.prog W = .ok (.slice (some ⟨W.heap.size, 0, none⟩) (n * 16) (n * 16)) (W.alloc (.cells (bools (List.replicate (n * 16) false)) 4)) := fun W => by
    have := run_make_row' (P := Try.prog) 102 4 (.bool false) 1 Try.underlying102 infoBool rfl .i64 .i64 (n * 16) (by omega) (by omega) W
    rw [← bools_new] at this
    rw [Int.natCast_mul] at this
    exact this
  have m3 : ∀ W : World, (Instr.makeSlice 102 (.int .i64 (n : Int)) (.int .i64 (n : Int))).run Try.prog W = .ok (.slice (some ⟨W.heap.size, 0, none⟩) n n) (W.alloc (.cells (bools (List.replicate n false)) 4)) := fun W => by
    have := run_make_row' (P := Try.prog) 102 4 (.bool false) 1 Try.underlying102 infoBool rfl .i64 .i64 n (by omega) (by omega) W
    rw [← bools_new] at this
    exact this
  have hw1 : IntKind.i64.wrap ((n : Int) * 256) = (n : Int) * 256 := IntWalk.i64_in _ (by omega)
  have hw2 : IntKind.i64.wrap ((n : Int) * 16) = (n : Int) * 16 := IntWalk.i64_in _ (by omega)
  have hw3 : IntKind.i64.wrap (256 * (n : Int)) = (n : Int) * 256 := by rw [Int.mul_comm]; exact hw1
  have hw4 : IntKind.i64.wrap (16 * (n : Int)) = (n : Int) * 16 := by rw [Int.mul_comm]; exact hw2
  generalize hX1 : (u8s (List.replicate (n * 256) 0)).toArray = X1 at *
  generalize hX2 : bools (List.replicate (n * 16) false) = X2 at *
  generalize hX3 : bools (List.replicate n false) = X3 at *
  have Y1 := Lib.hid hX1
  have Y2 := Lib.hid hX2
  have Y3 := Lib.hid hX3
  clear hX1 hX2 hX3
  go_enter Try.func48, Try.ntmps48
  go_wp2_with fail
  refine wp_flow_lit 8 (fun _ => True)
    [none, none, some (fun v w' => ∃ q, v = .slice (some ⟨q, 0, none⟩) (n * 256) (n * 256) ∧ w.heap.size ≤ q ∧ Blk w' q X1 5), none, none, some (fun v w' => ∃ q, v = .slice (some ⟨q, 0, none⟩) (n * 16) (n * 16) ∧ w.heap.size ≤ q ∧ Blk w' q X2 4), none, some (fun v w' => ∃ q, v = .slice (some ⟨q, 0, none⟩) n n ∧ w.heap.size ≤ q ∧ Blk w' q X3 4)]
    (by kernel_rfl) (by kernel_rfl) trivial (fun _ _ _ _ => trivial)
    ⟨fun v w1 w2 ⟨q, e1, e2, e3⟩ hb => ⟨q, e1, e2, e3.below hb e3.lt⟩, fun v w1 w2 ⟨q, e1, e2, e3⟩ hb => ⟨q, e1, e2, e3.below hb e3.lt⟩, fun v w1 w2 ⟨q, e1, e2, e3⟩ hb => ⟨q, e1, e2, e3.below hb e3.lt⟩, trivial⟩ ?_
  try simp (config := { maxSteps := 10000000 }) only [specV, addF, Act.put, List.setIfInBounds_toArray, List.set_cons_zero, List.set_cons_succ, List.take_succ_cons, List.take_zero, List.drop_succ_cons, List.drop_zero]
  (apply Exists.intro; refine ⟨fun vs w1 hS hB hf => ?_, ?_⟩; (focus (clear hS hB hf; go_simp; first | exact ⟨Below.refl _ _, rfl⟩ | exact rfl)); try simp (config := { maxSteps := 10000000 }) only [specV, addF, Act.put, List.setIfInBounds_toArray, List.set_cons_zero, List.set_cons_succ, List.take_succ_cons, List.take_zero, List.drop_succ_cons, List.drop_zero])
  (apply Exists.intro; refine ⟨fun vs w1 hS hB hf => ?_, ?_⟩; (focus (clear hS hB hf; go_simp; first | exact ⟨Below.refl _ _, rfl⟩ | exact rfl)); try simp (config := { maxSteps := 10000000 }) only [specV, addF, Act.put, List.setIfInBounds_toArray, List.set_cons_zero, List.set_cons_succ, List.take_succ_cons, List.take_zero, List.drop_succ_cons, List.drop_zero])
  (refine ⟨fun vs w1 hS hB hf => ?_, ?_⟩; (focus (have hs1 := hB.size; clear hS hB hf; go_simp; exact ⟨(Below.refl _ _).alloc (Nat.le_refl _) _, w1.heap.size, rfl, hs1, Blk.new _ _ _⟩)); try simp (config := { maxSteps := 10000000 }) only [specV, addF, Act.put, List.setIfInBounds_toArray, List.set_cons_zero, List.set_cons_succ, List.take_succ_cons, List.take_zero, List.drop_succ_cons, List.drop_zero])
  (apply Exists.intro; refine ⟨fun vs w1 hS hB hf => ?_, ?_⟩; (focus (clear hS hB hf; go_simp; first | exact ⟨Below.refl _ _, rfl⟩ | exact rfl)); try simp (config := { maxSteps := 10000000 }) only [specV, addF, Act.put, List.setIfInBounds_toArray, List.set_cons_zero, List.set_cons_succ, List.take_succ_cons, List.take_zero, List.drop_succ_cons, List.drop_zero])
  (apply Exists.intro; refine ⟨fun vs w1 hS hB hf => ?_, ?_⟩; (focus (clear hS hB hf; go_simp; first | exact ⟨Below.refl _ _, rfl⟩ | exact rfl)); try simp (config := { maxSteps := 10000000 }) only [specV, addF, Act.put, List.setIfInBounds_toArray, List.set_cons_zero, List.set_cons_succ, List.take_succ_cons, List.take_zero, List.drop_succ_cons, List.drop_zero])
  (refine ⟨fun vs w1 hS hB hf => ?_, ?_⟩; (focus (have hs1 := hB.size; clear hS hB hf; go_simp; exact ⟨(Below.refl _ _).alloc (Nat.le_refl _) _, w1.heap.size, rfl, hs1, Blk.new _ _ _⟩)); try simp (config := { maxSteps := 10000000 }) only [specV, addF, Act.put, List.setIfInBounds_toArray, List.set_cons_zero, List.set_cons_succ, List.take_succ_cons, List.take_zero, List.drop_succ_cons, List.drop_zero])
  (apply Exists.intro; refine ⟨fun vs w1 hS hB hf => ?_, ?_⟩; (focus (clear hS hB hf; go_simp; first | exact ⟨Below.refl _ _, rfl⟩ | exact rfl)); try simp (config := { maxSteps := 10000000 }) only [specV, addF, Act.put, List.setIfInBounds_toArray, List.set_cons_zero, List.set_cons_succ, List.take_succ_cons, List.take_zero, List.drop_succ_cons, List.drop_zero])
  (refine ⟨fun vs w1 hS hB hf => ?_, ?_⟩; (focus (have hs1 := hB.size; clear hS hB hf; go_simp; exact ⟨(Below.refl _ _).alloc (Nat.le_refl _) _, w1.heap.size, rfl, hs1, Blk.new _ _ _⟩)); try simp (config := { maxSteps := 10000000 }) only [specV, addF, Act.put, List.setIfInBounds_toArray, List.set_cons_zero, List.set_cons_succ, List.take_succ_cons, List.take_zero, List.drop_succ_cons, List.drop_zero])
  intro vs w5 hS hB hF
  obtain ⟨⟨bP, e3, l3, k3⟩, ⟨bT, e2, l2, k2⟩, ⟨bB, e1, l1, k1⟩, _⟩ := hF
  dsimp only
  rw [e1, e2, e3]
  have HB := Lib.hid hB
  have K1 := Lib.hid k1
  have K2 := Lib.hid k2
  have K3 := Lib.hid k3
  clear e1 e2 e3 hS hB k1 k2 k3
  go_wp2
  go_ret
  have hs : w.heap.size ≤ w5.heap.size := HB.out.size
  have n1 : bB ≠ bT := fun e => by have h1 := K1.out; have h2 := K2.out; subst e; unfold Blk at h1 h2; rw [h1] at h2; simp at h2
  have n2 : bB ≠ bP := fun e => by have h1 := K1.out; have h2 := K3.out; subst e; unfold Blk at h1 h2; rw [h1] at h2; simp at h2
  have n3 : bT ≠ bP := fun e => by
    have h1 := K2.out; have h2 := K3.out; subst e; unfold Blk at h1 h2; rw [h1] at h2; simp at h2
    rw [← Y2.out, ← Y3.out] at h2
    have := congrArg Array.size h2
    simp [bools] at this
    omega
  have lB := K1.out.lt
  have lT := K2.out.lt
  have lP := K3.out.lt
  refine ⟨w5.heap.size, bB, bT, bP, rfl, ⟨⟨by simp, by simp, by rw [List.length_replicate]; omega, fun x hx => by rw [List.eq_of_mem_replicate hx]; decide⟩, ⟨by omega, by omega, by omega, n1, n2, n3⟩, ?_, ?_, ?_, ?_⟩, by omega, l1, l2, l3, ?_⟩
  · rw [List.length_replicate, List.length_replicate, List.length_replicate, Nat.mul_comm 256 n, Nat.mul_comm 16 n]
    exact Blk.new _ _ _
  · rw [Nat.mul_comm 256 n, Y1.out]; exact K1.out.alloc _
  · rw [Nat.mul_comm 16 n, Y2.out]; exact K2.out.alloc _
  · rw [Y3.out]; exact K3.out.alloc _
  · exact HB.out.alloc hs _
end Go.Proofs.Ytjimkkkiilcpoaa

/- Memory with tags, the document's: Tag, Strip, Clean, Tags, Dirty; numbers alike. -/
namespace Go.Proofs.Ytjimkkkiilcpoaa
open Go.RowKit

theorem TrM.tag {w : World} {b bB bT bP : Nat} {D : List Int} {T P : List Bool} (h : TrM w b bB bT bP D T P) {k : Nat} (hk : k < T.length) :
    w.cell? ⟨bT, k, none⟩ = some (.bool (T.getD k false)) ∧ w.frozen? ⟨bT, k, none⟩ = false :=
  ⟨by rw [h.2.2.2.2.1.cell, bools_at T k hk], h.2.2.2.2.1.frozen _⟩
theorem TrM.dirty {w : World} {b bB bT bP : Nat} {D : List Int} {T P : List Bool} (h : TrM w b bB bT bP D T P) {k : Nat} (hk : k < P.length) :
    w.cell? ⟨bP, k, none⟩ = some (.bool (P.getD k false)) ∧ w.frozen? ⟨bP, k, none⟩ = false :=
  ⟨by rw [h.2.2.2.2.2.cell, bools_at P k hk], h.2.2.2.2.2.frozen _⟩
theorem TrM.setTag {w : World} {b bB bT bP : Nat} {D : List Int} {T P : List Bool} (h : TrM w b bB bT bP D T P) (k : Nat) (v : Bool) :
    TrM (w.setCell ⟨bT, k, none⟩ (.bool v)) b bB bT bP D (T.set k v) P := by
  obtain ⟨⟨h1, h2, h3, h4⟩, ⟨n1, n2, n3, n4, n5, n6⟩, hb, hB, hT, hP⟩ := h
  refine ⟨⟨h1, by rw [List.length_set]; exact h2, h3, h4⟩, ⟨n1, n2, n3, n4, n5, n6⟩, ?_, hB.set_other n4 _ _, ?_, hP.set_other (Ne.symm n6) _ _⟩
  · rw [List.length_set]; exact hb.set_other n2 _ _
  · rw [bools_set]; exact hT.set _ _
theorem TrM.setDirty {w : World} {b bB bT bP : Nat} {D : List Int} {T P : List Bool} (h : TrM w b bB bT bP D T P) (k : Nat) (v : Bool) :
    TrM (w.setCell ⟨bP, k, none⟩ (.bool v)) b bB bT bP D T (P.set k v) := by
  obtain ⟨⟨h1, h2, h3, h4⟩, ⟨n1, n2, n3, n4, n5, n6⟩, hb, hB, hT, hP⟩ := h
  refine ⟨⟨by rw [List.length_set]; exact h1, by rw [List.length_set]; exact h2, by rw [List.length_set]; exact h3, h4⟩, ⟨n1, n2, n3, n4, n5, n6⟩, ?_, hB.set_other n5 _ _, hT.set_other n6 _ _, ?_⟩
  · rw [List.length_set]; exact hb.set_other n3 _ _
  · rw [bools_set]; exact hP.set _ _
theorem u8s_set (D : List Int) (i : Nat) (x : Int) : (u8s (D.set i x)).toArray = (u8s D).toArray.setIfInBounds i (.int .u8 x) := by
  simp [u8s, List.map_set]
theorem TrM.setByte {w : World} {b bB bT bP : Nat} {D : List Int} {T P : List Bool} (h : TrM w b bB bT bP D T P) (k : Nat) (x : Int) (hx : 0 ≤ x ∧ x ≤ 255) :
    TrM (w.setCell ⟨bB, k, none⟩ (.int .u8 x)) b bB bT bP (D.set k x) T P := by
  obtain ⟨⟨h1, h2, h3, h4⟩, ⟨n1, n2, n3, n4, n5, n6⟩, hb, hB, hT, hP⟩ := h
  refine ⟨⟨by rw [List.length_set]; exact h1, h2, h3, fun y hy => ?_⟩, ⟨n1, n2, n3, n4, n5, n6⟩, ?_, ?_, hT.set_other (Ne.symm n4) _ _, hP.set_other (Ne.symm n5) _ _⟩
  · rcases List.mem_or_eq_of_mem_set hy with h | rfl
    · exact h4 y h
    · exact hx
  · rw [List.length_set]; exact hb.set_other n1 _ _
  · rw [u8s_set]; exact hB.set _ _

set_option maxRecDepth 100000 in
set_option maxHeartbeats 800000 in
theorem tr_place (b bB bT bP : Nat) (D : List Int) (T P : List Bool) (a : Int) (w : World) (h : TrM w b bB bT bP D T P) (ha : inI a) :
    Calls Try.prog 100 #[.pointer (some ⟨b, 0, none⟩), .int .i64 a] w fun e w' => e = .returned (.bool (plB P.length a)) ∧ w = w' := by
  obtain ⟨⟨hl, _, hle, _⟩, _, hB, _⟩ := h
  have L := hB.cell
  have hlt := hB.lt
  clear hB
  rw [hl] at L
  generalize P.length = n at *
  obtain ⟨a0, a1⟩ := ha
  by_cases h0 : 0 ≤ a
  · obtain ⟨m, rfl⟩ := Int.eq_ofNat_of_zero_le h0
    by_cases h1 : (m : Int) < 256 * n
    · have h2 : (m : Int) < n * 256 := by omega
      have e : plB n m = ((m : Int) % 16 == 0) := by
        rw [plB, Bool.eq_iff_iff, decide_eq_true_eq, beq_iff_eq]
        omega
      rw [e]
      clear e hl
      go_enter Try.func100, Try.ntmps100
      go_wp2
      go_ret
      exact ⟨rfl, rfl⟩
    · have h2 : ¬ (m : Int) < n * 256 := by omega
      have e : plB n m = false := by rw [plB, decide_eq_false_iff_not]; omega
      rw [e]
      clear e hl
      go_enter Try.func100, Try.ntmps100
      go_wp2
      go_ret
      exact ⟨rfl, rfl⟩
  · have e : plB n a = false := by rw [plB, decide_eq_false_iff_not]; omega
    rw [e]
    clear e hl
    go_enter Try.func100, Try.ntmps100
    go_wp2
    go_ret
    exact ⟨rfl, rfl⟩

set_option maxRecDepth 100000 in
set_option maxHeartbeats 800000 in
theorem tr_tag (b bB bT bP : Nat) (D : List Int) (T P : List Bool) (a : Int) (w : World) (h : TrM w b bB bT bP D T P) (ha : inI a) :
    Calls Try.prog 67 #[.pointer (some ⟨b, 0, none⟩), .int .i64 a] w fun e w' => e = .returned (.bool (plB P.length a && tagL T a)) ∧ w = w' := by
  have g := tr_place b bB bT bP D T P a w h ha
  cases hp : plB P.length a with
  | false =>
    rw [hp] at g
    clear h hp ha
    go_enter Try.func67, Try.ntmps67
    go_wp2_with fail
    refine g.mono ?_
    rintro e w1 ⟨rfl, rfl⟩
    clear g
    go_wp2
    go_ret
    exact ⟨rfl, rfl⟩
  | true =>
    rw [hp] at g
    obtain ⟨i, k, hi, hk, rfl⟩ := pl_split hp
    have hlT := h.1.2.1
    have hix : i * 16 + k < T.length := by omega
    have L := h.2.2.1.cell
    have hlt := h.lt.1
    have hlt2 := h.lt.2.2.1
    obtain ⟨c1, c2⟩ := h.tag hix
    rw [tag_at, Bool.true_and]
    have e1 : (((i * 256 + k * 16 : Nat) : Int)) / 16 = ((i * 16 + k : Nat) : Int) := by omega
    have h5 : (((i * 16 + k : Nat) : Int)) < T.length := by omega
    have h6 : ((i * 16 + k : Nat) : Int) ≤ 1048576 := by have := h.1.2.2.1; omega
    generalize T.getD (i * 16 + k) false = t at *
    generalize i * 16 + k = y at *
    generalize hz : ((i * 256 + k * 16 : Nat) : Int) = z at *
    generalize T.length = m at *
    clear h hp ha hz hlT hix
    go_enter Try.func67, Try.ntmps67
    go_wp2_with fail
    refine g.mono ?_
    rintro e w1 ⟨rfl, rfl⟩
    clear g
    go_wp2
    go_ret
    exact ⟨rfl, rfl⟩

set_option maxRecDepth 100000 in
set_option maxHeartbeats 800000 in
theorem tr_strip (b bB bT bP : Nat) (D : List Int) (T P : List Bool) (a : Int) (w : World) (h : TrM w b bB bT bP D T P) (ha : inI a) :
    Calls Try.prog 52 #[.pointer (some ⟨b, 0, none⟩), .int .i64 a] w fun e w' => e = .returned (.bool (plB P.length a && tagL T a)) ∧ TrM w' b bB bT bP D (if plB P.length a then T.set (a / 16).toNat false else T) P ∧ Turns [bB, bT, bP] w w' := by
  have g := tr_tag b bB bT bP D T P a w h ha
  cases hp : plB P.length a with
  | false =>
    rw [hp] at g
    have H := Lib.hid h
    clear h hp ha
    go_enter Try.func52, Try.ntmps52
    go_wp2_with fail
    refine g.mono ?_
    rintro e w1 ⟨rfl, rfl⟩
    clear g
    go_wp2
    go_ret
    exact ⟨rfl, H.out, Turns.refl _ _⟩
  | true =>
    rw [hp] at g
    obtain ⟨i, k, hi, hk, rfl⟩ := pl_split hp
    have hlT := h.1.2.1
    have hix : i * 16 + k < T.length := by omega
    have L := h.2.2.1.cell
    have hlt := h.lt.1
    have hlt2 := h.lt.2.2.1
    obtain ⟨c1, c2⟩ := h.tag hix
    rw [tag_at, Bool.true_and] at *
    rw [tag_ix, if_pos rfl]
    have e1 : (((i * 256 + k * 16 : Nat) : Int)) / 16 = ((i * 16 + k : Nat) : Int) := by omega
    have h5 : (((i * 16 + k : Nat) : Int)) < T.length := by omega
    have h6 : ((i * 16 + k : Nat) : Int) ≤ 1048576 := by have := h.1.2.2.1; omega
    have H := Lib.hid (h.setTag (i * 16 + k) false)
    have H0 : T.getD (i * 16 + k) false = false → Hid (TrM w b bB bT bP D (T.set (i * 16 + k) false) P) := fun e => Lib.hid (by
      have e2 : T.set (i * 16 + k) false = T := by
        apply List.ext_getElem?
        intro x
        rw [List.getElem?_set]
        by_cases hx : i * 16 + k = x
        · subst hx
          rw [if_pos rfl, if_pos hix, List.getElem?_eq_getElem hix]
          rw [List.getD_eq_getElem?_getD, List.getElem?_eq_getElem hix, Option.getD_some] at e
          rw [e]
        · rw [if_neg hx]
      rw [e2]; exact h)
    generalize T.set (i * 16 + k) false = T' at *
    generalize ht : T.getD (i * 16 + k) false = t at *
    generalize i * 16 + k = y at *
    generalize hz : ((i * 256 + k * 16 : Nat) : Int) = z at *
    generalize T.length = m at *
    clear h hp ha hz hlT hix ht
    cases t with
    | false =>
      have H1 := H0 rfl
      clear H0
      go_enter Try.func52, Try.ntmps52
      go_wp2_with fail
      refine g.mono ?_
      rintro e w1 ⟨rfl, rfl⟩
      clear g
      go_wp2
      go_ret
      exact ⟨rfl, H1.out, Turns.refl _ _⟩
    | true =>
      clear H0
      go_enter Try.func52, Try.ntmps52
      go_wp2_with fail
      refine g.mono ?_
      rintro e w1 ⟨rfl, rfl⟩
      clear g
      go_wp2
      go_ret
      exact ⟨rfl, H.out, Turns.set _ (by simp) _ _⟩
end Go.Proofs.Ytjimkkkiilcpoaa

/- Memory with tags, the document's: Clean, Tags, Dirty; numbers alike. -/
namespace Go.Proofs.Ytjimkkkiilcpoaa
open Go.RowKit

set_option maxRecDepth 100000 in
set_option maxHeartbeats 800000 in
theorem tr_clean (b bB bT bP : Nat) (D : List Int) (T P : List Bool) (i : Int) (w : World) (h : TrM w b bB bT bP D T P) (hin : inI i) :
    Calls Try.prog 54 #[.pointer (some ⟨b, 0, none⟩), .int .i64 i] w fun e w' => e = .returned (.bool (cleanB T P i)) ∧ TrM w' b bB bT bP D T (if cleanB T P i then P.set i.toNat false else P) ∧ Turns [bB, bT, bP] w w' := by
  obtain ⟨i0, i1⟩ := hin
  by_cases hp : 0 ≤ i ∧ i < P.length
  · obtain ⟨hp0, hp1⟩ := hp
    obtain ⟨j, rfl⟩ := Int.eq_ofNat_of_zero_le hp0
    have hj : j < P.length := by omega
    have hlen : (pageT T j).length = 16 := by have := h.1.2.1; simp [pageT]; omega
    have L := h.2.2.1.cell
    have hlt := h.lt.1
    have hltT := h.lt.2.2.1
    have hltP := h.lt.2.2.2
    obtain ⟨c1, c2⟩ := h.dirty hj
    have hle := h.1.2.2.1
    have hlT := h.1.2.1
    have HT := Lib.hid (fun q (hq : q < 16) => (h.tag (k := j * 16 + q) (by omega)).1)
    have H := Lib.hid (h.setDirty j false)
    have H0 := Lib.hid h
    have e : cleanB T P j = !(pageT T j).any id := by rw [cleanB, decide_eq_true ⟨hp0, hp1⟩, Bool.true_and, Int.toNat_natCast]
    rw [e, Int.toNat_natCast]
    have hfl : (∀ q, q < 16 → T.getD (j * 16 + q) false = false) → (pageT T j).any id = false := fun hall => by
      have := any_take (pageT T j) 16 fun q hq => by rw [pageT_getD T j q hq]; exact hall q hq
      rwa [List.take_of_length_le (by omega)] at this
    have htr : ∀ q, q < 16 → T.getD (j * 16 + q) false = true → (pageT T j).any id = true := fun q hq hv => by
      rw [List.any_eq_true]
      refine ⟨true, ?_, rfl⟩
      rw [← pageT_getD T j q hq, List.getD_eq_getElem?_getD, List.getElem?_eq_getElem (by omega)] at hv
      simp only [Option.getD_some] at hv
      rw [← hv]
      exact List.getElem_mem _
    have HF := Lib.hid hfl
    have HR := Lib.hid htr
    generalize (pageT T j).any id = z at *
    generalize P.getD j false = dd at *
    rw [hlT] at L
    generalize hn : P.length = n at *
    clear h e hlen i0 i1 hp0 hj hn hfl htr hlT
    have k1 : (16 : Int) * j = (j : Int) * 16 := Int.mul_comm _ _
    go_enter Try.func54, Try.ntmps54
    go_wp2
    go_loopg [5] 16 (fun k v wr => ∃ q : Nat, q + k = 16 ∧ v = .int .i64 ((j * 16 + q : Nat) : Int) ∧ (∀ q', q' < q → T.getD (j * 16 + q') false = false) ∧ w = wr)
    case atStart => exact ⟨0, rfl, by congr 1, fun q hq => by omega, rfl⟩
    case round =>
      obtain ⟨q, hqk, rfl, hall, rfl⟩ := hrel
      have HQ := Lib.hid hqk
      have HA := Lib.hid hall
      clear hqk hall
      rcases Nat.lt_or_ge q 16 with h1 | h1
      · have c := HT.out q h1
        have H1 := Lib.hid h1
        have hx3 : ((j * 16 + q : Nat) : Int) < ((n * 16 : Nat) : Int) := by omega
        have hx1 : ((j * 16 + q : Nat) : Int) < (j : Int) * 16 + 16 := by omega
        rw [Nat.mul_comm n 16] at hx3
        have hx4 : ((j * 16 + q : Nat) : Int) ≤ 1048576 := by omega
        clear h1
        cases hv : T.getD (j * 16 + q) false with
        | true =>
          have ez := HR.out q H1.out hv
          subst ez
          rw [hv] at c
          clear hv
          generalize hy : j * 16 + q = y at *
          clear hy
          go_wp2
          go_ret
          exact ⟨rfl, H0.out, Turns.refl _ _⟩
        | false =>
          rw [hv] at c
          have HV := Lib.hid hv
          clear hv
          generalize hy : j * 16 + q = y at *
          have HY := Lib.hid hy
          clear hy
          go_wp2
          go_roundg (gk - 1)
          case measure => have := HQ.out; have := H1.out; omega
          case rel =>
            refine ⟨q + 1, by have := HQ.out; have := H1.out; omega, by have := HY.out; congr 1; omega, fun q' hq' => ?_, rfl⟩
            rcases Nat.lt_or_ge q' q with h | h
            · exact HA.out q' h
            · rw [show q' = q by omega, HY.out]; exact HV.out
      · have ez := HF.out (fun q' hq' => HA.out q' (by omega))
        subst ez
        have hx1 : ¬ ((j * 16 + q : Nat) : Int) < (j : Int) * 16 + 16 := by omega
        have hx4 : ((j * 16 + q : Nat) : Int) ≤ 1048576 := by have := HQ.out; omega
        generalize hy : j * 16 + q = y at *
        clear hy h1
        go_wp2
        go_ret
        exact ⟨rfl, H.out, Turns.set _ (by simp) _ _⟩
  · have e : cleanB T P i = false := by rw [cleanB, decide_eq_false hp]; rfl
    rw [e]
    have L := h.2.2.1.cell
    have hlt := h.lt.1
    have hle := h.1.2.2.1
    have H0 := Lib.hid h
    generalize hn : P.length = n at *
    clear h e hn
    rcases (show i < 0 ∨ (¬ i < 0 ∧ (n : Int) ≤ i) by omega) with h1 | ⟨h1, h2⟩
    · clear hp
      go_enter Try.func54, Try.ntmps54
      go_wp2
      go_ret
      exact ⟨rfl, H0.out, Turns.refl _ _⟩
    · clear hp
      obtain ⟨j, rfl⟩ := Int.eq_ofNat_of_zero_le (show 0 ≤ i by omega)
      go_enter Try.func54, Try.ntmps54
      go_wp2
      go_ret
      exact ⟨rfl, H0.out, Turns.refl _ _⟩

set_option maxRecDepth 100000 in
set_option maxHeartbeats 800000 in
theorem tr_tags (b bB bT bP : Nat) (D : List Int) (T P : List Bool) (w : World) (h : TrM w b bB bT bP D T P) :
    Calls Try.prog 63 #[.pointer (some ⟨b, 0, none⟩)] w fun e w' => ∃ v, e = .returned v ∧ w'.ownsRow w.heap.size 3 1 v (tagsL T).length (i64s (tagsL T)) ∧ Below w.heap.size w w' := by
  have H := Lib.hid h
  have hle : T.length ≤ 1048576 := by have := h.1.2.2.1; have := h.1.2.1; omega
  have hrl : tagsL T = posL 16 T T.length := rfl
  generalize tagsL T = RL at *
  generalize hg : T.length = n at *
  have Hg := Lib.hid hg
  have Hrl := Lib.hid hrl
  clear h hg hrl
  go_enter Try.func63, Try.ntmps63
  go_wp2
  go_loopg [3, 4] n (fun k v i wr => ∃ j : Nat, j + k = n ∧ i = .int .i64 j ∧ wr.ownsRow w.heap.size 3 1 v (posL 16 T j).length (i64s (posL 16 T j)) ∧ Below w.heap.size w wr)
  case atStart => exact ⟨0, by omega, rfl, World.ownsRow_nil _ _ _ _, Below.refl _ _⟩
  case round =>
    obtain ⟨j, hjk, rfl, hown, hb⟩ := hrel
    have h2 := H.out.below hb H.out.lt.1 H.out.lt.2.1 H.out.lt.2.2.1 H.out.lt.2.2.2
    have L := h2.2.2.1.cell
    have hlt0 := h2.lt.1
    have hlt1 := h2.lt.2.2.1
    have hlt2 := h2.lt.2.2.2
    rw [Hg.out] at L
    have Hjk := Lib.hid hjk
    have Hb := Lib.hid hb
    have Hown := Lib.hid hown
    have Hsz := hb.size
    have hpl := posL_len 16 T j
    rcases Nat.lt_or_ge j n with h1 | h1
    · have i1 : (j : Int) < (n : Int) := by omega
      obtain ⟨c1, _⟩ := h2.tag (k := j) (by rw [Hg.out]; exact h1)
      have H1 := Lib.hid h1
      have hl2 : (posL 16 T j).length ≤ 1048576 := by omega
      clear hjk hb hown h2 h1 hpl
      have hs := posL_succ 16 T j
      cases hv : T.getD j false with
      | false =>
        rw [hv] at c1 hs
        have HS := Lib.hid hs
        clear hv hs
        go_wp2
        go_roundg (gk - 1)
        case measure => have := Hjk.out; have := H1.out; omega
        case rel => exact ⟨j + 1, by have := Hjk.out; have := H1.out; omega, by go_num, by rw [HS.out, if_neg (by decide), List.append_nil]; exact Hown.out, Hb.out⟩
      | true =>
        have e16 : ((j * 16 : Nat) : Int) = 16 * (j : Int) := by omega
        rw [hv, e16] at hs
        clear e16
        rw [hv] at c1
        have HS := Lib.hid hs
        clear hv hs
        have i2 : (j : Int) * 16 ≤ 16777216 := by omega
        go_wp2_with (first
          | (at_builtin; refine app (w0 := w) (W := wr.alloc _) w.heap.size rfl _ _ 68 3 (.int .i64 0) 1 8 rfl Try.underlying68 infoInt rfl (by decide) (by decide) _ _ _ (i64s [16 * (j : Int)]) (some ⟨wr.heap.size, 0, none⟩) 1 1 rfl rfl rfl (by intro u hu; simp [i64s] at hu; subst hu; rfl) (Hown.out.alloc _) (RdL.new wr _ _) (Hb.out.alloc Hsz _) (by first | omega | (simp only [World.size_alloc, World.size_drew, World.size_setCell]; omega) | (simp; done) | (simp; omega)) (by omega) ?_; intro v1 w3 hown1 hb2 _))
        go_roundg (gk - 1)
        case measure => have := Hjk.out; have := H1.out; omega
        case rel => exact ⟨j + 1, by have := Hjk.out; have := H1.out; omega, by go_num, by rw [HS.out, if_pos trivial, List.length_append, i64s_append]; exact hown1, hb2⟩
    · have i1 : ¬ (j : Int) < (n : Int) := by omega
      have e1 : posL 16 T j = RL := by rw [Hrl.out]; congr 1; omega
      rw [e1] at hown
      have Hown := Lib.hid hown
      clear hjk hb hown h2 h1 hpl
      go_wp2
      go_ret
      exact ⟨_, rfl, Hown.out, Hb.out⟩

set_option maxRecDepth 100000 in
set_option maxHeartbeats 800000 in
theorem tr_dirty (b bB bT bP : Nat) (D : List Int) (T P : List Bool) (w : World) (h : TrM w b bB bT bP D T P) :
    Calls Try.prog 65 #[.pointer (some ⟨b, 0, none⟩)] w fun e w' => ∃ v, e = .returned v ∧ w'.ownsRow w.heap.size 3 1 v (dirtyL P).length (i64s (dirtyL P)) ∧ Below w.heap.size w w' := by
  have H := Lib.hid h
  have hle : P.length ≤ 1048576 := by have := h.1.2.2.1; have := h.1.2.1; omega
  have hrl : dirtyL P = posL 1 P P.length := rfl
  generalize dirtyL P = RL at *
  generalize hg : P.length = n at *
  have Hg := Lib.hid hg
  have Hrl := Lib.hid hrl
  clear h hg hrl
  go_enter Try.func65, Try.ntmps65
  go_wp2
  go_loopg [3, 4] n (fun k v i wr => ∃ j : Nat, j + k = n ∧ i = .int .i64 j ∧ wr.ownsRow w.heap.size 3 1 v (posL 1 P j).length (i64s (posL 1 P j)) ∧ Below w.heap.size w wr)
  case atStart => exact ⟨0, by omega, rfl, World.ownsRow_nil _ _ _ _, Below.refl _ _⟩
  case round =>
    obtain ⟨j, hjk, rfl, hown, hb⟩ := hrel
    have h2 := H.out.below hb H.out.lt.1 H.out.lt.2.1 H.out.lt.2.2.1 H.out.lt.2.2.2
    have L := h2.2.2.1.cell
    have hlt0 := h2.lt.1
    have hlt1 := h2.lt.2.2.1
    have hlt2 := h2.lt.2.2.2
    rw [Hg.out] at L
    have Hjk := Lib.hid hjk
    have Hb := Lib.hid hb
    have Hown := Lib.hid hown
    have Hsz := hb.size
    have hpl := posL_len 1 P j
    rcases Nat.lt_or_ge j n with h1 | h1
    · have i1 : (j : Int) < (n : Int) := by omega
      obtain ⟨c1, _⟩ := h2.dirty (k := j) (by rw [Hg.out]; exact h1)
      have H1 := Lib.hid h1
      have hl2 : (posL 1 P j).length ≤ 1048576 := by omega
      clear hjk hb hown h2 h1 hpl
      have hs := posL_succ 1 P j
      cases hv : P.getD j false with
      | false =>
        rw [hv] at c1 hs
        have HS := Lib.hid hs
        clear hv hs
        go_wp2
        go_roundg (gk - 1)
        case measure => have := Hjk.out; have := H1.out; omega
        case rel => exact ⟨j + 1, by have := Hjk.out; have := H1.out; omega, by go_num, by rw [HS.out, if_neg (by decide), List.append_nil]; exact Hown.out, Hb.out⟩
      | true =>
        rw [hv, Nat.mul_one] at hs
        rw [hv] at c1
        have HS := Lib.hid hs
        clear hv hs
        have i2 : (j : Int) * 16 ≤ 16777216 := by omega
        go_wp2_with (first
          | (at_builtin; refine app (w0 := w) (W := wr.alloc _) w.heap.size rfl _ _ 68 3 (.int .i64 0) 1 8 rfl Try.underlying68 infoInt rfl (by decide) (by decide) _ _ _ (i64s [(j : Int)]) (some ⟨wr.heap.size, 0, none⟩) 1 1 rfl rfl rfl (by intro u hu; simp [i64s] at hu; subst hu; rfl) (Hown.out.alloc _) (RdL.new wr _ _) (Hb.out.alloc Hsz _) (by first | omega | (simp only [World.size_alloc, World.size_drew, World.size_setCell]; omega) | (simp; done) | (simp; omega)) (by omega) ?_; intro v1 w3 hown1 hb2 _))
        go_roundg (gk - 1)
        case measure => have := Hjk.out; have := H1.out; omega
        case rel => exact ⟨j + 1, by have := Hjk.out; have := H1.out; omega, by go_num, by rw [HS.out, if_pos trivial, List.length_append, i64s_append]; exact hown1, hb2⟩
    · have i1 : ¬ (j : Int) < (n : Int) := by omega
      have e1 : posL 1 P j = RL := by rw [Hrl.out]; congr 1; omega
      rw [e1] at hown
      have Hown := Lib.hid hown
      clear hjk hb hown h2 h1 hpl
      go_wp2
      go_ret
      exact ⟨_, rfl, Hown.out, Hb.out⟩

end Go.Proofs.Ytjimkkkiilcpoaa
