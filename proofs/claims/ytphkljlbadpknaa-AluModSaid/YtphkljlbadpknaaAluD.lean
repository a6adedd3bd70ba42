/- A number's bytes, and the number of bytes. -/
import Derived.Test.YtphkljlbadpknaaAluC
import Derived.Test.YtphkljlbadpknaaRow
set_option linter.unusedVariables false
set_option linter.unusedSimpArgs false
namespace Go.Proofs.Ytphkljlbadpknaa
open Go.RowKit

def bytes4 (n : Int) : List Int := [n / 16777216 % 256, n / 65536 % 256, n / 256 % 256, n % 256]
/-- The lowest k bytes. -/
def bytesN (n k : Int) : List Int := if 1 ≤ k ∧ k ≤ 4 then (bytes4 n).drop (4 - k).toNat else []
def part (n : Int) (k j : Nat) : List Int := List.replicate (k - j) 0 ++ (bytes4 n).drop (4 - j)
theorem isB_bytes4 (n : Int) : isB (bytes4 n) := by
  intro x hx
  simp only [bytes4, List.mem_cons, List.not_mem_nil, or_false] at hx
  rcases hx with rfl | rfl | rfl | rfl <;> omega
theorem isB_bytesN (n k : Int) : isB (bytesN n k) := by
  unfold bytesN
  split
  · exact fun x hx => isB_bytes4 n x (List.mem_of_mem_drop hx)
  · exact fun x hx => by cases hx

theorem RowU.blk {w : World} {b : Nat} {xs : List Int} {e : TypeId} (h : Blk w b (u8s xs).toArray e) : RowU w (.slice (some ⟨b, 0, none⟩) xs.length xs.length) xs := by
  refine ⟨_, _, rfl, fun j u hu => ⟨_, rfl, ?_⟩, Nat.le_refl _⟩
  rw [add_plain, Nat.zero_add, h.cell j]
  simpa using hu

theorem RowU.blkD {w : World} {b d : Nat} {xs : List Int} {e : TypeId} (h : Blk w b (u8s xs).toArray e) (hd : d ≤ xs.length) : RowU w (.slice (some ⟨b, d, none⟩) (xs.length - d) (xs.length - d)) (xs.drop d) := by
  refine ⟨some ⟨b, d, none⟩, xs.length - d, by rw [List.length_drop], fun j u hu => ⟨_, rfl, ?_⟩, by rw [List.length_drop]; exact Nat.le_refl _⟩
  rw [add_plain, h.cell (d + j)]
  rw [u8s, List.map_drop, List.getElem?_drop] at hu
  simpa [u8s] using hu
theorem bytes4_in {m : Int} (h0 : 0 ≤ m) (h1 : m ≤ 4294967295) : (#[.int .u8 (m / 16777216), .int .u8 (m / 65536 % 256), .int .u8 (m / 256 % 256), .int .u8 (m % 256)] : Array Value) = (u8s (bytes4 m)).toArray := by
  have e : m / 16777216 % 256 = m / 16777216 := by omega
  simp [u8s, bytes4, e]

theorem mk_u8_1 (w : World) : (Instr.makeSlice 22 (.int .i64 1) (.int .i64 1)).run Try.prog w = .ok (.slice (some ⟨w.heap.size, 0, none⟩) 1 1) (w.alloc (.cells #[.int .u8 0] 5)) := by kernel_rfl
theorem mk_u8_2 (w : World) : (Instr.makeSlice 22 (.int .i64 2) (.int .i64 2)).run Try.prog w = .ok (.slice (some ⟨w.heap.size, 0, none⟩) 2 2) (w.alloc (.cells #[.int .u8 0, .int .u8 0] 5)) := by kernel_rfl
theorem mk_u8_3 (w : World) : (Instr.makeSlice 22 (.int .i64 3) (.int .i64 3)).run Try.prog w = .ok (.slice (some ⟨w.heap.size, 0, none⟩) 3 3) (w.alloc (.cells #[.int .u8 0, .int .u8 0, .int .u8 0] 5)) := by kernel_rfl
theorem mk_u8_4 (w : World) : (Instr.makeSlice 22 (.int .i64 4) (.int .i64 4)).run Try.prog w = .ok (.slice (some ⟨w.heap.size, 0, none⟩) 4 4) (w.alloc (.cells #[.int .u8 0, .int .u8 0, .int .u8 0, .int .u8 0] 5)) := by kernel_rfl

set_option maxRecDepth 100000 in
theorem bytes_none (n k : Int) (w : World) (hk : ¬ (1 ≤ k ∧ k ≤ 4)) : Calls Try.prog 14 #[.int .i64 n, .int .i64 k] w fun e w' => e = .returned (.slice none 0 0) ∧ w = w' := by
  by_cases h : k < 1
  · clear hk
    go_enter Try.func14, Try.ntmps14
    go_wp2
    go_ret
    exact ⟨rfl, rfl⟩
  · have h4 : 4 < k := by omega
    clear hk
    go_enter Try.func14, Try.ntmps14
    go_wp2
    go_ret
    exact ⟨rfl, rfl⟩
set_option maxRecDepth 100000 in
theorem ref_bytes_none (n k : Int) (w : World) (hk : ¬ (1 ≤ k ∧ k ≤ 4)) : Calls Try.prog 15 #[.int .i64 n, .int .i64 k] w fun e w' => e = .returned (.slice none 0 0) ∧ w = w' := by
  by_cases h : k < 1
  · clear hk
    go_enter Try.func15, Try.ntmps15
    go_wp2
    go_ret
    exact ⟨rfl, rfl⟩
  · have h4 : 4 < k := by omega
    clear hk
    go_enter Try.func15, Try.ntmps15
    go_wp2
    go_ret
    exact ⟨rfl, rfl⟩

set_option maxRecDepth 100000 in
set_option maxHeartbeats 1600000 in
theorem bytes_1 (n : Int) (w : World) : Calls Try.prog 14 #[.int .i64 n, .int .i64 1] w fun e w' => e = .returned (.slice (some ⟨w.heap.size, 0, none⟩) 1 1) ∧ Blk w' w.heap.size (u8s (part n 1 1)).toArray 5 ∧ Below w.heap.size w w' := by
  have hm := mk_u8_1
  go_enter Try.func14, Try.ntmps14
  go_wp2
  go_loopg [6, 16] 1 (fun k v i wr => ∃ j : Nat, j + k = 1 ∧ i = .int .i64 j ∧ Blk wr w.heap.size (u8s (part n 1 j)).toArray 5 ∧ Below w.heap.size w wr)
  case atStart => exact ⟨0, rfl, rfl, Blk.new _ _ _, by go_grown⟩
  case round =>
    clear hm
    obtain ⟨j, hj, rfl, hB, hb⟩ := hrel
    have F := hB.frozen
    have HB := Lib.hid hB
    have Hb := Lib.hid hb
    have Hj := Lib.hid hj
    have hj4 : j = 0 ∨ j = 1 := by omega
    clear hj hB hb
    rcases hj4 with rfl | rfl
    · have c : wr.cell? ⟨w.heap.size, 0, none⟩ = some (.int .u8 0) := HB.out.cell 0
      go_wp2
      go_roundg (gk - 1)
      case measure => have := Hj.out; omega
      case rel => exact ⟨1, by have := Hj.out; omega, by go_num, HB.out.set 0 _, Hb.out.setCell (Nat.le_refl _) _⟩
    · go_wp2
      go_ret
      exact ⟨rfl, HB.out, Hb.out⟩

set_option maxRecDepth 100000 in
set_option maxHeartbeats 1600000 in
theorem bytes_2 (n : Int) (w : World) : Calls Try.prog 14 #[.int .i64 n, .int .i64 2] w fun e w' => e = .returned (.slice (some ⟨w.heap.size, 0, none⟩) 2 2) ∧ Blk w' w.heap.size (u8s (part n 2 2)).toArray 5 ∧ Below w.heap.size w w' := by
  have hm := mk_u8_2
  go_enter Try.func14, Try.ntmps14
  go_wp2
  go_loopg [6, 16] 2 (fun k v i wr => ∃ j : Nat, j + k = 2 ∧ i = .int .i64 j ∧ Blk wr w.heap.size (u8s (part n 2 j)).toArray 5 ∧ Below w.heap.size w wr)
  case atStart => exact ⟨0, rfl, rfl, Blk.new _ _ _, by go_grown⟩
  case round =>
    clear hm
    obtain ⟨j, hj, rfl, hB, hb⟩ := hrel
    have F := hB.frozen
    have HB := Lib.hid hB
    have Hb := Lib.hid hb
    have Hj := Lib.hid hj
    have hj4 : j = 0 ∨ j = 1 ∨ j = 2 := by omega
    clear hj hB hb
    rcases hj4 with rfl | rfl | rfl
    · have c : wr.cell? ⟨w.heap.size, 1, none⟩ = some (.int .u8 0) := HB.out.cell 1
      go_wp2
      go_roundg (gk - 1)
      case measure => have := Hj.out; omega
      case rel => exact ⟨1, by have := Hj.out; omega, by go_num, HB.out.set 1 _, Hb.out.setCell (Nat.le_refl _) _⟩
    · have c : wr.cell? ⟨w.heap.size, 0, none⟩ = some (.int .u8 0) := HB.out.cell 0
      go_wp2
      go_roundg (gk - 1)
      case measure => have := Hj.out; omega
      case rel => exact ⟨2, by have := Hj.out; omega, by go_num, HB.out.set 0 _, Hb.out.setCell (Nat.le_refl _) _⟩
    · go_wp2
      go_ret
      exact ⟨rfl, HB.out, Hb.out⟩

set_option maxRecDepth 100000 in
set_option maxHeartbeats 1600000 in
theorem bytes_3 (n : Int) (w : World) : Calls Try.prog 14 #[.int .i64 n, .int .i64 3] w fun e w' => e = .returned (.slice (some ⟨w.heap.size, 0, none⟩) 3 3) ∧ Blk w' w.heap.size (u8s (part n 3 3)).toArray 5 ∧ Below w.heap.size w w' := by
  have hm := mk_u8_3
  go_enter Try.func14, Try.ntmps14
  go_wp2
  go_loopg [6, 16] 3 (fun k v i wr => ∃ j : Nat, j + k = 3 ∧ i = .int .i64 j ∧ Blk wr w.heap.size (u8s (part n 3 j)).toArray 5 ∧ Below w.heap.size w wr)
  case atStart => exact ⟨0, rfl, rfl, Blk.new _ _ _, by go_grown⟩
  case round =>
    clear hm
    obtain ⟨j, hj, rfl, hB, hb⟩ := hrel
    have F := hB.frozen
    have HB := Lib.hid hB
    have Hb := Lib.hid hb
    have Hj := Lib.hid hj
    have hj4 : j = 0 ∨ j = 1 ∨ j = 2 ∨ j = 3 := by omega
    clear hj hB hb
    rcases hj4 with rfl | rfl | rfl | rfl
    · have c : wr.cell? ⟨w.heap.size, 2, none⟩ = some (.int .u8 0) := HB.out.cell 2
      go_wp2
      go_roundg (gk - 1)
      case measure => have := Hj.out; omega
      case rel => exact ⟨1, by have := Hj.out; omega, by go_num, HB.out.set 2 _, Hb.out.setCell (Nat.le_refl _) _⟩
    · have c : wr.cell? ⟨w.heap.size, 1, none⟩ = some (.int .u8 0) := HB.out.cell 1
      go_wp2
      go_roundg (gk - 1)
      case measure => have := Hj.out; omega
      case rel => exact ⟨2, by have := Hj.out; omega, by go_num, HB.out.set 1 _, Hb.out.setCell (Nat.le_refl _) _⟩
    · have c : wr.cell? ⟨w.heap.size, 0, none⟩ = some (.int .u8 0) := HB.out.cell 0
      go_wp2
      go_roundg (gk - 1)
      case measure => have := Hj.out; omega
      case rel => exact ⟨3, by have := Hj.out; omega, by go_num, HB.out.set 0 _, Hb.out.setCell (Nat.le_refl _) _⟩
    · go_wp2
      go_ret
      exact ⟨rfl, HB.out, Hb.out⟩

set_option maxRecDepth 100000 in
set_option maxHeartbeats 1600000 in
theorem bytes_4 (n : Int) (w : World) : Calls Try.prog 14 #[.int .i64 n, .int .i64 4] w fun e w' => e = .returned (.slice (some ⟨w.heap.size, 0, none⟩) 4 4) ∧ Blk w' w.heap.size (u8s (part n 4 4)).toArray 5 ∧ Below w.heap.size w w' := by
  have hm := mk_u8_4
  go_enter Try.func14, Try.ntmps14
  go_wp2
  go_loopg [6, 16] 4 (fun k v i wr => ∃ j : Nat, j + k = 4 ∧ i = .int .i64 j ∧ Blk wr w.heap.size (u8s (part n 4 j)).toArray 5 ∧ Below w.heap.size w wr)
  case atStart => exact ⟨0, rfl, rfl, Blk.new _ _ _, by go_grown⟩
  case round =>
    clear hm
    obtain ⟨j, hj, rfl, hB, hb⟩ := hrel
    have F := hB.frozen
    have HB := Lib.hid hB
    have Hb := Lib.hid hb
    have Hj := Lib.hid hj
    have hj4 : j = 0 ∨ j = 1 ∨ j = 2 ∨ j = 3 ∨ j = 4 := by omega
    clear hj hB hb
    rcases hj4 with rfl | rfl | rfl | rfl | rfl
    · have c : wr.cell? ⟨w.heap.size, 3, none⟩ = some (.int .u8 0) := HB.out.cell 3
      go_wp2
      go_roundg (gk - 1)
      case measure => have := Hj.out; omega
      case rel => exact ⟨1, by have := Hj.out; omega, by go_num, HB.out.set 3 _, Hb.out.setCell (Nat.le_refl _) _⟩
    · have c : wr.cell? ⟨w.heap.size, 2, none⟩ = some (.int .u8 0) := HB.out.cell 2
      go_wp2
      go_roundg (gk - 1)
      case measure => have := Hj.out; omega
      case rel => exact ⟨2, by have := Hj.out; omega, by go_num, HB.out.set 2 _, Hb.out.setCell (Nat.le_refl _) _⟩
    · have c : wr.cell? ⟨w.heap.size, 1, none⟩ = some (.int .u8 0) := HB.out.cell 1
      go_wp2
      go_roundg (gk - 1)
      case measure => have := Hj.out; omega
      case rel => exact ⟨3, by have := Hj.out; omega, by go_num, HB.out.set 1 _, Hb.out.setCell (Nat.le_refl _) _⟩
    · have c : wr.cell? ⟨w.heap.size, 0, none⟩ = some (.int .u8 0) := HB.out.cell 0
      go_wp2
      go_roundg (gk - 1)
      case measure => have := Hj.out; omega
      case rel => exact ⟨4, by have := Hj.out; omega, by go_num, HB.out.set 0 _, Hb.out.setCell (Nat.le_refl _) _⟩
    · go_wp2
      go_ret
      exact ⟨rfl, HB.out, Hb.out⟩

theorem bytes_all (n k : Int) (w : World) : Calls Try.prog 14 #[.int .i64 n, .int .i64 k] w fun e w' => ∃ v, e = .returned v ∧ RowU w' v (bytesN n k) ∧ Below w.heap.size w w' := by
  by_cases h : 1 ≤ k ∧ k ≤ 4
  · have : k = 1 ∨ k = 2 ∨ k = 3 ∨ k = 4 := by omega
    rcases this with rfl | rfl | rfl | rfl
    · exact (bytes_1 n w).mono fun e w' ⟨h1, h2, h3⟩ => ⟨_, h1, RowU.blk h2, h3⟩
    · exact (bytes_2 n w).mono fun e w' ⟨h1, h2, h3⟩ => ⟨_, h1, RowU.blk h2, h3⟩
    · exact (bytes_3 n w).mono fun e w' ⟨h1, h2, h3⟩ => ⟨_, h1, RowU.blk h2, h3⟩
    · exact (bytes_4 n w).mono fun e w' ⟨h1, h2, h3⟩ => ⟨_, h1, RowU.blk h2, h3⟩
  · exact (bytes_none n k w h).mono fun e w' ⟨h1, h2⟩ => ⟨_, h1, by rw [bytesN, if_neg h]; exact RowU.nil _, by rw [← h2]; exact Below.refl _ _⟩

theorem m32_bytes (n : Int) : bytes4 (m32 n) = bytes4 n := by
  unfold bytes4 m32
  congr 1
  · omega
  · congr 1
    · omega
    · congr 1
      · omega
      · congr 1; omega
set_option maxRecDepth 100000 in
set_option maxHeartbeats 1600000 in
theorem ref_bytes_1 (n : Int) (w : World) : Calls Try.prog 15 #[.int .i64 n, .int .i64 1] w fun e w' => ∃ v, e = .returned v ∧ RowU w' v (bytesN (m32 n) 1) ∧ Below w.heap.size w w' := by
  obtain ⟨x0, x1⟩ := m32_in n
  have hx := Lib.hid (bytes4_in x0 x1)
  go_enter Try.func15, Try.ntmps15
  go_wp2_with (go_at_call 20; refine (mod_any _ _).mono ?_; rintro e w' ⟨rfl, rfl⟩)
  go_ret
  exact ⟨_, rfl, RowU.blkD (xs := bytes4 (m32 n)) (d := 3) (by rw [← hx.out]; exact Blk.new w _ _) (by show 3 ≤ 4; decide), by go_grown⟩
set_option maxRecDepth 100000 in
set_option maxHeartbeats 1600000 in
theorem ref_bytes_2 (n : Int) (w : World) : Calls Try.prog 15 #[.int .i64 n, .int .i64 2] w fun e w' => ∃ v, e = .returned v ∧ RowU w' v (bytesN (m32 n) 2) ∧ Below w.heap.size w w' := by
  obtain ⟨x0, x1⟩ := m32_in n
  have hx := Lib.hid (bytes4_in x0 x1)
  go_enter Try.func15, Try.ntmps15
  go_wp2_with (go_at_call 20; refine (mod_any _ _).mono ?_; rintro e w' ⟨rfl, rfl⟩)
  go_ret
  exact ⟨_, rfl, RowU.blkD (xs := bytes4 (m32 n)) (d := 2) (by rw [← hx.out]; exact Blk.new w _ _) (by show 2 ≤ 4; decide), by go_grown⟩
set_option maxRecDepth 100000 in
set_option maxHeartbeats 1600000 in
theorem ref_bytes_3 (n : Int) (w : World) : Calls Try.prog 15 #[.int .i64 n, .int .i64 3] w fun e w' => ∃ v, e = .returned v ∧ RowU w' v (bytesN (m32 n) 3) ∧ Below w.heap.size w w' := by
  obtain ⟨x0, x1⟩ := m32_in n
  have hx := Lib.hid (bytes4_in x0 x1)
  go_enter Try.func15, Try.ntmps15
  go_wp2_with (go_at_call 20; refine (mod_any _ _).mono ?_; rintro e w' ⟨rfl, rfl⟩)
  go_ret
  exact ⟨_, rfl, RowU.blkD (xs := bytes4 (m32 n)) (d := 1) (by rw [← hx.out]; exact Blk.new w _ _) (by show 1 ≤ 4; decide), by go_grown⟩
set_option maxRecDepth 100000 in
set_option maxHeartbeats 1600000 in
theorem ref_bytes_4 (n : Int) (w : World) : Calls Try.prog 15 #[.int .i64 n, .int .i64 4] w fun e w' => ∃ v, e = .returned v ∧ RowU w' v (bytesN (m32 n) 4) ∧ Below w.heap.size w w' := by
  obtain ⟨x0, x1⟩ := m32_in n
  have hx := Lib.hid (bytes4_in x0 x1)
  go_enter Try.func15, Try.ntmps15
  go_wp2_with (go_at_call 20; refine (mod_any _ _).mono ?_; rintro e w' ⟨rfl, rfl⟩)
  go_ret
  exact ⟨_, rfl, RowU.blkD (xs := bytes4 (m32 n)) (d := 0) (by rw [← hx.out]; exact Blk.new w _ _) (by show 0 ≤ 4; decide), by go_grown⟩

theorem ref_bytes_all (n k : Int) (w : World) : Calls Try.prog 15 #[.int .i64 n, .int .i64 k] w fun e w' => ∃ v, e = .returned v ∧ RowU w' v (bytesN n k) ∧ Below w.heap.size w w' := by
  by_cases h : 1 ≤ k ∧ k ≤ 4
  · have e : bytesN n k = bytesN (m32 n) k := by rw [bytesN, bytesN, m32_bytes]
    rw [e]
    have : k = 1 ∨ k = 2 ∨ k = 3 ∨ k = 4 := by omega
    rcases this with rfl | rfl | rfl | rfl
    · exact ref_bytes_1 n w
    · exact ref_bytes_2 n w
    · exact ref_bytes_3 n w
    · exact ref_bytes_4 n w
  · exact (ref_bytes_none n k w h).mono fun e w' ⟨h1, h2⟩ => ⟨_, h1, by rw [bytesN, if_neg h]; exact RowU.nil _, by rw [← h2]; exact Below.refl _ _⟩

/-- The number of bytes, and modulo 2^32. -/
def numR (xs : List Int) : Int := xs.foldl (fun n c => 256 * n + c) 0
def numT (xs : List Int) : Int := xs.foldl (fun n c => m32 (256 * n + c)) 0
theorem numR_snoc (xs : List Int) (c : Int) : numR (xs ++ [c]) = 256 * numR xs + c := by simp [numR]
theorem numT_snoc (xs : List Int) (c : Int) : numT (xs ++ [c]) = m32 (256 * numT xs + c) := by simp [numT]
theorem numT_in (xs : List Int) : 0 ≤ numT xs ∧ numT xs ≤ 4294967295 := by
  rcases List.eq_nil_or_concat xs with rfl | ⟨S, c, rfl⟩
  · exact ⟨Int.le_refl 0, by decide⟩
  · rw [List.concat_eq_append, numT_snoc]; exact m32_in _
theorem snoc_ind {P : List Int → Prop} (h0 : P []) (h1 : ∀ xs c, P xs → P (xs ++ [c])) (xs : List Int) : P xs := by
  have : ∀ n (xs : List Int), xs.length = n → P xs := by
    intro n
    induction n with
    | zero => intro xs h; rw [List.eq_nil_of_length_eq_zero h]; exact h0
    | succ n ih =>
      intro xs h
      rcases List.eq_nil_or_concat xs with rfl | ⟨S, c, rfl⟩
      · exact h0
      · rw [List.concat_eq_append] at h ⊢
        exact h1 S c (ih S (by simpa using h))
  exact this _ xs rfl
theorem numT_R (xs : List Int) : numT xs = m32 (numR xs) := by
  refine snoc_ind (P := fun xs => numT xs = m32 (numR xs)) rfl (fun xs c ih => ?_) xs
  show numT (xs ++ [c]) = m32 (numR (xs ++ [c]))
  rw [numT_snoc, numR_snoc, ih]
  unfold m32
  omega
theorem numR_four (ys : List Int) (a b c d : Int) : m32 (numR (ys ++ [a, b, c, d])) = m32 (numR [a, b, c, d]) := by
  have e : ys ++ [a, b, c, d] = ys ++ [a] ++ [b] ++ [c] ++ [d] := by simp
  have e' : ([a, b, c, d] : List Int) = [] ++ [a] ++ [b] ++ [c] ++ [d] := rfl
  rw [e, e', numR_snoc, numR_snoc, numR_snoc, numR_snoc, numR_snoc, numR_snoc, numR_snoc, numR_snoc]
  generalize numR ys = z
  have : numR [] = 0 := rfl
  rw [this]
  unfold m32
  omega
theorem numR_bd (xs : List Int) (hx : isB xs) (h : xs.length ≤ 4) : 0 ≤ numR xs ∧ numR xs ≤ 4294967295 ∧ (xs.length ≤ 3 → numR xs ≤ 16777215) := by
  match xs, h with
  | [], _ => exact ⟨Int.le_refl 0, by decide, fun _ => by decide⟩
  | [a], _ =>
    have ha := hx a (by simp)
    simp only [numR, List.foldl, List.length]; omega
  | [a, b], _ =>
    have ha := hx a (by simp)
    have hb := hx b (by simp)
    simp only [numR, List.foldl, List.length]; omega
  | [a, b, c], _ =>
    have ha := hx a (by simp)
    have hb := hx b (by simp)
    have hc := hx c (by simp)
    simp only [numR, List.foldl, List.length]; omega
  | [a, b, c, d], _ =>
    have ha := hx a (by simp)
    have hb := hx b (by simp)
    have hc := hx c (by simp)
    have hd := hx d (by simp)
    simp only [numR, List.foldl, List.length]; omega
  | a :: b :: c :: d :: e :: l, h => simp at h
/-- What both tell of bytes. -/
theorem num_last (xs : List Int) (hx : isB xs) : numT xs = numR (xs.drop (xs.length - 4)) := by
  rw [numT_R]
  have hd : isB (xs.drop (xs.length - 4)) := fun x h => hx x (List.mem_of_mem_drop h)
  have hl : (xs.drop (xs.length - 4)).length ≤ 4 := by rw [List.length_drop]; omega
  have e : m32 (numR xs) = m32 (numR (xs.drop (xs.length - 4))) := by
    rcases Nat.lt_or_ge xs.length 4 with h | h
    · rw [show xs.length - 4 = 0 by omega, List.drop_zero]
    · have h4 : (xs.drop (xs.length - 4)).length = 4 := by rw [List.length_drop]; omega
      conv => lhs; rw [← List.take_append_drop (xs.length - 4) xs]
      match xs.drop (xs.length - 4), h4 with
      | [a, b, c, d], _ => exact numR_four _ a b c d
  obtain ⟨b0, b1, _⟩ := numR_bd _ hd hl
  rw [e]
  unfold m32
  omega
end Go.Proofs.Ytphkljlbadpknaa
