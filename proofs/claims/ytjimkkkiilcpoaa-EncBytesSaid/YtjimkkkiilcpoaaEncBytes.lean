/-
  EncBytes: for every two 64-bit numbers and either answer the law returns true, and each argument reads as it did. Condition: none.
-/
import Derived.Test.YtjimkkkiilcpoaaRows
import Derived.Test.YtjimkkkiilcpoaaEncM
import Derived.Test.YtjimkkkiilcpoaaArg
import Derived.ChangeOld
import Derived.Deep.LoopGhost
import Derived.Deep.QuietTactic
import Derived.BigQuiet
import Derived.Outline
import Derived.Lib.VarintBits
set_option linter.unusedVariables false
set_option linter.unusedSimpArgs false
namespace Go.Proofs.Ytjimkkkiilcpoaa.EncBytes
open Go.ChangeShapes Go.WideShapes Go.ChangeAt Go.RowKit Go.Proofs.Ytjimkkkiilcpoaa

theorem own : ownKnob Try.prog.godebug = none := by kernel_rfl
theorem laidOut : laidOutB Try.prog = true := by kernel_rfl

theorem u64_of_wf {x : Int} (h : (Lit.int .u64 x).wf = true) : 0 ≤ x ∧ x ≤ 18446744073709551615 := by
  simpa [Lit.wf, IntKind.min, IntKind.max, IntKind.bits, IntKind.signed] using h

/-- A number's eight bytes, the highest first. -/
def w8 (x : Int) : List Int := [x / 72057594037927936, x / 281474976710656 % 256, x / 1099511627776 % 256, x / 4294967296 % 256, x / 16777216 % 256, x / 65536 % 256, x / 256 % 256, x % 256]

theorem isB_w8 {x y : Int} (x0 : 0 ≤ x) (x1 : x ≤ 18446744073709551615) (y0 : 0 ≤ y) (y1 : y ≤ 18446744073709551615) : isB (w8 x ++ w8 y) := by
  intro u hu
  simp only [w8, List.cons_append, List.nil_append, List.mem_cons, List.not_mem_nil, or_false] at hu
  omega

/-- What stands in a capability's own bytes. -/
def ownB (xs : List Int) (j : Nat) : Int := if j = 12 ∨ j = 14 then 0 else if j = 13 then rdn xs 13 % 128 else rdn xs j

theorem got_right {tag : Bool} {xs : List Int} (hl : xs.length = 16) (hx : isB xs) : rightB (gotT tag xs) (gotB xs) (gotP xs) (gotA xs) (gotQ xs) (gotY xs) = true := by
  have g := isB_rdn hx
  have hT : gotT tag xs = true → rightB true (word4 (rdn xs) 4) (word4 (rdn xs) 8) (word4 (rdn xs) 0) (low7 (rdn xs 13)) (rdn xs 15) = true := by
    intro h
    simp only [gotT, tagB, Bool.and_eq_true] at h
    exact h.2.2
  simp only [gotB, gotP, gotA, gotQ, gotY, if_pos hl] at hT ⊢
  unfold rightB
  simp only [word4, low7] at hT ⊢
  have g0 := g 0; have g1 := g (0 + 1); have g2 := g (0 + 2); have g3 := g (0 + 3)
  have g4 := g 4; have g5 := g (4 + 1); have g6 := g (4 + 2); have g7 := g (4 + 3)
  have g8 := g 8; have g9 := g (8 + 1); have g10 := g (8 + 2); have g11 := g (8 + 3)
  have g13 := g 13; have g15 := g 15
  refine decide_eq_true ⟨by omega, by omega, by omega, by omega, by omega, by omega, by omega, by omega, by omega, by omega, fun h => ?_⟩
  exact (right_bounds (hT h)).2.2.2.2.2.2.2.2.2.2 rfl

theorem put_got {tag : Bool} {xs : List Int} (hl : xs.length = 16) (hx : isB xs) (j : Nat) (hj : j < 16) : rdn (putL (gotT tag xs) (gotB xs) (gotP xs) (gotA xs) (gotQ xs) (gotY xs)) j = ownB xs j := by
  have g := isB_rdn hx
  rw [putL, if_pos (got_right hl hx)]
  simp only [gotB, gotP, gotA, gotQ, gotY, if_pos hl]
  obtain ⟨e0, e1, e2, e3, e4, e5, e6, e7, e8, e9, e10, e11, e12, e13, e14, e15⟩ := rdn_put (word4 (rdn xs) 4) (word4 (rdn xs) 8) (word4 (rdn xs) 0) (low7 (rdn xs 13)) (rdn xs 15)
  have g0 := g 0; have g1 := g 1; have g2 := g 2; have g3 := g 3
  have g4 := g 4; have g5 := g 5; have g6 := g 6; have g7 := g 7
  have g8 := g 8; have g9 := g 9; have g10 := g 10; have g11 := g 11
  have hj' : j = 0 ∨ j = 1 ∨ j = 2 ∨ j = 3 ∨ j = 4 ∨ j = 5 ∨ j = 6 ∨ j = 7 ∨ j = 8 ∨ j = 9 ∨ j = 10 ∨ j = 11 ∨ j = 12 ∨ j = 13 ∨ j = 14 ∨ j = 15 := by omega
  rcases hj' with rfl | rfl | rfl | rfl | rfl | rfl | rfl | rfl | rfl | rfl | rfl | rfl | rfl | rfl | rfl | rfl
  · rw [e0]; simp only [word4, ownB]; simp; omega
  · rw [e1]; simp only [word4, ownB]; simp; omega
  · rw [e2]; simp only [word4, ownB]; simp; omega
  · rw [e3]; simp only [word4, ownB]; simp; omega
  · rw [e4]; simp only [word4, ownB]; simp; omega
  · rw [e5]; simp only [word4, ownB]; simp; omega
  · rw [e6]; simp only [word4, ownB]; simp; omega
  · rw [e7]; simp only [word4, ownB]; simp; omega
  · rw [e8]; simp only [word4, ownB]; simp; omega
  · rw [e9]; simp only [word4, ownB]; simp; omega
  · rw [e10]; simp only [word4, ownB]; simp; omega
  · rw [e11]; simp only [word4, ownB]; simp; omega
  · rw [e12]; simp [ownB]
  · rw [e13]; simp [ownB, low7]
  · rw [e14]; simp [ownB]
  · rw [e15]; simp [ownB]

theorem got_tag {tag : Bool} {xs : List Int} (hl : xs.length = 16) (hx : isB xs) (h : gotT tag xs = true) (j : Nat) : rdn xs j = ownB xs j := by
  have g := isB_rdn hx
  simp only [gotT, tagB, Bool.and_eq_true, decide_eq_true_eq] at h
  obtain ⟨h12, h14, h13⟩ := h.2.1.2
  have g13 := g 13
  unfold ownB
  split
  · rename_i h; rcases h with rfl | rfl <;> assumption
  · split
    · rename_i h; subst h; omega
    · rfl

theorem got_inI {xs : List Int} (hl : xs.length = 16) (hx : isB xs) : inI (gotQ xs) := by
  have g13 := isB_rdn hx 13
  simp only [gotQ, if_pos hl, low7]
  constructor <;> omega

set_option maxRecDepth 100000 in
set_option maxHeartbeats 3200000 in
theorem walk (x y : Int) (tag : Bool) (w : World) (hx : (Lit.int .u64 x).wf = true) (hy : (Lit.int .u64 y).wf = true) :
    Calls Try.prog 5 #[.int .u64 x, .int .u64 y, .bool tag] w fun e w' => e = .returned (.bool true) ∧ Below w.heap.size w w' := by
  obtain ⟨x0, x1⟩ := u64_of_wf hx
  obtain ⟨y0, y1⟩ := u64_of_wf hy
  clear hx hy
  go_enter Try.func5, Try.ntmps5
  go_wp2_with fail
  refine (head3_true _).mono ?_
  rintro e w1 ⟨rfl, hb1⟩
  have hsz1 : w.heap.size ≤ w1.heap.size := hb1.size
  go_wp2
  go_loopg [8, 9] 8 (fun k v i wr => ∃ j : Nat, j + k = 8 ∧ i = .int .i64 (56 - 8 * j) ∧ wr.ownsRow w1.heap.size 5 1 v j (u8s ((w8 x).take j)) ∧ Below w1.heap.size w1 wr)
  case atStart => exact ⟨0, rfl, rfl, World.ownsRow_nil _ _ _ _, Below.refl _ _⟩
  case round =>
    obtain ⟨j, hj, rfl, hown, hb⟩ := hrel
    have Hj : Hid (j + gk = 8) := hj
    have Hb : Hid (Below w1.heap.size w1 wr) := hb
    have Hsz : w1.heap.size ≤ wr.heap.size := hb.size
    clear hj hb
    have hj9 : j = 0 ∨ j = 1 ∨ j = 2 ∨ j = 3 ∨ j = 4 ∨ j = 5 ∨ j = 6 ∨ j = 7 ∨ j = 8 := by have := Hj.out; omega
    rcases hj9 with rfl | rfl | rfl | rfl | rfl | rfl | rfl | rfl | rfl
    · go_wp2_with (first
        | (at_builtin; refine app (w0 := w1) (W := wr.alloc _) w1.heap.size rfl _ _ 24 5 (.int .u8 0) 1 1 rfl Try.underlying24 infoU8 rfl (by decide) (by decide) _ _ _ (u8s [x / 72057594037927936]) (some ⟨wr.heap.size, 0, none⟩) 1 1 rfl rfl rfl (by intro u hu; simp [u8s] at hu; subst hu; rfl) (hown.alloc _) (RdL.new wr _ _) (Hb.out.alloc Hsz _) (by first | omega | (simp only [World.size_alloc, World.size_drew, World.size_setCell]; omega) | (simp; done) | (simp; omega)) (by decide) ?_; intro v1 w2 hown1 hb2 _))
      go_roundg 7
      case measure => have := Hj.out; omega
      case rel => exact ⟨1, rfl, by go_num, by rw [← u8s_append] at hown1; exact hown1, hb2⟩
    · go_wp2_with (first
        | (at_builtin; refine app (w0 := w1) (W := wr.alloc _) w1.heap.size rfl _ _ 24 5 (.int .u8 0) 1 1 rfl Try.underlying24 infoU8 rfl (by decide) (by decide) _ _ _ (u8s [x / 281474976710656 % 256]) (some ⟨wr.heap.size, 0, none⟩) 1 1 rfl rfl rfl (by intro u hu; simp [u8s] at hu; subst hu; rfl) (hown.alloc _) (RdL.new wr _ _) (Hb.out.alloc Hsz _) (by first | omega | (simp only [World.size_alloc, World.size_drew, World.size_setCell]; omega) | (simp; done) | (simp; omega)) (by decide) ?_; intro v1 w2 hown1 hb2 _))
      go_roundg 6
      case measure => have := Hj.out; omega
      case rel => exact ⟨2, rfl, by go_num, by rw [← u8s_append] at hown1; exact hown1, hb2⟩
    · go_wp2_with (first
        | (at_builtin; refine app (w0 := w1) (W := wr.alloc _) w1.heap.size rfl _ _ 24 5 (.int .u8 0) 1 1 rfl Try.underlying24 infoU8 rfl (by decide) (by decide) _ _ _ (u8s [x / 1099511627776 % 256]) (some ⟨wr.heap.size, 0, none⟩) 1 1 rfl rfl rfl (by intro u hu; simp [u8s] at hu; subst hu; rfl) (hown.alloc _) (RdL.new wr _ _) (Hb.out.alloc Hsz _) (by first | omega | (simp only [World.size_alloc, World.size_drew, World.size_setCell]; omega) | (simp; done) | (simp; omega)) (by decide) ?_; intro v1 w2 hown1 hb2 _))
      go_roundg 5
      case measure => have := Hj.out; omega
      case rel => exact ⟨3, rfl, by go_num, by rw [← u8s_append] at hown1; exact hown1, hb2⟩
    · go_wp2_with (first
        | (at_builtin; refine app (w0 := w1) (W := wr.alloc _) w1.heap.size rfl _ _ 24 5 (.int .u8 0) 1 1 rfl Try.underlying24 infoU8 rfl (by decide) (by decide) _ _ _ (u8s [x / 4294967296 % 256]) (some ⟨wr.heap.size, 0, none⟩) 1 1 rfl rfl rfl (by intro u hu; simp [u8s] at hu; subst hu; rfl) (hown.alloc _) (RdL.new wr _ _) (Hb.out.alloc Hsz _) (by first | omega | (simp only [World.size_alloc, World.size_drew, World.size_setCell]; omega) | (simp; done) | (simp; omega)) (by decide) ?_; intro v1 w2 hown1 hb2 _))
      go_roundg 4
      case measure => have := Hj.out; omega
      case rel => exact ⟨4, rfl, by go_num, by rw [← u8s_append] at hown1; exact hown1, hb2⟩
    · go_wp2_with (first
        | (at_builtin; refine app (w0 := w1) (W := wr.alloc _) w1.heap.size rfl _ _ 24 5 (.int .u8 0) 1 1 rfl Try.underlying24 infoU8 rfl (by decide) (by decide) _ _ _ (u8s [x / 16777216 % 256]) (some ⟨wr.heap.size, 0, none⟩) 1 1 rfl rfl rfl (by intro u hu; simp [u8s] at hu; subst hu; rfl) (hown.alloc _) (RdL.new wr _ _) (Hb.out.alloc Hsz _) (by first | omega | (simp only [World.size_alloc, World.size_drew, World.size_setCell]; omega) | (simp; done) | (simp; omega)) (by decide) ?_; intro v1 w2 hown1 hb2 _))
      go_roundg 3
      case measure => have := Hj.out; omega
      case rel => exact ⟨5, rfl, by go_num, by rw [← u8s_append] at hown1; exact hown1, hb2⟩
    · go_wp2_with (first
        | (at_builtin; refine app (w0 := w1) (W := wr.alloc _) w1.heap.size rfl _ _ 24 5 (.int .u8 0) 1 1 rfl Try.underlying24 infoU8 rfl (by decide) (by decide) _ _ _ (u8s [x / 65536 % 256]) (some ⟨wr.heap.size, 0, none⟩) 1 1 rfl rfl rfl (by intro u hu; simp [u8s] at hu; subst hu; rfl) (hown.alloc _) (RdL.new wr _ _) (Hb.out.alloc Hsz _) (by first | omega | (simp only [World.size_alloc, World.size_drew, World.size_setCell]; omega) | (simp; done) | (simp; omega)) (by decide) ?_; intro v1 w2 hown1 hb2 _))
      go_roundg 2
      case measure => have := Hj.out; omega
      case rel => exact ⟨6, rfl, by go_num, by rw [← u8s_append] at hown1; exact hown1, hb2⟩
    · go_wp2_with (first
        | (at_builtin; refine app (w0 := w1) (W := wr.alloc _) w1.heap.size rfl _ _ 24 5 (.int .u8 0) 1 1 rfl Try.underlying24 infoU8 rfl (by decide) (by decide) _ _ _ (u8s [x / 256 % 256]) (some ⟨wr.heap.size, 0, none⟩) 1 1 rfl rfl rfl (by intro u hu; simp [u8s] at hu; subst hu; rfl) (hown.alloc _) (RdL.new wr _ _) (Hb.out.alloc Hsz _) (by first | omega | (simp only [World.size_alloc, World.size_drew, World.size_setCell]; omega) | (simp; done) | (simp; omega)) (by decide) ?_; intro v1 w2 hown1 hb2 _))
      go_roundg 1
      case measure => have := Hj.out; omega
      case rel => exact ⟨7, rfl, by go_num, by rw [← u8s_append] at hown1; exact hown1, hb2⟩
    · go_wp2_with (first
        | (at_builtin; refine app (w0 := w1) (W := wr.alloc _) w1.heap.size rfl _ _ 24 5 (.int .u8 0) 1 1 rfl Try.underlying24 infoU8 rfl (by decide) (by decide) _ _ _ (u8s [x % 256]) (some ⟨wr.heap.size, 0, none⟩) 1 1 rfl rfl rfl (by intro u hu; simp [u8s] at hu; subst hu; rfl) (hown.alloc _) (RdL.new wr _ _) (Hb.out.alloc Hsz _) (by first | omega | (simp only [World.size_alloc, World.size_drew, World.size_setCell]; omega) | (simp; done) | (simp; omega)) (by decide) ?_; intro v1 w2 hown1 hb2 _))
      go_roundg 0
      case measure => have := Hj.out; omega
      case rel => exact ⟨8, rfl, by go_num, by rw [← u8s_append] at hown1; exact hown1, hb2⟩
    · go_wp2
      have hw2 := Hb.out
      clear Hj Hb Hsz
      go_loopg [8, 10] 8 (fun k v i wr => ∃ j : Nat, j + k = 8 ∧ i = .int .i64 (56 - 8 * j) ∧ wr.ownsRow w1.heap.size 5 1 v (8 + j) (u8s (w8 x ++ (w8 y).take j)) ∧ Below w1.heap.size w1 wr)
      case atStart => exact ⟨0, rfl, rfl, hown, hw2⟩
      case round =>
        clear hown hw2
        obtain ⟨j, hj, rfl, hown, hb⟩ := hrel
        have Hj : Hid (j + gk = 8) := hj
        have Hb : Hid (Below w1.heap.size w1 wr) := hb
        have Hsz : w1.heap.size ≤ wr.heap.size := hb.size
        clear hj hb
        have hj9 : j = 0 ∨ j = 1 ∨ j = 2 ∨ j = 3 ∨ j = 4 ∨ j = 5 ∨ j = 6 ∨ j = 7 ∨ j = 8 := by have := Hj.out; omega
        rcases hj9 with rfl | rfl | rfl | rfl | rfl | rfl | rfl | rfl | rfl
        · go_wp2_with (first
            | (at_builtin; refine app (w0 := w1) (W := wr.alloc _) w1.heap.size rfl _ _ 24 5 (.int .u8 0) 1 1 rfl Try.underlying24 infoU8 rfl (by decide) (by decide) _ _ _ (u8s [y / 72057594037927936]) (some ⟨wr.heap.size, 0, none⟩) 1 1 rfl rfl rfl (by intro u hu; simp [u8s] at hu; subst hu; rfl) (hown.alloc _) (RdL.new wr _ _) (Hb.out.alloc Hsz _) (by first | omega | (simp only [World.size_alloc, World.size_drew, World.size_setCell]; omega) | (simp; done) | (simp; omega)) (by decide) ?_; intro v1 w2 hown1 hb2 _))
          go_roundg 7
          case measure => have := Hj.out; omega
          case rel => exact ⟨1, rfl, by go_num, by rw [← u8s_append] at hown1; exact hown1, hb2⟩
        · go_wp2_with (first
            | (at_builtin; refine app (w0 := w1) (W := wr.alloc _) w1.heap.size rfl _ _ 24 5 (.int .u8 0) 1 1 rfl Try.underlying24 infoU8 rfl (by decide) (by decide) _ _ _ (u8s [y / 281474976710656 % 256]) (some ⟨wr.heap.size, 0, none⟩) 1 1 rfl rfl rfl (by intro u hu; simp [u8s] at hu; subst hu; rfl) (hown.alloc _) (RdL.new wr _ _) (Hb.out.alloc Hsz _) (by first | omega | (simp only [World.size_alloc, World.size_drew, World.size_setCell]; omega) | (simp; done) | (simp; omega)) (by decide) ?_; intro v1 w2 hown1 hb2 _))
          go_roundg 6
          case measure => have := Hj.out; omega
          case rel => exact ⟨2, rfl, by go_num, by rw [← u8s_append] at hown1; exact hown1, hb2⟩
        · go_wp2_with (first
            | (at_builtin; refine app (w0 := w1) (W := wr.alloc _) w1.heap.size rfl _ _ 24 5 (.int .u8 0) 1 1 rfl Try.underlying24 infoU8 rfl (by decide) (by decide) _ _ _ (u8s [y / 1099511627776 % 256]) (some ⟨wr.heap.size, 0, none⟩) 1 1 rfl rfl rfl (by intro u hu; simp [u8s] at hu; subst hu; rfl) (hown.alloc _) (RdL.new wr _ _) (Hb.out.alloc Hsz _) (by first | omega | (simp only [World.size_alloc, World.size_drew, World.size_setCell]; omega) | (simp; done) | (simp; omega)) (by decide) ?_; intro v1 w2 hown1 hb2 _))
          go_roundg 5
          case measure => have := Hj.out; omega
          case rel => exact ⟨3, rfl, by go_num, by rw [← u8s_append] at hown1; exact hown1, hb2⟩
        · go_wp2_with (first
            | (at_builtin; refine app (w0 := w1) (W := wr.alloc _) w1.heap.size rfl _ _ 24 5 (.int .u8 0) 1 1 rfl Try.underlying24 infoU8 rfl (by decide) (by decide) _ _ _ (u8s [y / 4294967296 % 256]) (some ⟨wr.heap.size, 0, none⟩) 1 1 rfl rfl rfl (by intro u hu; simp [u8s] at hu; subst hu; rfl) (hown.alloc _) (RdL.new wr _ _) (Hb.out.alloc Hsz _) (by first | omega | (simp only [World.size_alloc, World.size_drew, World.size_setCell]; omega) | (simp; done) | (simp; omega)) (by decide) ?_; intro v1 w2 hown1 hb2 _))
          go_roundg 4
          case measure => have := Hj.out; omega
          case rel => exact ⟨4, rfl, by go_num, by rw [← u8s_append] at hown1; exact hown1, hb2⟩
        · go_wp2_with (first
            | (at_builtin; refine app (w0 := w1) (W := wr.alloc _) w1.heap.size rfl _ _ 24 5 (.int .u8 0) 1 1 rfl Try.underlying24 infoU8 rfl (by decide) (by decide) _ _ _ (u8s [y / 16777216 % 256]) (some ⟨wr.heap.size, 0, none⟩) 1 1 rfl rfl rfl (by intro u hu; simp [u8s] at hu; subst hu; rfl) (hown.alloc _) (RdL.new wr _ _) (Hb.out.alloc Hsz _) (by first | omega | (simp only [World.size_alloc, World.size_drew, World.size_setCell]; omega) | (simp; done) | (simp; omega)) (by decide) ?_; intro v1 w2 hown1 hb2 _))
          go_roundg 3
          case measure => have := Hj.out; omega
          case rel => exact ⟨5, rfl, by go_num, by rw [← u8s_append] at hown1; exact hown1, hb2⟩
        · go_wp2_with (first
            | (at_builtin; refine app (w0 := w1) (W := wr.alloc _) w1.heap.size rfl _ _ 24 5 (.int .u8 0) 1 1 rfl Try.underlying24 infoU8 rfl (by decide) (by decide) _ _ _ (u8s [y / 65536 % 256]) (some ⟨wr.heap.size, 0, none⟩) 1 1 rfl rfl rfl (by intro u hu; simp [u8s] at hu; subst hu; rfl) (hown.alloc _) (RdL.new wr _ _) (Hb.out.alloc Hsz _) (by first | omega | (simp only [World.size_alloc, World.size_drew, World.size_setCell]; omega) | (simp; done) | (simp; omega)) (by decide) ?_; intro v1 w2 hown1 hb2 _))
          go_roundg 2
          case measure => have := Hj.out; omega
          case rel => exact ⟨6, rfl, by go_num, by rw [← u8s_append] at hown1; exact hown1, hb2⟩
        · go_wp2_with (first
            | (at_builtin; refine app (w0 := w1) (W := wr.alloc _) w1.heap.size rfl _ _ 24 5 (.int .u8 0) 1 1 rfl Try.underlying24 infoU8 rfl (by decide) (by decide) _ _ _ (u8s [y / 256 % 256]) (some ⟨wr.heap.size, 0, none⟩) 1 1 rfl rfl rfl (by intro u hu; simp [u8s] at hu; subst hu; rfl) (hown.alloc _) (RdL.new wr _ _) (Hb.out.alloc Hsz _) (by first | omega | (simp only [World.size_alloc, World.size_drew, World.size_setCell]; omega) | (simp; done) | (simp; omega)) (by decide) ?_; intro v1 w2 hown1 hb2 _))
          go_roundg 1
          case measure => have := Hj.out; omega
          case rel => exact ⟨7, rfl, by go_num, by rw [← u8s_append] at hown1; exact hown1, hb2⟩
        · go_wp2_with (first
            | (at_builtin; refine app (w0 := w1) (W := wr.alloc _) w1.heap.size rfl _ _ 24 5 (.int .u8 0) 1 1 rfl Try.underlying24 infoU8 rfl (by decide) (by decide) _ _ _ (u8s [y % 256]) (some ⟨wr.heap.size, 0, none⟩) 1 1 rfl rfl rfl (by intro u hu; simp [u8s] at hu; subst hu; rfl) (hown.alloc _) (RdL.new wr _ _) (Hb.out.alloc Hsz _) (by first | omega | (simp only [World.size_alloc, World.size_drew, World.size_setCell]; omega) | (simp; done) | (simp; omega)) (by decide) ?_; intro v1 w2 hown1 hb2 _))
          go_roundg 0
          case measure => have := Hj.out; omega
          case rel => exact ⟨8, rfl, by go_num, by rw [← u8s_append] at hown1; exact hown1, hb2⟩
        · have r1 := RowU.own hown
          have hw2 := Hb.out
          clear hown Hj Hb
          go_wp2_with fail
          rw [show (w8 x ++ (w8 y).take 8) = w8 x ++ w8 y from rfl] at r1
          have hL : (w8 x ++ w8 y).length = 16 := rfl
          have hI := isB_w8 x0 x1 y0 y1
          generalize w8 x ++ w8 y = xs at r1 hL hI
          have hw3 := below_then hb1 hsz1 hw2
          clear hb1 hw2 hsz1 Hsz
          refine (get_row _ xs tag wr r1 hI).mono ?_
          rintro e w4 ⟨rfl, hb4⟩
          rw [decide_eq_true hL]
          have hR := got_right (tag := tag) hL hI
          have hP := put_got (tag := tag) hL hI
          have hT := got_tag (tag := tag) hL hI
          have hU : tag = false → gotT tag xs = false := by intro h; rw [h, gotT, tagB, Bool.false_and, Bool.false_and, Bool.and_false]
          have hq : inI (gotQ xs) := got_inI hL hI
          have r4 := r1.below hb4
          have HB4 := below_then hw3 hw3.size hb4
          generalize gotT tag xs = T at *
          generalize gotB xs = b at *
          generalize gotP xs = p at *
          generalize gotA xs = a at *
          generalize gotQ xs = q at *
          generalize gotY xs = z at *
          clear r1 hb4 hw3
          go_wp2_with fail
          refine (put_row T b p a q z _ hq).mono ?_
          rintro e w5 ⟨v5, rfl, r5, hb5⟩
          have hb0 : Below w.heap.size w (w4.alloc (.cells #[.bool (T), .int .i64 (b), .int .i64 (p), .int .i64 (a), .int .i64 (q), .int .i64 (z)] 23)) := below_then HB4 HB4.size (by go_grown)
          have C5 := (Blk.new w4 #[.bool (T), .int .i64 (b), .int .i64 (p), .int .i64 (a), .int .i64 (q), .int .i64 (z)] 23).below hb5 (by first | omega | (simp only [World.size_alloc, World.size_drew, World.size_setCell]; omega) | (simp; done) | (simp; omega))
          have r4 := (r4.below (by go_grown : Below w4.heap.size w4 (w4.alloc (.cells #[.bool (T), .int .i64 (b), .int .i64 (p), .int .i64 (a), .int .i64 (q), .int .i64 (z)] 23)))).below hb5
          have HB5 := below_then hb0 hb0.size hb5
          clear hb0 hb5 HB4
          obtain ⟨bX, oX, cX, rfl, hcX, hX⟩ := r4.cells (by omega)
          obtain ⟨bP, oP, cP, rfl, hcP, hPc⟩ := r5.cells (by rw [putL_len hR]; omega)
          rw [putL_len hR] at hcP hPc ⊢
          rw [hL] at hcX hX ⊢
          have L5 := C5.cell
          have l5 := C5.lt
          clear r4 r5 C5
          have hTt : T = true → tag = true := by
            intro h; cases tag with
            | true => rfl
            | false => rw [hU rfl] at h; cases h
          have hI2 := hI
          clear hU hR hI hL
          cases T <;> cases tag
          case true.false => exact absurd (hTt rfl) Bool.false_ne_true
          all_goals
            clear hTt
            go_wp2
            go_loopg [14, 15] 16 (fun k i v wr => ∃ j : Nat, j + k = 16 ∧ i = .int .i64 j ∧ wr = w5)
            case atStart => exact ⟨0, rfl, rfl, rfl⟩
            case round =>
              obtain ⟨j, hj, rfl, rfl⟩ := hrel
              have Hj : Hid (j + gk = 16) := hj
              rcases Nat.lt_or_ge j 16 with h16 | h16
              · have i16 : (j : Int) < 16 := by omega
                have cX := hX j h16
                have cP := hPc j h16
                rw [hP j h16] at cP
                have eT := fun h => hT h j
                have gX := isB_rdn hI2 j
                clear hX hPc hP hT hj
                obtain ⟨g0, g1⟩ := gX
                unfold ownB at cP eT
                by_cases n12 : j = 12
                · subst n12
                  rw [if_pos (Or.inl rfl)] at cP eT
                  generalize rdn xs 12 = u at *
                  first | (replace eT := (eT (by trivial)).symm; try subst eT) | clear eT
                  go_wp2
                  go_roundg (gk - 1)
                  case measure => have := Hj.out; omega
                  case rel => exact ⟨13, by have := Hj.out; omega, by go_num, rfl⟩
                by_cases n14 : j = 14
                · subst n14
                  rw [if_pos (Or.inr rfl)] at cP eT
                  generalize rdn xs 14 = u at *
                  first | (replace eT := (eT (by trivial)).symm; try subst eT) | clear eT
                  go_wp2
                  go_roundg (gk - 1)
                  case measure => have := Hj.out; omega
                  case rel => exact ⟨15, by have := Hj.out; omega, by go_num, rfl⟩
                rw [if_neg (by omega)] at cP eT
                by_cases n13 : j = 13
                · subst n13
                  rw [if_pos rfl] at cP eT
                  generalize rdn xs 13 = u at *
                  have e127 : bits .and .u8 u 127 = u % 128 := u8_and127 u g0 (by omega)
                  first | (replace eT := (eT (by trivial)).symm; try subst eT) | clear eT
                  go_wp2
                  go_roundg (gk - 1)
                  case measure => have := Hj.out; omega
                  case rel => exact ⟨14, by have := Hj.out; omega, by go_num, rfl⟩
                rw [if_neg n13] at cP eT
                clear eT
                generalize rdn xs j = u at *
                have m12 : ((j : Int) == 12) = false := by rw [beq_eq_false_iff_ne]; omega
                have m13 : ((j : Int) == 13) = false := by rw [beq_eq_false_iff_ne]; omega
                have m14 : ((j : Int) == 14) = false := by rw [beq_eq_false_iff_ne]; omega
                clear n12 n13 n14
                go_wp2
                go_roundg (gk - 1)
                case measure => have := Hj.out; omega
                case rel => exact ⟨j + 1, by have := Hj.out; omega, by go_num, rfl⟩
              · have h16' : ¬ (j : Int) < 16 := by omega
                clear hX hPc hP hT hj
                go_wp2
                go_ret
                exact ⟨rfl, HB5⟩

set_option maxRecDepth 100000 in
theorem lifted (os : Os) (started : os.Started) (H : Type) (enc : TypeId × Value → H) :
    ReturnsInHanded {} Try.checked os 5 .any (Rows.encBytesSpec.pre6 enc Try.prog Try.f5 Rows.encBytesRow.domain false) (Rows.encBytesSpec.post enc Try.prog Try.f5 false true false false) := by
  refine returnsInHanded_of_change (C := Try.checked) own started (by kernel_rfl) Try.func5
    (ChangeSpec.witness6 (enc := enc) (C := Try.checked) false ⟨#[], #[.int .u64 0, .int .u64 0, .bool false], []⟩ 8 (by kernel_rfl) (by kernel_rfl) (by kernel_rfl) (by kernel_rfl)) ?_
  intro W base args ds gs before hval0 hW hcnd _
  have hval : ∀ (j : Nat) t v, Try.f5.params[j]? = some t → args[j]? = some v → Value.okWide Try.prog W .any base t v := hval0
  have hW' := hW
  obtain ⟨p, q, hA0, hV, rfl, hfz, hnd⟩ := hW
  have hA : DataW.TrodAll enc Try.prog W 0 (fun _ => true) true Try.f5.params.toList args.toList ds p := hA0
  rw [Try.params5] at hA hval
  obtain ⟨v0, vs0, d0, ds0, p0, q0, hargs, rfl, rfl, h0, r0⟩ := trodAll_cons hA
  obtain ⟨v1, vs1, d1, ds1, p1, q1, rfl, rfl, rfl, h1, r1⟩ := trodAll_cons r0
  obtain ⟨v2, vs2, d2, ds2, p2, q2, rfl, rfl, rfl, h2, r2⟩ := trodAll_cons r1
  obtain ⟨rfl, rfl, rfl⟩ := trodAll_nil r2
  obtain rfl : args = #[v0, v1, v2] := by cases args; simp_all
  obtain ⟨rfl, rfl⟩ := trodVars_none hV
  have k0 := h0
  have lt0 : ∀ x ∈ p0, x.block < W.heap.size := by obtain ⟨m, hm⟩ := k0; exact DataW.trod_lt m _ _ _ hm
  obtain ⟨x0, rfl, _, _, w0⟩ := open_int Try.underlying32 (hval 0 32 v0 rfl rfl) h0
  have k1 := h1
  have lt1 : ∀ x ∈ p1, x.block < W.heap.size := by obtain ⟨m, hm⟩ := k1; exact DataW.trod_lt m _ _ _ hm
  obtain ⟨x1, rfl, _, _, w1⟩ := open_int Try.underlying32 (hval 1 32 v1 rfl rfl) h1
  have k2 := h2
  have lt2 : ∀ x ∈ p2, x.block < W.heap.size := by obtain ⟨m, hm⟩ := k2; exact DataW.trod_lt m _ _ _ hm
  obtain ⟨x2, rfl, _, _⟩ := open_bool Try.underlying4 (hval 2 4 v2 rfl rfl) h2
  clear hA0 hval0
  refine (walk x0 x1 x2 W w0 w1).mono fun e W' ⟨he, bel⟩ => ?_
  subst he
  exact ⟨_, rfl, _, _, _, [], _, [], hW', trodAll_mk1 (shut_bool Try.underlying4 _), (trodAll_cons_mk (Below.trod laidOut (by kernel_rfl) (of_decide_eq_true (by kernel_rfl)) k0 bel lt0) (trodAll_cons_mk (Below.trod laidOut (by kernel_rfl) (of_decide_eq_true (by kernel_rfl)) k1 bel lt1) (trodAll_cons_mk (Below.trod laidOut (by kernel_rfl) (of_decide_eq_true (by kernel_rfl)) k2 bel lt2) trodAll_mk0))), rfl, bel.frame _, fun h => by cases h⟩

theorem over : Rows.encBytesRow.holds Try.pinned (OpenSpec.ofChange Rows.encBytesSpec) :=
  OpenClaim.holds_of_wide 5 Try.f5 rfl rfl rfl rfl rfl rfl rfl ⟨rfl, rfl, rfl, rfl, rfl⟩ rfl rfl rfl rfl rfl (by kernel_rfl) Try.func5 (by kernel_rfl)
    (of_decide_eq_true (by kernel_rfl)) (by unfold Func.isWrapper; rw [if_neg (of_decide_eq_false (by kernel_rfl))]; exact ⟨rfl, rfl⟩)
    (fun os started H enc _ => lifted os started H enc)

/-- The statement. -/
theorem proved : Rows.EncBytesSaid := over

#print axioms proved
end Go.Proofs.Ytjimkkkiilcpoaa.EncBytes
