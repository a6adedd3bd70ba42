/- What enc.words, enc.Put and the reference's Put answer: a new slice of a capability's bytes. -/
import Derived.Test.YtjimkkkiilcpoaaCap
import Derived.Test.YtjimkkkiilcpoaaLib
import Derived.Deep.LoopGhost
import Derived.Deep.RegionHeld3
import Derived.Deep.DeepCutAuto
import Derived.Outline
set_option linter.unusedVariables false
set_option linter.unusedSimpArgs false
namespace Go.Proofs.Ytjimkkkiilcpoaa
open Go.RowKit

def u8s (xs : List Int) : List Value := xs.map (Value.int .u8)
def bytes4 (n : Int) : List Int := [n / 16777216 % 256, n / 65536 % 256, n / 256 % 256, n % 256]
theorem u8s_append (xs ys : List Int) : u8s (xs ++ ys) = u8s xs ++ u8s ys := by simp [u8s]

theorem infoU8 : (Try.prog.info? 5).map (fun i => (i.zero, i.size, i.bytes)) = some (some (.int .u8 0), 1, 1) := by kernel_rfl

/-- The first k words' bytes. -/
def bytesTo (x0 x1 x2 : Int) : Nat → List Int
  | 0 => []
  | 1 => bytes4 x0
  | 2 => bytes4 x0 ++ bytes4 x1
  | _ => bytes4 x0 ++ bytes4 x1 ++ bytes4 x2

set_option maxRecDepth 100000 in
set_option maxHeartbeats 800000 in
theorem words_three (g : Nat) (x0 x1 x2 : Int) (w : World) (hg : g < w.heap.size)
    (h0 : w.cell? ⟨g, 0, none⟩ = some (.int .i64 x0)) (h1 : w.cell? ⟨g, 1, none⟩ = some (.int .i64 x1)) (h2 : w.cell? ⟨g, 2, none⟩ = some (.int .i64 x2)) :
    Calls Try.prog 93 #[.slice (some ⟨g, 0, none⟩) 3 3] w fun e w' => ∃ v, e = .returned v ∧ w'.ownsRow w.heap.size 5 1 v 12 (u8s (bytesTo x0 x1 x2 3)) ∧ Below w.heap.size w w' := by
  obtain ⟨i0, hi, hz0, hz1, hz2⟩ := info_parts infoU8
  go_enter Try.func93, Try.ntmps93
  go_wp2
  go_loopg [3, 8] 3 (fun k v i wr => ∃ j : Nat, j + k = 3 ∧ i = .int .i64 j ∧ wr.ownsRow w.heap.size 5 1 v (4 * j) (u8s (bytesTo x0 x1 x2 j)) ∧ Below w.heap.size w wr)
  case atStart => exact ⟨0, rfl, rfl, World.ownsRow_nil _ _ _ _, Below.refl _ _⟩
  case round =>
    obtain ⟨j, hj, rfl, hown, hb⟩ := hrel
    have c0 : wr.cell? ⟨g, 0, none⟩ = some (.int .i64 x0) := (hb.cell (p := ⟨g, 0, none⟩) hg).trans h0
    have c1 : wr.cell? ⟨g, 1, none⟩ = some (.int .i64 x1) := (hb.cell (p := ⟨g, 1, none⟩) hg).trans h1
    have c2 : wr.cell? ⟨g, 2, none⟩ = some (.int .i64 x2) := (hb.cell (p := ⟨g, 2, none⟩) hg).trans h2
    have Hj : Hid (j + gk = 3) := hj
    have Hb : Hid (Below w.heap.size w wr) := hb
    have Hsz : w.heap.size ≤ wr.heap.size := hb.size
    clear hj hb h0 h1 h2
    have hj4 : j = 0 ∨ j = 1 ∨ j = 2 ∨ j = 3 := by have := Hj.out; omega
    rcases hj4 with rfl | rfl | rfl | rfl
    · go_wp2_with (first
        | (at_builtin; refine app (w0 := w) (W := wr.alloc _) w.heap.size rfl _ _ 24 5 (.int .u8 0) 1 1 rfl Try.underlying24 infoU8 rfl (by decide) (by decide) _ _ _ (u8s (bytes4 x0)) (some ⟨wr.heap.size, 0, none⟩) 4 4 rfl rfl rfl (by intro u hu; simp [u8s, bytes4] at hu; rcases hu with rfl | rfl | rfl | rfl <;> rfl) (hown.alloc _) (RdL.new wr _ _) (Hb.out.alloc Hsz _) (by first | omega | (simp only [World.size_alloc, World.size_drew, World.size_setCell]; omega) | (simp; done) | (simp; omega)) (by decide) ?_; intro v1 w1 hown1 hb1 _))
      go_roundg 2
      case measure => have := Hj.out; omega
      case rel => exact ⟨1, rfl, by go_num, by rw [← u8s_append] at hown1; exact hown1, hb1⟩
    · go_wp2_with (first
        | (at_builtin; refine app (w0 := w) (W := wr.alloc _) w.heap.size rfl _ _ 24 5 (.int .u8 0) 1 1 rfl Try.underlying24 infoU8 rfl (by decide) (by decide) _ _ _ (u8s (bytes4 x1)) (some ⟨wr.heap.size, 0, none⟩) 4 4 rfl rfl rfl (by intro u hu; simp [u8s, bytes4] at hu; rcases hu with rfl | rfl | rfl | rfl <;> rfl) (hown.alloc _) (RdL.new wr _ _) (Hb.out.alloc Hsz _) (by first | omega | (simp only [World.size_alloc, World.size_drew, World.size_setCell]; omega) | (simp; done) | (simp; omega)) (by decide) ?_; intro v1 w1 hown1 hb1 _))
      go_roundg 1
      case measure => have := Hj.out; omega
      case rel => exact ⟨2, rfl, by go_num, by rw [← u8s_append] at hown1; exact hown1, hb1⟩
    · go_wp2_with (first
        | (at_builtin; refine app (w0 := w) (W := wr.alloc _) w.heap.size rfl _ _ 24 5 (.int .u8 0) 1 1 rfl Try.underlying24 infoU8 rfl (by decide) (by decide) _ _ _ (u8s (bytes4 x2)) (some ⟨wr.heap.size, 0, none⟩) 4 4 rfl rfl rfl (by intro u hu; simp [u8s, bytes4] at hu; rcases hu with rfl | rfl | rfl | rfl <;> rfl) (hown.alloc _) (RdL.new wr _ _) (Hb.out.alloc Hsz _) (by first | omega | (simp only [World.size_alloc, World.size_drew, World.size_setCell]; omega) | (simp; done) | (simp; omega)) (by decide) ?_; intro v1 w1 hown1 hb1 _))
      go_roundg 0
      case measure => have := Hj.out; omega
      case rel => exact ⟨3, rfl, by go_num, by rw [← u8s_append] at hown1; exact hown1, hb1⟩
    · go_wp2
      go_ret
      exact ⟨_, rfl, hown, Hb.out⟩

def putBytes (b p a q y : Int) : List Int := bytes4 a ++ bytes4 b ++ bytes4 p ++ [0, q, 0, y]

theorem wrap_u8_small {q : Int} (h0 : 0 ≤ q) (h1 : q ≤ 127) : IntKind.u8.wrap q = q := by rw [IntKind.wrap_u8]; omega
theorem wrap_u8_small' {q : Int} (h0 : 0 ≤ q) (h1 : q ≤ 255) : IntKind.u8.wrap q = q := by rw [IntKind.wrap_u8]; omega
theorem right_small {t : Bool} {b p a q y : Int} (h : rightB t b p a q y = true) : 0 ≤ q ∧ q ≤ 127 ∧ 0 ≤ y ∧ y ≤ 255 := by
  simp only [rightB, decide_eq_true_eq] at h
  omega

set_option maxRecDepth 100000 in
set_option maxHeartbeats 1600000 in
theorem put_any (t : Bool) (b p a q y : Int) (w : World) (hq : inI q) (hr : rightB t b p a q y = true) :
    Calls Try.prog 26 #[.agg #[.bool (t), .int .i64 (b), .int .i64 (p), .int .i64 (a), .int .i64 (q), .int .i64 (y)]] w fun e w' => ∃ v, e = .returned v ∧ w'.ownsRow w.heap.size 5 1 v 16 (u8s (putBytes b p a q y)) ∧ Below w.heap.size w w' := by
  have HR := Lib.hid hr
  clear hr
  go_enter Try.func26, Try.ntmps26
  go_wp2_with fail
  refine (cap_right t b p a q y _ hq).mono ?_
  rintro e w1 ⟨rfl, hb1⟩
  rw [HR.out]
  have K1 := (Blk.new w #[.bool (t), .int .i64 (b), .int .i64 (p), .int .i64 (a), .int .i64 (q), .int .i64 (y)] 23).below hb1 (by simp)
  have hB1 := below_then ((Below.refl _ _).alloc (Nat.le_refl _) _) (by simp) hb1
  have L := K1.cell
  clear hb1
  go_wp2_with fail
  have hlt := K1.lt
  obtain ⟨hq0, hq1, hy0, hy1⟩ := right_small HR.out
  go_region_held3 (fun w' => w'.cell? ⟨w.heap.size, 1, none⟩ = some (.int .i64 b) ∧ w'.cell? ⟨w.heap.size, 2, none⟩ = some (.int .i64 p) ∧ w'.cell? ⟨w.heap.size, 3, none⟩ = some (.int .i64 a) ∧ w'.cell? ⟨w.heap.size, 4, none⟩ = some (.int .i64 q) ∧ w'.cell? ⟨w.heap.size, 5, none⟩ = some (.int .i64 y))
    (go_keep)
    (first
      | (go_at_call 93; refine (words_three _ a b p _ (by first | omega | (simp only [World.size_alloc, World.size_drew, World.size_setCell]; omega) | (simp; done) | (simp; omega)) (by simp) (by simp) (by simp)).mono ?_; rintro e w2 ⟨v2, rfl, hown2, hb2⟩; have L2 := (K1.on (by go_grown) hb2).cell; have hown2 := own_mono hown2 (base' := w1.heap.size) (by first | omega | (simp only [World.size_alloc, World.size_drew, World.size_setCell]; omega) | (simp; done) | (simp; omega)); have hB2 : Below w1.heap.size w1 w2 := below_then (by go_grown) (by first | omega | (simp only [World.size_alloc, World.size_drew, World.size_setCell]; omega) | (simp; done) | (simp; omega)) hb2; have hs2 := hb2.size; simp only [World.size_alloc, World.size_drew] at hs2)
      | (refine app_step (w0 := w1) w1.heap.size rfl _ _ 24 5 (.int .u8 0) 1 1 rfl Try.underlying24 infoU8 rfl (by decide) (by decide) _ 12 (u8s (bytesTo a b p 3)) (u8s [0, IntKind.u8.wrap q, 0, IntKind.u8.wrap y]) (some _) 4 4 rfl rfl rfl (by intro u hu; simp [u8s] at hu; rcases hu with rfl | rfl | rfl | rfl <;> rfl)
          (by first | exact hown2 | exact own_below hown2 (by go_grown))
          (by first
            | exact RdL.new _ _ 5
            | exact rd_on (W := w1.alloc (.cells #[.int .i64 a, .int .i64 b, .int .i64 p] 3)) (cs := #[.int .u8 0, .int .u8 (IntKind.u8.wrap q), .int .u8 0, .int .u8 (IntKind.u8.wrap y)]) (e := 5) (by go_grown) hb2 (by first | omega | (simp only [World.size_alloc, World.size_drew, World.size_setCell]; omega) | (simp; done) | (simp; omega)) rfl
            | exact rd_on (W := w1) (cs := #[.int .u8 0, .int .u8 (IntKind.u8.wrap q), .int .u8 0, .int .u8 (IntKind.u8.wrap y)]) (e := 5) (by go_grown) hb2 rfl rfl)
          (by first | exact hB2 | exact hB2.alloc (by omega) _) (by first | omega | (simp; omega)) (by decide) ?_; intro v3 w3 hown3 hb3 hg3; have L3 := (K1.below hb3 hlt).cell))
  all_goals (
    go_wp2
    go_ret
    refine ⟨_, rfl, ?_, below_then hB1 (Nat.le_of_lt hlt) (hb3.mono (Nat.le_refl _))⟩
    have := own_mono hown3 (Nat.le_of_lt hlt)
    rw [← u8s_append] at this
    rw [wrap_u8_small hq0 hq1, wrap_u8_small' hy0 hy1] at this
    exact this)

set_option maxRecDepth 100000 in
set_option maxHeartbeats 800000 in
theorem put_none (t : Bool) (b p a q y : Int) (w : World) (hq : inI q) (hr : rightB t b p a q y = false) :
    Calls Try.prog 26 #[.agg #[.bool (t), .int .i64 (b), .int .i64 (p), .int .i64 (a), .int .i64 (q), .int .i64 (y)]] w fun e w' => e = .returned (.slice none 0 0) ∧ Below w.heap.size w w' := by
  have HR := Lib.hid hr
  clear hr
  go_enter Try.func26, Try.ntmps26
  go_wp2_with fail
  refine (cap_right t b p a q y _ hq).mono ?_
  rintro e w1 ⟨rfl, hb1⟩
  rw [HR.out]
  have hB1 := below_then ((Below.refl _ _).alloc (Nat.le_refl _) _) (by simp) hb1
  go_wp2
  go_ret
  exact ⟨rfl, hB1⟩

set_option maxRecDepth 100000 in
set_option maxHeartbeats 800000 in
/-- The reference's four: four bytes more. -/
theorem four_any (base : Nat) (v : Value) (n : Nat) (xs : List Int) (x : Int) (w0 w : World) (ho : w.ownsRow base 5 1 v n (u8s xs)) (hb : Below base w0 w) (hbase : base ≤ w.heap.size) (hn : n ≤ 1000) :
    Calls Try.prog 94 #[v, .int .i64 x] w fun e w' => ∃ v', e = .returned v' ∧ w'.ownsRow base 5 1 v' (n + 4) (u8s (xs ++ bytes4 x)) ∧ Below base w0 w' := by
  obtain ⟨A, c, rfl⟩ := own_form ho
  go_enter Try.func94, Try.ntmps94
  go_wp2_with (first
        | (at_builtin; refine app (w0 := w0) (W := w.alloc _) base rfl _ _ 24 5 (.int .u8 0) 1 1 rfl Try.underlying24 infoU8 rfl (by decide) (by decide) _ _ _ (u8s (bytes4 x)) (some ⟨w.heap.size, 0, none⟩) 4 4 rfl rfl rfl (by intro u hu; simp [u8s, bytes4] at hu; rcases hu with rfl | rfl | rfl | rfl <;> rfl) (ho.alloc _) (RdL.new w _ _) (hb.alloc hbase _) (by first | omega | (simp only [World.size_alloc, World.size_drew, World.size_setCell]; omega) | (simp; done) | (simp; omega)) (by omega) ?_; intro v1 w1 hown1 hb1 _))
  go_ret
  exact ⟨_, rfl, by rw [u8s_append]; exact hown1, hb1⟩

set_option maxRecDepth 100000 in
set_option maxHeartbeats 800000 in
theorem ref_put_any (t : Bool) (b p a q y : Int) (w : World) (hr : rightB t b p a q y = true) :
    Calls Try.prog 27 #[.agg #[.bool (t), .int .i64 (b), .int .i64 (p), .int .i64 (a), .int .i64 (q), .int .i64 (y)]] w fun e w' => ∃ v, e = .returned v ∧ w'.ownsRow w.heap.size 5 1 v 16 (u8s (putBytes b p a q y)) ∧ Below w.heap.size w w' := by
  have HR := Lib.hid hr
  clear hr
  go_enter Try.func27, Try.ntmps27
  go_wp2_with fail
  refine (ref_right t b p a q y _).mono ?_
  rintro e w1 ⟨rfl, hb1⟩
  rw [HR.out]
  have K1 := (Blk.new w #[.bool (t), .int .i64 (b), .int .i64 (p), .int .i64 (a), .int .i64 (q), .int .i64 (y)] 23).below hb1 (by simp)
  have hB1 := below_then ((Below.refl _ _).alloc (Nat.le_refl _) _) (by simp) hb1
  have L := K1.cell
  have hlt := K1.lt
  obtain ⟨hq0, hq1, hy0, hy1⟩ := right_small HR.out
  clear hb1
  go_wp2_with fail
  go_region_held3 (fun w' => w'.cell? ⟨w.heap.size, 1, none⟩ = some (.int .i64 b) ∧ w'.cell? ⟨w.heap.size, 2, none⟩ = some (.int .i64 p) ∧ w'.cell? ⟨w.heap.size, 3, none⟩ = some (.int .i64 a))
    (go_keep)
    (first
      | (go_at_call 94; refine (four_any w1.heap.size _ 8 (bytes4 a ++ bytes4 b) p w1 _ o3 b3 b3.size (by omega)).mono ?_; rintro e w4 ⟨v4, rfl, o4, b4⟩; have L4 := (K1.below b4 hlt).cell)
      | (go_at_call 94; refine (four_any w1.heap.size _ 4 (bytes4 a) b w1 _ o2 b2 b2.size (by omega)).mono ?_; rintro e w3 ⟨v3, rfl, o3, b3⟩; have L3 := (K1.below b3 hlt).cell)
      | (go_at_call 94; refine (four_any w1.heap.size _ 0 [] a w1 _ (World.ownsRow_nil _ _ _ _) (by go_grown) (by first | omega | (simp only [World.size_alloc, World.size_drew, World.size_setCell]; omega) | (simp; done) | (simp; omega)) (by omega)).mono ?_; rintro e w2 ⟨v2, rfl, o2, b2⟩; have L2 := (K1.below b2 hlt).cell))
  have ⟨A4, c4, hv4⟩ := own_form o4
  subst hv4
  have s4 := b4.size
  clear L L2 L3 K1 o2 o3 b2 b3
  go_wp2_with (first
        | (at_builtin; refine app (w0 := w1) (W := w4.alloc _) w1.heap.size rfl _ _ 24 5 (.int .u8 0) 1 1 rfl Try.underlying24 infoU8 rfl (by decide) (by decide) _ _ _ (u8s [0, q, 0, y]) (some ⟨w4.heap.size, 0, none⟩) 4 4 rfl rfl rfl (by intro u hu; simp [u8s] at hu; rcases hu with rfl | rfl | rfl | rfl <;> rfl) (o4.alloc _) (RdL.new w4 _ _) (b4.alloc b4.size _) (by first | omega | (simp only [World.size_alloc, World.size_drew, World.size_setCell]; omega) | (simp; done) | (simp; omega)) (by omega) ?_; intro v5 w5 o5 b5 _))
  go_ret
  refine ⟨_, rfl, ?_, below_then hB1 (Nat.le_of_lt hlt) b5⟩
  have := own_mono o5 (Nat.le_of_lt hlt)
  rw [← u8s_append] at this
  exact this

set_option maxRecDepth 100000 in
set_option maxHeartbeats 800000 in
theorem ref_put_none (t : Bool) (b p a q y : Int) (w : World) (hr : rightB t b p a q y = false) :
    Calls Try.prog 27 #[.agg #[.bool (t), .int .i64 (b), .int .i64 (p), .int .i64 (a), .int .i64 (q), .int .i64 (y)]] w fun e w' => e = .returned (.slice none 0 0) ∧ Below w.heap.size w w' := by
  have HR := Lib.hid hr
  clear hr
  go_enter Try.func27, Try.ntmps27
  go_wp2_with fail
  refine (ref_right t b p a q y _).mono ?_
  rintro e w1 ⟨rfl, hb1⟩
  rw [HR.out]
  have hB1 := below_then ((Below.refl _ _).alloc (Nat.le_refl _) _) (by simp) hb1
  go_wp2
  go_ret
  exact ⟨rfl, hB1⟩
end Go.Proofs.Ytjimkkkiilcpoaa
