/- What enc.Get answers: the capability of sixteen bytes. -/
import Derived.Test.YtjimkkkiilcpoaaEncB
import Derived.Test.YtjimkkkiilcpoaaFlow
import Derived.WalkSpells
set_option linter.unusedVariables false
set_option linter.unusedSimpArgs false
namespace Go.Proofs.Ytjimkkkiilcpoaa
open Go.RowKit

def low7 (q : Int) : Int := q % 128
def tagB (tag : Bool) (g : Nat → Int) : Bool :=
  tag && decide (g 12 = 0 ∧ g 14 = 0 ∧ g 13 ≤ 127) && rightB true (word4 g 4) (word4 g 8) (word4 g 0) (low7 (g 13)) (g 15)

set_option maxRecDepth 100000 in
set_option maxHeartbeats 800000 in
theorem get_none (A : Option Addr) (n c : Nat) (tag : Bool) (w : World) (hn : n ≠ 16) :
    Calls Try.prog 24 #[.slice A n c, .bool tag] w fun e w' => e = .returned (.tuple #[.agg #[.bool (false), .int .i64 (0), .int .i64 (0), .int .i64 (0), .int .i64 (0), .int .i64 (0)], .bool false]) ∧ Below w.heap.size w w' := by
  have h : ((n : Int) != 16) = true := by simp; omega
  clear hn
  go_enter Try.func24, Try.ntmps24
  go_wp2
  go_returns
  exact ⟨rfl, (by (repeat (first | exact Below.refl _ _ | refine below_drewN ?_ _ | refine Below.drew ?_ | refine Below.alloc ?_ (by first | omega | (simp only [World.size_alloc, World.size_drew, World.size_setCell]; omega) | (simp; done) | (simp; omega)) _ | assumption)))⟩

set_option maxRecDepth 100000 in
set_option maxHeartbeats 3200000 in
theorem get_any (b o c : Nat) (g : Nat → Int) (hg : ∀ j, 0 ≤ g j ∧ g j ≤ 255) (tag : Bool) (w : World)
    (hc : ∀ j, j < 16 → w.cell? ⟨b, o + j, none⟩ = some (.int .u8 (g j))) :
    Calls Try.prog 24 #[.slice (some ⟨b, o, none⟩) 16 c, .bool tag] w fun e w' => e = .returned (.tuple #[.agg #[.bool (tagB tag g), .int .i64 (word4 g 4), .int .i64 (word4 g 8), .int .i64 (word4 g 0), .int .i64 (low7 (g 13)), .int .i64 (g 15)], .bool true]) ∧ Below w.heap.size w w' := by
  have hat := fun w => run_arrayAt (P := Try.prog) Try.underlying94 ⟨b, o, none⟩ c w
  have c0 := hc 0 (by omega)
  have c1 := hc 1 (by omega)
  have c2 := hc 2 (by omega)
  have c3 := hc 3 (by omega)
  have c4 := hc 4 (by omega)
  have c5 := hc 5 (by omega)
  have c6 := hc 6 (by omega)
  have c7 := hc 7 (by omega)
  have c8 := hc 8 (by omega)
  have c9 := hc 9 (by omega)
  have c10 := hc 10 (by omega)
  have c11 := hc 11 (by omega)
  have c12 := hc 12 (by omega)
  have c13 := hc 13 (by omega)
  have c14 := hc 14 (by omega)
  have c15 := hc 15 (by omega)
  clear hc
  rw [Nat.add_zero] at c0
  have hb : b < w.heap.size := World.block_lt_of_cell? w _ c0
  go_enter Try.func24, Try.ntmps24
  go_wp2_with fail
  obtain ⟨W, hW⟩ : ∃ W : World, W = (w.alloc (.cells #[.bool (false), .int .i64 (0), .int .i64 (0), .int .i64 (0), .int .i64 (0), .int .i64 (0)] 23)).alloc (.cells #[.int .u8 (g 0), .int .u8 (g 1), .int .u8 (g 2), .int .u8 (g 3), .int .u8 (g 4), .int .u8 (g 5), .int .u8 (g 6), .int .u8 (g 7), .int .u8 (g 8), .int .u8 (g 9), .int .u8 (g 10), .int .u8 (g 11), .int .u8 (g 12), .int .u8 (g 13), .int .u8 (g 14), .int .u8 (g 15)] 94) := ⟨_, rfl⟩
  rw [← hW]
  have HB : Below w.heap.size w W := by rw [hW]; go_grown
  have B4 : Blk W w.heap.size #[.bool (false), .int .i64 (0), .int .i64 (0), .int .i64 (0), .int .i64 (0), .int .i64 (0)] 23 := by rw [hW]; exact (Blk.new _ _ _).alloc _
  have B6 : Blk W (w.heap.size + 1) #[.int .u8 (g 0), .int .u8 (g 1), .int .u8 (g 2), .int .u8 (g 3), .int .u8 (g 4), .int .u8 (g 5), .int .u8 (g 6), .int .u8 (g 7), .int .u8 (g 8), .int .u8 (g 9), .int .u8 (g 10), .int .u8 (g 11), .int .u8 (g 12), .int .u8 (g 13), .int .u8 (g 14), .int .u8 (g 15)] 94 := by rw [hW]; have := Blk.new (w.alloc (.cells #[.bool (false), .int .i64 (0), .int .i64 (0), .int .i64 (0), .int .i64 (0), .int .i64 (0)] 23)) #[.int .u8 (g 0), .int .u8 (g 1), .int .u8 (g 2), .int .u8 (g 3), .int .u8 (g 4), .int .u8 (g 5), .int .u8 (g 6), .int .u8 (g 7), .int .u8 (g 8), .int .u8 (g 9), .int .u8 (g 10), .int .u8 (g 11), .int .u8 (g 12), .int .u8 (g 13), .int .u8 (g 14), .int .u8 (g 15)] 94; rwa [World.size_alloc] at this
  clear hW c0 c1 c2 c3 c4 c5 c6 c7 c8 c9 c10 c11 c12 c13 c14 c15 hat
  obtain ⟨hg13, hg13'⟩ := hg 13
  obtain ⟨hg15, hg15'⟩ := hg 15
  have hlt := B6.lt
  have L := B6.cell
  refine wp_flow_lit 15 (fun w' => Blk w' (w.heap.size + 1) #[.int .u8 (g 0), .int .u8 (g 1), .int .u8 (g 2), .int .u8 (g 3), .int .u8 (g 4), .int .u8 (g 5), .int .u8 (g 6), .int .u8 (g 7), .int .u8 (g 8), .int .u8 (g 9), .int .u8 (g 10), .int .u8 (g 11), .int .u8 (g 12), .int .u8 (g 13), .int .u8 (g 14), .int .u8 (g 15)] 94)
    [none, none, none, none, none, none, none, none, none, none, none, none, none, none, some (fun v w' => ∃ b7 : Nat, v = .pointer (some ⟨b7, 0, none⟩) ∧ w.heap.size + 1 < b7 ∧ Blk w' b7 #[.bool (false), .int .i64 (0), .int .i64 (0), .int .i64 (0), .int .i64 (0), .int .i64 (0)] 23)] (by kernel_rfl) (by kernel_rfl) B6 (fun w1 w2 h hb => h.below hb h.lt) ⟨fun v w1 w2 ⟨b7, h1, h2, h3⟩ hb => ⟨b7, h1, h2, h3.below hb h3.lt⟩, trivial⟩ ?_
  have hu := Try.underlying94
  have hi : (Try.prog.info? 94).map (·.size) = some (#[.int .u8 (g 0), .int .u8 (g 1), .int .u8 (g 2), .int .u8 (g 3), .int .u8 (g 4), .int .u8 (g 5), .int .u8 (g 6), .int .u8 (g 7), .int .u8 (g 8), .int .u8 (g 9), .int .u8 (g 10), .int .u8 (g 11), .int .u8 (g 12), .int .u8 (g 13), .int .u8 (g 14), .int .u8 (g 15)] : Array Value).toList.length := by kernel_rfl
  try simp (config := { maxSteps := 10000000 }) only [specV, addF, Act.put, List.setIfInBounds_toArray, List.set_cons_zero, List.set_cons_succ, List.take_succ_cons, List.take_zero, List.drop_succ_cons, List.drop_zero]
  (apply Exists.intro; refine ⟨fun vs w1 hS hB hf => ?_, ?_⟩; (focus (exact opOk_load rfl rfl rfl (run_loadAt_mid w1 (w.heap.size + 1) 0 94 _ _ hS.range hu rfl hi))); try simp (config := { maxSteps := 10000000 }) only [specV, addF, Act.put, List.setIfInBounds_toArray, List.set_cons_zero, List.set_cons_succ, List.take_succ_cons, List.take_zero, List.drop_succ_cons, List.drop_zero])
  (apply Exists.intro; refine ⟨fun vs w1 hS hB hf => ?_, ?_⟩; (focus (go_simp; exact (word_0 g hg w1).mono fun e w2 ⟨he, hb⟩ => callPost.of he hb rfl)); try simp (config := { maxSteps := 10000000 }) only [specV, addF, Act.put, List.setIfInBounds_toArray, List.set_cons_zero, List.set_cons_succ, List.take_succ_cons, List.take_zero, List.drop_succ_cons, List.drop_zero])
  (apply Exists.intro; refine ⟨fun vs w1 hS hB hf => ?_, ?_⟩; (focus (exact opOk_load rfl rfl rfl (run_loadAt_mid w1 (w.heap.size + 1) 0 94 _ _ hS.range hu rfl hi))); try simp (config := { maxSteps := 10000000 }) only [specV, addF, Act.put, List.setIfInBounds_toArray, List.set_cons_zero, List.set_cons_succ, List.take_succ_cons, List.take_zero, List.drop_succ_cons, List.drop_zero])
  (apply Exists.intro; refine ⟨fun vs w1 hS hB hf => ?_, ?_⟩; (focus (go_simp; exact (word_4 g hg w1).mono fun e w2 ⟨he, hb⟩ => callPost.of he hb rfl)); try simp (config := { maxSteps := 10000000 }) only [specV, addF, Act.put, List.setIfInBounds_toArray, List.set_cons_zero, List.set_cons_succ, List.take_succ_cons, List.take_zero, List.drop_succ_cons, List.drop_zero])
  (apply Exists.intro; refine ⟨fun vs w1 hS hB hf => ?_, ?_⟩; (focus (exact opOk_load rfl rfl rfl (run_loadAt_mid w1 (w.heap.size + 1) 0 94 _ _ hS.range hu rfl hi))); try simp (config := { maxSteps := 10000000 }) only [specV, addF, Act.put, List.setIfInBounds_toArray, List.set_cons_zero, List.set_cons_succ, List.take_succ_cons, List.take_zero, List.drop_succ_cons, List.drop_zero])
  (apply Exists.intro; refine ⟨fun vs w1 hS hB hf => ?_, ?_⟩; (focus (go_simp; exact (word_8 g hg w1).mono fun e w2 ⟨he, hb⟩ => callPost.of he hb rfl)); try simp (config := { maxSteps := 10000000 }) only [specV, addF, Act.put, List.setIfInBounds_toArray, List.set_cons_zero, List.set_cons_succ, List.take_succ_cons, List.take_zero, List.drop_succ_cons, List.drop_zero])
  (apply Exists.intro; refine ⟨fun vs w1 hS hB hf => ?_, ?_⟩; (focus (have L1 := hS.cell; clear hS hB hf; go_simp; first | exact ⟨Below.refl _ _, rfl⟩ | exact rfl)); try simp (config := { maxSteps := 10000000 }) only [specV, addF, Act.put, List.setIfInBounds_toArray, List.set_cons_zero, List.set_cons_succ, List.take_succ_cons, List.take_zero, List.drop_succ_cons, List.drop_zero])
  (apply Exists.intro; refine ⟨fun vs w1 hS hB hf => ?_, ?_⟩; (focus (have L1 := hS.cell; clear hS hB hf; go_simp; first | exact ⟨Below.refl _ _, rfl⟩ | exact rfl)); try simp (config := { maxSteps := 10000000 }) only [specV, addF, Act.put, List.setIfInBounds_toArray, List.set_cons_zero, List.set_cons_succ, List.take_succ_cons, List.take_zero, List.drop_succ_cons, List.drop_zero])
  (apply Exists.intro; refine ⟨fun vs w1 hS hB hf => ?_, ?_⟩; (focus (have L1 := hS.cell; clear hS hB hf; go_simp; first | exact ⟨Below.refl _ _, rfl⟩ | exact rfl)); try simp (config := { maxSteps := 10000000 }) only [specV, addF, Act.put, List.setIfInBounds_toArray, List.set_cons_zero, List.set_cons_succ, List.take_succ_cons, List.take_zero, List.drop_succ_cons, List.drop_zero])
  (apply Exists.intro; refine ⟨fun vs w1 hS hB hf => ?_, ?_⟩; (focus (have L1 := hS.cell; clear hS hB hf; go_simp; first | exact ⟨Below.refl _ _, rfl⟩ | exact rfl)); try simp (config := { maxSteps := 10000000 }) only [specV, addF, Act.put, List.setIfInBounds_toArray, List.set_cons_zero, List.set_cons_succ, List.take_succ_cons, List.take_zero, List.drop_succ_cons, List.drop_zero])
  (apply Exists.intro; refine ⟨fun vs w1 hS hB hf => ?_, ?_⟩; (focus (have L1 := hS.cell; clear hS hB hf; go_simp; first | exact ⟨Below.refl _ _, rfl⟩ | exact rfl)); try simp (config := { maxSteps := 10000000 }) only [specV, addF, Act.put, List.setIfInBounds_toArray, List.set_cons_zero, List.set_cons_succ, List.take_succ_cons, List.take_zero, List.drop_succ_cons, List.drop_zero])
  (apply Exists.intro; refine ⟨fun vs w1 hS hB hf => ?_, ?_⟩; (focus (have L1 := hS.cell; clear hS hB hf; go_simp; first | exact ⟨Below.refl _ _, rfl⟩ | exact rfl)); try simp (config := { maxSteps := 10000000 }) only [specV, addF, Act.put, List.setIfInBounds_toArray, List.set_cons_zero, List.set_cons_succ, List.take_succ_cons, List.take_zero, List.drop_succ_cons, List.drop_zero])
  (apply Exists.intro; refine ⟨fun vs w1 hS hB hf => ?_, ?_⟩; (focus (have L1 := hS.cell; clear hS hB hf; go_simp; first | exact ⟨Below.refl _ _, rfl⟩ | exact rfl)); try simp (config := { maxSteps := 10000000 }) only [specV, addF, Act.put, List.setIfInBounds_toArray, List.set_cons_zero, List.set_cons_succ, List.take_succ_cons, List.take_zero, List.drop_succ_cons, List.drop_zero])
  (apply Exists.intro; refine ⟨fun vs w1 hS hB hf => ?_, ?_⟩; (focus (have L1 := hS.cell; clear hS hB hf; go_simp; first | exact ⟨Below.refl _ _, rfl⟩ | exact rfl)); try simp (config := { maxSteps := 10000000 }) only [specV, addF, Act.put, List.setIfInBounds_toArray, List.set_cons_zero, List.set_cons_succ, List.take_succ_cons, List.take_zero, List.drop_succ_cons, List.drop_zero])
  (refine ⟨fun vs w1 hS hB hf => ?_, ?_⟩; (focus (go_simp; exact ⟨(Below.refl _ _).alloc (Nat.le_refl _) _, w1.heap.size, rfl, hS.lt, Blk.new _ _ _⟩)); try simp (config := { maxSteps := 10000000 }) only [specV, addF, Act.put, List.setIfInBounds_toArray, List.set_cons_zero, List.set_cons_succ, List.take_succ_cons, List.take_zero, List.drop_succ_cons, List.drop_zero])
  intro vs w5 hS hB hF
  obtain ⟨⟨b7, hv, hlt7, B7⟩, _⟩ := hF
  dsimp only
  rw [hv]
  have B45 : Blk w5 w.heap.size #[.bool (false), .int .i64 (0), .int .i64 (0), .int .i64 (0), .int .i64 (0), .int .i64 (0)] 23 := B4.below hB (by omega)
  have HB5 : Below w.heap.size w w5 := below_then HB (by omega) hB
  clear L HB B4 B6 hB hb hu hi
  have L7 := B7.cell
  have Z7 := B7.frozen
  go_upto_region 5 with fail
  refine wp_gen (fun w' => Blk w' b7 #[.bool (false), .int .i64 (word4 g 4), .int .i64 (word4 g 8), .int .i64 (word4 g 0), .int .i64 (low7 (g 13)), .int .i64 (g 15)] 23 ∧ Blk w' (w.heap.size + 1) #[.int .u8 (g 0), .int .u8 (g 1), .int .u8 (g 2), .int .u8 (g 3), .int .u8 (g 4), .int .u8 (g 5), .int .u8 (g 6), .int .u8 (g 7), .int .u8 (g 8), .int .u8 (g 9), .int .u8 (g 10), .int .u8 (g 11), .int .u8 (g 12), .int .u8 (g 13), .int .u8 (g 14), .int .u8 (g 15)] 94 ∧ Blk w' w.heap.size #[.bool (false), .int .i64 (0), .int .i64 (0), .int .i64 (0), .int .i64 (0), .int .i64 (0)] 23 ∧ Below w.heap.size w w') ?_ ?_
  · have e13 : bits .and .i64 (g 13) 127 = low7 (g 13) := i64_and127 (g 13)
    rw [e13]
    exact ⟨((((((B7.set 0 _).set 1 _).set 2 _).set 3 _).set 4 _).set 5 _), ((((((hS.set_other (by omega) 0 _).set_other (by omega) 1 _).set_other (by omega) 2 _).set_other (by omega) 3 _).set_other (by omega) 4 _).set_other (by omega) 5 _),
      ((((((B45.set_other (by omega) 0 _).set_other (by omega) 1 _).set_other (by omega) 2 _).set_other (by omega) 3 _).set_other (by omega) 4 _).set_other (by omega) 5 _),
      ((((((HB5.setCell (by simp; omega) _).setCell (by simp; omega) _).setCell (by simp; omega) _).setCell (by simp; omega) _).setCell (by simp; omega) _).setCell (by simp; omega) _)⟩
  clear B7 L7 Z7 B45 HB5 hS hv
  rintro w6 ⟨D7, D6, D4, HB6⟩
  have hq : inI (low7 (g 13)) := by unfold inI low7; omega
  have M7 := D7.cell
  have N7 := D7.frozen
  go_upto_region 6 with fail
  refine wp_gen (fun w' => Blk w' b7 #[.bool (true), .int .i64 (word4 g 4), .int .i64 (word4 g 8), .int .i64 (word4 g 0), .int .i64 (low7 (g 13)), .int .i64 (g 15)] 23 ∧ Blk w' (w.heap.size + 1) #[.int .u8 (g 0), .int .u8 (g 1), .int .u8 (g 2), .int .u8 (g 3), .int .u8 (g 4), .int .u8 (g 5), .int .u8 (g 6), .int .u8 (g 7), .int .u8 (g 8), .int .u8 (g 9), .int .u8 (g 10), .int .u8 (g 11), .int .u8 (g 12), .int .u8 (g 13), .int .u8 (g 14), .int .u8 (g 15)] 94 ∧ Blk w' w.heap.size #[.bool (false), .int .i64 (0), .int .i64 (0), .int .i64 (0), .int .i64 (0), .int .i64 (0)] 23 ∧ Below w.heap.size w w')
    ⟨D7.set 0 _, D6.set_other (by omega) 0 _, D4.set_other (by omega) 0 _, HB6.setCell (by simp; omega) _⟩ ?_
  clear D7 D6 D4 HB6 M7 N7
  rintro w7 ⟨E7, E6, E4, HB7⟩
  have M7 := E7.cell
  have M6 := E6.cell
  have N7 := E7.frozen
  have l7 := E7.lt
  have hfin : tagB tag g = (tag && (decide (g 12 = 0 ∧ g 14 = 0 ∧ g 13 ≤ 127) && rightB true (word4 g 4) (word4 g 8) (word4 g 0) (low7 (g 13)) (g 15))) := by simp [tagB, Bool.and_assoc]
  have HF := Lib.hid hfin
  clear hfin
  cases tag with
  | false =>
    go_upto_region 7 with fail
    refine wp_gen (fun w' => Blk w' b7 #[.bool (false), .int .i64 (word4 g 4), .int .i64 (word4 g 8), .int .i64 (word4 g 0), .int .i64 (low7 (g 13)), .int .i64 (g 15)] 23 ∧ Blk w' w.heap.size #[.bool (false), .int .i64 (0), .int .i64 (0), .int .i64 (0), .int .i64 (0), .int .i64 (0)] 23 ∧ Below w.heap.size w w')
      ⟨E7.set 0 _, E4.set_other (by omega) 0 _, HB7.setCell (by simp; omega) _⟩ ?_
    clear M7 N7 E7 E6 E4 HB7
    rintro w9 ⟨G7, G4, HB9⟩
    have M7 := G7.cell
    have M4 := G4.cell
    have N4 := G4.frozen
    go_wp2
    exact bodyPost_ret (results_cell2 (cs := #[.bool (false), .int .i64 (word4 g 4), .int .i64 (word4 g 8), .int .i64 (word4 g 0), .int .i64 (low7 (g 13)), .int .i64 (g 15)]) rfl ((((((G4.set 0 _).set 1 _).set 2 _).set 3 _).set 4 _).set 5 _) Try.underlying23 rfl (by kernel_rfl) rfl) rfl
      ⟨by rw [HF.out]; rfl, ((((((HB9.setCell (by simp) _).setCell (by simp) _).setCell (by simp) _).setCell (by simp) _).setCell (by simp) _).setCell (by simp) _)⟩
  | true =>
    go_wp2_with fail
    refine (plain_any g hg _).mono ?_
    rintro e w8 ⟨rfl, hb8⟩
    have F7 := E7.below hb8 l7
    have F6 := E6.below hb8 E6.lt
    have F4 := E4.below hb8 E4.lt
    have HB8 := below_then HB7 (by have := E4.lt; omega) hb8
    clear hb8 HB7 E7 E6 E4 M7 M6 N7 l7
    have M7 := F7.cell
    have N7 := F7.frozen
    by_cases hp : g 12 = 0 ∧ g 14 = 0 ∧ g 13 ≤ 127
    · rw [decide_eq_true hp]
      rw [decide_eq_true hp] at HF
      clear hp
      go_wp2_with fail
      refine (cap_right _ _ _ _ _ _ _ hq).mono ?_
      rintro e w10 ⟨rfl, hb10⟩
      have G7 := F7.below hb10 F7.lt
      have G6 := F6.below hb10 F6.lt
      have G4 := F4.below hb10 F4.lt
      have HB10 := below_then HB8 (by have := F4.lt; omega) hb10
      clear hb10 HB8 F7 F6 F4 M7 N7
      have M7 := G7.cell
      have N7 := G7.frozen
      go_upto_region 7 with fail
      refine wp_gen (fun w' => Blk w' b7 #[.bool (rightB true (word4 g 4) (word4 g 8) (word4 g 0) (low7 (g 13)) (g 15)), .int .i64 (word4 g 4), .int .i64 (word4 g 8), .int .i64 (word4 g 0), .int .i64 (low7 (g 13)), .int .i64 (g 15)] 23 ∧ Blk w' w.heap.size #[.bool (false), .int .i64 (0), .int .i64 (0), .int .i64 (0), .int .i64 (0), .int .i64 (0)] 23 ∧ Below w.heap.size w w')
        ⟨G7.set 0 _, G4.set_other (by omega) 0 _, HB10.setCell (by simp; omega) _⟩ ?_
      clear M7 N7 G7 G6 G4 HB10
      rintro w9 ⟨J7, J4, HB9⟩
      have M7 := J7.cell
      have M4 := J4.cell
      have N4 := J4.frozen
      go_wp2
      exact bodyPost_ret (results_cell2 (cs := #[.bool (rightB true (word4 g 4) (word4 g 8) (word4 g 0) (low7 (g 13)) (g 15)), .int .i64 (word4 g 4), .int .i64 (word4 g 8), .int .i64 (word4 g 0), .int .i64 (low7 (g 13)), .int .i64 (g 15)]) rfl ((((((J4.set 0 _).set 1 _).set 2 _).set 3 _).set 4 _).set 5 _) Try.underlying23 rfl (by kernel_rfl) rfl) rfl
        ⟨by rw [HF.out]; rfl, ((((((HB9.setCell (by simp) _).setCell (by simp) _).setCell (by simp) _).setCell (by simp) _).setCell (by simp) _).setCell (by simp) _)⟩
    · rw [decide_eq_false hp]
      rw [decide_eq_false hp] at HF
      clear hp
      go_upto_region 7 with fail
      refine wp_gen (fun w' => Blk w' b7 #[.bool (false), .int .i64 (word4 g 4), .int .i64 (word4 g 8), .int .i64 (word4 g 0), .int .i64 (low7 (g 13)), .int .i64 (g 15)] 23 ∧ Blk w' w.heap.size #[.bool (false), .int .i64 (0), .int .i64 (0), .int .i64 (0), .int .i64 (0), .int .i64 (0)] 23 ∧ Below w.heap.size w w')
        ⟨F7.set 0 _, F4.set_other (by omega) 0 _, HB8.setCell (by simp; omega) _⟩ ?_
      clear M7 N7 F7 F6 F4 HB8
      rintro w9 ⟨G7, G4, HB9⟩
      have M7 := G7.cell
      have M4 := G4.cell
      have N4 := G4.frozen
      go_wp2
      exact bodyPost_ret (results_cell2 (cs := #[.bool (false), .int .i64 (word4 g 4), .int .i64 (word4 g 8), .int .i64 (word4 g 0), .int .i64 (low7 (g 13)), .int .i64 (g 15)]) rfl ((((((G4.set 0 _).set 1 _).set 2 _).set 3 _).set 4 _).set 5 _) Try.underlying23 rfl (by kernel_rfl) rfl) rfl
        ⟨by rw [HF.out]; rfl, ((((((HB9.setCell (by simp) _).setCell (by simp) _).setCell (by simp) _).setCell (by simp) _).setCell (by simp) _).setCell (by simp) _)⟩
end Go.Proofs.Ytjimkkkiilcpoaa

/- What the reference's Get answers: the same. -/
namespace Go.Proofs.Ytjimkkkiilcpoaa
open Go.RowKit

set_option maxRecDepth 100000 in
set_option maxHeartbeats 800000 in
theorem ref_get_none (A : Option Addr) (n c : Nat) (tag : Bool) (w : World) (hn : n ≠ 16) :
    Calls Try.prog 25 #[.slice A n c, .bool tag] w fun e w' => e = .returned (.tuple #[.agg #[.bool (false), .int .i64 (0), .int .i64 (0), .int .i64 (0), .int .i64 (0), .int .i64 (0)], .bool false]) ∧ Below w.heap.size w w' := by
  have h : ((n : Int) != 16) = true := by simp; omega
  clear hn
  go_enter Try.func25, Try.ntmps25
  go_wp2
  go_returns
  exact ⟨rfl, (by (repeat (first | exact Below.refl _ _ | refine below_drewN ?_ _ | refine Below.drew ?_ | refine Below.alloc ?_ (by first | omega | (simp only [World.size_alloc, World.size_drew, World.size_setCell]; omega) | (simp; done) | (simp; omega)) _ | assumption)))⟩

theorem word_in {g : Nat → Int} (hg : ∀ j, 0 ≤ g j ∧ g j ≤ 255) (i : Nat) : inI (word4 g i) := by
  have h0 := hg i
  have h1 := hg (i + 1)
  have h2 := hg (i + 2)
  have h3 := hg (i + 3)
  unfold inI word4
  omega

set_option maxRecDepth 100000 in
set_option maxHeartbeats 3200000 in
theorem ref_get_any (b o c : Nat) (g : Nat → Int) (hg : ∀ j, 0 ≤ g j ∧ g j ≤ 255) (tag : Bool) (w : World) (hcap : 16 ≤ c)
    (hc : ∀ j, j < 16 → w.cell? ⟨b, o + j, none⟩ = some (.int .u8 (g j))) :
    Calls Try.prog 25 #[.slice (some ⟨b, o, none⟩) 16 c, .bool tag] w fun e w' => e = .returned (.tuple #[.agg #[.bool (tagB tag g), .int .i64 (word4 g 4), .int .i64 (word4 g 8), .int .i64 (word4 g 0), .int .i64 (low7 (g 13)), .int .i64 (g 15)], .bool true]) ∧ Below w.heap.size w w' := by
  have hb : b < w.heap.size := World.block_lt_of_cell? w _ (hc 0 (by omega))
  have HC := Lib.hid hc
  clear hc
  go_enter Try.func25, Try.ntmps25
  go_wp2_with fail
  obtain ⟨W, hW⟩ : ∃ W : World, W = w.alloc (.cells #[.bool (false), .int .i64 (0), .int .i64 (0), .int .i64 (0), .int .i64 (0), .int .i64 (0)] 23) := ⟨_, rfl⟩
  rw [← hW]
  have HB : Below w.heap.size w W := by rw [hW]; go_grown
  have B4 : Blk W w.heap.size #[.bool (false), .int .i64 (0), .int .i64 (0), .int .i64 (0), .int .i64 (0), .int .i64 (0)] 23 := by rw [hW]; exact Blk.new _ _ _
  clear hW
  have hS0 : ∀ j, j < 16 → W.cell? ⟨b, o + j, none⟩ = some (.int .u8 (g j)) := fun j hj => (HB.cell (p := ⟨b, o + j, none⟩) hb).trans (HC.out j hj)
  obtain ⟨hg13, hg13'⟩ := hg 13
  obtain ⟨hg15, hg15'⟩ := hg 15
  have hlt := B4.lt
  have k4 : (4 : Int) ≤ (c : Int) := by omega
  have k8 : (8 : Int) ≤ (c : Int) := by omega
  have k12 : (12 : Int) ≤ (c : Int) := by omega
  have n4 : ¬ c = 4 := by omega
  have n8 : ¬ c = 8 := by omega
  refine wp_flow_lit 20 (fun w' => (∀ j, j < 16 → w'.cell? ⟨b, o + j, none⟩ = some (.int .u8 (g j))) ∧ w.heap.size < w'.heap.size)
    [none, none, none, none, none, none, none, none, none, none, none, none, none, none, none, none, none, none, none, some (fun v w' => ∃ b7 : Nat, v = .pointer (some ⟨b7, 0, none⟩) ∧ w.heap.size < b7 ∧ Blk w' b7 #[.bool (false), .int .i64 (0), .int .i64 (0), .int .i64 (0), .int .i64 (0), .int .i64 (0)] 23)] (by kernel_rfl) (by kernel_rfl)
    ⟨hS0, hlt⟩ (fun w1 w2 h hb => ⟨fun j hj => (hb.cell (World.block_lt_of_cell? w1 _ (h.1 j hj))).trans (h.1 j hj), Nat.lt_of_lt_of_le h.2 hb.size⟩)
    ⟨fun v w1 w2 ⟨b7, h1, h2, h3⟩ hb => ⟨b7, h1, h2, h3.below hb h3.lt⟩, trivial⟩ ?_
  try simp (config := { maxSteps := 10000000 }) only [specV, addF, Act.put, List.setIfInBounds_toArray, List.set_cons_zero, List.set_cons_succ, List.take_succ_cons, List.take_zero, List.drop_succ_cons, List.drop_zero]
  (apply Exists.intro; refine ⟨fun vs w1 hS hB hf => ?_, ?_⟩; (focus (have c13 := hS.1 13 (by omega); have c15 := hS.1 15 (by omega); clear hS hB hf; go_simp; first | exact ⟨Below.refl _ _, rfl⟩ | exact rfl)); try simp (config := { maxSteps := 10000000 }) only [specV, addF, Act.put, List.setIfInBounds_toArray, List.set_cons_zero, List.set_cons_succ, List.take_succ_cons, List.take_zero, List.drop_succ_cons, List.drop_zero])
  (apply Exists.intro; refine ⟨fun vs w1 hS hB hf => ?_, ?_⟩; (focus (have c13 := hS.1 13 (by omega); have c15 := hS.1 15 (by omega); clear hS hB hf; go_simp; first | exact ⟨Below.refl _ _, rfl⟩ | exact rfl)); try simp (config := { maxSteps := 10000000 }) only [specV, addF, Act.put, List.setIfInBounds_toArray, List.set_cons_zero, List.set_cons_succ, List.take_succ_cons, List.take_zero, List.drop_succ_cons, List.drop_zero])
  (apply Exists.intro; refine ⟨fun vs w1 hS hB hf => ?_, ?_⟩; (focus (go_simp; exact (unfour_any _ (g 0) (g 1) (g 2) (g 3) (hg 0) (hg 1) (hg 2) (hg 3) w1 b (o + 0) (hS.1 0 (by omega)) (hS.1 1 (by omega)) (hS.1 2 (by omega)) (hS.1 3 (by omega))).mono fun e w2 ⟨he, n, hw⟩ => callPost.of he (by rw [hw]; exact below_drewN (Below.refl _ _) n) rfl)); try simp (config := { maxSteps := 10000000 }) only [specV, addF, Act.put, List.setIfInBounds_toArray, List.set_cons_zero, List.set_cons_succ, List.take_succ_cons, List.take_zero, List.drop_succ_cons, List.drop_zero])
  (apply Exists.intro; refine ⟨fun vs w1 hS hB hf => ?_, ?_⟩; (focus (have c13 := hS.1 13 (by omega); have c15 := hS.1 15 (by omega); clear hS hB hf; go_simp; first | exact ⟨Below.refl _ _, rfl⟩ | exact rfl)); try simp (config := { maxSteps := 10000000 }) only [specV, addF, Act.put, List.setIfInBounds_toArray, List.set_cons_zero, List.set_cons_succ, List.take_succ_cons, List.take_zero, List.drop_succ_cons, List.drop_zero])
  (apply Exists.intro; refine ⟨fun vs w1 hS hB hf => ?_, ?_⟩; (focus (have c13 := hS.1 13 (by omega); have c15 := hS.1 15 (by omega); clear hS hB hf; go_simp; first | exact ⟨Below.refl _ _, rfl⟩ | exact rfl)); try simp (config := { maxSteps := 10000000 }) only [specV, addF, Act.put, List.setIfInBounds_toArray, List.set_cons_zero, List.set_cons_succ, List.take_succ_cons, List.take_zero, List.drop_succ_cons, List.drop_zero])
  (apply Exists.intro; refine ⟨fun vs w1 hS hB hf => ?_, ?_⟩; (focus (go_simp; exact (unfour_any _ (g 4) (g 5) (g 6) (g 7) (hg 4) (hg 5) (hg 6) (hg 7) w1 b (o + 4) (hS.1 4 (by omega)) (hS.1 5 (by omega)) (hS.1 6 (by omega)) (hS.1 7 (by omega))).mono fun e w2 ⟨he, n, hw⟩ => callPost.of he (by rw [hw]; exact below_drewN (Below.refl _ _) n) rfl)); try simp (config := { maxSteps := 10000000 }) only [specV, addF, Act.put, List.setIfInBounds_toArray, List.set_cons_zero, List.set_cons_succ, List.take_succ_cons, List.take_zero, List.drop_succ_cons, List.drop_zero])
  (apply Exists.intro; refine ⟨fun vs w1 hS hB hf => ?_, ?_⟩; (focus (have c13 := hS.1 13 (by omega); have c15 := hS.1 15 (by omega); clear hS hB hf; go_simp; first | exact ⟨Below.refl _ _, rfl⟩ | exact rfl)); try simp (config := { maxSteps := 10000000 }) only [specV, addF, Act.put, List.setIfInBounds_toArray, List.set_cons_zero, List.set_cons_succ, List.take_succ_cons, List.take_zero, List.drop_succ_cons, List.drop_zero])
  (apply Exists.intro; refine ⟨fun vs w1 hS hB hf => ?_, ?_⟩; (focus (have c13 := hS.1 13 (by omega); have c15 := hS.1 15 (by omega); clear hS hB hf; go_simp; first | exact ⟨Below.refl _ _, rfl⟩ | exact rfl)); try simp (config := { maxSteps := 10000000 }) only [specV, addF, Act.put, List.setIfInBounds_toArray, List.set_cons_zero, List.set_cons_succ, List.take_succ_cons, List.take_zero, List.drop_succ_cons, List.drop_zero])
  (apply Exists.intro; refine ⟨fun vs w1 hS hB hf => ?_, ?_⟩; (focus (go_simp; exact (unfour_any _ (g 8) (g 9) (g 10) (g 11) (hg 8) (hg 9) (hg 10) (hg 11) w1 b (o + 8) (hS.1 8 (by omega)) (hS.1 9 (by omega)) (hS.1 10 (by omega)) (hS.1 11 (by omega))).mono fun e w2 ⟨he, n, hw⟩ => callPost.of he (by rw [hw]; exact below_drewN (Below.refl _ _) n) rfl)); try simp (config := { maxSteps := 10000000 }) only [specV, addF, Act.put, List.setIfInBounds_toArray, List.set_cons_zero, List.set_cons_succ, List.take_succ_cons, List.take_zero, List.drop_succ_cons, List.drop_zero])
  (apply Exists.intro; refine ⟨fun vs w1 hS hB hf => ?_, ?_⟩; (focus (have c13 := hS.1 13 (by omega); have c15 := hS.1 15 (by omega); clear hS hB hf; go_simp; first | exact ⟨Below.refl _ _, rfl⟩ | exact rfl)); try simp (config := { maxSteps := 10000000 }) only [specV, addF, Act.put, List.setIfInBounds_toArray, List.set_cons_zero, List.set_cons_succ, List.take_succ_cons, List.take_zero, List.drop_succ_cons, List.drop_zero])
  (apply Exists.intro; refine ⟨fun vs w1 hS hB hf => ?_, ?_⟩; (focus (have c13 := hS.1 13 (by omega); have c15 := hS.1 15 (by omega); clear hS hB hf; go_simp; first | exact ⟨Below.refl _ _, rfl⟩ | exact rfl)); try simp (config := { maxSteps := 10000000 }) only [specV, addF, Act.put, List.setIfInBounds_toArray, List.set_cons_zero, List.set_cons_succ, List.take_succ_cons, List.take_zero, List.drop_succ_cons, List.drop_zero])
  (apply Exists.intro; refine ⟨fun vs w1 hS hB hf => ?_, ?_⟩; (focus (have c13 := hS.1 13 (by omega); have c15 := hS.1 15 (by omega); clear hS hB hf; go_simp; first | exact ⟨Below.refl _ _, rfl⟩ | exact rfl)); try simp (config := { maxSteps := 10000000 }) only [specV, addF, Act.put, List.setIfInBounds_toArray, List.set_cons_zero, List.set_cons_succ, List.take_succ_cons, List.take_zero, List.drop_succ_cons, List.drop_zero])
  (apply Exists.intro; refine ⟨fun vs w1 hS hB hf => ?_, ?_⟩; (focus (have c13 := hS.1 13 (by omega); have c15 := hS.1 15 (by omega); clear hS hB hf; go_simp; first | exact ⟨Below.refl _ _, rfl⟩ | exact rfl)); try simp (config := { maxSteps := 10000000 }) only [specV, addF, Act.put, List.setIfInBounds_toArray, List.set_cons_zero, List.set_cons_succ, List.take_succ_cons, List.take_zero, List.drop_succ_cons, List.drop_zero])
  (apply Exists.intro; refine ⟨fun vs w1 hS hB hf => ?_, ?_⟩; (focus (have c13 := hS.1 13 (by omega); have c15 := hS.1 15 (by omega); clear hS hB hf; go_simp; first | exact ⟨Below.refl _ _, rfl⟩ | exact rfl)); try simp (config := { maxSteps := 10000000 }) only [specV, addF, Act.put, List.setIfInBounds_toArray, List.set_cons_zero, List.set_cons_succ, List.take_succ_cons, List.take_zero, List.drop_succ_cons, List.drop_zero])
  (apply Exists.intro; refine ⟨fun vs w1 hS hB hf => ?_, ?_⟩; (focus (have c13 := hS.1 13 (by omega); have c15 := hS.1 15 (by omega); clear hS hB hf; go_simp; first | exact ⟨Below.refl _ _, rfl⟩ | exact rfl)); try simp (config := { maxSteps := 10000000 }) only [specV, addF, Act.put, List.setIfInBounds_toArray, List.set_cons_zero, List.set_cons_succ, List.take_succ_cons, List.take_zero, List.drop_succ_cons, List.drop_zero])
  (apply Exists.intro; refine ⟨fun vs w1 hS hB hf => ?_, ?_⟩; (focus (have c13 := hS.1 13 (by omega); have c15 := hS.1 15 (by omega); clear hS hB hf; go_simp; first | exact ⟨Below.refl _ _, rfl⟩ | exact rfl)); try simp (config := { maxSteps := 10000000 }) only [specV, addF, Act.put, List.setIfInBounds_toArray, List.set_cons_zero, List.set_cons_succ, List.take_succ_cons, List.take_zero, List.drop_succ_cons, List.drop_zero])
  (apply Exists.intro; refine ⟨fun vs w1 hS hB hf => ?_, ?_⟩; (focus (have c13 := hS.1 13 (by omega); have c15 := hS.1 15 (by omega); clear hS hB hf; go_simp; first | exact ⟨Below.refl _ _, rfl⟩ | exact rfl)); try simp (config := { maxSteps := 10000000 }) only [specV, addF, Act.put, List.setIfInBounds_toArray, List.set_cons_zero, List.set_cons_succ, List.take_succ_cons, List.take_zero, List.drop_succ_cons, List.drop_zero])
  (apply Exists.intro; refine ⟨fun vs w1 hS hB hf => ?_, ?_⟩; (focus (have c13 := hS.1 13 (by omega); have c15 := hS.1 15 (by omega); clear hS hB hf; go_simp; first | exact ⟨Below.refl _ _, rfl⟩ | exact rfl)); try simp (config := { maxSteps := 10000000 }) only [specV, addF, Act.put, List.setIfInBounds_toArray, List.set_cons_zero, List.set_cons_succ, List.take_succ_cons, List.take_zero, List.drop_succ_cons, List.drop_zero])
  (apply Exists.intro; refine ⟨fun vs w1 hS hB hf => ?_, ?_⟩; (focus (have c13 := hS.1 13 (by omega); have c15 := hS.1 15 (by omega); clear hS hB hf; go_simp; first | exact ⟨Below.refl _ _, rfl⟩ | exact rfl)); try simp (config := { maxSteps := 10000000 }) only [specV, addF, Act.put, List.setIfInBounds_toArray, List.set_cons_zero, List.set_cons_succ, List.take_succ_cons, List.take_zero, List.drop_succ_cons, List.drop_zero])
  (refine ⟨fun vs w1 hS hB hf => ?_, ?_⟩; (focus (go_simp; exact ⟨(Below.refl _ _).alloc (Nat.le_refl _) _, w1.heap.size, rfl, hS.2, Blk.new _ _ _⟩)); try simp (config := { maxSteps := 10000000 }) only [specV, addF, Act.put, List.setIfInBounds_toArray, List.set_cons_zero, List.set_cons_succ, List.take_succ_cons, List.take_zero, List.drop_succ_cons, List.drop_zero])
  intro vs w5 hS hB hF
  obtain ⟨⟨b6, hv, hlt6, B6⟩, _⟩ := hF
  dsimp only
  rw [hv]
  have B45 : Blk w5 w.heap.size #[.bool (false), .int .i64 (0), .int .i64 (0), .int .i64 (0), .int .i64 (0), .int .i64 (0)] 23 := B4.below hB (by omega)
  have HB5 : Below w.heap.size w w5 := below_then HB (by omega) hB
  obtain ⟨hS, _⟩ := hS
  clear HB B4 hS0 hB HC hv
  have L6 := B6.cell
  have Z6 := B6.frozen
  go_upto_region 4 with fail
  refine wp_gen (fun w' => Blk w' b6 #[.bool (false), .int .i64 (word4 g 4), .int .i64 (word4 g 8), .int .i64 (word4 g 0), .int .i64 (low7 (g 13)), .int .i64 (g 15)] 23 ∧ Blk w' w.heap.size #[.bool (false), .int .i64 (0), .int .i64 (0), .int .i64 (0), .int .i64 (0), .int .i64 (0)] 23 ∧ Below w.heap.size w w' ∧ (∀ j, j < 16 → w'.cell? ⟨b, o + j, none⟩ = some (.int .u8 (g j)))) ?_ ?_
  · refine ⟨((((((B6.set 0 _).set 1 _).set 2 _).set 3 _).set 4 _).set 5 _),
      ((((((B45.set_other (by omega) 0 _).set_other (by omega) 1 _).set_other (by omega) 2 _).set_other (by omega) 3 _).set_other (by omega) 4 _).set_other (by omega) 5 _),
      ((((((HB5.setCell (by simp; omega) _).setCell (by simp; omega) _).setCell (by simp; omega) _).setCell (by simp; omega) _).setCell (by simp; omega) _).setCell (by simp; omega) _), fun j hj => ?_⟩
    have h6 : ∀ (W : World) (k : Nat) (v : Value), (W.setCell ⟨b6, k, none⟩ v).cell? ⟨b, o + j, none⟩ = W.cell? ⟨b, o + j, none⟩ := fun W k v => World.cell?_setCell_other W _ _ v (by intro h; have := congrArg Addr.block h; simp at this; omega)
    rw [h6, h6, h6, h6, h6, h6]
    exact hS j hj
  clear B6 L6 Z6 B45 HB5 hS
  rintro w6 ⟨D6, D4, HB6, hS⟩
  have M6 := D6.cell
  have l6 := D6.lt
  go_upto_region 6 with fail
  obtain ⟨b7, hb7⟩ : ∃ b7, b7 = w6.heap.size := ⟨_, rfl⟩
  rw [← hb7]
  refine wp_gen (fun w' => Blk w' b7 #[.bool (true), .int .i64 (word4 g 4), .int .i64 (word4 g 8), .int .i64 (word4 g 0), .int .i64 (low7 (g 13)), .int .i64 (g 15)] 23 ∧ Blk w' b6 #[.bool (false), .int .i64 (word4 g 4), .int .i64 (word4 g 8), .int .i64 (word4 g 0), .int .i64 (low7 (g 13)), .int .i64 (g 15)] 23 ∧ Blk w' w.heap.size #[.bool (false), .int .i64 (0), .int .i64 (0), .int .i64 (0), .int .i64 (0), .int .i64 (0)] 23 ∧ Below w.heap.size w w' ∧ (∀ j, j < 16 → w'.cell? ⟨b, o + j, none⟩ = some (.int .u8 (g j))))
    ⟨by rw [hb7]; exact Blk.new _ _ _, D6.alloc _, D4.alloc _, HB6.alloc (by first | omega | (simp only [World.size_alloc, World.size_drew, World.size_setCell]; omega) | (simp; done) | (simp; omega)) _, fun j hj => (Below.cell ((Below.refl w6.heap.size w6).alloc (Nat.le_refl _) _) (World.block_lt_of_cell? w6 _ (hS j hj))).trans (hS j hj)⟩ ?_
  have hne : w.heap.size < b7 := by omega
  clear hS D6 D4 HB6 M6 hb7 l6
  rintro w7 ⟨E7, E6, E4, HB7, hS⟩
  have M7 := E7.cell
  have M6 := E6.cell
  have M4 := E4.cell
  have N4 := E4.frozen
  have c12 := hS 12 (by omega)
  have c13 := hS 13 (by omega)
  have c14 := hS 14 (by omega)
  have hfin : tagB tag g = (tag && (decide (g 12 = 0 ∧ g 14 = 0 ∧ g 13 ≤ 127) && rightB true (word4 g 4) (word4 g 8) (word4 g 0) (low7 (g 13)) (g 15))) := by simp [tagB, Bool.and_assoc]
  have HF := Lib.hid hfin
  clear hfin hS
  cases tag with
  | false =>
    go_wp2
    all_goals exact bodyPost_ret (results_cell2 (cs := #[.bool (false), .int .i64 (word4 g 4), .int .i64 (word4 g 8), .int .i64 (word4 g 0), .int .i64 (low7 (g 13)), .int .i64 (g 15)]) rfl ((((((E4.set 0 _).set 1 _).set 2 _).set 3 _).set 4 _).set 5 _) Try.underlying23 rfl (by kernel_rfl) rfl) rfl ⟨by rw [HF.out]; rfl, ((((((HB7.setCell (by simp) _).setCell (by simp) _).setCell (by simp) _).setCell (by simp) _).setCell (by simp) _).setCell (by simp) _)⟩
  | true =>
    by_cases hp : g 12 = 0 ∧ g 14 = 0 ∧ g 13 ≤ 127
    · rw [decide_eq_true hp] at HF
      have h12 : (g 12 == 0) = true := by simp [hp.1]
      have h14 : (g 14 == 0) = true := by simp [hp.2.1]
      have h13 : g 13 < 128 := by omega
      clear hp
      go_wp2_with fail
      refine (ref_right _ _ _ _ _ _ _).mono ?_
      rintro e w8 ⟨rfl, hb8⟩
      have F7 := E7.below hb8 E7.lt
      have F6 := E6.below hb8 E6.lt
      have F4 := E4.below hb8 E4.lt
      have HB8 := below_then HB7 (by have := E4.lt; omega) hb8
      clear hb8 HB7 E7 E6 E4 M7 M6 M4 N4 c12 c13 c14
      have M7 := F7.cell
      have M6 := F6.cell
      have M4 := F4.cell
      have N4 := F4.frozen
      cases hr : rightB true (word4 g 4) (word4 g 8) (word4 g 0) (low7 (g 13)) (g 15) with
      | false =>
        rw [hr] at HF
        clear hr
        go_wp2
        all_goals exact bodyPost_ret (results_cell2 (cs := #[.bool (false), .int .i64 (word4 g 4), .int .i64 (word4 g 8), .int .i64 (word4 g 0), .int .i64 (low7 (g 13)), .int .i64 (g 15)]) rfl ((((((F4.set 0 _).set 1 _).set 2 _).set 3 _).set 4 _).set 5 _) Try.underlying23 rfl (by kernel_rfl) rfl) rfl ⟨by rw [HF.out]; rfl, ((((((HB8.setCell (by simp) _).setCell (by simp) _).setCell (by simp) _).setCell (by simp) _).setCell (by simp) _).setCell (by simp) _)⟩
      | true =>
        rw [hr] at HF
        clear hr
        go_wp2
        all_goals exact bodyPost_ret (results_cell2 (cs := #[.bool (true), .int .i64 (word4 g 4), .int .i64 (word4 g 8), .int .i64 (word4 g 0), .int .i64 (low7 (g 13)), .int .i64 (g 15)]) rfl ((((((F4.set 0 _).set 1 _).set 2 _).set 3 _).set 4 _).set 5 _) Try.underlying23 rfl (by kernel_rfl) rfl) rfl ⟨by rw [HF.out]; rfl, ((((((HB8.setCell (by simp) _).setCell (by simp) _).setCell (by simp) _).setCell (by simp) _).setCell (by simp) _).setCell (by simp) _)⟩
    · rw [decide_eq_false hp] at HF
      have hx : (g 12 == 0) = false ∨ (g 12 == 0) = true ∧ (g 14 == 0) = false ∨ (g 12 == 0) = true ∧ (g 14 == 0) = true ∧ 128 ≤ g 13 := by
        simp only [beq_eq_false_iff_ne, beq_iff_eq]
        omega
      clear hp
      rcases hx with h12 | ⟨h12, h14⟩ | ⟨h12, h14, h13⟩
      all_goals
        go_wp2
        all_goals exact bodyPost_ret (results_cell2 (cs := #[.bool (false), .int .i64 (word4 g 4), .int .i64 (word4 g 8), .int .i64 (word4 g 0), .int .i64 (low7 (g 13)), .int .i64 (g 15)]) rfl ((((((E4.set 0 _).set 1 _).set 2 _).set 3 _).set 4 _).set 5 _) Try.underlying23 rfl (by kernel_rfl) rfl) rfl ⟨by rw [HF.out]; rfl, ((((((HB7.setCell (by simp) _).setCell (by simp) _).setCell (by simp) _).setCell (by simp) _).setCell (by simp) _).setCell (by simp) _)⟩
end Go.Proofs.Ytjimkkkiilcpoaa
