/- The live question of layer 10. -/
import Derived.Test.YtjimkkkiilcpoaaSwG
import Derived.Test.YtjimkkkiilcpoaaCapEq
import Derived.Test.YtjimkkkiilcpoaaFlowH
set_option linter.unusedVariables false
set_option linter.unusedSimpArgs false
namespace Go.Proofs.Ytjimkkkiilcpoaa
open Go.RowKit

/-- A row of ints, kept by growth. -/
def RowT (xs : List Int) : Value → World → Prop := fun v w => RowI w v xs
theorem rowT_stab (xs : List Int) : ∀ v w w', RowT xs v w → Below w.heap.size w w' → RowT xs v w' := fun v w w' h hb => RowI.below h hb
/-- The question's scene. -/
def H10 (w : World) (b bP pm pW s kd kl : Nat) (S : List Int × List Bool × List Bool) (Q : List Bool) (cs : Array Value) (W : World) : Prop :=
  TmM W b bP S.1 S.2.1 S.2.2 ∧ ShM W pm pW Q ∧ Blk W s cs 123 ∧ Blk W kd #[.bool (true), .int .i64 (512), .int .i64 (544), .int .i64 (512), .int .i64 (3), .int .i64 (0)] 23 ∧ Blk W kl #[.bool (true), .int .i64 (544), .int .i64 (560), .int .i64 (512), .int .i64 (3), .int .i64 (0)] 23 ∧ Below w.heap.size w W
theorem H10.grow {w : World} {b bP pm pW s kd kl : Nat} {S : List Int × List Bool × List Bool} {Q : List Bool} {cs : Array Value} {W W1 : World} (h : H10 w b bP pm pW s kd kl S Q cs W) (hb : Below W.heap.size W W1) : H10 w b bP pm pW s kd kl S Q cs W1 :=
  ⟨h.1.grow hb, h.2.1.grow hb, h.2.2.1.below hb h.2.2.1.lt, h.2.2.2.1.below hb h.2.2.2.1.lt, h.2.2.2.2.1.below hb h.2.2.2.2.1.lt, below_then h.2.2.2.2.2 h.2.2.2.2.2.size hb⟩
theorem H10.turns {w : World} {b bP pm pW s kd kl : Nat} {S S1 : List Int × List Bool × List Bool} {Q Q1 : List Bool} {cs cs1 : Array Value} {W W1 : World} {bs : List Nat} (h : H10 w b bP pm pW s kd kl S Q cs W) (h1 : TmM W1 b bP S1.1 S1.2.1 S1.2.2) (h2 : ShM W1 pm pW Q1) (h3 : Blk W1 s cs1 123) (ht : Turns bs W W1) (hd : kd ∉ bs) (hl : kl ∉ bs) (hw : ∀ x ∈ bs, w.heap.size ≤ x) :
    H10 w b bP pm pW s kd kl S1 Q1 cs1 W1 := ⟨h1, h2, h3, h.2.2.2.1.turns ht hd, h.2.2.2.2.1.turns ht hl, below_turns h.2.2.2.2.2 ht hw⟩

set_option maxRecDepth 100000 in
set_option maxHeartbeats 3200000 in
theorem head10_true (w : World) : Calls Try.prog 70 #[] w fun e w' => e = .returned (.bool true) ∧ Below w.heap.size w w' := by
  obtain ⟨f1, f2, f3, f4, f5, f6, f7, f8, f9, f10, f11, f12, f13, f14, f15⟩ := s_facts
  have F := Lib.hid (And.intro f1 (And.intro f2 (And.intro f3 (And.intro f4 (And.intro f5 (And.intro f6 (And.intro f7 (And.intro f8 (And.intro f9 f10)))))))))
  have FL := Lib.hid (And.intro f11 (And.intro f12 (And.intro f13 (And.intro f14 f15))))
  clear f1 f2 f3 f4 f5 f6 f7 f8 f9 f10 f11 f12 f13 f14 f15
  go_enter Try.func70, Try.ntmps70
  go_wp2_with fail
  refine (tm_new 4 _ (by decide) (by decide)).mono ?_
  rintro e w1 ⟨b, bP, rfl, m1, gP, gb, B1⟩
  have HM := Lib.hid (show TmM w1 b bP s0.1 s0.2.1 s0.2.2 from m1)
  have HB := Lib.hid B1
  have HG := Lib.hid (And.intro gP gb)
  clear m1 B1 gP gb
  go_wp2_with fail
  refine (new_any 64 _ (by decide) (by decide)).mono ?_
  rintro e w2 ⟨pm, pW, rfl, q2, gW, gp, hne, B2⟩
  have HM2 := Lib.hid (HM.out.grow B2)
  have HQ2 := Lib.hid q2
  have HB2 := Lib.hid (below_then HB.out HB.out.size B2)
  have HG2 := Lib.hid (show (b < w2.heap.size ∧ bP < w2.heap.size ∧ pm < w2.heap.size ∧ pW < w2.heap.size) ∧ (b ≠ pW ∧ bP ≠ pW ∧ bP ≠ pm ∧ b ≠ pm ∧ pW ≠ pm) ∧ (w.heap.size ≤ b ∧ w.heap.size ≤ bP ∧ w.heap.size ≤ pW) by
    have h1 := HM.out.lt
    have h2 := q2.lt
    have h3 := HG.out
    have h4 := HB.out.size
    have h5 := B2.size
    refine ⟨⟨by omega, by omega, h2.1, h2.2⟩, ⟨by omega, by omega, by omega, by omega, hne⟩, h3.2, h3.1, by omega⟩)
  clear q2 gW gp hne B2 HM HB HG
  go_wp2_with fail
  refine (sw_new b pm w2).mono ?_
  rintro e w3 ⟨rfl, k3, B3⟩
  obtain ⟨s, hs⟩ : ∃ s, w2.heap.size = s := ⟨_, rfl⟩
  rw [hs] at k3 ⊢
  have HNE := Lib.hid (show s ≠ b ∧ s ≠ bP ∧ s ≠ pm ∧ s ≠ pW ∧ bP ≠ pm ∧ bP ≠ pW by have := HG2.out; omega)
  have HM3 := Lib.hid (HM2.out.grow B3)
  have HQ3 := Lib.hid (HQ2.out.grow B3)
  have HB3 := Lib.hid (below_then HB2.out HB2.out.size B3)
  have K3 := Lib.hid k3
  have HSG := Lib.hid (show w.heap.size ≤ s by have := HB2.out.size; omega)
  clear k3 B3 hs HM2 HQ2 HB2
  go_wp2_with fail
  obtain ⟨W4, hW4⟩ : ∃ W4, (w3.alloc (.cells #[.bool (true), .int .i64 (512), .int .i64 (544), .int .i64 (512), .int .i64 (3), .int .i64 (0)] 23)).alloc (.cells #[.bool (true), .int .i64 (544), .int .i64 (560), .int .i64 (512), .int .i64 (3), .int .i64 (0)] 23) = W4 := ⟨_, rfl⟩
  have hb4 : Below w3.heap.size w3 W4 := by rw [← hW4]; go_grown
  have S4 := Lib.hid (show H10 w b bP pm pW s w3.heap.size (w3.heap.size + 1) s0 (List.replicate 64 false) (swC b pm false (.slice none 0 0) 0) W4 from ⟨HM3.out.grow hb4, HQ3.out.grow hb4, K3.out.below hb4 K3.out.lt, by rw [← hW4]; exact (Blk.new _ _ _).alloc _, by
    rw [← hW4]
    have := Blk.new (w3.alloc (.cells #[.bool (true), .int .i64 (512), .int .i64 (544), .int .i64 (512), .int .i64 (3), .int .i64 (0)] 23)) #[.bool (true), .int .i64 (544), .int .i64 (560), .int .i64 (512), .int .i64 (3), .int .i64 (0)] 23
    rw [World.size_alloc] at this
    exact this, below_then HB3.out HB3.out.size hb4⟩)
  have HKD := Lib.hid (show (w3.heap.size ≠ bP ∧ w3.heap.size ≠ s ∧ w3.heap.size ≠ pW) ∧ (w3.heap.size + 1 ≠ bP ∧ w3.heap.size + 1 ≠ s ∧ w3.heap.size + 1 ≠ pW) by have h1 := HM3.out.lt; have h2 := HQ3.out.lt; have h3 := K3.out.lt; omega)
  rw [hW4]
  clear hW4 hb4 HM3 HQ3 HB3 K3
  generalize hkd : w3.heap.size = kd at *
  generalize hkl : kd + 1 = kl at *
  clear hkd hkl
  have c4 := S4.out.2.2.2.1.cell
  have l4 := S4.out.2.2.2.1.lt
  refine (tm_storecapU b bP s0.1 s0.2.1 s0.2.2 0 true 512 544 512 3 0 _ S4.out.1 ⟨by decide, by decide⟩ ⟨by decide, by decide⟩).mono ?_
  rintro e w5 ⟨rfl, m5, t5⟩
  have S5 := Lib.hid (S4.out.turns (S1 := s1) m5 (S4.out.2.1.turns t5 (by have := HG2.out; simp; omega) (by have := HG2.out; simp; omega)) (S4.out.2.2.1.turns t5 (by have := HNE.out; simp; omega)) t5 (by have := HKD.out; simp; omega) (by have := HKD.out; simp; omega) (by have := HG2.out; simp; omega))
  clear m5 t5 S4 c4 l4
  have c5 := S5.out.2.2.2.2.1.cell
  have l5 := S5.out.2.2.2.2.1.lt
  go_wp2_with fail
  clear c5 l5
  refine (tm_storecapU b bP s1.1 s1.2.1 s1.2.2 16 true 544 560 512 3 0 _ S5.out.1 ⟨by decide, by decide⟩ ⟨by decide, by decide⟩).mono ?_
  rintro e w6 ⟨rfl, m5, t5⟩
  have S6 := Lib.hid (S5.out.turns (S1 := s2) (by have h := m5; rw [FL.out.1] at h; exact h) (S5.out.2.1.turns t5 (by have := HG2.out; simp; omega) (by have := HG2.out; simp; omega)) (S5.out.2.2.1.turns t5 (by have := HNE.out; simp; omega)) t5 (by have := HKD.out; simp; omega) (by have := HKD.out; simp; omega) (by have := HG2.out; simp; omega))
  clear m5 t5 S5
  have c5 := S6.out.2.2.2.1.cell
  have l5 := S6.out.2.2.2.1.lt
  go_wp2_with fail
  clear c5 l5
  refine (tm_storecapU b bP s2.1 s2.2.1 s2.2.2 768 true 512 544 512 3 0 _ S6.out.1 ⟨by decide, by decide⟩ ⟨by decide, by decide⟩).mono ?_
  rintro e w7 ⟨rfl, m5, t5⟩
  have S7 := Lib.hid (S6.out.turns (S1 := s3) (by have h := m5; rw [FL.out.2.1] at h; exact h) (S6.out.2.1.turns t5 (by have := HG2.out; simp; omega) (by have := HG2.out; simp; omega)) (S6.out.2.2.1.turns t5 (by have := HNE.out; simp; omega)) t5 (by have := HKD.out; simp; omega) (by have := HKD.out; simp; omega) (by have := HG2.out; simp; omega))
  clear m5 t5 S6
  go_wp2_with fail
  refine (paint_all pm pW (List.replicate 64 false) 512 544 true _ ⟨by decide, by decide⟩ ⟨by decide, by decide⟩ S7.out.2.1 (by have := HG2.out; omega)).mono ?_
  rintro e w8 ⟨rfl, m8, g8⟩
  have t8 := Turns.grown g8
  have S8 := Lib.hid (S7.out.turns (S1 := s3) (Q1 := sQ) (S7.out.1.turns t8 (by have := HG2.out; simp; omega) (by have := HG2.out; simp; omega)) m8 (S7.out.2.2.1.turns t8 (by have := HNE.out; simp; omega)) t8 (by have := HKD.out; simp; omega) (by have := HKD.out; simp; omega) (by have := HG2.out; simp; omega))
  clear m8 g8 t8 S7
  go_wp2_with fail
  refine (sw_begin s b bP pm s3.1 s3.2.1 s3.2.2 (.slice none 0 0) 0 _ S8.out.2.2.1 S8.out.1).mono ?_
  rintro e w9 ⟨rfl, ⟨A9, c9, k9, r9, hc9, hm9, ha9⟩, t9⟩
  have S9 := Lib.hid (S8.out.turns (S1 := s3) (Q1 := sQ) (S8.out.1.turns t9 (by have := HNE.out; simp; omega) (by have := HNE.out; simp; omega)) (S8.out.2.1.turns t9 (by have := HNE.out; simp; omega) (by have := HNE.out; simp; omega)) k9 t9 (by have := HKD.out; simp; omega) (by have := HKD.out; simp; omega) (by have := HSG.out; simp; omega))
  have HA9 := Lib.hid (show ∀ ad, A9 = some ad → ad.block ≠ bP ∧ ad.block ≠ s from fun ad e => by
    have h1 := ha9 (by rw [F.out.2.2.2.1]; decide) ad e
    have h2 := S8.out.1.lt
    have h3 := S8.out.2.2.1.lt
    omega)
  clear t9 S8 ha9
  have k9' := Lib.hid (show Blk w9 s (swC b pm true (.slice A9 2 c9) 0) 123 by rw [F.out.2.2.2.1] at k9; exact k9)
  have R9 := Lib.hid (show RowI w9 (.slice A9 2 c9) [0, 3] by rw [F.out.2.2.2.1] at r9; exact r9)
  have HC9 := Lib.hid (show 2 ≤ c9 ∧ (c9 : Int) ≤ 9223372036854775807 by rw [F.out.2.2.2.1] at hc9; have : maxLen ≤ 9223372036854775807 := by decide
                                                                         exact ⟨hc9, by omega⟩)
  have S9' := Lib.hid (show H10 w b bP pm pW s kd kl s3 sQ (swC b pm true (.slice A9 2 c9) 0) w9 from ⟨S9.out.1, S9.out.2.1, k9'.out, S9.out.2.2.2⟩)
  clear k9 r9 hc9 hm9 k9' S9
  go_wp2_with fail
  refine (sw_begin_no s b pm _ _ _ S9'.out.2.2.1).mono ?_
  rintro e w10 ⟨rfl, rfl⟩
  go_wp2_with fail
  refine (sw_left s b pm true A9 2 c9 0 _ S9'.out.2.2.1).mono ?_
  rintro e w10 ⟨rfl, rfl⟩
  go_wp2_with fail
  have g10 := sw_step s b bP pm pW s3.1 s3.2.1 s3.2.2 sQ A9 2 c9 0 1 [0, 3] w9 S9'.out.2.2.1 R9.out HC9.out.1 HC9.out.2 (fun _ => HA9.out) (by rw [FL.out.2.2.1]; decide) S9'.out.1 S9'.out.2.1 HNE.out (by decide) (by decide) (by decide)
  refine g10.mono ?_
  clear g10
  rintro e w11 ⟨rfl, m11, k11, t11⟩
  have HA11 := Lib.hid (show ∀ ad, subA A9 c9 1 = some ad → ad.block ≠ bP ∧ ad.block ≠ s from fun ad e => ⟨subA_block (fun x hx => (HA9.out x hx).1) ad e, subA_block (fun x hx => (HA9.out x hx).2) ad e⟩)
  have R11 := Lib.hid ((R9.out.sub 1 (by decide) HC9.out.1).turns t11 (fun _ ad e => by have := HA11.out ad e; simp; omega))
  have S11 := Lib.hid (S9'.out.turns (S1 := (s3.1, s4.1, s4.2.1)) (cs1 := swC b pm true (.slice (subA A9 c9 1) 1 (c9 - 1)) ((s4.2.2 : Nat) : Int)) m11 (S9'.out.2.1.turns t11 (by have := HNE.out; simp; omega) (by have := HNE.out; have := HG2.out; simp; omega)) k11 t11 (by have := HKD.out; simp; omega) (by have := HKD.out; simp; omega) (by have := HG2.out; have := HSG.out; simp; omega))
  clear m11 k11 t11 S9' R9 HA9
  rw [show min 1 2 = 1 from rfl]
  go_wp2_with fail
  refine (sw_runs s b pm _ _ _ _ S11.out.2.2.1).mono ?_
  rintro e w12 ⟨rfl, rfl⟩
  go_wp2_with fail
  have g12 := sw_step s b bP pm pW s3.1 s4.1 s4.2.1 sQ (subA A9 c9 1) 1 (c9 - 1) s4.2.2 9 [3] w11 S11.out.2.2.1 R11.out (by have := HC9.out; omega) (by have := HC9.out; omega) (fun _ => HA11.out) (by rw [FL.out.2.2.2.1]; decide) S11.out.1 S11.out.2.1 HNE.out (by rw [F.out.2.2.2.2.1]; decide) (by decide) (by decide)
  refine g12.mono ?_
  clear g12
  rintro e w13 ⟨rfl, m13, k13, t13⟩
  have S13 := Lib.hid (S11.out.turns (S1 := (s3.1, s5.1, s5.2.1)) (cs1 := swC b pm false (.slice (subA (subA A9 c9 1) (c9 - 1) 1) 0 (c9 - 1 - 1)) 2) m13 (S11.out.2.1.turns t13 (by have := HNE.out; simp; omega) (by have := HNE.out; have := HG2.out; simp; omega)) (by
    have e : ((s5.2.2 : Nat) : Int) = 2 := by rw [F.out.2.2.2.2.2.1]; rfl
    rw [← e]
    exact k13) t13 (by have := HKD.out; simp; omega) (by have := HKD.out; simp; omega) (by have := HG2.out; have := HSG.out; simp; omega))
  clear m13 k13 t13 S11 R11 HA11
  rw [show min 9 1 = 1 from rfl]
  generalize subA (subA A9 c9 1) (c9 - 1) 1 = A13 at *
  generalize c9 - 1 - 1 = c13 at *
  have c4 := S13.out.2.2.2.1.cell
  have l4 := S13.out.2.2.2.1.lt
  go_wp2_with fail
  refine (sw_barrier s b pm pW sQ _ _ _ true 512 544 512 3 0 _ S13.out.2.2.1 S13.out.2.1 ⟨by decide, by decide⟩ ⟨by decide, by decide⟩).mono ?_
  rintro e w14 ⟨rfl, b14⟩
  rw [F.out.2.2.2.2.2.2.2.2.1, show (true && !true) = false from rfl]
  have S14 := Lib.hid (S13.out.grow b14)
  clear b14 S13 c4 l4
  go_wp2_with fail
  obtain ⟨W15, hW15⟩ : ∃ W15, w14.alloc (.cells #[.bool (false), .int .i64 (512), .int .i64 (544), .int .i64 (512), .int .i64 (3), .int .i64 (0)] 23) = W15 := ⟨_, rfl⟩
  have K15 := Lib.hid (show Blk W15 w14.heap.size #[.bool (false), .int .i64 (512), .int .i64 (544), .int .i64 (512), .int .i64 (3), .int .i64 (0)] 23 by rw [← hW15]; exact Blk.new _ _ _)
  have S15 := Lib.hid (S14.out.grow (show Below w14.heap.size w14 W15 by rw [← hW15]; go_grown))
  rw [hW15]
  clear hW15 S14
  generalize w14.heap.size = kx at *
  refine wp_flow_lit 59 (fun w' => H10 w b bP pm pW s kd kl (s3.1, s5.1, s5.2.1) sQ (swC b pm false (.slice A13 0 c13) 2) w' ∧ Blk w' kx #[.bool (false), .int .i64 (512), .int .i64 (544), .int .i64 (512), .int .i64 (3), .int .i64 (0)] 23)
    [none, none, none, none, none, none, none, none, none, none, none, none, none, none, none, none, none, none, none, none, none, none, none, none, none, none, none, some (RowT (tagsL s5.1)), some (RowT [16]), none, none, none, none, some (RowT (dirtyL s5.2.1)), some (RowT [0]), none, none, none, none, none, none, none, none, none, none, none, none, none, none, none, none, none, none, none, none, none, none, none, none] (by kernel_rfl) (by kernel_rfl)
    ⟨S15.out.grow (Below.drew (Below.refl _ _)), K15.out.drew⟩ (fun w1 w2 h hb => ⟨h.1.grow hb, h.2.below hb h.2.lt⟩) ⟨rowT_stab _, rowT_stab _, rowT_stab _, rowT_stab _, trivial⟩ ?_
  try simp (config := { maxSteps := 10000000 }) only [specV, addF, Act.put, List.setIfInBounds_toArray, List.set_cons_zero, List.set_cons_succ, List.take_succ_cons, List.take_zero, List.drop_succ_cons, List.drop_zero]
  (apply Exists.intro; refine ⟨fun vs w1 hS hB hf => ?_, ?_⟩; (focus (clear hS hB hf; go_simp; first | exact ⟨Below.refl _ _, rfl⟩ | exact rfl)); try simp (config := { maxSteps := 10000000 }) only [specV, addF, Act.put, List.setIfInBounds_toArray, List.set_cons_zero, List.set_cons_succ, List.take_succ_cons, List.take_zero, List.drop_succ_cons, List.drop_zero])
  (apply Exists.intro; refine ⟨fun vs w1 hS hB hf => ?_, ?_⟩; (focus (clear hS hB hf; go_simp; first | exact ⟨Below.refl _ _, rfl⟩ | exact rfl)); try simp (config := { maxSteps := 10000000 }) only [specV, addF, Act.put, List.setIfInBounds_toArray, List.set_cons_zero, List.set_cons_succ, List.take_succ_cons, List.take_zero, List.drop_succ_cons, List.drop_zero])
  (apply Exists.intro; refine ⟨fun vs w1 hS hB hf => ?_, ?_⟩; (focus (clear hS hB hf; go_simp; first | exact ⟨Below.refl _ _, rfl⟩ | exact rfl)); try simp (config := { maxSteps := 10000000 }) only [specV, addF, Act.put, List.setIfInBounds_toArray, List.set_cons_zero, List.set_cons_succ, List.take_succ_cons, List.take_zero, List.drop_succ_cons, List.drop_zero])
  (apply Exists.intro; refine ⟨fun vs w1 hS hB hf => ?_, ?_⟩; (focus (clear hS hB hf; go_simp; first | exact ⟨Below.refl _ _, rfl⟩ | exact rfl)); try simp (config := { maxSteps := 10000000 }) only [specV, addF, Act.put, List.setIfInBounds_toArray, List.set_cons_zero, List.set_cons_succ, List.take_succ_cons, List.take_zero, List.drop_succ_cons, List.drop_zero])
  (apply Exists.intro; refine ⟨fun vs w1 hS hB hf => ?_, ?_⟩; (focus (clear hS hB hf; go_simp; first | exact ⟨Below.refl _ _, rfl⟩ | exact rfl)); try simp (config := { maxSteps := 10000000 }) only [specV, addF, Act.put, List.setIfInBounds_toArray, List.set_cons_zero, List.set_cons_succ, List.take_succ_cons, List.take_zero, List.drop_succ_cons, List.drop_zero])
  (apply Exists.intro; refine ⟨fun vs w1 hS hB hf => ?_, ?_⟩; (focus (clear hS hB hf; go_simp; first | exact ⟨Below.refl _ _, rfl⟩ | exact rfl)); try simp (config := { maxSteps := 10000000 }) only [specV, addF, Act.put, List.setIfInBounds_toArray, List.set_cons_zero, List.set_cons_succ, List.take_succ_cons, List.take_zero, List.drop_succ_cons, List.drop_zero])
  (apply Exists.intro; refine ⟨fun vs w1 hS hB hf => ?_, ?_⟩; (focus (clear hS hB hf; go_simp; first | exact ⟨Below.refl _ _, rfl⟩ | exact rfl)); try simp (config := { maxSteps := 10000000 }) only [specV, addF, Act.put, List.setIfInBounds_toArray, List.set_cons_zero, List.set_cons_succ, List.take_succ_cons, List.take_zero, List.drop_succ_cons, List.drop_zero])
  (apply Exists.intro; refine ⟨fun vs w1 hS hB hf => ?_, ?_⟩; (focus (clear hS hB hf; go_simp; first | exact ⟨Below.refl _ _, rfl⟩ | exact rfl)); try simp (config := { maxSteps := 10000000 }) only [specV, addF, Act.put, List.setIfInBounds_toArray, List.set_cons_zero, List.set_cons_succ, List.take_succ_cons, List.take_zero, List.drop_succ_cons, List.drop_zero])
  (apply Exists.intro; refine ⟨fun vs w1 hS hB hf => ?_, ?_⟩; (focus (clear hS hB hf; go_simp; first | exact ⟨Below.refl _ _, rfl⟩ | exact rfl)); try simp (config := { maxSteps := 10000000 }) only [specV, addF, Act.put, List.setIfInBounds_toArray, List.set_cons_zero, List.set_cons_succ, List.take_succ_cons, List.take_zero, List.drop_succ_cons, List.drop_zero])
  (apply Exists.intro; refine ⟨fun vs w1 hS hB hf => ?_, ?_⟩; (focus (clear hS hB hf; go_simp; first | exact ⟨Below.refl _ _, rfl⟩ | exact rfl)); try simp (config := { maxSteps := 10000000 }) only [specV, addF, Act.put, List.setIfInBounds_toArray, List.set_cons_zero, List.set_cons_succ, List.take_succ_cons, List.take_zero, List.drop_succ_cons, List.drop_zero])
  (apply Exists.intro; refine ⟨fun vs w1 hS hB hf => ?_, ?_⟩; (focus (clear hS hB hf; go_simp; first | exact ⟨Below.refl _ _, rfl⟩ | exact rfl)); try simp (config := { maxSteps := 10000000 }) only [specV, addF, Act.put, List.setIfInBounds_toArray, List.set_cons_zero, List.set_cons_succ, List.take_succ_cons, List.take_zero, List.drop_succ_cons, List.drop_zero])
  (apply Exists.intro; refine ⟨fun vs w1 hS hB hf => ?_, ?_⟩; (focus (clear hS hB hf; go_simp; first | exact ⟨Below.refl _ _, rfl⟩ | exact rfl)); try simp (config := { maxSteps := 10000000 }) only [specV, addF, Act.put, List.setIfInBounds_toArray, List.set_cons_zero, List.set_cons_succ, List.take_succ_cons, List.take_zero, List.drop_succ_cons, List.drop_zero])
  (apply Exists.intro; refine ⟨fun vs w1 hS hB hf => ?_, ?_⟩; (focus (clear hS hB hf; go_simp; first | exact ⟨Below.refl _ _, rfl⟩ | exact rfl)); try simp (config := { maxSteps := 10000000 }) only [specV, addF, Act.put, List.setIfInBounds_toArray, List.set_cons_zero, List.set_cons_succ, List.take_succ_cons, List.take_zero, List.drop_succ_cons, List.drop_zero])
  (apply Exists.intro; refine ⟨fun vs w1 hS hB hf => ?_, ?_⟩; (focus (clear hS hB hf; go_simp; first | exact ⟨Below.refl _ _, rfl⟩ | exact rfl)); try simp (config := { maxSteps := 10000000 }) only [specV, addF, Act.put, List.setIfInBounds_toArray, List.set_cons_zero, List.set_cons_succ, List.take_succ_cons, List.take_zero, List.drop_succ_cons, List.drop_zero])
  (apply Exists.intro; refine ⟨fun vs w1 hS hB hf => ?_, ?_⟩; (focus (clear hS hB hf; go_simp; first | exact ⟨Below.refl _ _, rfl⟩ | exact rfl)); try simp (config := { maxSteps := 10000000 }) only [specV, addF, Act.put, List.setIfInBounds_toArray, List.set_cons_zero, List.set_cons_succ, List.take_succ_cons, List.take_zero, List.drop_succ_cons, List.drop_zero])
  (apply Exists.intro; refine ⟨fun vs w1 hS hB hf => ?_, ?_⟩; (focus (clear hS hB hf; go_simp; first | exact ⟨Below.refl _ _, rfl⟩ | exact rfl)); try simp (config := { maxSteps := 10000000 }) only [specV, addF, Act.put, List.setIfInBounds_toArray, List.set_cons_zero, List.set_cons_succ, List.take_succ_cons, List.take_zero, List.drop_succ_cons, List.drop_zero])
  (apply Exists.intro; refine ⟨fun vs w1 hS hB hf => ?_, ?_⟩; (focus (clear hS hB hf; go_simp; first | exact ⟨Below.refl _ _, rfl⟩ | exact rfl)); try simp (config := { maxSteps := 10000000 }) only [specV, addF, Act.put, List.setIfInBounds_toArray, List.set_cons_zero, List.set_cons_succ, List.take_succ_cons, List.take_zero, List.drop_succ_cons, List.drop_zero])
  (apply Exists.intro; refine ⟨fun vs w1 hS hB hf => ?_, ?_⟩; (focus (clear hS hB hf; go_simp; first | exact ⟨Below.refl _ _, rfl⟩ | exact rfl)); try simp (config := { maxSteps := 10000000 }) only [specV, addF, Act.put, List.setIfInBounds_toArray, List.set_cons_zero, List.set_cons_succ, List.take_succ_cons, List.take_zero, List.drop_succ_cons, List.drop_zero])
  (apply Exists.intro; refine ⟨fun vs w1 hS hB hf => ?_, ?_⟩; (focus (clear hS hB hf; go_simp; first | exact ⟨Below.refl _ _, rfl⟩ | exact rfl)); try simp (config := { maxSteps := 10000000 }) only [specV, addF, Act.put, List.setIfInBounds_toArray, List.set_cons_zero, List.set_cons_succ, List.take_succ_cons, List.take_zero, List.drop_succ_cons, List.drop_zero])
  (apply Exists.intro; refine ⟨fun vs w1 hS hB hf => ?_, ?_⟩; (focus (clear hS hB hf; go_simp; first | exact ⟨Below.refl _ _, rfl⟩ | exact rfl)); try simp (config := { maxSteps := 10000000 }) only [specV, addF, Act.put, List.setIfInBounds_toArray, List.set_cons_zero, List.set_cons_succ, List.take_succ_cons, List.take_zero, List.drop_succ_cons, List.drop_zero])
  (apply Exists.intro; refine ⟨fun vs w1 hS hB hf => ?_, ?_⟩; (focus (clear hS hB hf; go_simp; first | exact ⟨Below.refl _ _, rfl⟩ | exact rfl)); try simp (config := { maxSteps := 10000000 }) only [specV, addF, Act.put, List.setIfInBounds_toArray, List.set_cons_zero, List.set_cons_succ, List.take_succ_cons, List.take_zero, List.drop_succ_cons, List.drop_zero])
  (apply Exists.intro; refine ⟨fun vs w1 hS hB hf => ?_, ?_⟩; (focus (clear hS hB hf; go_simp; first | exact ⟨Below.refl _ _, rfl⟩ | exact rfl)); try simp (config := { maxSteps := 10000000 }) only [specV, addF, Act.put, List.setIfInBounds_toArray, List.set_cons_zero, List.set_cons_succ, List.take_succ_cons, List.take_zero, List.drop_succ_cons, List.drop_zero])
  (apply Exists.intro; refine ⟨fun vs w1 hS hB hf => ?_, ?_⟩; (focus (go_simp; exact (sw_runs s b pm _ _ _ w1 hS.1.2.2.1).mono fun e w2 ⟨he, hw⟩ => callPost.of he (by subst hw; exact Below.refl _ _) rfl)); try simp (config := { maxSteps := 10000000 }) only [specV, addF, Act.put, List.setIfInBounds_toArray, List.set_cons_zero, List.set_cons_succ, List.take_succ_cons, List.take_zero, List.drop_succ_cons, List.drop_zero])
  (apply Exists.intro; refine ⟨fun vs w1 hS hB hf => ?_, ?_⟩; (focus (clear hS hB hf; go_simp; first | exact ⟨Below.refl _ _, rfl⟩ | exact rfl)); try simp (config := { maxSteps := 10000000 }) only [specV, addF, Act.put, List.setIfInBounds_toArray, List.set_cons_zero, List.set_cons_succ, List.take_succ_cons, List.take_zero, List.drop_succ_cons, List.drop_zero])
  (apply Exists.intro; refine ⟨fun vs w1 hS hB hf => ?_, ?_⟩; (focus (clear hS hB hf; go_simp; first | exact ⟨Below.refl _ _, rfl⟩ | exact rfl)); try simp (config := { maxSteps := 10000000 }) only [specV, addF, Act.put, List.setIfInBounds_toArray, List.set_cons_zero, List.set_cons_succ, List.take_succ_cons, List.take_zero, List.drop_succ_cons, List.drop_zero])
  (apply Exists.intro; refine ⟨fun vs w1 hS hB hf => ?_, ?_⟩; (focus (clear hS hB hf; go_simp; first | exact ⟨Below.refl _ _, rfl⟩ | exact rfl)); try simp (config := { maxSteps := 10000000 }) only [specV, addF, Act.put, List.setIfInBounds_toArray, List.set_cons_zero, List.set_cons_succ, List.take_succ_cons, List.take_zero, List.drop_succ_cons, List.drop_zero])
  (apply Exists.intro; refine ⟨fun vs w1 hS hB hf => ?_, ?_⟩; (focus (clear hS hB hf; go_simp; first | exact ⟨Below.refl _ _, rfl⟩ | exact rfl)); try simp (config := { maxSteps := 10000000 }) only [specV, addF, Act.put, List.setIfInBounds_toArray, List.set_cons_zero, List.set_cons_succ, List.take_succ_cons, List.take_zero, List.drop_succ_cons, List.drop_zero])
  (refine ⟨fun vs w1 hS hB hf => ?_, ?_⟩; (focus (go_simp; exact (tm_tags b bP s3.1 s5.1 s5.2.1 w1 hS.1.1).mono fun e w2 ⟨v, he, ho, hb⟩ => callPost.of he hb (RowI.own ho))); try simp (config := { maxSteps := 10000000 }) only [specV, addF, Act.put, List.setIfInBounds_toArray, List.set_cons_zero, List.set_cons_succ, List.take_succ_cons, List.take_zero, List.drop_succ_cons, List.drop_zero])
  (refine ⟨fun vs w1 hS hB hf => ?_, ?_⟩; (focus (go_simp; exact ⟨by go_grown, some ⟨w1.heap.size, 0, none⟩, 1, rfl, RdL.new w1 #[.int .i64 16] _⟩)); try simp (config := { maxSteps := 10000000 }) only [specV, addF, Act.put, List.setIfInBounds_toArray, List.set_cons_zero, List.set_cons_succ, List.take_succ_cons, List.take_zero, List.drop_succ_cons, List.drop_zero])
  (apply Exists.intro; refine ⟨fun vs w1 hS hB hf => ?_, ?_⟩; (focus (obtain ⟨h7, h5, _⟩ := hf; have r5 : RowI w1 (vs 27) (tagsL s5.1) := h5 rfl; have r7 : RowI w1 (vs 28) [16] := h7 rfl; go_simp; exact (same_ints (vs 27) (vs 28) (tagsL s5.1) [16] w1 r5 r7 (by rw [F.out.2.2.2.2.2.2.1]; decide)).mono fun e w2 ⟨he, n, hw⟩ => callPost.of (v := .bool true) (by rw [he, decide_eq_true F.out.2.2.2.2.2.2.1]) (by subst hw; exact below_drewN (Below.refl _ _) n) rfl)); try simp (config := { maxSteps := 10000000 }) only [specV, addF, Act.put, List.setIfInBounds_toArray, List.set_cons_zero, List.set_cons_succ, List.take_succ_cons, List.take_zero, List.drop_succ_cons, List.drop_zero])
  (apply Exists.intro; refine ⟨fun vs w1 hS hB hf => ?_, ?_⟩; (focus (clear hS hB hf; go_simp; first | exact ⟨Below.refl _ _, rfl⟩ | exact rfl)); try simp (config := { maxSteps := 10000000 }) only [specV, addF, Act.put, List.setIfInBounds_toArray, List.set_cons_zero, List.set_cons_succ, List.take_succ_cons, List.take_zero, List.drop_succ_cons, List.drop_zero])
  (apply Exists.intro; refine ⟨fun vs w1 hS hB hf => ?_, ?_⟩; (focus (clear hS hB hf; go_simp; first | exact ⟨Below.refl _ _, rfl⟩ | exact rfl)); try simp (config := { maxSteps := 10000000 }) only [specV, addF, Act.put, List.setIfInBounds_toArray, List.set_cons_zero, List.set_cons_succ, List.take_succ_cons, List.take_zero, List.drop_succ_cons, List.drop_zero])
  (apply Exists.intro; refine ⟨fun vs w1 hS hB hf => ?_, ?_⟩; (focus (clear hS hB hf; go_simp; first | exact ⟨Below.refl _ _, rfl⟩ | exact rfl)); try simp (config := { maxSteps := 10000000 }) only [specV, addF, Act.put, List.setIfInBounds_toArray, List.set_cons_zero, List.set_cons_succ, List.take_succ_cons, List.take_zero, List.drop_succ_cons, List.drop_zero])
  (refine ⟨fun vs w1 hS hB hf => ?_, ?_⟩; (focus (go_simp; exact (tm_dirty b bP s3.1 s5.1 s5.2.1 w1 hS.1.1).mono fun e w2 ⟨v, he, ho, hb⟩ => callPost.of he hb (RowI.own ho))); try simp (config := { maxSteps := 10000000 }) only [specV, addF, Act.put, List.setIfInBounds_toArray, List.set_cons_zero, List.set_cons_succ, List.take_succ_cons, List.take_zero, List.drop_succ_cons, List.drop_zero])
  (refine ⟨fun vs w1 hS hB hf => ?_, ?_⟩; (focus (go_simp; exact ⟨by go_grown, some ⟨w1.heap.size, 0, none⟩, 1, rfl, RdL.new w1 #[.int .i64 0] _⟩)); try simp (config := { maxSteps := 10000000 }) only [specV, addF, Act.put, List.setIfInBounds_toArray, List.set_cons_zero, List.set_cons_succ, List.take_succ_cons, List.take_zero, List.drop_succ_cons, List.drop_zero])
  (apply Exists.intro; refine ⟨fun vs w1 hS hB hf => ?_, ?_⟩; (focus (obtain ⟨h7, h5, _⟩ := hf; have r5 : RowI w1 (vs 33) (dirtyL s5.2.1) := h5 rfl; have r7 : RowI w1 (vs 34) [0] := h7 rfl; go_simp; exact (same_ints (vs 33) (vs 34) (dirtyL s5.2.1) [0] w1 r5 r7 (by rw [F.out.2.2.2.2.2.2.2.1]; decide)).mono fun e w2 ⟨he, n, hw⟩ => callPost.of (v := .bool true) (by rw [he, decide_eq_true F.out.2.2.2.2.2.2.2.1]) (by subst hw; exact below_drewN (Below.refl _ _) n) rfl)); try simp (config := { maxSteps := 10000000 }) only [specV, addF, Act.put, List.setIfInBounds_toArray, List.set_cons_zero, List.set_cons_succ, List.take_succ_cons, List.take_zero, List.drop_succ_cons, List.drop_zero])
  (apply Exists.intro; refine ⟨fun vs w1 hS hB hf => ?_, ?_⟩; (focus (clear hS hB hf; go_simp; first | exact ⟨Below.refl _ _, rfl⟩ | exact rfl)); try simp (config := { maxSteps := 10000000 }) only [specV, addF, Act.put, List.setIfInBounds_toArray, List.set_cons_zero, List.set_cons_succ, List.take_succ_cons, List.take_zero, List.drop_succ_cons, List.drop_zero])
  (apply Exists.intro; refine ⟨fun vs w1 hS hB hf => ?_, ?_⟩; (focus (clear hS hB hf; go_simp; first | exact ⟨Below.refl _ _, rfl⟩ | exact rfl)); try simp (config := { maxSteps := 10000000 }) only [specV, addF, Act.put, List.setIfInBounds_toArray, List.set_cons_zero, List.set_cons_succ, List.take_succ_cons, List.take_zero, List.drop_succ_cons, List.drop_zero])
  (apply Exists.intro; refine ⟨fun vs w1 hS hB hf => ?_, ?_⟩; (focus (clear hS hB hf; go_simp; first | exact ⟨Below.refl _ _, rfl⟩ | exact rfl)); try simp (config := { maxSteps := 10000000 }) only [specV, addF, Act.put, List.setIfInBounds_toArray, List.set_cons_zero, List.set_cons_succ, List.take_succ_cons, List.take_zero, List.drop_succ_cons, List.drop_zero])
  (apply Exists.intro; refine ⟨fun vs w1 hS hB hf => ?_, ?_⟩; (focus (go_simp; exact (sw_gone s b pm _ _ _ w1 hS.1.2.2.1).mono fun e w2 ⟨he, hw⟩ => callPost.of he (by subst hw; exact Below.refl _ _) rfl)); try simp (config := { maxSteps := 10000000 }) only [specV, addF, Act.put, List.setIfInBounds_toArray, List.set_cons_zero, List.set_cons_succ, List.take_succ_cons, List.take_zero, List.drop_succ_cons, List.drop_zero])
  (apply Exists.intro; refine ⟨fun vs w1 hS hB hf => ?_, ?_⟩; (focus (clear hS hB hf; go_simp; first | exact ⟨Below.refl _ _, rfl⟩ | exact rfl)); try simp (config := { maxSteps := 10000000 }) only [specV, addF, Act.put, List.setIfInBounds_toArray, List.set_cons_zero, List.set_cons_succ, List.take_succ_cons, List.take_zero, List.drop_succ_cons, List.drop_zero])
  (apply Exists.intro; refine ⟨fun vs w1 hS hB hf => ?_, ?_⟩; (focus (clear hS hB hf; go_simp; first | exact ⟨Below.refl _ _, rfl⟩ | exact rfl)); try simp (config := { maxSteps := 10000000 }) only [specV, addF, Act.put, List.setIfInBounds_toArray, List.set_cons_zero, List.set_cons_succ, List.take_succ_cons, List.take_zero, List.drop_succ_cons, List.drop_zero])
  (apply Exists.intro; refine ⟨fun vs w1 hS hB hf => ?_, ?_⟩; (focus (clear hS hB hf; go_simp; first | exact ⟨Below.refl _ _, rfl⟩ | exact rfl)); try simp (config := { maxSteps := 10000000 }) only [specV, addF, Act.put, List.setIfInBounds_toArray, List.set_cons_zero, List.set_cons_succ, List.take_succ_cons, List.take_zero, List.drop_succ_cons, List.drop_zero])
  (apply Exists.intro; refine ⟨fun vs w1 hS hB hf => ?_, ?_⟩; (focus (clear hS hB hf; go_simp; first | exact ⟨Below.refl _ _, rfl⟩ | exact rfl)); try simp (config := { maxSteps := 10000000 }) only [specV, addF, Act.put, List.setIfInBounds_toArray, List.set_cons_zero, List.set_cons_succ, List.take_succ_cons, List.take_zero, List.drop_succ_cons, List.drop_zero])
  (apply Exists.intro; refine ⟨fun vs w1 hS hB hf => ?_, ?_⟩; (focus (have L1 := hS.2.cell; have l1 := hS.2.lt; clear hS hB hf; go_simp; first | exact ⟨Below.refl _ _, rfl⟩ | exact rfl)); try simp (config := { maxSteps := 10000000 }) only [specV, addF, Act.put, List.setIfInBounds_toArray, List.set_cons_zero, List.set_cons_succ, List.take_succ_cons, List.take_zero, List.drop_succ_cons, List.drop_zero])
  (apply Exists.intro; refine ⟨fun vs w1 hS hB hf => ?_, ?_⟩; (focus (clear hS hB hf; go_simp; first | exact ⟨Below.refl _ _, rfl⟩ | exact rfl)); try simp (config := { maxSteps := 10000000 }) only [specV, addF, Act.put, List.setIfInBounds_toArray, List.set_cons_zero, List.set_cons_succ, List.take_succ_cons, List.take_zero, List.drop_succ_cons, List.drop_zero])
  (apply Exists.intro; refine ⟨fun vs w1 hS hB hf => ?_, ?_⟩; (focus (clear hS hB hf; go_simp; first | exact ⟨Below.refl _ _, rfl⟩ | exact rfl)); try simp (config := { maxSteps := 10000000 }) only [specV, addF, Act.put, List.setIfInBounds_toArray, List.set_cons_zero, List.set_cons_succ, List.take_succ_cons, List.take_zero, List.drop_succ_cons, List.drop_zero])
  (apply Exists.intro; refine ⟨fun vs w1 hS hB hf => ?_, ?_⟩; (focus (clear hS hB hf; go_simp; first | exact ⟨Below.refl _ _, rfl⟩ | exact rfl)); try simp (config := { maxSteps := 10000000 }) only [specV, addF, Act.put, List.setIfInBounds_toArray, List.set_cons_zero, List.set_cons_succ, List.take_succ_cons, List.take_zero, List.drop_succ_cons, List.drop_zero])
  (apply Exists.intro; refine ⟨fun vs w1 hS hB hf => ?_, ?_⟩; (focus (clear hS hB hf; go_simp; first | exact ⟨Below.refl _ _, rfl⟩ | exact rfl)); try simp (config := { maxSteps := 10000000 }) only [specV, addF, Act.put, List.setIfInBounds_toArray, List.set_cons_zero, List.set_cons_succ, List.take_succ_cons, List.take_zero, List.drop_succ_cons, List.drop_zero])
  (apply Exists.intro; refine ⟨fun vs w1 hS hB hf => ?_, ?_⟩; (focus (have L1 := hS.1.2.2.2.2.1.cell; have l1 := hS.1.2.2.2.2.1.lt; clear hS hB hf; go_simp; first | exact ⟨Below.refl _ _, rfl⟩ | exact rfl)); try simp (config := { maxSteps := 10000000 }) only [specV, addF, Act.put, List.setIfInBounds_toArray, List.set_cons_zero, List.set_cons_succ, List.take_succ_cons, List.take_zero, List.drop_succ_cons, List.drop_zero])
  (apply Exists.intro; refine ⟨fun vs w1 hS hB hf => ?_, ?_⟩; (focus (go_simp; exact (sw_barrier s b pm pW sQ _ _ _ true 544 560 512 3 0 w1 hS.1.2.2.1 hS.1.2.1 ⟨by decide, by decide⟩ ⟨by decide, by decide⟩).mono fun e w2 ⟨he, hb⟩ => callPost.of (v := (.agg #[.bool (true), .int .i64 (544), .int .i64 (560), .int .i64 (512), .int .i64 (3), .int .i64 (0)] : Value)) (by rw [he, F.out.2.2.2.2.2.2.2.2.2]; rfl) hb rfl)); try simp (config := { maxSteps := 10000000 }) only [specV, addF, Act.put, List.setIfInBounds_toArray, List.set_cons_zero, List.set_cons_succ, List.take_succ_cons, List.take_zero, List.drop_succ_cons, List.drop_zero])
  (apply Exists.intro; refine ⟨fun vs w1 hS hB hf => ?_, ?_⟩; (focus (have L1 := hS.1.2.2.2.2.1.cell; have l1 := hS.1.2.2.2.2.1.lt; clear hS hB hf; go_simp; first | exact ⟨Below.refl _ _, rfl⟩ | exact rfl)); try simp (config := { maxSteps := 10000000 }) only [specV, addF, Act.put, List.setIfInBounds_toArray, List.set_cons_zero, List.set_cons_succ, List.take_succ_cons, List.take_zero, List.drop_succ_cons, List.drop_zero])
  (apply Exists.intro; refine ⟨fun vs w1 hS hB hf => ?_, ?_⟩; (focus (clear hS hB hf; exact opOk_capeq rfl rfl rfl rfl (m := true) (by simp [capEq]))); try simp (config := { maxSteps := 10000000 }) only [specV, addF, Act.put, List.setIfInBounds_toArray, List.set_cons_zero, List.set_cons_succ, List.take_succ_cons, List.take_zero, List.drop_succ_cons, List.drop_zero])
  (apply Exists.intro; refine ⟨fun vs w1 hS hB hf => ?_, ?_⟩; (focus (clear hS hB hf; go_simp; first | exact ⟨Below.refl _ _, rfl⟩ | exact rfl)); try simp (config := { maxSteps := 10000000 }) only [specV, addF, Act.put, List.setIfInBounds_toArray, List.set_cons_zero, List.set_cons_succ, List.take_succ_cons, List.take_zero, List.drop_succ_cons, List.drop_zero])
  (apply Exists.intro; refine ⟨fun vs w1 hS hB hf => ?_, ?_⟩; (focus (clear hS hB hf; go_simp; first | exact ⟨Below.refl _ _, rfl⟩ | exact rfl)); try simp (config := { maxSteps := 10000000 }) only [specV, addF, Act.put, List.setIfInBounds_toArray, List.set_cons_zero, List.set_cons_succ, List.take_succ_cons, List.take_zero, List.drop_succ_cons, List.drop_zero])
  (apply Exists.intro; refine ⟨fun vs w1 hS hB hf => ?_, ?_⟩; (focus (clear hS hB hf; go_simp; first | exact ⟨Below.refl _ _, rfl⟩ | exact rfl)); try simp (config := { maxSteps := 10000000 }) only [specV, addF, Act.put, List.setIfInBounds_toArray, List.set_cons_zero, List.set_cons_succ, List.take_succ_cons, List.take_zero, List.drop_succ_cons, List.drop_zero])
  (apply Exists.intro; refine ⟨fun vs w1 hS hB hf => ?_, ?_⟩; (focus (go_simp; exact (sw_step_no s b pm _ _ _ 1 w1 hS.1.2.2.1 ⟨by decide, by decide⟩ (.inl rfl)).mono fun e w2 ⟨he, hw⟩ => callPost.of he (by subst hw; exact Below.refl _ _) rfl)); try simp (config := { maxSteps := 10000000 }) only [specV, addF, Act.put, List.setIfInBounds_toArray, List.set_cons_zero, List.set_cons_succ, List.take_succ_cons, List.take_zero, List.drop_succ_cons, List.drop_zero])
  (apply Exists.intro; refine ⟨fun vs w1 hS hB hf => ?_, ?_⟩; (focus (clear hS hB hf; go_simp; first | exact ⟨Below.refl _ _, rfl⟩ | exact rfl)); try simp (config := { maxSteps := 10000000 }) only [specV, addF, Act.put, List.setIfInBounds_toArray, List.set_cons_zero, List.set_cons_succ, List.take_succ_cons, List.take_zero, List.drop_succ_cons, List.drop_zero])
  (apply Exists.intro; refine ⟨fun vs w1 hS hB hf => ?_, ?_⟩; (focus (clear hS hB hf; go_simp; first | exact ⟨Below.refl _ _, rfl⟩ | exact rfl)); try simp (config := { maxSteps := 10000000 }) only [specV, addF, Act.put, List.setIfInBounds_toArray, List.set_cons_zero, List.set_cons_succ, List.take_succ_cons, List.take_zero, List.drop_succ_cons, List.drop_zero])
  intro vs w5 hS hB5 _
  have S5 := Lib.hid hS.1
  clear hS hB5
  dsimp only
  go_wp2
  go_ret
  exact ⟨rfl, S5.out.2.2.2.2.2⟩
end Go.Proofs.Ytjimkkkiilcpoaa
