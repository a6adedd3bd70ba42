/- Sweeps: a sweeper's block; what is hit; New, Runs, Left, Gone, Begin, Barrier; the program's. -/
import Derived.Test.YtjimkkkiilcpoaaTmV
import Derived.Test.YtjimkkkiilcpoaaEncM
import Derived.Test.YtjimkkkiilcpoaaShK
import Derived.Test.YtjimkkkiilcpoaaRg
import Derived.Test.YtjimkkkiilcpoaaTmK
set_option linter.unusedVariables false
set_option linter.unusedSimpArgs false
namespace Go.Proofs.Ytjimkkkiilcpoaa
open Go.RowKit

theorem Turns.grown {w w' : World} {b : Nat} (h : w.grownBy w' (some b)) : Turns [b] w w' := ⟨h.os, h.tape, h.output, h.size, fun k hk hn => h.block k hk (fun e => by cases e; simp at hn)⟩
theorem ShM.turns {w w1 : World} {b bW : Nat} {P : List Bool} {bs : List Nat} (h : ShM w b bW P) (ht : Turns bs w w1) (h1 : b ∉ bs) (h2 : bW ∉ bs) : ShM w1 b bW P := by
  obtain ⟨hg, hB, xs, hx, hW⟩ := h
  exact ⟨hg, hB.turns ht h1, xs, hx, hW.turns ht h2⟩
theorem ShM.grow {w w1 : World} {b bW : Nat} {P : List Bool} (h : ShM w b bW P) (hb : Below w.heap.size w w1) : ShM w1 b bW P := h.below hb h.lt.1 h.lt.2

theorem got_right {tag : Bool} {xs : List Int} (hl : xs.length = 16) (hx : isB xs) : rightB (gotT tag xs) (gotB xs) (gotP xs) (gotA xs) (gotQ xs) (gotY xs) = true := by
  have g := isB_rdn hx
  have hT : gotT tag xs = true → rightB true (word4 (rdn xs) 4) (word4 (rdn xs) 8) (word4 (rdn xs) 0) (low7 (rdn xs 13)) (rdn xs 15) = true := by
    intro h
    simp only [gotT, tagB, Bool.and_eq_true] at h
    exact h.2.2
  simp only [gotB, gotP, gotA, gotQ, gotY, if_pos hl] at hT ⊢
  unfold rightB
  simp only [word4, low7] at hT ⊢
  have g0 := g 0; have g1 := g (0 + 1); have g2 := g (0 + 2); have g3 := g (0 + 3)
  have g4 := g 4; have g5 := g (4 + 1); have g6 := g (4 + 2); have g7 := g (4 + 3)
  have g8 := g 8; have g9 := g (8 + 1); have g10 := g (8 + 2); have g11 := g (8 + 3)
  have g13 := g 13; have g15 := g 15
  refine decide_eq_true ⟨by omega, by omega, by omega, by omega, by omega, by omega, by omega, by omega, by omega, by omega, fun h => ?_⟩
  exact (right_bounds (hT h)).2.2.2.2.2.2.2.2.2.2 rfl
/-- What LoadCap gives is right. -/
theorem ldC_right {D : List Int} {T : List Bool} (hB : isB D) {a : Nat} (ha : a + 16 ≤ D.length) : rightB (ldC D T a).1 (ldC D T a).2.1 (ldC D T a).2.2.1 (ldC D T a).2.2.2.1 (ldC D T a).2.2.2.2.1 (ldC D T a).2.2.2.2.2 = true :=
  got_right (partL_len D a 16 ha) (partL_isB hB a 16)
theorem ldC_in {D : List Int} {T : List Bool} (hB : isB D) {a : Nat} (ha : a + 16 ≤ D.length) : inI (ldC D T a).2.1 ∧ inI (ldC D T a).2.2.1 := by
  have h := right_bounds (ldC_right (T := T) hB ha)
  exact ⟨⟨by omega, by omega⟩, ⟨by omega, by omega⟩⟩

/-- Is what stands at granule z hit? -/
def hitK (D : List Int) (T Q : List Bool) (z : Nat) : Bool := hitsB Q (ldC D T (z * 16)).1 (ldC D T (z * 16)).2.1 (ldC D T (z * 16)).2.2.1
theorem ldC_tag (D : List Int) (T T' : List Bool) (z : Nat) (h : T'.getD z false = T.getD z false) : ldC D T' (z * 16) = ldC D T (z * 16) := by
  unfold ldC
  rw [Nat.mul_div_cancel _ (by decide : 0 < 16), h]
theorem hitK_tag (D : List Int) (T T' Q : List Bool) (z : Nat) (h : T'.getD z false = T.getD z false) : hitK D T' Q z = hitK D T Q z := by unfold hitK; rw [ldC_tag D T T' z h]
theorem hitK_of {D : List Int} {T Q : List Bool} {z : Nat} (h : hitK D T Q z = true) : T.getD z false = true := by
  simp only [hitK, hitsB, ldC, gotT, tagB, Bool.and_eq_true, Nat.mul_div_cancel _ (by decide : 0 < 16)] at h
  exact h.1.1.2.1.1

/-- A sweeper's cells. -/
def swC (b pm : Nat) (r : Bool) (lv : Value) (g : Int) : Array Value := #[.pointer (some ⟨b, 0, none⟩), .pointer (some ⟨pm, 0, none⟩), .bool r, lv, .int .i64 g]
/-- A sweeper over a memory and what is painted: its block s. -/
def SwM (w : World) (s b bP pm pW : Nat) (D : List Int) (T P Q : List Bool) (r : Bool) (L : List Int) (g : Nat) : Prop :=
  TmM w b bP D T P ∧ ShM w pm pW Q ∧ (∃ lv, Blk w s (swC b pm r lv g) 123 ∧ RowI w lv L) ∧ (s ≠ b ∧ s ≠ bP ∧ s ≠ pm ∧ s ≠ pW ∧ bP ≠ pm ∧ bP ≠ pW)

set_option maxRecDepth 100000 in
theorem sw_new (b pm : Nat) (w : World) :
    Calls Try.prog 72 #[.pointer (some ⟨b, 0, none⟩), .pointer (some ⟨pm, 0, none⟩)] w fun e w' => e = .returned (.pointer (some ⟨w.heap.size, 0, none⟩)) ∧ Blk w' w.heap.size (swC b pm false (.slice none 0 0) 0) 123 ∧ Below w.heap.size w w' := by
  go_enter Try.func72, Try.ntmps72
  go_wp2
  go_ret
  exact ⟨rfl, Blk.new _ _ _, by go_grown⟩
set_option maxRecDepth 100000 in
theorem sw_runs (s b pm : Nat) (r : Bool) (lv : Value) (g : Int) (w : World) (h : Blk w s (swC b pm r lv g) 123) :
    Calls Try.prog 78 #[.pointer (some ⟨s, 0, none⟩)] w fun e w' => e = .returned (.bool r) ∧ w = w' := by
  unfold swC at h
  have c1 := h.cell
  have l1 := h.lt
  clear h
  go_enter Try.func78, Try.ntmps78
  go_wp2
  go_ret
  exact ⟨rfl, rfl⟩
set_option maxRecDepth 100000 in
theorem sw_gone (s b pm : Nat) (r : Bool) (lv : Value) (g : Int) (w : World) (h : Blk w s (swC b pm r lv g) 123) :
    Calls Try.prog 82 #[.pointer (some ⟨s, 0, none⟩)] w fun e w' => e = .returned (.int .i64 g) ∧ w = w' := by
  unfold swC at h
  have c1 := h.cell
  have l1 := h.lt
  clear h
  go_enter Try.func82, Try.ntmps82
  go_wp2
  go_ret
  exact ⟨rfl, rfl⟩
set_option maxRecDepth 100000 in
theorem sw_left (s b pm : Nat) (r : Bool) (A : Option Addr) (n c : Nat) (g : Int) (w : World) (h : Blk w s (swC b pm r (.slice A n c) g) 123) :
    Calls Try.prog 80 #[.pointer (some ⟨s, 0, none⟩)] w fun e w' => e = .returned (.int .i64 n) ∧ w = w' := by
  unfold swC at h
  have c1 := h.cell
  have l1 := h.lt
  clear h
  go_enter Try.func80, Try.ntmps80
  go_wp2
  go_ret
  exact ⟨rfl, rfl⟩
end Go.Proofs.Ytjimkkkiilcpoaa

/- Sweeps: Begin, Barrier; the program's. -/
namespace Go.Proofs.Ytjimkkkiilcpoaa
open Go.RowKit

set_option maxRecDepth 100000 in
theorem sw_begin_no (s b pm : Nat) (lv : Value) (g : Int) (w : World) (h : Blk w s (swC b pm true lv g) 123) :
    Calls Try.prog 74 #[.pointer (some ⟨s, 0, none⟩)] w fun e w' => e = .returned (.bool false) ∧ w = w' := by
  unfold swC at h
  have c1 := h.cell
  have l1 := h.lt
  clear h
  go_enter Try.func74, Try.ntmps74
  go_wp2
  go_ret
  exact ⟨rfl, rfl⟩
set_option maxRecDepth 100000 in
set_option maxHeartbeats 1600000 in
theorem sw_begin (s b bP pm : Nat) (D : List Int) (T P : List Bool) (lv : Value) (g : Int) (w : World) (h : Blk w s (swC b pm false lv g) 123) (hm : TmM w b bP D T P) :
    Calls Try.prog 74 #[.pointer (some ⟨s, 0, none⟩)] w fun e w' => e = .returned (.bool true) ∧ (∃ A c, Blk w' s (swC b pm true (.slice A (dirtyL P).length c) g) 123 ∧ RowI w' (.slice A (dirtyL P).length c) (dirtyL P) ∧ (dirtyL P).length ≤ c ∧ c ≤ maxLen ∧ (0 < (dirtyL P).length → ∀ ad, A = some ad → w.heap.size ≤ ad.block)) ∧ Turns [s] w w' := by
  have h0 := h
  unfold swC at h0
  have c1 := h0.cell
  have l1 := h0.lt
  have HB := Lib.hid h
  have HM := Lib.hid hm
  clear h h0 hm
  go_enter Try.func74, Try.ntmps74
  go_wp2_with fail
  refine (tm_dirty b bP D T P _ HM.out).mono ?_
  rintro e w1 ⟨v, rfl, own1, b1⟩
  obtain ⟨A, c, rfl⟩ := own_form own1
  have k1 := HB.out.below b1 HB.out.lt
  have r1 := RowI.own own1
  have hA : 0 < (dirtyL P).length → ∀ ad, A = some ad → w.heap.size ≤ ad.block := fun _ ad e => by
    subst e
    obtain ⟨_, ho⟩ := own1
    rcases ho with ⟨ho, _⟩ | ⟨gg, _, _, ho, h3, _⟩
    · cases ho
    · cases ho
      exact h3
  have HAA := Lib.hid hA
  have HCC := Lib.hid (show (dirtyL P).length ≤ c ∧ c ≤ maxLen by
    obtain ⟨_, ho⟩ := own1
    rcases ho with ⟨ho, h0⟩ | ⟨gg, _, _, ho, h3, _, h4, h5, _⟩
    · simp only [Value.slice.injEq] at ho
      obtain ⟨_, h1, h2⟩ := ho
      rw [h1, h2]
      exact ⟨Nat.le_refl _, Nat.zero_le _⟩
    · cases ho
      exact ⟨h4, h5⟩)
  have KB := Lib.hid k1
  have RB := Lib.hid r1
  have BB := Lib.hid b1
  clear c1 l1 own1 b1 r1 hA
  have k2 := k1
  unfold swC at k2
  have c1 := k2.cell
  have f1 := k2.frozen
  have l1 := k2.lt
  clear k1 k2
  go_wp2
  go_ret
  have hset := (KB.out.set 3 (.slice A (dirtyL P).length c)).set 2 (.bool true)
  refine ⟨rfl, ⟨A, c, hset, ?_, HCC.out.1, HCC.out.2, HAA.out⟩, (Turns.below BB.out).trans ((Turns.set _ (by simp) 3 _).trans (Turns.set _ (by simp) 2 _))⟩
  obtain ⟨A', c', e, hr⟩ := RB.out
  simp only [Value.slice.injEq] at e
  obtain ⟨rfl, _, rfl⟩ := e
  refine ⟨_, _, rfl, fun j u hu => ?_⟩
  obtain ⟨ad, e, hc⟩ := hr j u hu
  subst e
  refine ⟨ad, rfl, ?_⟩
  have hj : 0 < (dirtyL P).length := by have := (List.getElem?_eq_some_iff.1 hu).1; rw [i64s, List.length_map] at this; omega
  have hb := HAA.out hj ad rfl
  have hs := HB.out.lt
  have hadd : (ad.add j).block = ad.block := by unfold Addr.add; split <;> rfl
  have hne : ∀ o, (⟨s, o, none⟩ : Addr) ≠ ad.add j := fun o e => by have := congrArg Addr.block e; rw [hadd] at this; dsimp only at this; omega
  rw [World.cell?_setCell_other _ _ _ _ (hne _), World.cell?_setCell_other _ _ _ _ (hne _)]
  exact hc

set_option maxRecDepth 100000 in
set_option maxHeartbeats 1600000 in
theorem sw_barrier (s b pm pW : Nat) (Q : List Bool) (r : Bool) (lv : Value) (g : Int) (t : Bool) (bb p a q y : Int) (w : World) (h : Blk w s (swC b pm r lv g) 123) (hm : ShM w pm pW Q) (hb : inI bb) (hp : inI p) :
    Calls Try.prog 84 #[.pointer (some ⟨s, 0, none⟩), .agg #[.bool (t), .int .i64 (bb), .int .i64 (p), .int .i64 (a), .int .i64 (q), .int .i64 (y)]] w fun e w' => e = .returned (.agg #[.bool (t && !hitsB Q t bb p), .int .i64 (bb), .int .i64 (p), .int .i64 (a), .int .i64 (q), .int .i64 (y)]) ∧ Below w.heap.size w w' := by
  have H := Lib.hid h
  have HM := Lib.hid hm
  have HB := Lib.hid hb
  have HP := Lib.hid hp
  clear h hm hb hp
  have HBW := Lib.hid (show ∀ W, ShM W pm pW Q → _ from fun W hW => hits_any pm pW Q t bb p a q y W HB.out HP.out hW)
  obtain ⟨hv, hhv⟩ : ∃ hv, hitsB Q t bb p = hv := ⟨_, rfl⟩
  rw [hhv] at HBW ⊢
  have HHV := Lib.hid hhv
  clear hhv
  go_enter Try.func84, Try.ntmps84
  go_wp2_with fail
  obtain ⟨W1, hW1⟩ : ∃ W1, (w.alloc (.cells #[.bool (t), .int .i64 (bb), .int .i64 (p), .int .i64 (a), .int .i64 (q), .int .i64 (y)] 23)).alloc (.cells #[.bool (false), .int .i64 (0), .int .i64 (0), .int .i64 (0), .int .i64 (0), .int .i64 (0)] 23) = W1 := ⟨_, rfl⟩
  have kc : Blk W1 w.heap.size #[.bool (t), .int .i64 (bb), .int .i64 (p), .int .i64 (a), .int .i64 (q), .int .i64 (y)] 23 := by rw [← hW1]; exact (Blk.new _ _ _).alloc _
  have kz : Blk W1 (w.heap.size + 1) #[.bool (false), .int .i64 (0), .int .i64 (0), .int .i64 (0), .int .i64 (0), .int .i64 (0)] 23 := by
    rw [← hW1]
    have := Blk.new (w.alloc (.cells #[.bool (t), .int .i64 (bb), .int .i64 (p), .int .i64 (a), .int .i64 (q), .int .i64 (y)] 23)) #[.bool (false), .int .i64 (0), .int .i64 (0), .int .i64 (0), .int .i64 (0), .int .i64 (0)] 23
    rw [World.size_alloc] at this
    exact this
  have hb1 : Below w.heap.size w W1 := by rw [← hW1]; go_grown
  have KC := Lib.hid kc
  have KZ := Lib.hid kz
  have HB1 := Lib.hid hb1
  have K1 := Lib.hid (H.out.below hb1 H.out.lt)
  have M1 := Lib.hid (HM.out.grow hb1)
  rw [hW1]
  clear kc kz hb1 hW1
  cases t with
  | false =>
    refine wp_flow_lit 12 (fun w' => Blk w' w.heap.size #[.bool (false), .int .i64 (bb), .int .i64 (p), .int .i64 (a), .int .i64 (q), .int .i64 (y)] 23 ∧ Blk w' s (swC b pm r lv g) 123 ∧ ShM w' pm pW Q ∧ Blk w' (w.heap.size + 1) #[.bool (false), .int .i64 (0), .int .i64 (0), .int .i64 (0), .int .i64 (0), .int .i64 (0)] 23)
      [none, none, none, none, none, none, none, none, none, none, none, none] (by kernel_rfl) (by kernel_rfl) ⟨KC.out.drew, K1.out.drew, M1.out.grow (Below.drew (Below.refl _ _)), KZ.out.drew⟩
      (fun w1 w2 h hb => ⟨h.1.below hb h.1.lt, h.2.1.below hb h.2.1.lt, h.2.2.1.grow hb, h.2.2.2.below hb h.2.2.2.lt⟩) trivial ?_
    try simp (config := { maxSteps := 10000000 }) only [specV, addF, Act.put, List.setIfInBounds_toArray, List.set_cons_zero, List.set_cons_succ, List.take_succ_cons, List.take_zero, List.drop_succ_cons, List.drop_zero]
    (apply Exists.intro; refine ⟨fun vs w1 hS hB hf => ?_, ?_⟩; (focus (clear hS hB hf; go_simp; first | exact ⟨Below.refl _ _, rfl⟩ | exact rfl)); try simp (config := { maxSteps := 10000000 }) only [specV, addF, Act.put, List.setIfInBounds_toArray, List.set_cons_zero, List.set_cons_succ, List.take_succ_cons, List.take_zero, List.drop_succ_cons, List.drop_zero])
    (apply Exists.intro; refine ⟨fun vs w1 hS hB hf => ?_, ?_⟩; (focus (have L1 := hS.1.cell; have l1 := hS.1.lt; clear hS hB hf; go_simp; first | exact ⟨Below.refl _ _, rfl⟩ | exact rfl)); try simp (config := { maxSteps := 10000000 }) only [specV, addF, Act.put, List.setIfInBounds_toArray, List.set_cons_zero, List.set_cons_succ, List.take_succ_cons, List.take_zero, List.drop_succ_cons, List.drop_zero])
    (apply Exists.intro; refine ⟨fun vs w1 hS hB hf => ?_, ?_⟩; (focus (clear hS hB hf; go_simp; first | exact ⟨Below.refl _ _, rfl⟩ | exact rfl)); try simp (config := { maxSteps := 10000000 }) only [specV, addF, Act.put, List.setIfInBounds_toArray, List.set_cons_zero, List.set_cons_succ, List.take_succ_cons, List.take_zero, List.drop_succ_cons, List.drop_zero])
    (apply Exists.intro; refine ⟨fun vs w1 hS hB hf => ?_, ?_⟩; (focus (clear hS hB hf; go_simp; first | exact ⟨Below.refl _ _, rfl⟩ | exact rfl)); try simp (config := { maxSteps := 10000000 }) only [specV, addF, Act.put, List.setIfInBounds_toArray, List.set_cons_zero, List.set_cons_succ, List.take_succ_cons, List.take_zero, List.drop_succ_cons, List.drop_zero])
    (apply Exists.intro; refine ⟨fun vs w1 hS hB hf => ?_, ?_⟩; (focus (clear hS hB hf; go_simp; first | exact ⟨Below.refl _ _, rfl⟩ | exact rfl)); try simp (config := { maxSteps := 10000000 }) only [specV, addF, Act.put, List.setIfInBounds_toArray, List.set_cons_zero, List.set_cons_succ, List.take_succ_cons, List.take_zero, List.drop_succ_cons, List.drop_zero])
    (apply Exists.intro; refine ⟨fun vs w1 hS hB hf => ?_, ?_⟩; (focus (clear hS hB hf; go_simp; first | exact ⟨Below.refl _ _, rfl⟩ | exact rfl)); try simp (config := { maxSteps := 10000000 }) only [specV, addF, Act.put, List.setIfInBounds_toArray, List.set_cons_zero, List.set_cons_succ, List.take_succ_cons, List.take_zero, List.drop_succ_cons, List.drop_zero])
    (apply Exists.intro; refine ⟨fun vs w1 hS hB hf => ?_, ?_⟩; (focus (clear hS hB hf; go_simp; first | exact ⟨Below.refl _ _, rfl⟩ | exact rfl)); try simp (config := { maxSteps := 10000000 }) only [specV, addF, Act.put, List.setIfInBounds_toArray, List.set_cons_zero, List.set_cons_succ, List.take_succ_cons, List.take_zero, List.drop_succ_cons, List.drop_zero])
    (apply Exists.intro; refine ⟨fun vs w1 hS hB hf => ?_, ?_⟩; (focus (clear hS hB hf; go_simp; first | exact ⟨Below.refl _ _, rfl⟩ | exact rfl)); try simp (config := { maxSteps := 10000000 }) only [specV, addF, Act.put, List.setIfInBounds_toArray, List.set_cons_zero, List.set_cons_succ, List.take_succ_cons, List.take_zero, List.drop_succ_cons, List.drop_zero])
    (apply Exists.intro; refine ⟨fun vs w1 hS hB hf => ?_, ?_⟩; (focus (clear hS hB hf; go_simp; first | exact ⟨Below.refl _ _, rfl⟩ | exact rfl)); try simp (config := { maxSteps := 10000000 }) only [specV, addF, Act.put, List.setIfInBounds_toArray, List.set_cons_zero, List.set_cons_succ, List.take_succ_cons, List.take_zero, List.drop_succ_cons, List.drop_zero])
    (apply Exists.intro; refine ⟨fun vs w1 hS hB hf => ?_, ?_⟩; (focus (clear hS hB hf; go_simp; first | exact ⟨Below.refl _ _, rfl⟩ | exact rfl)); try simp (config := { maxSteps := 10000000 }) only [specV, addF, Act.put, List.setIfInBounds_toArray, List.set_cons_zero, List.set_cons_succ, List.take_succ_cons, List.take_zero, List.drop_succ_cons, List.drop_zero])
    (apply Exists.intro; refine ⟨fun vs w1 hS hB hf => ?_, ?_⟩; (focus (clear hS hB hf; go_simp; first | exact ⟨Below.refl _ _, rfl⟩ | exact rfl)); try simp (config := { maxSteps := 10000000 }) only [specV, addF, Act.put, List.setIfInBounds_toArray, List.set_cons_zero, List.set_cons_succ, List.take_succ_cons, List.take_zero, List.drop_succ_cons, List.drop_zero])
    (apply Exists.intro; refine ⟨fun vs w1 hS hB hf => ?_, ?_⟩; (focus (clear hS hB hf; go_simp; first | exact ⟨Below.refl _ _, rfl⟩ | exact rfl)); try simp (config := { maxSteps := 10000000 }) only [specV, addF, Act.put, List.setIfInBounds_toArray, List.set_cons_zero, List.set_cons_succ, List.take_succ_cons, List.take_zero, List.drop_succ_cons, List.drop_zero])
    (intro vs w5 hS hB5 _; dsimp only; have K5 := Lib.hid hS.1; have Z5 := Lib.hid hS.2.2.2; have HB5 := Lib.hid (below_then HB1.out HB1.out.size hB5); have c4 := hS.1.cell; have f4 := hS.1.frozen; have l4 := hS.1.lt; have c5 := hS.2.2.2.cell; have f5 := hS.2.2.2.frozen; have l5 := hS.2.2.2.lt; clear hS hB5 KC KZ K1 M1 HBW; go_wp2; exact bodyPost_ret (results_cell1 (cs := #[.bool (false), .int .i64 (bb), .int .i64 (p), .int .i64 (a), .int .i64 (q), .int .i64 (y)]) rfl (by have := ((((((Z5.out.set_other (c := w.heap.size) (by omega) 0 (.bool (false))).set 0 (.bool (false))).set 1 (.int .i64 bb)).set 2 (.int .i64 p)).set 3 (.int .i64 a)).set 4 (.int .i64 q)).set 5 (.int .i64 y); exact this) Try.underlying23 rfl (by kernel_rfl) rfl) rfl ⟨rfl, (((((((HB5.out.setCell (by simp) _).setCell (by simp) _).setCell (by simp) _).setCell (by simp) _).setCell (by simp) _).setCell (by simp) _).setCell (by simp) _)⟩)
  | true =>
    refine wp_flow_lit 12 (fun w' => Blk w' w.heap.size #[.bool (true), .int .i64 (bb), .int .i64 (p), .int .i64 (a), .int .i64 (q), .int .i64 (y)] 23 ∧ Blk w' s (swC b pm r lv g) 123 ∧ ShM w' pm pW Q ∧ Blk w' (w.heap.size + 1) #[.bool (false), .int .i64 (0), .int .i64 (0), .int .i64 (0), .int .i64 (0), .int .i64 (0)] 23)
      [none, none, none, none, none, none, none, none, none, none, none, none] (by kernel_rfl) (by kernel_rfl) ⟨KC.out.drew, K1.out.drew, M1.out.grow (Below.drew (Below.refl _ _)), KZ.out.drew⟩
      (fun w1 w2 h hb => ⟨h.1.below hb h.1.lt, h.2.1.below hb h.2.1.lt, h.2.2.1.grow hb, h.2.2.2.below hb h.2.2.2.lt⟩) trivial ?_
    try simp (config := { maxSteps := 10000000 }) only [specV, addF, Act.put, List.setIfInBounds_toArray, List.set_cons_zero, List.set_cons_succ, List.take_succ_cons, List.take_zero, List.drop_succ_cons, List.drop_zero]
    (apply Exists.intro; refine ⟨fun vs w1 hS hB hf => ?_, ?_⟩; (focus (clear hS hB hf; go_simp; first | exact ⟨Below.refl _ _, rfl⟩ | exact rfl)); try simp (config := { maxSteps := 10000000 }) only [specV, addF, Act.put, List.setIfInBounds_toArray, List.set_cons_zero, List.set_cons_succ, List.take_succ_cons, List.take_zero, List.drop_succ_cons, List.drop_zero])
    (apply Exists.intro; refine ⟨fun vs w1 hS hB hf => ?_, ?_⟩; (focus (have L1 := hS.1.cell; have l1 := hS.1.lt; clear hS hB hf; go_simp; first | exact ⟨Below.refl _ _, rfl⟩ | exact rfl)); try simp (config := { maxSteps := 10000000 }) only [specV, addF, Act.put, List.setIfInBounds_toArray, List.set_cons_zero, List.set_cons_succ, List.take_succ_cons, List.take_zero, List.drop_succ_cons, List.drop_zero])
    (apply Exists.intro; refine ⟨fun vs w1 hS hB hf => ?_, ?_⟩; (focus (clear hS hB hf; go_simp; first | exact ⟨Below.refl _ _, rfl⟩ | exact rfl)); try simp (config := { maxSteps := 10000000 }) only [specV, addF, Act.put, List.setIfInBounds_toArray, List.set_cons_zero, List.set_cons_succ, List.take_succ_cons, List.take_zero, List.drop_succ_cons, List.drop_zero])
    (apply Exists.intro; refine ⟨fun vs w1 hS hB hf => ?_, ?_⟩; (focus (clear hS hB hf; go_simp; first | exact ⟨Below.refl _ _, rfl⟩ | exact rfl)); try simp (config := { maxSteps := 10000000 }) only [specV, addF, Act.put, List.setIfInBounds_toArray, List.set_cons_zero, List.set_cons_succ, List.take_succ_cons, List.take_zero, List.drop_succ_cons, List.drop_zero])
    (apply Exists.intro; refine ⟨fun vs w1 hS hB hf => ?_, ?_⟩; (focus (have L2 := hS.2.1; unfold swC at L2; have L1 := L2.cell; have l1 := L2.lt; clear hS hB hf L2; go_simp; first | exact ⟨Below.refl _ _, rfl⟩ | exact rfl)); try simp (config := { maxSteps := 10000000 }) only [specV, addF, Act.put, List.setIfInBounds_toArray, List.set_cons_zero, List.set_cons_succ, List.take_succ_cons, List.take_zero, List.drop_succ_cons, List.drop_zero])
    (apply Exists.intro; refine ⟨fun vs w1 hS hB hf => ?_, ?_⟩; (focus (clear hS hB hf; go_simp; first | exact ⟨Below.refl _ _, rfl⟩ | exact rfl)); try simp (config := { maxSteps := 10000000 }) only [specV, addF, Act.put, List.setIfInBounds_toArray, List.set_cons_zero, List.set_cons_succ, List.take_succ_cons, List.take_zero, List.drop_succ_cons, List.drop_zero])
    (apply Exists.intro; refine ⟨fun vs w1 hS hB hf => ?_, ?_⟩; (focus (have L2 := hS.2.1; unfold swC at L2; have L1 := L2.cell; have l1 := L2.lt; clear hS hB hf L2; go_simp; first | exact ⟨Below.refl _ _, rfl⟩ | exact rfl)); try simp (config := { maxSteps := 10000000 }) only [specV, addF, Act.put, List.setIfInBounds_toArray, List.set_cons_zero, List.set_cons_succ, List.take_succ_cons, List.take_zero, List.drop_succ_cons, List.drop_zero])
    (apply Exists.intro; refine ⟨fun vs w1 hS hB hf => ?_, ?_⟩; (focus (have L1 := hS.1.cell; have l1 := hS.1.lt; clear hS hB hf; go_simp; first | exact ⟨Below.refl _ _, rfl⟩ | exact rfl)); try simp (config := { maxSteps := 10000000 }) only [specV, addF, Act.put, List.setIfInBounds_toArray, List.set_cons_zero, List.set_cons_succ, List.take_succ_cons, List.take_zero, List.drop_succ_cons, List.drop_zero])
    (apply Exists.intro; refine ⟨fun vs w1 hS hB hf => ?_, ?_⟩; (focus (go_simp; exact (HBW.out w1 hS.2.2.1).mono fun e w2 ⟨he, hb⟩ => callPost.of he hb rfl)); try simp (config := { maxSteps := 10000000 }) only [specV, addF, Act.put, List.setIfInBounds_toArray, List.set_cons_zero, List.set_cons_succ, List.take_succ_cons, List.take_zero, List.drop_succ_cons, List.drop_zero])
    (apply Exists.intro; refine ⟨fun vs w1 hS hB hf => ?_, ?_⟩; (focus (clear hS hB hf; go_simp; first | exact ⟨Below.refl _ _, rfl⟩ | exact rfl)); try simp (config := { maxSteps := 10000000 }) only [specV, addF, Act.put, List.setIfInBounds_toArray, List.set_cons_zero, List.set_cons_succ, List.take_succ_cons, List.take_zero, List.drop_succ_cons, List.drop_zero])
    (apply Exists.intro; refine ⟨fun vs w1 hS hB hf => ?_, ?_⟩; (focus (clear hS hB hf; go_simp; first | exact ⟨Below.refl _ _, rfl⟩ | exact rfl)); try simp (config := { maxSteps := 10000000 }) only [specV, addF, Act.put, List.setIfInBounds_toArray, List.set_cons_zero, List.set_cons_succ, List.take_succ_cons, List.take_zero, List.drop_succ_cons, List.drop_zero])
    (apply Exists.intro; refine ⟨fun vs w1 hS hB hf => ?_, ?_⟩; (focus (clear hS hB hf; go_simp; first | exact ⟨Below.refl _ _, rfl⟩ | exact rfl)); try simp (config := { maxSteps := 10000000 }) only [specV, addF, Act.put, List.setIfInBounds_toArray, List.set_cons_zero, List.set_cons_succ, List.take_succ_cons, List.take_zero, List.drop_succ_cons, List.drop_zero])
    (intro vs w5 hS hB5 _; dsimp only; have K5 := Lib.hid hS.1; have Z5 := Lib.hid hS.2.2.2; have HB5 := Lib.hid (below_then HB1.out HB1.out.size hB5); have c4 := hS.1.cell; have f4 := hS.1.frozen; have l4 := hS.1.lt; have c5 := hS.2.2.2.cell; have f5 := hS.2.2.2.frozen; have l5 := hS.2.2.2.lt; clear hS hB5 KC KZ K1 M1 HBW; go_wp2; exact bodyPost_ret (results_cell1 (cs := #[.bool (!hv), .int .i64 (bb), .int .i64 (p), .int .i64 (a), .int .i64 (q), .int .i64 (y)]) rfl (by have := ((((((Z5.out.set_other (c := w.heap.size) (by omega) 0 (.bool (!hv))).set 0 (.bool (!hv))).set 1 (.int .i64 bb)).set 2 (.int .i64 p)).set 3 (.int .i64 a)).set 4 (.int .i64 q)).set 5 (.int .i64 y); exact this) Try.underlying23 rfl (by kernel_rfl) rfl) rfl ⟨rfl, (((((((HB5.out.setCell (by simp) _).setCell (by simp) _).setCell (by simp) _).setCell (by simp) _).setCell (by simp) _).setCell (by simp) _).setCell (by simp) _)⟩)
end Go.Proofs.Ytjimkkkiilcpoaa

/- What is hit on a page: what the iterator gives. -/
namespace Go.Proofs.Ytjimkkkiilcpoaa
open Go.RowKit Go.Shelf
attribute [local go_sem] Oper.semAt_some

/-- Of n granules from z on, those that are hit. -/
def hitsF (D : List Int) (T Q : List Bool) : Nat → Nat → List Nat
  | 0, _ => []
  | n + 1, z => if hitK D T Q z then z :: hitsF D T Q n (z + 1) else hitsF D T Q n (z + 1)
/-- What a round keeps: all but the tag of granule z, and how many are gone. -/
def KpS (bx bz s b bP pm pW : Nat) (D : List Int) (P Q : List Bool) (z : Nat) (A B : World) : Prop :=
  Keeps [bx, bz] A B ∧ (∀ r lv g, Blk A s (swC b pm r lv g) 123 → ∃ g', Blk B s (swC b pm r lv g') 123) ∧ (ShM A pm pW Q → ShM B pm pW Q) ∧
    (∀ T, TmM A b bP D T P → ∃ T', TmM B b bP D T' P ∧ ∀ k, k ≠ z → T'.getD k false = T.getD k false)
theorem KpS.trans {bx bz s b bP pm pW : Nat} {D : List Int} {P Q : List Bool} {z : Nat} {A B C : World} (h : KpS bx bz s b bP pm pW D P Q z A B) (k : KpS bx bz s b bP pm pW D P Q z B C) : KpS bx bz s b bP pm pW D P Q z A C :=
  ⟨fun x hx => (k.1 x hx).trans (h.1 x hx), fun r lv g hs => by obtain ⟨g', hg⟩ := h.2.1 r lv g hs; exact k.2.1 r lv g' hg, fun hs => k.2.2.1 (h.2.2.1 hs), fun T hT => by
    obtain ⟨T1, h1, h2⟩ := h.2.2.2 T hT
    obtain ⟨T2, h3, h4⟩ := k.2.2.2 T1 h1
    exact ⟨T2, h3, fun x hx => (h4 x hx).trans (h2 x hx)⟩⟩
def atOf (v : Value) : Int := match v with | .int _ z => z | _ => 0

set_option maxRecDepth 100000 in
set_option maxHeartbeats 3200000 in
theorem hits_iter (r bx bz s b bP pm pW p : Nat) (D : List Int) (T P Q : List Bool) (rr : Bool) (lv : Value) (g : Int) (w : World) (hX : Blk w bx #[.int .i64 p] 3) (hZ : Blk w bz #[.pointer (some ⟨s, 0, none⟩)] 76)
    (hS : Blk w s (swC b pm rr lv g) 123) (hM : TmM w b bP D T P) (hQ : ShM w pm pW Q) (hp : p < P.length) :
    RG.Iter Fence.wide r Try.prog 113 #[.pointer (some ⟨bx, 0, none⟩), .pointer (some ⟨bz, 0, none⟩)] (fun z : Nat => #[.int .i64 ((z * 16 : Nat) : Int)]) [] (KpS bx bz s b bP pm pW D P Q) (hitsF D T Q 16 (p * 16)) w := by
  intro l J W hW hJT hY hJ0
  have HX := Lib.hid (hX.below hW hX.lt)
  have HZ := Lib.hid (hZ.below hW hZ.lt)
  have HS := Lib.hid (hS.below hW hS.lt)
  have HM := Lib.hid (hM.below hW hM.lt.1 hM.lt.2)
  have HQ := Lib.hid (hQ.below hW hQ.lt.1 hQ.lt.2)
  have HY := Lib.hid hY
  have HJT := Lib.hid hJT
  have HJ0 := Lib.hid hJ0
  have HPL := Lib.hid (And.intro hp hM.1.2.2.1)
  have cX := HX.out.cell
  have lX := HX.out.lt
  have hp2 : (p : Int) ≤ 65536 := by have := hM.1.2.2.1; omega
  clear hX hZ hS hM hQ hW hY hJT hJ0 hp
  refine callsIn_of_wp Try.func113 rfl trivial ?_ rfl
  simp only [Try.ntmps113, List.size_toArray, List.length_cons, List.length_nil, Nat.reduceAdd, Nat.reduceSub, Array.replicate_succ, Array.replicate_zero, List.push_toArray, List.append_toArray, List.nil_append, List.cons_append]
  generalize hXS : hitsF D T Q 16 (p * 16) = XS at *
  have HXS := Lib.hid hXS
  clear hXS
  obtain ⟨a0, ha0⟩ : ∃ a0, p * 256 = a0 := ⟨_, rfl⟩
  have q0 : (p : Int) * 256 = (a0 : Int) := by omega
  have HA0 := Lib.hid ha0
  clear ha0
  gi_wp2
  clear q0
  gi_loopw [4] (fun u wr => ∃ (k q : Nat) (T' : List Bool), k ≤ 16 ∧ u = .int .i64 (((p * 16 + k) * 16 : Nat) : Int) ∧ (∀ i, XS[q + i]? = (hitsF D T Q (16 - k) (p * 16 + k))[i]?) ∧ XS.length = q + (hitsF D T Q (16 - k) (p * 16 + k)).length ∧ J q wr ∧
      Blk wr bx #[.int .i64 p] 3 ∧ Blk wr bz #[.pointer (some ⟨s, 0, none⟩)] 76 ∧ (∃ g', Blk wr s (swC b pm rr lv g') 123) ∧ ShM wr pm pW Q ∧ TmM wr b bP D T' P ∧ (∀ z, p * 16 + k ≤ z → T'.getD z false = T.getD z false))
    (fun u wr => ((((p + 1) * 256 : Nat) : Int) - atOf u).toNat)
  case atStart => exact ⟨0, 0, T, by omega, by rw [← HA0.out]; congr 2; omega, fun i => by rw [← HXS.out, Nat.zero_add]; rfl, by rw [← HXS.out, Nat.zero_add]; rfl, HJ0.out, HX.out, HZ.out, ⟨_, HS.out⟩, HQ.out, HM.out, fun z _ => rfl⟩
  case round =>
    clear HX HZ HS HM HQ HJ0 cX lX
    obtain ⟨k, q, T', hk, rfl, hx, hlx, hJ, hX, hZ, ⟨g', hS⟩, hQ, hM, hT⟩ := hrel
    have HX := Lib.hid hX
    have HZ := Lib.hid hZ
    have HS := Lib.hid hS
    have HM := Lib.hid hM
    have HQ := Lib.hid hQ
    have HJ := Lib.hid hJ
    have HT := Lib.hid hT
    have HXL := Lib.hid hx
    have HLX := Lib.hid hlx
    have cX := hX.cell
    have lX := hX.lt
    obtain ⟨a, ha⟩ : ∃ a, (p * 16 + k) * 16 = a := ⟨_, rfl⟩
    have HA := Lib.hid ha
    rw [ha]
    obtain ⟨pe, hpe⟩ : ∃ pe, (p + 1) * 256 = pe := ⟨_, rfl⟩
    have HPE := Lib.hid hpe
    have q1 : ((p : Int) + 1) * 256 = (pe : Int) := by omega
    clear hX hZ hS hM hQ hJ hT hx hlx
    rcases Nat.lt_or_ge k 16 with hk1 | hk1
    · have i1 : (a : Int) < (pe : Int) := by omega
      have i2 : (a : Int) ≤ 16777216 := by have := HPL.out; omega
      have HK := Lib.hid hk1
      have hpl : plB P.length (a : Int) = true := by rw [plB, decide_eq_true_eq]; have := HPL.out; omega
      have hzl : (p * 16 + k) * 16 + 16 ≤ D.length := by have := HPL.out; have := HM.out.1.1; omega
      obtain ⟨lc, hlc⟩ : ∃ lc, ldC D T ((p * 16 + k) * 16) = lc := ⟨_, rfl⟩
      have hc : capL P.length D T' (a : Int) = lc := by rw [capL, hpl, if_pos rfl, Int.toNat_natCast, ← ha, ldC_tag D T T' _ (HT.out _ (Nat.le_refl _)), hlc]
      have hin := ldC_in (T := T) HM.out.1.2.2.2 hzl
      have hhit : hitK D T Q (p * 16 + k) = hitsB Q lc.1 lc.2.1 lc.2.2.1 := by rw [hitK, hlc]
      rw [hlc] at hin
      have gl := fun W hW => tm_loadcapA b bP D T' P (a : Int) W hW ⟨by omega, by omega⟩
      rw [hc, hpl] at gl
      obtain ⟨g0, g1, g2, g3, g4, g5⟩ := lc
      simp only [capV] at gl
      dsimp only at hin hhit
      have GL := Lib.hid gl
      have HIN := Lib.hid hin
      have GH := Lib.hid (fun W hW => hits_any pm pW Q g0 g1 g2 g3 g4 g5 W HIN.out.1 HIN.out.2 hW)
      obtain ⟨hv, hhv⟩ : ∃ hv, hitsB Q g0 g1 g2 = hv := ⟨_, rfl⟩
      rw [hhv] at GH hhit
      have HHIT := Lib.hid hhit
      have cZ := HZ.out.cell
      have lZ := HZ.out.lt
      have sS := HS.out
      unfold swC at sS
      have cS := sS.cell
      have lS := sS.lt
      clear ha hpe hk hk1 hpl hzl hlc hc hin hhit gl hhv sS
      gi_wp2_with fail
      refine ⟨trivial, fun h => (by cases h), ?_⟩
      refine CallsIn.mono (callsIn_wide.2 (GL.out _ HM.out)) ?_
      rintro e w1 ⟨rfl, b1⟩
      replace HX := Lib.hid (HX.out.below b1 HX.out.lt)
      replace HZ := Lib.hid (HZ.out.below b1 HZ.out.lt)
      replace HS := Lib.hid (HS.out.below b1 HS.out.lt)
      replace HQ := Lib.hid (HQ.out.grow b1)
      replace HM := Lib.hid (HM.out.grow b1)
      replace HJ := Lib.hid (HJT.out q _ _ HJ.out (Turns.below b1))
      clear b1 cX lX cZ lZ cS lS GL
      gi_wp2_with fail
      obtain ⟨W2, hW2⟩ : ∃ W2, w1.alloc (.cells #[.bool (g0), .int .i64 (g1), .int .i64 (g2), .int .i64 (g3), .int .i64 (g4), .int .i64 (g5)] 23) = W2 := ⟨_, rfl⟩
      have hb2 : Below w1.heap.size w1 W2 := by rw [← hW2]; exact (Below.refl _ _).alloc (Nat.le_refl _) _
      have KC := Lib.hid (show Blk W2 w1.heap.size #[.bool (g0), .int .i64 (g1), .int .i64 (g2), .int .i64 (g3), .int .i64 (g4), .int .i64 (g5)] 23 by rw [← hW2]; exact Blk.new _ _ _)
      replace HX := Lib.hid (HX.out.below hb2 HX.out.lt)
      replace HZ := Lib.hid (HZ.out.below hb2 HZ.out.lt)
      replace HS := Lib.hid (HS.out.below hb2 HS.out.lt)
      replace HQ := Lib.hid (HQ.out.grow hb2)
      replace HM := Lib.hid (HM.out.grow hb2)
      replace HJ := Lib.hid (HJT.out q _ _ HJ.out (Turns.below hb2))
      rw [hW2]
      clear hb2 hW2
      generalize w1.heap.size = kx at *
      obtain ⟨n, hn⟩ : ∃ n, 16 - k = n + 1 := ⟨15 - k, by have := HK.out; omega⟩
      have hXL := HXL.out
      have hLX := HLX.out
      rw [hn, hitsF, HHIT.out] at hXL hLX
      have HN := Lib.hid (show 16 - (k + 1) = n by omega)
      clear hn HXL HLX
      cases hv with
      | false =>
        rw [if_neg (by decide)] at hXL hLX
        have HXL := Lib.hid hXL
        have HLX := Lib.hid hLX
        clear hXL hLX
        (refine wpIn_flow_lit Wide.wide 12 (fun w' => J q w' ∧ Blk w' bx #[.int .i64 p] 3 ∧ Blk w' bz #[.pointer (some ⟨s, 0, none⟩)] 76 ∧ Blk w' s (swC b pm rr lv g') 123 ∧ ShM w' pm pW Q ∧ TmM w' b bP D T' P ∧ Blk w' kx #[.bool (g0), .int .i64 (g1), .int .i64 (g2), .int .i64 (g3), .int .i64 (g4), .int .i64 (g5)] 23) [none, none, none, none, none, none, none, none, none, none, none, none] (by kernel_rfl) (by kernel_rfl) (by kernel_rfl) ⟨HJT.out q _ _ HJ.out (Turns.below (Below.refl _ _).drew), HX.out.drew, HZ.out.drew, HS.out.drew, HQ.out.grow (Below.drew (Below.refl _ _)), HM.out.drew, KC.out.drew⟩ (fun w1 w2 h hb => ⟨HJT.out q _ _ h.1 (Turns.below hb), h.2.1.below hb h.2.1.lt, h.2.2.1.below hb h.2.2.1.lt, h.2.2.2.1.below hb h.2.2.2.1.lt, h.2.2.2.2.1.grow hb, h.2.2.2.2.2.1.grow hb, h.2.2.2.2.2.2.below hb h.2.2.2.2.2.2.lt⟩) trivial ?_; try simp (config := { maxSteps := 10000000 }) only [specV, addF, Act.put, List.setIfInBounds_toArray, List.set_cons_zero, List.set_cons_succ, List.take_succ_cons, List.take_zero, List.drop_succ_cons, List.drop_zero]; (apply Exists.intro; refine ⟨fun vs w1 hS hB hf => ?_, ?_⟩; (focus (clear hS hB hf; go_simp; first | exact ⟨Below.refl _ _, rfl⟩ | exact rfl)); try simp (config := { maxSteps := 10000000 }) only [specV, addF, Act.put, List.setIfInBounds_toArray, List.set_cons_zero, List.set_cons_succ, List.take_succ_cons, List.take_zero, List.drop_succ_cons, List.drop_zero]); (apply Exists.intro; refine ⟨fun vs w1 hS hB hf => ?_, ?_⟩; (focus (clear hS hB hf; go_simp; first | exact ⟨Below.refl _ _, rfl⟩ | exact rfl)); try simp (config := { maxSteps := 10000000 }) only [specV, addF, Act.put, List.setIfInBounds_toArray, List.set_cons_zero, List.set_cons_succ, List.take_succ_cons, List.take_zero, List.drop_succ_cons, List.drop_zero]); (apply Exists.intro; refine ⟨fun vs w1 hS hB hf => ?_, ?_⟩; (focus (have L1 := hS.2.2.1.cell; have l1 := hS.2.2.1.lt; clear hS hB hf; go_simp; first | exact ⟨Below.refl _ _, rfl⟩ | exact rfl)); try simp (config := { maxSteps := 10000000 }) only [specV, addF, Act.put, List.setIfInBounds_toArray, List.set_cons_zero, List.set_cons_succ, List.take_succ_cons, List.take_zero, List.drop_succ_cons, List.drop_zero]); (apply Exists.intro; refine ⟨fun vs w1 hS hB hf => ?_, ?_⟩; (focus (clear hS hB hf; go_simp; first | exact ⟨Below.refl _ _, rfl⟩ | exact rfl)); try simp (config := { maxSteps := 10000000 }) only [specV, addF, Act.put, List.setIfInBounds_toArray, List.set_cons_zero, List.set_cons_succ, List.take_succ_cons, List.take_zero, List.drop_succ_cons, List.drop_zero]); (apply Exists.intro; refine ⟨fun vs w1 hS hB hf => ?_, ?_⟩; (focus (clear hS hB hf; go_simp; first | exact ⟨Below.refl _ _, rfl⟩ | exact rfl)); try simp (config := { maxSteps := 10000000 }) only [specV, addF, Act.put, List.setIfInBounds_toArray, List.set_cons_zero, List.set_cons_succ, List.take_succ_cons, List.take_zero, List.drop_succ_cons, List.drop_zero]); (apply Exists.intro; refine ⟨fun vs w1 hS hB hf => ?_, ?_⟩; (focus (have L2 := hS.2.2.2.1; unfold swC at L2; have L1 := L2.cell; have l1 := L2.lt; clear hS hB hf L2; go_simp; first | exact ⟨Below.refl _ _, rfl⟩ | exact rfl)); try simp (config := { maxSteps := 10000000 }) only [specV, addF, Act.put, List.setIfInBounds_toArray, List.set_cons_zero, List.set_cons_succ, List.take_succ_cons, List.take_zero, List.drop_succ_cons, List.drop_zero]); (apply Exists.intro; refine ⟨fun vs w1 hS hB hf => ?_, ?_⟩; (focus (have L1 := hS.2.2.2.2.2.2.cell; have l1 := hS.2.2.2.2.2.2.lt; clear hS hB hf; go_simp; first | exact ⟨Below.refl _ _, rfl⟩ | exact rfl)); try simp (config := { maxSteps := 10000000 }) only [specV, addF, Act.put, List.setIfInBounds_toArray, List.set_cons_zero, List.set_cons_succ, List.take_succ_cons, List.take_zero, List.drop_succ_cons, List.drop_zero]); (apply Exists.intro; refine ⟨fun vs w1 hS hB hf => ?_, ?_⟩; (focus (go_simp; exact (GH.out w1 hS.2.2.2.2.1).mono fun e w2 ⟨he, hb⟩ => callPost.of he hb rfl)); try simp (config := { maxSteps := 10000000 }) only [specV, addF, Act.put, List.setIfInBounds_toArray, List.set_cons_zero, List.set_cons_succ, List.take_succ_cons, List.take_zero, List.drop_succ_cons, List.drop_zero]); (apply Exists.intro; refine ⟨fun vs w1 hS hB hf => ?_, ?_⟩; (focus (clear hS hB hf; go_simp; first | exact ⟨Below.refl _ _, rfl⟩ | exact rfl)); try simp (config := { maxSteps := 10000000 }) only [specV, addF, Act.put, List.setIfInBounds_toArray, List.set_cons_zero, List.set_cons_succ, List.take_succ_cons, List.take_zero, List.drop_succ_cons, List.drop_zero]); (apply Exists.intro; refine ⟨fun vs w1 hS hB hf => ?_, ?_⟩; (focus (clear hS hB hf; go_simp; first | exact ⟨Below.refl _ _, rfl⟩ | exact rfl)); try simp (config := { maxSteps := 10000000 }) only [specV, addF, Act.put, List.setIfInBounds_toArray, List.set_cons_zero, List.set_cons_succ, List.take_succ_cons, List.take_zero, List.drop_succ_cons, List.drop_zero]); (apply Exists.intro; refine ⟨fun vs w1 hS hB hf => ?_, ?_⟩; (focus (clear hS hB hf; go_simp; first | exact ⟨Below.refl _ _, rfl⟩ | exact rfl)); try simp (config := { maxSteps := 10000000 }) only [specV, addF, Act.put, List.setIfInBounds_toArray, List.set_cons_zero, List.set_cons_succ, List.take_succ_cons, List.take_zero, List.drop_succ_cons, List.drop_zero]); (apply Exists.intro; refine ⟨fun vs w1 hS hB hf => ?_, ?_⟩; (focus (clear hS hB hf; go_simp; first | exact ⟨Below.refl _ _, rfl⟩ | exact rfl)); try simp (config := { maxSteps := 10000000 }) only [specV, addF, Act.put, List.setIfInBounds_toArray, List.set_cons_zero, List.set_cons_succ, List.take_succ_cons, List.take_zero, List.drop_succ_cons, List.drop_zero]))
        intro vs W5 hS hB5 _
        dsimp only
        have HS5 := Lib.hid hS
        have cX := hS.2.1.cell
        have lX := hS.2.1.lt
        clear hS hB5 HX HZ HS HM HQ HJ KC
        gi_wp2_with fail
        refine ⟨fun f h => (by cases h), ?_⟩
        gi_wp2_with fail
        go_roundw
        case rel =>
          refine ⟨k + 1, q, T', by have := HK.out; omega, ?_, ?_, ?_, HS5.out.1, HS5.out.2.1, HS5.out.2.2.1, ⟨_, HS5.out.2.2.2.1⟩, HS5.out.2.2.2.2.1, HS5.out.2.2.2.2.2.1, fun z hz => HT.out z (by omega)⟩
          · have := HA.out; congr 1; omega
          · rw [HN.out]; exact HXL.out
          · rw [HN.out]; exact HLX.out
        case measure =>
          have := HK.out
          have := HA.out
          have := HPE.out
          simp only [atOf]
          omega
      | true =>
        rw [if_pos rfl] at hXL hLX
        have hx0 : XS[q]? = some (p * 16 + k) := by have := hXL 0; simpa using this
        have HX1 := Lib.hid (show ∀ i, XS[q + 1 + i]? = (hitsF D T Q n (p * 16 + k + 1))[i]? from fun i => by have := hXL (i + 1); rw [show q + (i + 1) = q + 1 + i by omega] at this; simpa using this)
        have HL1 := Lib.hid (show XS.length = q + 1 + (hitsF D T Q n (p * 16 + k + 1)).length by rw [List.length_cons] at hLX; omega)
        have HX0 := Lib.hid hx0
        clear hXL hLX hx0
        (refine wpIn_flow_lit Wide.wide 12 (fun w' => J q w' ∧ Blk w' bx #[.int .i64 p] 3 ∧ Blk w' bz #[.pointer (some ⟨s, 0, none⟩)] 76 ∧ Blk w' s (swC b pm rr lv g') 123 ∧ ShM w' pm pW Q ∧ TmM w' b bP D T' P ∧ Blk w' kx #[.bool (g0), .int .i64 (g1), .int .i64 (g2), .int .i64 (g3), .int .i64 (g4), .int .i64 (g5)] 23) [none, none, none, none, none, none, none, none, none, none, none, none] (by kernel_rfl) (by kernel_rfl) (by kernel_rfl) ⟨HJT.out q _ _ HJ.out (Turns.below (Below.refl _ _).drew), HX.out.drew, HZ.out.drew, HS.out.drew, HQ.out.grow (Below.drew (Below.refl _ _)), HM.out.drew, KC.out.drew⟩ (fun w1 w2 h hb => ⟨HJT.out q _ _ h.1 (Turns.below hb), h.2.1.below hb h.2.1.lt, h.2.2.1.below hb h.2.2.1.lt, h.2.2.2.1.below hb h.2.2.2.1.lt, h.2.2.2.2.1.grow hb, h.2.2.2.2.2.1.grow hb, h.2.2.2.2.2.2.below hb h.2.2.2.2.2.2.lt⟩) trivial ?_; try simp (config := { maxSteps := 10000000 }) only [specV, addF, Act.put, List.setIfInBounds_toArray, List.set_cons_zero, List.set_cons_succ, List.take_succ_cons, List.take_zero, List.drop_succ_cons, List.drop_zero]; (apply Exists.intro; refine ⟨fun vs w1 hS hB hf => ?_, ?_⟩; (focus (clear hS hB hf; go_simp; first | exact ⟨Below.refl _ _, rfl⟩ | exact rfl)); try simp (config := { maxSteps := 10000000 }) only [specV, addF, Act.put, List.setIfInBounds_toArray, List.set_cons_zero, List.set_cons_succ, List.take_succ_cons, List.take_zero, List.drop_succ_cons, List.drop_zero]); (apply Exists.intro; refine ⟨fun vs w1 hS hB hf => ?_, ?_⟩; (focus (clear hS hB hf; go_simp; first | exact ⟨Below.refl _ _, rfl⟩ | exact rfl)); try simp (config := { maxSteps := 10000000 }) only [specV, addF, Act.put, List.setIfInBounds_toArray, List.set_cons_zero, List.set_cons_succ, List.take_succ_cons, List.take_zero, List.drop_succ_cons, List.drop_zero]); (apply Exists.intro; refine ⟨fun vs w1 hS hB hf => ?_, ?_⟩; (focus (have L1 := hS.2.2.1.cell; have l1 := hS.2.2.1.lt; clear hS hB hf; go_simp; first | exact ⟨Below.refl _ _, rfl⟩ | exact rfl)); try simp (config := { maxSteps := 10000000 }) only [specV, addF, Act.put, List.setIfInBounds_toArray, List.set_cons_zero, List.set_cons_succ, List.take_succ_cons, List.take_zero, List.drop_succ_cons, List.drop_zero]); (apply Exists.intro; refine ⟨fun vs w1 hS hB hf => ?_, ?_⟩; (focus (clear hS hB hf; go_simp; first | exact ⟨Below.refl _ _, rfl⟩ | exact rfl)); try simp (config := { maxSteps := 10000000 }) only [specV, addF, Act.put, List.setIfInBounds_toArray, List.set_cons_zero, List.set_cons_succ, List.take_succ_cons, List.take_zero, List.drop_succ_cons, List.drop_zero]); (apply Exists.intro; refine ⟨fun vs w1 hS hB hf => ?_, ?_⟩; (focus (clear hS hB hf; go_simp; first | exact ⟨Below.refl _ _, rfl⟩ | exact rfl)); try simp (config := { maxSteps := 10000000 }) only [specV, addF, Act.put, List.setIfInBounds_toArray, List.set_cons_zero, List.set_cons_succ, List.take_succ_cons, List.take_zero, List.drop_succ_cons, List.drop_zero]); (apply Exists.intro; refine ⟨fun vs w1 hS hB hf => ?_, ?_⟩; (focus (have L2 := hS.2.2.2.1; unfold swC at L2; have L1 := L2.cell; have l1 := L2.lt; clear hS hB hf L2; go_simp; first | exact ⟨Below.refl _ _, rfl⟩ | exact rfl)); try simp (config := { maxSteps := 10000000 }) only [specV, addF, Act.put, List.setIfInBounds_toArray, List.set_cons_zero, List.set_cons_succ, List.take_succ_cons, List.take_zero, List.drop_succ_cons, List.drop_zero]); (apply Exists.intro; refine ⟨fun vs w1 hS hB hf => ?_, ?_⟩; (focus (have L1 := hS.2.2.2.2.2.2.cell; have l1 := hS.2.2.2.2.2.2.lt; clear hS hB hf; go_simp; first | exact ⟨Below.refl _ _, rfl⟩ | exact rfl)); try simp (config := { maxSteps := 10000000 }) only [specV, addF, Act.put, List.setIfInBounds_toArray, List.set_cons_zero, List.set_cons_succ, List.take_succ_cons, List.take_zero, List.drop_succ_cons, List.drop_zero]); (apply Exists.intro; refine ⟨fun vs w1 hS hB hf => ?_, ?_⟩; (focus (go_simp; exact (GH.out w1 hS.2.2.2.2.1).mono fun e w2 ⟨he, hb⟩ => callPost.of he hb rfl)); try simp (config := { maxSteps := 10000000 }) only [specV, addF, Act.put, List.setIfInBounds_toArray, List.set_cons_zero, List.set_cons_succ, List.take_succ_cons, List.take_zero, List.drop_succ_cons, List.drop_zero]); (apply Exists.intro; refine ⟨fun vs w1 hS hB hf => ?_, ?_⟩; (focus (clear hS hB hf; go_simp; first | exact ⟨Below.refl _ _, rfl⟩ | exact rfl)); try simp (config := { maxSteps := 10000000 }) only [specV, addF, Act.put, List.setIfInBounds_toArray, List.set_cons_zero, List.set_cons_succ, List.take_succ_cons, List.take_zero, List.drop_succ_cons, List.drop_zero]); (apply Exists.intro; refine ⟨fun vs w1 hS hB hf => ?_, ?_⟩; (focus (clear hS hB hf; go_simp; first | exact ⟨Below.refl _ _, rfl⟩ | exact rfl)); try simp (config := { maxSteps := 10000000 }) only [specV, addF, Act.put, List.setIfInBounds_toArray, List.set_cons_zero, List.set_cons_succ, List.take_succ_cons, List.take_zero, List.drop_succ_cons, List.drop_zero]); (apply Exists.intro; refine ⟨fun vs w1 hS hB hf => ?_, ?_⟩; (focus (clear hS hB hf; go_simp; first | exact ⟨Below.refl _ _, rfl⟩ | exact rfl)); try simp (config := { maxSteps := 10000000 }) only [specV, addF, Act.put, List.setIfInBounds_toArray, List.set_cons_zero, List.set_cons_succ, List.take_succ_cons, List.take_zero, List.drop_succ_cons, List.drop_zero]); (apply Exists.intro; refine ⟨fun vs w1 hS hB hf => ?_, ?_⟩; (focus (clear hS hB hf; go_simp; first | exact ⟨Below.refl _ _, rfl⟩ | exact rfl)); try simp (config := { maxSteps := 10000000 }) only [specV, addF, Act.put, List.setIfInBounds_toArray, List.set_cons_zero, List.set_cons_succ, List.take_succ_cons, List.take_zero, List.drop_succ_cons, List.drop_zero]))
        intro vs W5 hS hB5 _
        dsimp only
        obtain ⟨fn, tmps, assign, body, hy, hR⟩ := HY.out q _ W5 HX0.out hS.1
        rw [HA.out] at hy
        have HS5 := Lib.hid hS
        clear hS hB5 HX HZ HS HM HQ HJ KC
        gi_wp2_with fail
        refine ⟨fun h => (by cases h), ?_⟩
        refine hR.mono ?_
        rintro e W6 ⟨rfl, hJ6, kk1, kk2, kk3, kk4⟩
        obtain ⟨g6, hS6⟩ := kk2 _ _ _ HS5.out.2.2.2.1
        obtain ⟨T6, hM6, hT6⟩ := kk4 _ HS5.out.2.2.2.2.2.1
        have hX6 := kk1.blk HS5.out.2.1 (by simp)
        have hZ6 := kk1.blk HS5.out.2.2.1 (by simp)
        have hQ6 := kk3 HS5.out.2.2.2.2.1
        have HX6 := Lib.hid hX6
        have HALL := Lib.hid (And.intro hJ6 (And.intro hZ6 (And.intro hS6 (And.intro hM6 (And.intro hQ6 hT6)))))
        have cX := hX6.cell
        have lX := hX6.lt
        clear hR hy hJ6 kk1 kk2 kk3 kk4 hS6 hM6 hT6 hX6 hZ6 hQ6 HS5
        gi_wp2_with fail
        go_roundw
        case rel =>
          refine ⟨k + 1, q + 1, T6, by have := HK.out; omega, ?_, ?_, ?_, HALL.out.1, HX6.out, HALL.out.2.1, ⟨_, HALL.out.2.2.1⟩, HALL.out.2.2.2.2.1, HALL.out.2.2.2.1, fun z hz => (HALL.out.2.2.2.2.2 z (by omega)).trans (HT.out z (by omega))⟩
          · have := HA.out; congr 1; omega
          · rw [HN.out]; exact HX1.out
          · rw [HN.out]; exact HL1.out
        case measure =>
          have := HK.out
          have := HA.out
          have := HPE.out
          simp only [atOf]
          omega
    · have i1 : ¬ (a : Int) < (pe : Int) := by omega
      have hk16 : k = 16 := by omega
      subst hk16
      clear ha hpe hk hk1
      gi_wp2
      go_end0
      refine ⟨⟨_, rfl⟩, ?_⟩
      rw [HLX.out]
      exact HJ.out
end Go.Proofs.Ytjimkkkiilcpoaa

/- A page is swept; the program's. -/
namespace Go.Proofs.Ytjimkkkiilcpoaa
open Go.RowKit Go.Shelf
attribute [local go_sem] Oper.semAt_some

theorem KpS.refl (bx bz s b bP pm pW : Nat) (D : List Int) (P Q : List Bool) (z : Nat) (A : World) : KpS bx bz s b bP pm pW D P Q z A A := ⟨fun _ _ => rfl, fun r lv g h => ⟨g, h⟩, id, fun T h => ⟨T, h, fun _ _ => rfl⟩⟩
/-- Tags with these granules stripped. -/
def clrL (T : List Bool) (xs : List Nat) : List Bool := xs.foldl (fun T z => T.set z false) T
theorem clrL_snoc (T : List Bool) (xs : List Nat) (z : Nat) : clrL T (xs ++ [z]) = (clrL T xs).set z false := by simp [clrL]
theorem clrL_len : ∀ (xs : List Nat) (T : List Bool), (clrL T xs).length = T.length
  | [], _ => rfl
  | x :: xs, T => by
    show (clrL (T.set x false) xs).length = _
    rw [clrL_len xs, List.length_set]
theorem set_false_getD (T : List Bool) (z k : Nat) : (T.set z false).getD k false = (T.getD k false && decide (k ≠ z)) := by
  rw [List.getD_eq_getElem?_getD, List.getD_eq_getElem?_getD, List.getElem?_set]
  by_cases h : z = k
  · subst h
    simp only [ne_eq, not_true, decide_false, Bool.and_false, if_true]
    split <;> rfl
  · rw [if_neg h, decide_eq_true (Ne.symm h), Bool.and_true]
theorem clrL_getD : ∀ (xs : List Nat) (T : List Bool) (k : Nat), (clrL T xs).getD k false = (T.getD k false && decide (k ∉ xs))
  | [], T, k => by simp [clrL]
  | x :: xs, T, k => by
    show (clrL (T.set x false) xs).getD k false = _
    rw [clrL_getD xs, set_false_getD]
    by_cases h1 : k = x <;> by_cases h2 : k ∈ xs <;> simp [h1, h2]
theorem hitsF_mem {D : List Int} {T Q : List Bool} : ∀ (n z0 z : Nat), z ∈ hitsF D T Q n z0 ↔ (z0 ≤ z ∧ z < z0 + n ∧ hitK D T Q z = true)
  | 0, z0, z => by simp [hitsF]; omega
  | n + 1, z0, z => by
    rw [hitsF]
    split
    · rename_i h
      rw [List.mem_cons, hitsF_mem n (z0 + 1) z]
      constructor
      · rintro (rfl | ⟨h1, h2, h3⟩)
        · exact ⟨Nat.le_refl _, by omega, h⟩
        · exact ⟨by omega, by omega, h3⟩
      · rintro ⟨h1, h2, h3⟩
        rcases Nat.eq_or_lt_of_le h1 with e | e
        · exact .inl e.symm
        · exact .inr ⟨by omega, by omega, h3⟩
    · rename_i h
      rw [hitsF_mem n (z0 + 1) z]
      constructor
      · rintro ⟨h1, h2, h3⟩
        exact ⟨by omega, by omega, h3⟩
      · rintro ⟨h1, h2, h3⟩
        rcases Nat.eq_or_lt_of_le h1 with e | e
        · subst e; exact absurd h3 h
        · exact ⟨by omega, by omega, h3⟩
theorem hitsF_len {D : List Int} {T Q : List Bool} : ∀ (n z0 : Nat), (hitsF D T Q n z0).length ≤ n
  | 0, _ => Nat.le_refl _
  | n + 1, z0 => by
    have := hitsF_len (D := D) (T := T) (Q := Q) n (z0 + 1)
    rw [hitsF]
    split
    · rw [List.length_cons]; omega
    · omega
/-- A page's hits; tags, dirty pages behind its sweep. -/
def pageH (D : List Int) (T Q : List Bool) (p : Nat) : List Nat := hitsF D T Q 16 (p * 16)
def pageT' (D : List Int) (T Q : List Bool) (p : Nat) : List Bool := clrL T (pageH D T Q p)
def pageP (D : List Int) (T P Q : List Bool) (p : Nat) : List Bool := if cleanB (pageT' D T Q p) P p then P.set p false else P

set_option maxRecDepth 100000 in
set_option maxHeartbeats 1600000 in
theorem sw_hits (q : Option Addr) (p : Int) (w : World) :
    Calls Try.prog 112 #[.pointer q, .int .i64 p] w fun e w' => e = .returned (.func (.func 113) #[] #[.pointer (some ⟨w.heap.size + 1, 0, none⟩), .pointer (some ⟨w.heap.size, 0, none⟩)]) ∧
      w' = (w.alloc (.cells #[.pointer q] 76)).alloc (.cells #[.int .i64 p] 3) := by
  go_enter Try.func112, Try.ntmps112
  go_wp2
  go_ret
  exact ⟨rfl, rfl⟩

theorem Blk.putObj {W : World} {b l : Nat} {cs : Array Value} {e : TypeId} {o : Obj} (h : Blk W b cs e) (hn : b ≠ l) : Blk (W.putObj l o) b cs e := (World.putObj_heap_other hn).trans h

theorem TmM.inj {w : World} {b bP : Nat} {D : List Int} {T T' P : List Bool} (h : TmM w b bP D T P) (h' : TmM w b bP D T' P) : T = T' := by
  have e1 := h.1.2.1
  have e2 := h'.1.2.1
  refine list_ext_getD _ _ false (by omega) fun z hz => ?_
  have h1 := (h.tag (i := z / 16) (k := z % 16) (by omega) (by omega)).1
  have h2 := (h'.tag (i := z / 16) (k := z % 16) (by omega) (by omega)).1
  rw [h1] at h2
  have e := Option.some.inj h2
  rw [show z / 16 * 16 + z % 16 = z by omega] at e
  injection e

set_option maxRecDepth 100000 in
set_option maxHeartbeats 3200000 in
theorem sw_page (s b bP pm pW p : Nat) (D : List Int) (T P Q : List Bool) (rr : Bool) (A : Option Addr) (n c : Nat) (g : Nat) (w : World) (hS : Blk w s (swC b pm rr (.slice A n c) g) 123) (hM : TmM w b bP D T P) (hQ : ShM w pm pW Q) (hp : p < P.length)
    (hne : s ≠ b ∧ s ≠ bP ∧ s ≠ pm ∧ s ≠ pW ∧ bP ≠ pm ∧ bP ≠ pW) (hg : (g : Int) ≤ 1099511627776) :
    Calls Try.prog 104 #[.pointer (some ⟨s, 0, none⟩), .int .i64 p] w fun e w' => (∃ v, e = .returned v) ∧ TmM w' b bP D (pageT' D T Q p) (pageP D T P Q p) ∧ Blk w' s (swC b pm rr (.slice A n c) ((g + (pageH D T Q p).length : Nat) : Int)) 123 ∧ Turns [bP, s] w w' := by
  have HS := Lib.hid hS
  have HM := Lib.hid hM
  have HQ := Lib.hid hQ
  have HP := Lib.hid hp
  have HNE := Lib.hid hne
  have hp2 : (p : Int) ≤ 65536 := by have := hM.1.2.2.1; omega
  clear hS hM hQ hp hne
  refine (callsIn_wide (n := 9)).1 ?_
  refine callsIn_of_wp_marks Try.func104 rfl trivial ?_ rfl
  simp only [Try.ntmps104, List.size_toArray, List.length_cons, List.length_nil, Nat.reduceAdd, Nat.reduceSub, Array.replicate_succ, Array.replicate_zero, List.push_toArray, List.append_toArray, List.nil_append, List.cons_append]
  gi_wp2_with fail
  refine ⟨trivial, ?_⟩
  refine CallsIn.mono (callsIn_wide.2 (sw_hits _ _ _)) ?_
  rintro e w2 ⟨rfl, rfl⟩
  gi_wp2_with fail
  obtain ⟨W0, hW0⟩ : ∃ W0, ((w.alloc (.cells #[.pointer (some ⟨s, 0, none⟩)] 76)).alloc (.cells #[.pointer (some ⟨s, 0, none⟩)] 76)).alloc (.cells #[.int .i64 p] 3) = W0 := ⟨_, rfl⟩
  have kO : Blk W0 w.heap.size #[.pointer (some ⟨s, 0, none⟩)] 76 := by rw [← hW0]; exact ((Blk.new w _ _).alloc _).alloc _
  have kZ : Blk W0 (w.heap.size + 1) #[.pointer (some ⟨s, 0, none⟩)] 76 := by
    rw [← hW0]
    have := Blk.new (w.alloc (.cells #[.pointer (some ⟨s, 0, none⟩)] 76)) #[.pointer (some ⟨s, 0, none⟩)] 76
    rw [World.size_alloc] at this
    exact this.alloc _
  have kX : Blk W0 (w.heap.size + 1 + 1) #[.int .i64 p] 3 := by
    rw [← hW0]
    have := Blk.new ((w.alloc (.cells #[.pointer (some ⟨s, 0, none⟩)] 76)).alloc (.cells #[.pointer (some ⟨s, 0, none⟩)] 76)) #[.int .i64 p] 3
    rw [World.size_alloc, World.size_alloc] at this
    exact this
  have hB0 : Below w.heap.size w W0 := by rw [← hW0]; go_grown
  have hs0 : W0.heap.size = w.heap.size + 3 := by rw [← hW0]; simp
  rw [hW0]
  have hbM := HM.out.lt
  have hbS := HS.out.lt
  have hbQ := HQ.out.lt
  have hM0 := HM.out.grow hB0
  have hS0 := HS.out.below hB0 hbS
  have hQ0 := HQ.out.grow hB0
  have HIT := hits_iter (9 - 1) (w.heap.size + 1 + 1) (w.heap.size + 1) s b bP pm pW p D T P Q rr (.slice A n c) g W0 kX kZ hS0 hM0 hQ0 HP.out
  have hmem := fun z => (hitsF_mem (D := D) (T := T) (Q := Q) 16 (p * 16) z).1
  have HRES := Lib.hid (And.intro (show pageH D T Q p = hitsF D T Q 16 (p * 16) from rfl) (show pageT' D T Q p = clrL T (hitsF D T Q 16 (p * 16)) from rfl))
  have HLEN := Lib.hid (hitsF_len (D := D) (T := T) (Q := Q) 16 (p * 16))
  generalize hitsF D T Q 16 (p * 16) = XS at *
  have hne := HNE.out
  clear hW0
  refine RG.wpIn_range Wide.wide rfl rfl (enters_of Try.func113 (by kernel_rfl) rfl) HIT (Below.refl _ _) (by intro x hx; cases hx)
    (fun h1 h2 => h1.trans h2)
    (fun x W l o hl => ⟨fun y hy => World.putObj_heap_other (by simp at hy; omega), fun r lv g' h => ⟨g', h.putObj (by omega)⟩, fun h => by obtain ⟨hg, hB, xs, hx, hW⟩ := h; exact ⟨hg, hB.putObj (by omega), xs, hx, hW.putObj (by omega)⟩,
      fun T0 h => ⟨T0, ⟨h.1, h.2.1, h.2.2.1.putObj (by omega), h.2.2.2.putObj (by omega)⟩, fun _ _ => rfl⟩⟩) (fun x => rfl)
    (fun q W => Blk W w.heap.size #[.pointer (some ⟨s, 0, none⟩)] 76 ∧ Blk W (w.heap.size + 1) #[.pointer (some ⟨s, 0, none⟩)] 76 ∧ Blk W (w.heap.size + 1 + 1) #[.int .i64 p] 3 ∧ Blk W s (swC b pm rr (.slice A n c) ((g + q : Nat) : Int)) 123 ∧
      TmM W b bP D (clrL T (XS.take q)) P ∧ ShM W pm pW Q ∧ Turns [bP, s] w W ∧ W0.heap.size ≤ W.heap.size)
    (fun q X Y row ⟨i1, i2, i3, i4, i5, i6, i7, i8⟩ hg hr => ⟨i1.own hg fun r e => (hr r e).2, i2.own hg fun r e => (hr r e).2, i3.own hg fun r e => (hr r e).2, i4.own hg fun r e => (hr r e).2, i5.own hg fun r e => (hr r e).2,
      by obtain ⟨hg', hB, xs, hx, hW⟩ := i6; exact ⟨hg', hB.own hg fun r e => (hr r e).2, xs, hx, hW.own hg fun r e => (hr r e).2⟩,
      ⟨hg.os.trans i7.os, hg.tape.trans i7.tape, hg.output.trans i7.output, Nat.le_trans i7.size hg.size, fun x hx hn => (hg.block x (Nat.lt_of_lt_of_le hx i7.size) (fun e => by have := (hr x e.symm).1; omega)).trans (i7.block x hx hn)⟩, Nat.le_trans i8 hg.size⟩)
    (fun q X Y ⟨i1, i2, i3, i4, i5, i6, i7, i8⟩ ht => ⟨i1.turns ht (by simp), i2.turns ht (by simp), i3.turns ht (by simp), i4.turns ht (by simp), i5.turns ht (by simp) (by simp), i6.turns ht (by simp) (by simp), i7.trans (ht.sub (by simp)), Nat.le_trans i8 ht.size⟩)
    ⟨kO, kZ, kX, hS0, hM0, hQ0, Turns.below hB0, Nat.le_refl _⟩
    (fun q x a' W => a' = { tmps := #[.pointer (some ⟨s, 0, none⟩), .int .i64 p, .pointer (some ⟨w.heap.size, 0, none⟩), undef, .int .i64 ((x * 16 : Nat) : Int), .pointer (some ⟨s, 0, none⟩), .int .i64 p,
        .func (.func 113) #[] #[.pointer (some ⟨w.heap.size + 1 + 1, 0, none⟩), .pointer (some ⟨w.heap.size + 1, 0, none⟩)], .int .i64 ((x * 16 : Nat) : Int),
        undef, undef, undef, undef, undef, undef, undef, undef, undef, undef, undef, undef, undef, undef, undef, undef, undef, undef, undef], defers := [] })
    (fun q x a' _ X Y row h hg hr => h) ?assign ?body ?done
  case assign =>
    intro l q x W K hx hi hK
    have HK := Lib.hid hK
    have HI := Lib.hid hi
    obtain ⟨z, hz⟩ : ∃ z, x * 16 = z := ⟨_, rfl⟩
    have HZ := Lib.hid hz
    rw [hz]
    clear hK HIT hmem hi hz
    gi_wp2
    exact HK.out _ _ (KeepsFrom.refl _ _) (KpS.refl _ _ _ _ _ _ _ _ _ _ _ _) HI.out (by rw [HZ.out])
  case body =>
    intro l q x a' W hlB hlW hx ⟨i1, i2, i3, i4, i5, i6, i7, i8⟩ j3
    subst j3
    obtain ⟨hx1, hx2, _⟩ := hmem x (List.mem_of_getElem? hx)
    have hql : q < XS.length := (List.getElem?_eq_some_iff.1 hx).1
    have hq16 : (q : Int) ≤ 16 := by have := HLEN.out; omega
    have htk : XS.take (q + 1) = XS.take q ++ [x] := by rw [List.take_add_one, hx]; rfl
    have hpl : plB P.length ((x * 16 : Nat) : Int) = true := by rw [plB, decide_eq_true_eq]; have := HP.out; omega
    have hxi : (((x * 16 : Nat) : Int) / 16).toNat = x := by omega
    have gs := tm_strip b bP D (clrL T (XS.take q)) P ((x * 16 : Nat) : Int) W i5 ⟨by omega, by have := i5.1.2.2.1; have := HP.out; omega⟩
    rw [hpl, if_pos rfl, hxi, ← clrL_snoc, ← htk] at gs
    generalize (true && tagL (clrL T (XS.take q)) ((x * 16 : Nat) : Int)) = tg at *
    have HX := Lib.hid (And.intro hx1 hx2)
    have GS := Lib.hid gs
    have HI := Lib.hid (And.intro i1 (And.intro i2 (And.intro i3 (And.intro i4 (And.intro i5 (And.intro i6 (And.intro i7 i8)))))))
    obtain ⟨z, hz⟩ : ∃ z, x * 16 = z := ⟨_, rfl⟩
    rw [hz] at GS ⊢
    have cO := i1.cell
    have lO := i1.lt
    have sS := i4
    unfold swC at sS
    have cS := sS.cell
    have lS := sS.lt
    have HTK := Lib.hid htk
    clear hx1 hx2 hql htk hpl hxi gs i1 i2 i3 i4 i5 i6 i7 i8 sS hz hx HIT hmem
    gi_wp2_with fail
    refine ⟨trivial, ?_⟩
    refine CallsIn.mono (CallsIn.inRound l (callsIn_wide.2 GS.out)) ?_
    rintro e W1 ⟨rfl, m1, t1⟩
    have hnp : s ∉ [bP] := by simpa using HNE.out.2.1
    have k1 := HI.out.2.2.2.1.turns t1 hnp
    have K1 := Lib.hid k1
    have O1 := Lib.hid (HI.out.1.turns t1 (by have := hbM; simp; omega))
    have Z1 := Lib.hid (HI.out.2.1.turns t1 (by have := hbM; simp; omega))
    have X1 := Lib.hid (HI.out.2.2.1.turns t1 (by have := hbM; simp; omega))
    have M1 := Lib.hid m1
    have Q1 := Lib.hid (HI.out.2.2.2.2.2.1.turns t1 (by have := HNE.out; simp; omega) (by have := HNE.out; simp; omega))
    have T1 := Lib.hid t1
    clear cO lO cS lS
    have cO := O1.out.cell
    have lO := O1.out.lt
    have sS := k1
    unfold swC at sS
    have cS := sS.cell
    have fS := sS.frozen
    have lS := sS.lt
    obtain ⟨gq, hgq⟩ : ∃ gq : Nat, g + q = gq := ⟨_, rfl⟩
    have HGQ := Lib.hid hgq
    have hgq2 : (gq : Int) ≤ 1099511627776 + 16 := by omega
    rw [hgq] at cS
    clear m1 t1 hnp k1 sS hgq
    gi_wp2
    have hne2 := HNE.out
    have TT : Turns [bP, s] W (W1.setCell ⟨s, 4, none⟩ (.int .i64 ((gq : Int) + 1))) := (T1.out.sub (by simp)).trans (Turns.set _ (by simp) 4 _)
    have egq : ((g + (q + 1) : Nat) : Int) = (gq : Int) + 1 := by have := HGQ.out; omega
    refine ⟨(KeepsOthers.turns TT (by intro y hy; simp at hy; rcases hy with rfl | rfl; exact ⟨_, _, HI.out.2.2.2.2.1.2.2.2⟩; exact ⟨_, _, HI.out.2.2.2.1⟩)).from _, ⟨fun y hy => ?_, fun r lv g' h => ?_, fun h => ?_, fun T0 h => ?_⟩, ?_⟩
    · have hsz := HI.out.2.2.2.2.2.2.2
      simp at hy
      exact TT.block y (by omega) (by simp; omega)
    · exact ⟨(gq : Int) + 1, (h.turns T1.out (by simp; omega)).set 4 _⟩
    · exact h.turns TT (by simp; omega) (by simp; omega)
    · have e := TmM.inj h HI.out.2.2.2.2.1
      subst e
      refine ⟨_, M1.out.set_other (by omega) (by omega) _ _, fun k hk => ?_⟩
      rw [HTK.out, clrL_snoc, set_false_getD, decide_eq_true hk, Bool.and_true]
    · refine ⟨O1.out.set_other (by omega) _ _, Z1.out.set_other (by omega) _ _, X1.out.set_other (by omega) _ _, ?_, M1.out.set_other (by omega) (by omega) _ _, ?_, HI.out.2.2.2.2.2.2.1.trans TT, Nat.le_trans HI.out.2.2.2.2.2.2.2 TT.size⟩
      · rw [egq]
        exact K1.out.set 4 _
      · exact Q1.out.turns (Turns.set (bs := [s]) _ (by simp) 4 _) (by simp; omega) (by simp; omega)
  case done =>
    intro D' W hD ⟨i1, i2, i3, i4, i5, i6, i7, i8⟩ hK
    rw [List.take_of_length_le (Nat.le_refl _)] at i5
    have hlt5 := i5.1.2.2.1
    have gc := tm_clean b bP D (clrL T XS) P (p : Int) W i5 ⟨by omega, by omega⟩
    have GC := Lib.hid gc
    have HI := Lib.hid (And.intro i4 (And.intro i7 i8))
    have HK := Lib.hid hK
    have cO := i1.cell
    have lO := i1.lt
    have sS := i4
    unfold swC at sS
    have cS := sS.cell
    have lS := sS.lt
    clear i1 i2 i3 i4 i5 i6 i7 i8 hK gc sS HIT hmem
    gi_wp2_with fail
    refine ⟨trivial, ?_⟩
    refine CallsIn.mono (callsIn_wide.2 GC.out) ?_
    rintro e W1 ⟨rfl, m1, t1⟩
    have hsz := HI.out.2.2
    have hK1 : W1.heap[D']? = some (.deferred (some [])) := (t1.block D' (Array.getElem?_eq_some_iff.1 HK.out).1 (by simp; omega)).trans HK.out
    have K1 := Lib.hid (HI.out.1.turns t1 (by simp; omega))
    have M1 := Lib.hid m1
    have T1 := Lib.hid (HI.out.2.1.trans (t1.sub (cs := [bP, s]) (by simp)))
    have HK1 := Lib.hid hK1
    have HDD := Lib.hid (show W0.heap.size ≤ D' from hD)
    clear cO lO cS lS m1 t1 hK1 hsz
    gi_wp2
    refine ⟨by simp, .inl ⟨_, _, rfl, run_takeDeferred HK1.out, ?_⟩⟩
    have hdd := HDD.out
    have hg := grownBy_putObj' W1 D' (Obj.deferred none)
    refine ⟨_, results_none rfl _ _ _, ⟨_, rfl⟩, ?_, ?_, ⟨hg.os.trans T1.out.os, hg.tape.trans T1.out.tape, hg.output.trans T1.out.output, Nat.le_trans T1.out.size hg.size, fun x hx hn => (World.putObj_heap_other (by omega)).trans (T1.out.block x hx hn)⟩⟩
    · rw [pageP, HRES.out.2]
      have m := M1.out
      rw [Int.toNat_natCast] at m
      exact ⟨m.1, m.2.1, m.2.2.1.putObj (by omega), m.2.2.2.putObj (by omega)⟩
    · rw [HRES.out.1]
      exact K1.out.putObj (by omega)
end Go.Proofs.Ytjimkkkiilcpoaa

/- Some pages are swept; the program's Step. -/
namespace Go.Proofs.Ytjimkkkiilcpoaa
open Go.RowKit

theorem RowI.sub {w : World} {A : Option Addr} {n c : Nat} {xs : List Int} (h : RowI w (.slice A n c) xs) (l : Nat) (hl : l ≤ n) (hc : n ≤ c) : RowI w (.slice (subA A c l) (n - l) (c - l)) (xs.drop l) := by
  obtain ⟨A', c', hv, hr⟩ := h
  cases hv
  refine ⟨subA A c l, c - l, by rw [List.length_drop], fun j u hu => ?_⟩
  rw [i64s, List.map_drop, List.getElem?_drop] at hu
  obtain ⟨ad, rfl, hcell⟩ := hr _ _ hu
  unfold subA
  split
  · rename_i e
    have := (List.getElem?_eq_some_iff.1 hu).1
    simp at this
    omega
  · exact ⟨_, rfl, by rw [Go.Deep.add_add]; exact hcell⟩
theorem RowI.turns {w w1 : World} {A : Option Addr} {n c : Nat} {xs : List Int} {bs : List Nat} (h : RowI w (.slice A n c) xs) (ht : Turns bs w w1) (hA : 0 < n → ∀ ad, A = some ad → ad.block ∉ bs) : RowI w1 (.slice A n c) xs := by
  obtain ⟨A', c', hv, hr⟩ := h
  cases hv
  refine ⟨A, c, rfl, hr.turns ht fun h0 => hA (by simpa [i64s] using h0)⟩
/-- Tags, dirty pages, how many are gone, behind the sweep of these pages. -/
def swS (D : List Int) (Q : List Bool) : List Int → List Bool × List Bool × Nat → List Bool × List Bool × Nat
  | [], S => S
  | p :: l, S => swS D Q l (pageT' D S.1 Q p.toNat, pageP D S.1 S.2.1 Q p.toNat, S.2.2 + (pageH D S.1 Q p.toNat).length)
theorem swS_snoc (D : List Int) (Q : List Bool) : ∀ (l : List Int) (p : Int) (S : List Bool × List Bool × Nat), swS D Q (l ++ [p]) S =
    (pageT' D (swS D Q l S).1 Q p.toNat, pageP D (swS D Q l S).1 (swS D Q l S).2.1 Q p.toNat, (swS D Q l S).2.2 + (pageH D (swS D Q l S).1 Q p.toNat).length)
  | [], p, S => rfl
  | x :: l, p, S => by rw [List.cons_append, swS, swS_snoc D Q l, swS]
theorem pageP_len (D : List Int) (T P Q : List Bool) (p : Nat) : (pageP D T P Q p).length = P.length := by unfold pageP; split <;> simp
theorem swS_len (D : List Int) (Q : List Bool) : ∀ (l : List Int) (S : List Bool × List Bool × Nat), (swS D Q l S).2.1.length = S.2.1.length
  | [], _ => rfl
  | p :: l, S => by rw [swS, swS_len D Q l, pageP_len]
theorem swS_gone (D : List Int) (Q : List Bool) : ∀ (l : List Int) (S : List Bool × List Bool × Nat), (swS D Q l S).2.2 ≤ S.2.2 + 16 * l.length
  | [], _ => Nat.le_refl _
  | p :: l, S => by
    have := swS_gone D Q l (pageT' D S.1 Q p.toNat, pageP D S.1 S.2.1 Q p.toNat, S.2.2 + (pageH D S.1 Q p.toNat).length)
    have h2 := hitsF_len (D := D) (T := S.1) (Q := Q) 16 (p.toNat * 16)
    rw [swS, List.length_cons]
    dsimp only at this
    unfold pageH at this ⊢
    omega

set_option maxRecDepth 100000 in
set_option maxHeartbeats 1600000 in
theorem sw_step_no (s b pm : Nat) (r : Bool) (lv : Value) (g k : Int) (w : World) (h : Blk w s (swC b pm r lv g) 123) (hk : inI k) (hn : r = false ∨ k < 1) :
    Calls Try.prog 76 #[.pointer (some ⟨s, 0, none⟩), .int .i64 k] w fun e w' => e = .returned (.int .i64 0) ∧ w = w' := by
  unfold swC at h
  have c1 := h.cell
  have l1 := h.lt
  obtain ⟨k0, k1⟩ := hk
  clear h
  cases r with
  | false =>
    clear hn
    go_enter Try.func76, Try.ntmps76
    go_wp2
    go_ret
    exact ⟨rfl, rfl⟩
  | true =>
    have hk1 : k < 1 := by rcases hn with h | h; cases h; exact h
    clear hn
    go_enter Try.func76, Try.ntmps76
    go_wp2
    go_ret
    exact ⟨rfl, rfl⟩

set_option maxRecDepth 100000 in
set_option maxHeartbeats 3200000 in
theorem sw_step (s b bP pm pW : Nat) (D : List Int) (T P Q : List Bool) (A : Option Addr) (n c g k : Nat) (L : List Int) (w : World) (hS : Blk w s (swC b pm true (.slice A n c) g) 123) (hL : RowI w (.slice A n c) L) (hnc : n ≤ c) (hcm : (c : Int) ≤ 9223372036854775807)
    (hA : 0 < n → ∀ ad, A = some ad → ad.block ≠ bP ∧ ad.block ≠ s) (hLp : ∀ p ∈ L, 0 ≤ p ∧ p < P.length) (hM : TmM w b bP D T P) (hQ : ShM w pm pW Q)
    (hne : s ≠ b ∧ s ≠ bP ∧ s ≠ pm ∧ s ≠ pW ∧ bP ≠ pm ∧ bP ≠ pW) (hg : (g : Int) + 16 * n ≤ 1099511627776) (hk : (1 : Int) ≤ k) (hkm : (k : Int) ≤ 9223372036854775807) :
    Calls Try.prog 76 #[.pointer (some ⟨s, 0, none⟩), .int .i64 k] w fun e w' => e = .returned (.int .i64 ((min k n : Nat) : Int)) ∧ TmM w' b bP D (swS D Q (L.take (min k n)) (T, P, g)).1 (swS D Q (L.take (min k n)) (T, P, g)).2.1 ∧
      Blk w' s (swC b pm (decide (min k n < n)) (.slice (subA A c (min k n)) (n - min k n) (c - min k n)) (((swS D Q (L.take (min k n)) (T, P, g)).2.2 : Nat) : Int)) 123 ∧ Turns [bP, s] w w' := by
  have HS := Lib.hid hS
  have HL := Lib.hid hL
  have HM := Lib.hid hM
  have HQ := Lib.hid hQ
  have HA := Lib.hid hA
  have HLP := Lib.hid hLp
  have HNE := Lib.hid hne
  have HLN := Lib.hid (show L.length = n by obtain ⟨_, _, e, _⟩ := hL; simp only [Value.slice.injEq] at e; exact e.2.1.symm)
  have HG := Lib.hid hg
  have sS := hS
  unfold swC at sS
  have cS := sS.cell
  have lS := sS.lt
  obtain ⟨m, hm⟩ : ∃ m, min k n = m := ⟨_, rfl⟩
  rw [hm]
  have HMN := Lib.hid (show m ≤ n ∧ m ≤ k ∧ (m = n ∨ m = k) by omega)
  have qm : min (k : Int) (n : Int) = (m : Int) := by omega
  have hmc : (m : Int) ≤ c := by omega
  have hmn : (m : Int) ≤ n := by omega
  have hnc' : (n : Int) ≤ c := by omega
  clear hS hL hM hQ hA hLp hne sS hg hm hnc
  rcases (show n < k ∨ k ≤ n by omega) with hnk | hnk
  · have i0 : (n : Int) < k := by omega
    obtain rfl : m = n := by have := HMN.out; omega
    clear hnk qm
    go_enter Try.func76, Try.ntmps76
    (go_wp2; go_loopg [31] m (fun gk v31 wr => ∃ i : Nat, i + gk = m ∧ v31 = .int .i64 i ∧ TmM wr b bP D (swS D Q (L.take i) (T, P, g)).1 (swS D Q (L.take i) (T, P, g)).2.1 ∧ Blk wr s (swC b pm true (.slice A m c) (((swS D Q (L.take i) (T, P, g)).2.2 : Nat) : Int)) 123 ∧ ShM wr pm pW Q ∧ RowI wr (.slice A m c) L ∧ Turns [bP, s] w wr); (case atStart => exact ⟨0, by omega, rfl, HM.out, HS.out, HQ.out, HL.out, Turns.refl _ _⟩))
    case round =>
      obtain ⟨i, hi, rfl, hM, hS, hQ, hL, ht⟩ := hrel
      have HI := Lib.hid hi
      have HM1 := Lib.hid hM
      have HS1 := Lib.hid hS
      have HQ1 := Lib.hid hQ
      have HL1 := Lib.hid hL
      have HT1 := Lib.hid ht
      clear hi hM hS hQ hL ht
      rcases Nat.lt_or_ge i m with h1 | h1
      · have i1 : (i : Int) < m := by omega
        obtain ⟨ga, oa, rfl, hca⟩ := HL1.out.cellsA (by rw [HLN.out]; have := HMN.out; omega)
        have hil : i < L.length := by rw [HLN.out]; have := HMN.out; omega
        have c0 := hca i hil
        have hlt0 := World.block_lt_of_cell? _ _ c0
        dsimp only at hlt0
        have htk := take_snoc_i L i hil
        have hpm := HLP.out (rdi L i) (by rw [rdi, List.getD_eq_getElem?_getD, List.getElem?_eq_getElem hil]; exact List.getElem_mem hil)
        obtain ⟨p, hp⟩ := Int.eq_ofNat_of_zero_le hpm.1
        rw [hp] at c0 htk hpm
        have hsn := swS_snoc D Q (L.take i) (p : Int) (T, P, g)
        rw [← htk, Int.toNat_natCast] at hsn
        have hgn := swS_gone D Q (L.take i) (T, P, g)
        rw [List.length_take, Nat.min_eq_left (Nat.le_of_lt hil)] at hgn
        dsimp only at hgn
        have hpl : (swS D Q (L.take i) (T, P, g)).2.1.length = P.length := swS_len D Q _ _
        have gp := sw_page s b bP pm pW p D _ _ Q true _ _ c _ wr HS1.out HM1.out HQ1.out (by rw [hpl]; omega) HNE.out (by have := HG.out; have := HMN.out; omega)
        have GP := Lib.hid gp
        have HSN := Lib.hid hsn
        have H1 := Lib.hid h1
        clear h1 hca hil htk hpm hp hsn hgn hpl gp
        go_wp2_with fail
        refine GP.out.mono ?_
        rintro e w1 ⟨⟨v1, rfl⟩, m1, k1, t1⟩
        have M1 := Lib.hid m1
        have K1 := Lib.hid k1
        have T1 := Lib.hid t1
        have Q1 := Lib.hid (HQ1.out.turns t1 (by have := HNE.out; simp; omega) (by have := HNE.out; simp; omega))
        have L1 := Lib.hid (HL1.out.turns t1 (fun h0 ad e => by have := HA.out h0 ad e; simp; omega))
        clear m1 k1 t1 c0 hlt0 GP HS1 HM1 HQ1 HL1
        go_wp2
        go_roundg (gk - 1)
        case measure => have := HI.out; have := H1.out; omega
        case rel => exact ⟨i + 1, by have := HI.out; have := H1.out; omega, by go_num, by rw [HSN.out]; exact M1.out, by rw [HSN.out]; exact K1.out, Q1.out, L1.out, HT1.out.trans T1.out⟩
      · have i1 : ¬ (i : Int) < m := by omega
        obtain rfl : i = m := by have := HI.out; omega
        have sS := HS1.out
        unfold swC at sS
        have cS := sS.cell
        have fS := sS.frozen
        have lS := sS.lt
        clear sS
        by_cases hcj : c = i
        · have HSA := Lib.hid (show subA A c i = A by rw [subA, if_pos hcj])
          go_wp2
          go_ret
          refine ⟨rfl, (HM1.out.set_other (c := s) (by have := HNE.out; omega) (by have := HNE.out; omega) 3 _).set_other (c := s) (by have := HNE.out; omega) (by have := HNE.out; omega) 2 _, ?_, HT1.out.trans ((Turns.set (bs := [bP, s]) wr (b := s) (by simp) 3 _).trans (Turns.set (bs := [bP, s]) _ (b := s) (by simp) 2 _))⟩
          rw [show subA A i i = A by simp [subA]]
          first | exact (HS1.out.set 3 _).set 2 _ | (rw [show decide (i < n) = decide (0 < n - i) by (rw [Bool.eq_iff_iff]; simp only [decide_eq_true_eq]; omega)]; exact (HS1.out.set 3 _).set 2 _)
        · have HSA := Lib.hid (show subA A c i = A.map (·.add i) by rw [subA, if_neg hcj])
          go_wp2
          go_ret
          refine ⟨rfl, (HM1.out.set_other (c := s) (by have := HNE.out; omega) (by have := HNE.out; omega) 3 _).set_other (c := s) (by have := HNE.out; omega) (by have := HNE.out; omega) 2 _, ?_, HT1.out.trans ((Turns.set (bs := [bP, s]) wr (b := s) (by simp) 3 _).trans (Turns.set (bs := [bP, s]) _ (b := s) (by simp) 2 _))⟩
          rw [HSA.out]
          first | exact (HS1.out.set 3 _).set 2 _ | (rw [show decide (i < n) = decide (0 < n - i) by (rw [Bool.eq_iff_iff]; simp only [decide_eq_true_eq]; omega)]; exact (HS1.out.set 3 _).set 2 _)
  · have i0 : ¬ (n : Int) < k := by omega
    obtain rfl : m = k := by have := HMN.out; omega
    clear hnk qm
    go_enter Try.func76, Try.ntmps76
    (go_wp2; go_loopg [31] m (fun gk v31 wr => ∃ i : Nat, i + gk = m ∧ v31 = .int .i64 i ∧ TmM wr b bP D (swS D Q (L.take i) (T, P, g)).1 (swS D Q (L.take i) (T, P, g)).2.1 ∧ Blk wr s (swC b pm true (.slice A n c) (((swS D Q (L.take i) (T, P, g)).2.2 : Nat) : Int)) 123 ∧ ShM wr pm pW Q ∧ RowI wr (.slice A n c) L ∧ Turns [bP, s] w wr); (case atStart => exact ⟨0, by omega, rfl, HM.out, HS.out, HQ.out, HL.out, Turns.refl _ _⟩))
    case round =>
      obtain ⟨i, hi, rfl, hM, hS, hQ, hL, ht⟩ := hrel
      have HI := Lib.hid hi
      have HM1 := Lib.hid hM
      have HS1 := Lib.hid hS
      have HQ1 := Lib.hid hQ
      have HL1 := Lib.hid hL
      have HT1 := Lib.hid ht
      clear hi hM hS hQ hL ht
      rcases Nat.lt_or_ge i m with h1 | h1
      · have i1 : (i : Int) < m := by omega
        obtain ⟨ga, oa, rfl, hca⟩ := HL1.out.cellsA (by rw [HLN.out]; have := HMN.out; omega)
        have hil : i < L.length := by rw [HLN.out]; have := HMN.out; omega
        have c0 := hca i hil
        have hlt0 := World.block_lt_of_cell? _ _ c0
        dsimp only at hlt0
        have htk := take_snoc_i L i hil
        have hpm := HLP.out (rdi L i) (by rw [rdi, List.getD_eq_getElem?_getD, List.getElem?_eq_getElem hil]; exact List.getElem_mem hil)
        obtain ⟨p, hp⟩ := Int.eq_ofNat_of_zero_le hpm.1
        rw [hp] at c0 htk hpm
        have hsn := swS_snoc D Q (L.take i) (p : Int) (T, P, g)
        rw [← htk, Int.toNat_natCast] at hsn
        have hgn := swS_gone D Q (L.take i) (T, P, g)
        rw [List.length_take, Nat.min_eq_left (Nat.le_of_lt hil)] at hgn
        dsimp only at hgn
        have hpl : (swS D Q (L.take i) (T, P, g)).2.1.length = P.length := swS_len D Q _ _
        have gp := sw_page s b bP pm pW p D _ _ Q true _ _ c _ wr HS1.out HM1.out HQ1.out (by rw [hpl]; omega) HNE.out (by have := HG.out; have := HMN.out; omega)
        have GP := Lib.hid gp
        have HSN := Lib.hid hsn
        have H1 := Lib.hid h1
        clear h1 hca hil htk hpm hp hsn hgn hpl gp
        go_wp2_with fail
        refine GP.out.mono ?_
        rintro e w1 ⟨⟨v1, rfl⟩, m1, k1, t1⟩
        have M1 := Lib.hid m1
        have K1 := Lib.hid k1
        have T1 := Lib.hid t1
        have Q1 := Lib.hid (HQ1.out.turns t1 (by have := HNE.out; simp; omega) (by have := HNE.out; simp; omega))
        have L1 := Lib.hid (HL1.out.turns t1 (fun h0 ad e => by have := HA.out h0 ad e; simp; omega))
        clear m1 k1 t1 c0 hlt0 GP HS1 HM1 HQ1 HL1
        go_wp2
        go_roundg (gk - 1)
        case measure => have := HI.out; have := H1.out; omega
        case rel => exact ⟨i + 1, by have := HI.out; have := H1.out; omega, by go_num, by rw [HSN.out]; exact M1.out, by rw [HSN.out]; exact K1.out, Q1.out, L1.out, HT1.out.trans T1.out⟩
      · have i1 : ¬ (i : Int) < m := by omega
        obtain rfl : i = m := by have := HI.out; omega
        have sS := HS1.out
        unfold swC at sS
        have cS := sS.cell
        have fS := sS.frozen
        have lS := sS.lt
        clear sS
        by_cases hcj : c = i
        · have HSA := Lib.hid (show subA A c i = A by rw [subA, if_pos hcj])
          go_wp2
          go_ret
          refine ⟨rfl, (HM1.out.set_other (c := s) (by have := HNE.out; omega) (by have := HNE.out; omega) 3 _).set_other (c := s) (by have := HNE.out; omega) (by have := HNE.out; omega) 2 _, ?_, HT1.out.trans ((Turns.set (bs := [bP, s]) wr (b := s) (by simp) 3 _).trans (Turns.set (bs := [bP, s]) _ (b := s) (by simp) 2 _))⟩
          rw [show subA A i i = A by simp [subA]]
          first | exact (HS1.out.set 3 _).set 2 _ | (rw [show decide (i < n) = decide (0 < n - i) by (rw [Bool.eq_iff_iff]; simp only [decide_eq_true_eq]; omega)]; exact (HS1.out.set 3 _).set 2 _)
        · have HSA := Lib.hid (show subA A c i = A.map (·.add i) by rw [subA, if_neg hcj])
          go_wp2
          go_ret
          refine ⟨rfl, (HM1.out.set_other (c := s) (by have := HNE.out; omega) (by have := HNE.out; omega) 3 _).set_other (c := s) (by have := HNE.out; omega) (by have := HNE.out; omega) 2 _, ?_, HT1.out.trans ((Turns.set (bs := [bP, s]) wr (b := s) (by simp) 3 _).trans (Turns.set (bs := [bP, s]) _ (b := s) (by simp) 2 _))⟩
          rw [HSA.out]
          first | exact (HS1.out.set 3 _).set 2 _ | (rw [show decide (i < n) = decide (0 < n - i) by (rw [Bool.eq_iff_iff]; simp only [decide_eq_true_eq]; omega)]; exact (HS1.out.set 3 _).set 2 _)
end Go.Proofs.Ytjimkkkiilcpoaa
