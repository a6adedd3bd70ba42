/- Sweeps; the document's. -/
import Derived.Test.YtjimkkkiilcpoaaSwP
import Derived.Deep.DeepCutAuto
import Derived.Deep.CutBlock
set_option linter.unusedVariables false
set_option linter.unusedSimpArgs false
namespace Go.Proofs.Ytjimkkkiilcpoaa
open Go.RowKit

theorem RfM.turns {w w1 : World} {b bP : Nat} {P : List Bool} {bs : List Nat} (h : RfM w b bP P) (ht : Turns bs w w1) (h1 : b ∉ bs) (h2 : bP ∉ bs) : RfM w1 b bP P := ⟨h.1, h.2.1.turns ht h1, h.2.2.turns ht h2⟩
theorem RfM.grow {w w1 : World} {b bP : Nat} {P : List Bool} (h : RfM w b bP P) (hb : Below w.heap.size w w1) : RfM w1 b bP P := h.below hb h.lt.1 h.lt.2
/-- A sweeper's cells. -/
def rsC (r q : Nat) (run : Bool) (lv : Value) (g : Int) : Array Value := #[.pointer (some ⟨r, 0, none⟩), .pointer (some ⟨q, 0, none⟩), .bool run, lv, .int .i64 g]

set_option maxRecDepth 100000 in
theorem rs_new (r q : Nat) (w : World) :
    Calls Try.prog 73 #[.pointer (some ⟨r, 0, none⟩), .pointer (some ⟨q, 0, none⟩)] w fun e w' => e = .returned (.pointer (some ⟨w.heap.size, 0, none⟩)) ∧ Blk w' w.heap.size (rsC r q false (.slice none 0 0) 0) 125 ∧ Below w.heap.size w w' := by
  go_enter Try.func73, Try.ntmps73
  go_wp2
  go_ret
  exact ⟨rfl, Blk.new _ _ _, by go_grown⟩
set_option maxRecDepth 100000 in
theorem rs_runs (s r q : Nat) (run : Bool) (lv : Value) (g : Int) (w : World) (h : Blk w s (rsC r q run lv g) 125) :
    Calls Try.prog 79 #[.pointer (some ⟨s, 0, none⟩)] w fun e w' => e = .returned (.bool run) ∧ w = w' := by
  unfold rsC at h
  have c1 := h.cell
  have l1 := h.lt
  clear h
  go_enter Try.func79, Try.ntmps79
  go_wp2
  go_ret
  exact ⟨rfl, rfl⟩
set_option maxRecDepth 100000 in
theorem rs_gone (s r q : Nat) (run : Bool) (lv : Value) (g : Int) (w : World) (h : Blk w s (rsC r q run lv g) 125) :
    Calls Try.prog 83 #[.pointer (some ⟨s, 0, none⟩)] w fun e w' => e = .returned (.int .i64 g) ∧ w = w' := by
  unfold rsC at h
  have c1 := h.cell
  have l1 := h.lt
  clear h
  go_enter Try.func83, Try.ntmps83
  go_wp2
  go_ret
  exact ⟨rfl, rfl⟩
set_option maxRecDepth 100000 in
theorem rs_left (s r q : Nat) (run : Bool) (A : Option Addr) (n c : Nat) (g : Int) (w : World) (h : Blk w s (rsC r q run (.slice A n c) g) 125) :
    Calls Try.prog 81 #[.pointer (some ⟨s, 0, none⟩)] w fun e w' => e = .returned (.int .i64 n) ∧ w = w' := by
  unfold rsC at h
  have c1 := h.cell
  have l1 := h.lt
  clear h
  go_enter Try.func81, Try.ntmps81
  go_wp2
  go_ret
  exact ⟨rfl, rfl⟩
set_option maxRecDepth 100000 in
theorem rs_begin_no (s r q : Nat) (lv : Value) (g : Int) (w : World) (h : Blk w s (rsC r q true lv g) 125) :
    Calls Try.prog 75 #[.pointer (some ⟨s, 0, none⟩)] w fun e w' => e = .returned (.bool false) ∧ w = w' := by
  unfold rsC at h
  have c1 := h.cell
  have l1 := h.lt
  clear h
  go_enter Try.func75, Try.ntmps75
  go_wp2
  go_ret
  exact ⟨rfl, rfl⟩
set_option maxRecDepth 100000 in
set_option maxHeartbeats 1600000 in
theorem rs_begin (s r rB rT rP q : Nat) (D : List Int) (T P : List Bool) (lv : Value) (g : Int) (w : World) (h : Blk w s (rsC r q false lv g) 125) (hm : TrM w r rB rT rP D T P) :
    Calls Try.prog 75 #[.pointer (some ⟨s, 0, none⟩)] w fun e w' => e = .returned (.bool true) ∧ (∃ A c, Blk w' s (rsC r q true (.slice A (dirtyL P).length c) g) 125 ∧ RowI w' (.slice A (dirtyL P).length c) (dirtyL P) ∧ (dirtyL P).length ≤ c ∧ c ≤ maxLen ∧ (0 < (dirtyL P).length → ∀ ad, A = some ad → w.heap.size ≤ ad.block)) ∧ Turns [s] w w' := by
  have h0 := h
  unfold rsC at h0
  have c1 := h0.cell
  have l1 := h0.lt
  have HB := Lib.hid h
  have HM := Lib.hid hm
  clear h h0 hm
  go_enter Try.func75, Try.ntmps75
  go_wp2_with fail
  refine (tr_dirty r rB rT rP D T P _ HM.out).mono ?_
  rintro e w1 ⟨v, rfl, own1, b1⟩
  obtain ⟨A, c, rfl⟩ := own_form own1
  have k1 := HB.out.below b1 HB.out.lt
  have r1 := RowI.own own1
  have hA : 0 < (dirtyL P).length → ∀ ad, A = some ad → w.heap.size ≤ ad.block := fun _ ad e => by
    subst e
    obtain ⟨_, ho⟩ := own1
    rcases ho with ⟨ho, _⟩ | ⟨gg, _, _, ho, h3, _⟩
    · cases ho
    · cases ho
      exact h3
  have HAA := Lib.hid hA
  have HCC := Lib.hid (show (dirtyL P).length ≤ c ∧ c ≤ maxLen by
    obtain ⟨_, ho⟩ := own1
    rcases ho with ⟨ho, h0⟩ | ⟨gg, _, _, ho, h3, _, h4, h5, _⟩
    · simp only [Value.slice.injEq] at ho
      obtain ⟨_, h1, h2⟩ := ho
      rw [h1, h2]
      exact ⟨Nat.le_refl _, Nat.zero_le _⟩
    · cases ho
      exact ⟨h4, h5⟩)
  have KB := Lib.hid k1
  have RB := Lib.hid r1
  have BB := Lib.hid b1
  clear c1 l1 own1 b1 r1 hA
  have k2 := k1
  unfold rsC at k2
  have c1 := k2.cell
  have f1 := k2.frozen
  have l1 := k2.lt
  clear k1 k2
  go_wp2
  go_ret
  have hset := (KB.out.set 3 (.slice A (dirtyL P).length c)).set 2 (.bool true)
  refine ⟨rfl, ⟨A, c, hset, ?_, HCC.out.1, HCC.out.2, HAA.out⟩, (Turns.below BB.out).trans ((Turns.set _ (by simp) 3 _).trans (Turns.set _ (by simp) 2 _))⟩
  obtain ⟨A', c', e, hr⟩ := RB.out
  simp only [Value.slice.injEq] at e
  obtain ⟨rfl, _, rfl⟩ := e
  refine ⟨_, _, rfl, fun j u hu => ?_⟩
  obtain ⟨ad, e, hc⟩ := hr j u hu
  subst e
  refine ⟨ad, rfl, ?_⟩
  have hj : 0 < (dirtyL P).length := by have := (List.getElem?_eq_some_iff.1 hu).1; rw [i64s, List.length_map] at this; omega
  have hb := HAA.out hj ad rfl
  have hs := HB.out.lt
  have hadd : (ad.add j).block = ad.block := by unfold Addr.add; split <;> rfl
  have hne : ∀ o, (⟨s, o, none⟩ : Addr) ≠ ad.add j := fun o e => by have := congrArg Addr.block e; rw [hadd] at this; dsimp only at this; omega
  rw [World.cell?_setCell_other _ _ _ _ (hne _), World.cell?_setCell_other _ _ _ _ (hne _)]
  exact hc
set_option maxRecDepth 100000 in
set_option maxHeartbeats 1600000 in
theorem rs_barrier (s r q qB : Nat) (Q : List Bool) (run : Bool) (lv : Value) (g : Int) (t : Bool) (bb p a qq y : Int) (w : World) (h : Blk w s (rsC r q run lv g) 125) (hm : RfM w q qB Q) (hb : inI bb) (hp : inI p) :
    Calls Try.prog 85 #[.pointer (some ⟨s, 0, none⟩), .agg #[.bool (t), .int .i64 (bb), .int .i64 (p), .int .i64 (a), .int .i64 (qq), .int .i64 (y)]] w fun e w' => e = .returned (.agg #[.bool (t && !hitsB Q t bb p), .int .i64 (bb), .int .i64 (p), .int .i64 (a), .int .i64 (qq), .int .i64 (y)]) ∧ Below w.heap.size w w' := by
  have H := Lib.hid h
  have HM := Lib.hid hm
  have HB := Lib.hid hb
  have HP := Lib.hid hp
  clear h hm hb hp
  have HBW := Lib.hid (show ∀ W, RfM W q qB Q → _ from fun W hW => ref_hits_any q qB Q t bb p a qq y W HB.out HP.out hW)
  obtain ⟨hv, hhv⟩ : ∃ hv, hitsB Q t bb p = hv := ⟨_, rfl⟩
  rw [hhv] at HBW ⊢
  have HHV := Lib.hid (show hv = true → t = true by
    intro h
    rw [← hhv] at h
    unfold hitsB at h
    cases t
    · simp at h
    · rfl)
  clear hhv
  go_enter Try.func85, Try.ntmps85
  go_upto_region 1 with fail
  obtain ⟨W1, hW1⟩ : ∃ W1, (w.alloc (.cells #[.bool (t), .int .i64 (bb), .int .i64 (p), .int .i64 (a), .int .i64 (qq), .int .i64 (y)] 23)).alloc (.cells #[.bool (false), .int .i64 (0), .int .i64 (0), .int .i64 (0), .int .i64 (0), .int .i64 (0)] 23) = W1 := ⟨_, rfl⟩
  have kc : Blk W1 w.heap.size #[.bool (t), .int .i64 (bb), .int .i64 (p), .int .i64 (a), .int .i64 (qq), .int .i64 (y)] 23 := by rw [← hW1]; exact (Blk.new _ _ _).alloc _
  have kz : Blk W1 (w.heap.size + 1) #[.bool (false), .int .i64 (0), .int .i64 (0), .int .i64 (0), .int .i64 (0), .int .i64 (0)] 23 := by
    rw [← hW1]
    have := Blk.new (w.alloc (.cells #[.bool (t), .int .i64 (bb), .int .i64 (p), .int .i64 (a), .int .i64 (qq), .int .i64 (y)] 23)) #[.bool (false), .int .i64 (0), .int .i64 (0), .int .i64 (0), .int .i64 (0), .int .i64 (0)] 23
    rw [World.size_alloc] at this
    exact this
  have hb1 : Below w.heap.size w W1 := by rw [← hW1]; go_grown
  have KC := Lib.hid kc
  have KZ := Lib.hid kz
  have HB1 := Lib.hid hb1
  have K1 := Lib.hid (H.out.below hb1 H.out.lt)
  have M1 := Lib.hid (HM.out.grow hb1)
  rw [hW1]
  clear kc kz hb1 hW1
  refine wp_flow_lit 5 (fun w' => Blk w' w.heap.size #[.bool (t), .int .i64 (bb), .int .i64 (p), .int .i64 (a), .int .i64 (qq), .int .i64 (y)] 23 ∧ Blk w' s (rsC r q run lv g) 125 ∧ RfM w' q qB Q ∧ Blk w' (w.heap.size + 1) #[.bool (false), .int .i64 (0), .int .i64 (0), .int .i64 (0), .int .i64 (0), .int .i64 (0)] 23)
    [none, none, none, none, none] (by kernel_rfl) (by kernel_rfl) ⟨KC.out.drew, K1.out.drew, M1.out.grow (Below.drew (Below.refl _ _)), KZ.out.drew⟩
    (fun w1 w2 h hb => ⟨h.1.below hb h.1.lt, h.2.1.below hb h.2.1.lt, h.2.2.1.grow hb, h.2.2.2.below hb h.2.2.2.lt⟩) trivial ?_
  try simp (config := { maxSteps := 10000000 }) only [specV, addF, Act.put, List.setIfInBounds_toArray, List.set_cons_zero, List.set_cons_succ, List.take_succ_cons, List.take_zero, List.drop_succ_cons, List.drop_zero]
  (apply Exists.intro; refine ⟨fun vs w1 hS hB hf => ?_, ?_⟩; (focus (clear hS hB hf; go_simp; first | exact ⟨Below.refl _ _, rfl⟩ | exact rfl)); try simp (config := { maxSteps := 10000000 }) only [specV, addF, Act.put, List.setIfInBounds_toArray, List.set_cons_zero, List.set_cons_succ, List.take_succ_cons, List.take_zero, List.drop_succ_cons, List.drop_zero])
  (apply Exists.intro; refine ⟨fun vs w1 hS hB hf => ?_, ?_⟩; (focus (have L2 := hS.2.1; unfold rsC at L2; have L1 := L2.cell; have l1 := L2.lt; clear hS hB hf L2; go_simp; first | exact ⟨Below.refl _ _, rfl⟩ | exact rfl)); try simp (config := { maxSteps := 10000000 }) only [specV, addF, Act.put, List.setIfInBounds_toArray, List.set_cons_zero, List.set_cons_succ, List.take_succ_cons, List.take_zero, List.drop_succ_cons, List.drop_zero])
  (apply Exists.intro; refine ⟨fun vs w1 hS hB hf => ?_, ?_⟩; (focus (have L2 := hS.2.1; unfold rsC at L2; have L1 := L2.cell; have l1 := L2.lt; clear hS hB hf L2; go_simp; first | exact ⟨Below.refl _ _, rfl⟩ | exact rfl)); try simp (config := { maxSteps := 10000000 }) only [specV, addF, Act.put, List.setIfInBounds_toArray, List.set_cons_zero, List.set_cons_succ, List.take_succ_cons, List.take_zero, List.drop_succ_cons, List.drop_zero])
  (apply Exists.intro; refine ⟨fun vs w1 hS hB hf => ?_, ?_⟩; (focus (have L2 := hS.2.1; unfold rsC at L2; have L1 := L2.cell; have l1 := L2.lt; clear hS hB hf L2; go_simp; first | exact ⟨Below.refl _ _, rfl⟩ | exact rfl)); try simp (config := { maxSteps := 10000000 }) only [specV, addF, Act.put, List.setIfInBounds_toArray, List.set_cons_zero, List.set_cons_succ, List.take_succ_cons, List.take_zero, List.drop_succ_cons, List.drop_zero])
  (apply Exists.intro; refine ⟨fun vs w1 hS hB hf => ?_, ?_⟩; (focus (have L1 := hS.1.cell; have l1 := hS.1.lt; clear hS hB hf; go_simp; first | exact ⟨Below.refl _ _, rfl⟩ | exact rfl)); try simp (config := { maxSteps := 10000000 }) only [specV, addF, Act.put, List.setIfInBounds_toArray, List.set_cons_zero, List.set_cons_succ, List.take_succ_cons, List.take_zero, List.drop_succ_cons, List.drop_zero])
  intro vs w5 hS hB5 _
  dsimp only
  have S5 := Lib.hid hS
  have B5 := Lib.hid (below_then HB1.out HB1.out.size hB5)
  clear hS hB5 KC KZ K1 M1 HB1
  go_wp2_with fail
  refine (HBW.out w5 S5.out.2.2.1).mono ?_
  rintro e w6 ⟨rfl, b6⟩
  have KC6 := Lib.hid (S5.out.1.below b6 S5.out.1.lt)
  have KZ6 := Lib.hid (S5.out.2.2.2.below b6 S5.out.2.2.2.lt)
  have B6 := Lib.hid (below_then B5.out B5.out.size b6)
  clear b6 S5 B5 HBW
  cases hv with
  | false =>
    have c4 := KC6.out.cell
    have f4 := KC6.out.frozen
    have l4 := KC6.out.lt
    have c5 := KZ6.out.cell
    have f5 := KZ6.out.frozen
    have l5 := KZ6.out.lt
    go_wp2
    exact bodyPost_ret (results_cell1 (cs := #[.bool (t), .int .i64 (bb), .int .i64 (p), .int .i64 (a), .int .i64 (qq), .int .i64 (y)]) rfl (by have := (((((KZ6.out.set 0 (.bool t)).set 1 (.int .i64 bb)).set 2 (.int .i64 p)).set 3 (.int .i64 a)).set 4 (.int .i64 qq)).set 5 (.int .i64 y); exact this) Try.underlying23 rfl (by kernel_rfl) rfl) rfl ⟨by cases t <;> rfl, ((((((B6.out.setCell (by simp) _).setCell (by simp) _).setCell (by simp) _).setCell (by simp) _).setCell (by simp) _).setCell (by simp) _)⟩
  | true =>
    have ht := HHV.out rfl
    subst ht
    have c4 := KC6.out.cell
    have f4 := KC6.out.frozen
    have l4 := KC6.out.lt
    have c5 := KZ6.out.cell
    have f5 := KZ6.out.frozen
    have l5 := KZ6.out.lt
    go_wp2
    exact bodyPost_ret (results_cell1 (cs := #[.bool (false), .int .i64 (bb), .int .i64 (p), .int .i64 (a), .int .i64 (qq), .int .i64 (y)]) rfl (by have := ((((((KZ6.out.set_other (c := w.heap.size) (by omega) 0 (.bool false)).set 0 (.bool false)).set 1 (.int .i64 bb)).set 2 (.int .i64 p)).set 3 (.int .i64 a)).set 4 (.int .i64 qq)).set 5 (.int .i64 y); exact this) Try.underlying23 rfl (by kernel_rfl) rfl) rfl ⟨rfl, (((((((B6.out.setCell (by simp) _).setCell (by simp) _).setCell (by simp) _).setCell (by simp) _).setCell (by simp) _).setCell (by simp) _).setCell (by simp) _)⟩
end Go.Proofs.Ytjimkkkiilcpoaa
