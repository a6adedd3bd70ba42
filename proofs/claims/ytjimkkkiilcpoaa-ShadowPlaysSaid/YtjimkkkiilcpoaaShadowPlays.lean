/-
  ShadowPlays: for every number of granules, every slice of paints, every address and every capability the law returns true, and each argument reads as it did. Condition: none.
-/
import Derived.Test.YtjimkkkiilcpoaaRows
import Derived.Test.YtjimkkkiilcpoaaShM
import Derived.Test.YtjimkkkiilcpoaaFlow
import Derived.ChangeOld
set_option linter.unusedVariables false
set_option linter.unusedSimpArgs false
namespace Go.Proofs.Ytjimkkkiilcpoaa.ShadowPlays
open Go.ChangeShapes Go.WideShapes Go.ChangeAt Go.RowKit Go.Proofs.Ytjimkkkiilcpoaa

theorem own : ownKnob Try.prog.godebug = none := by kernel_rfl
theorem laidOut : laidOutB Try.prog = true := by kernel_rfl

set_option maxRecDepth 100000 in
set_option maxHeartbeats 3200000 in
theorem walk (g : Int) (v : Value) (L : List Pnt) (at_ : Int) (t0 : Bool) (cb cp ca cq cy : Int) (w : World) (wg : (Lit.int .i64 g).wf = true) (ho : OpsR w v L) (wat : (Lit.int .i64 at_).wf = true) (hcb : inI cb) (hcp : inI cp) (_ : inI ca) (_ : inI cq) (_ : inI cy) :
    Calls Try.prog 8 #[.int .i64 g, v, .int .i64 at_, .agg #[.bool (t0), .int .i64 (cb), .int .i64 (cp), .int .i64 (ca), .int .i64 (cq), .int .i64 (cy)]] w fun e w' => e = .returned (.bool true) ∧ Below w.heap.size w w' := by
  obtain ⟨g0, g1⟩ := inI_of_wf wg
  have hat := inI_of_wf wat
  clear wg wat
  obtain ⟨A, c, rfl⟩ : ∃ A c, v = .slice A L.length c := ho.form
  have HO := Lib.hid ho
  clear ho
  generalize hn : L.length = n at *
  have Hn := Lib.hid hn
  clear hn
  have hb0 : Below w.heap.size w (w.alloc (.cells #[.bool (t0), .int .i64 (cb), .int .i64 (cp), .int .i64 (ca), .int .i64 (cq), .int .i64 (cy)] 23)) := by go_grown
  have C0 := Blk.new w #[.bool (t0), .int .i64 (cb), .int .i64 (cp), .int .i64 (ca), .int .i64 (cq), .int .i64 (cy)] 23
  go_enter Try.func8, Try.ntmps8
  go_wp2_with fail
  refine (head8_true _).mono ?_
  rintro e w1 ⟨rfl, B1⟩
  have C1 := C0.below B1 C0.lt
  have s1 : w.heap.size < w1.heap.size := by have := C1.lt; exact this
  have B1 := below_then hb0 (by first | omega | (simp only [World.size_alloc, World.size_drew, World.size_setCell]; omega) | (simp; done) | (simp; omega)) B1
  clear hb0 C0
  by_cases h2000 : 2000 < g
  · clear C1
    go_wp2
    go_ret
    exact ⟨rfl, B1⟩
  by_cases h200 : (200 : Int) < n
  · clear C1
    go_wp2
    go_ret
    exact ⟨rfl, B1⟩
  by_cases hg1 : g < 1
  · clear C1
    go_wp2_with fail
    refine (new_none g _ (by omega)).mono ?_
    rintro e w2 ⟨rfl, rfl⟩
    go_wp2_with fail
    refine (ref_new_none g _ (by omega)).mono ?_
    rintro e w3 ⟨rfl, rfl⟩
    go_wp2
    go_ret
    exact ⟨rfl, B1⟩
  obtain ⟨G, rfl⟩ := Int.eq_ofNat_of_zero_le (show 0 ≤ g by omega)
  go_wp2_with fail
  refine (new_any G _ (by omega) (by omega)).mono ?_
  rintro e w2 ⟨b, bW, rfl, m2, gW, gb, hne, B2⟩
  have l2 := m2.lt
  have C2 := C1.below B2 C1.lt
  have gW := Nat.lt_of_lt_of_le s1 gW
  have gb := Nat.lt_of_lt_of_le s1 gb
  have B2 := below_then B1 B1.size B2
  clear B1 C1
  go_wp2_with fail
  refine (ref_new_any G _ (by omega) (by omega)).mono ?_
  rintro e w3 ⟨r, rP, rfl, q3, grP, gr, hnr, B3⟩
  have m3 := m2.below B3 l2.1 l2.2
  have C3 := C2.below B3 C2.lt
  have n1 : some b ≠ some rP := by intro h; cases h; omega
  have n2 : some bW ≠ some rP := by intro h; cases h; omega
  have n3 : some r ≠ some bW := by intro h; cases h; omega
  have n4 : some rP ≠ some bW := by intro h; cases h; omega
  have n5 : some w.heap.size ≠ some bW := by intro h; cases h; omega
  have n6 : some w.heap.size ≠ some rP := by intro h; cases h; omega
  have g7 : w.heap.size ≤ rP := by omega
  have B3 := below_then B2 B2.size B3
  have NN := Lib.hid (And.intro n1 (And.intro n2 (And.intro n3 (And.intro n4 (And.intro n5 n6)))))
  clear n1 n2 n3 n4 n5 n6 B2 m2 C2 l2
  go_wp2
  go_loopg [12, 13, 14] n (fun gk v12 v13 v14 wr => ∃ (j : Nat) (P : List Bool), j + gk = n ∧ v12 = .int .i64 j ∧ P.length = G ∧ ShM wr b bW P ∧ RfM wr r rP P ∧ Blk wr w.heap.size #[.bool (t0), .int .i64 (cb), .int .i64 (cp), .int .i64 (ca), .int .i64 (cq), .int .i64 (cy)] 23 ∧ Below w.heap.size w wr)
  case atStart => exact ⟨0, List.replicate G false, by omega, rfl, by simp, m3, q3, C3, B3⟩
  case round =>
    obtain ⟨j, P, hjk, rfl, hP, hm, hr, hC, hb⟩ := hrel
    have Hjk := Lib.hid hjk
    have HP := Lib.hid hP
    have HM := Lib.hid hm
    have HR := Lib.hid hr
    have HC := Lib.hid hC
    have HB := Lib.hid hb
    have HO2 := Lib.hid (HO.out.below hb)
    clear hjk hP hr hm hC hb m3 q3 C3 B3
    rcases Nat.lt_or_ge j n with hlt | hge
    · have i1 : (j : Int) < n := by omega
      obtain ⟨bo, oo, f, t, is, rfl, hq, hf, ht, hp⟩ := HO2.out.pnt j (by rw [Hn.out]; exact hlt)
      have nbo : some bo ≠ some bW := by
        obtain ⟨bo', oo', _, _, _, e0, _, _, _, hp0⟩ := HO.out.pnt j (by rw [Hn.out]; exact hlt)
        cases e0
        intro h; cases h
        have := hp0.1
        omega
      have Nbo := Lib.hid nbo
      have Hlt := Lib.hid hlt
      have s2 : w.heap.size < wr.heap.size := HC.out.lt
      clear hlt hq nbo
      obtain ⟨Q, hQ⟩ : ∃ Q, Q = P := ⟨_, rfl⟩
      have HQ := Lib.hid hQ
      have HR' : Hid (RfM wr r rP Q) := Lib.hid (by rw [hQ]; exact HR.out)
      clear hQ
      go_upto_region 11 with fail
      refine wp_flow_lit 16 (fun w' => PntAt w' bo oo j f t is ∧ ShM w' b bW P ∧ RfM w' r rP Q ∧ Blk w' w.heap.size #[.bool (t0), .int .i64 (cb), .int .i64 (cp), .int .i64 (ca), .int .i64 (cq), .int .i64 (cy)] 23) [none, none, none, none, none, none, none, none, none, none, none, none, none, none, none, none]
        (by kernel_rfl) (by kernel_rfl) ⟨hp, HM.out, HR'.out, HC.out⟩ (fun w1 w2 h hb => ⟨h.1.below hb, h.2.1.below hb h.2.1.lt.1 h.2.1.lt.2, h.2.2.1.below hb h.2.2.1.lt.1 h.2.2.1.lt.2, h.2.2.2.below hb h.2.2.2.lt⟩) trivial ?_
      try simp only [specV, addF, Act.put, List.setIfInBounds_toArray, List.set_cons_zero, List.set_cons_succ, List.take_succ_cons, List.take_zero, List.drop_succ_cons, List.drop_zero]
      (apply Exists.intro; refine ⟨fun vs w1 hS hB hf => ?_, ?_⟩; (focus (obtain ⟨_, c0, c1, c2⟩ := hS.1; clear hS hB hf; go_simp; first | exact ⟨Below.refl _ _, rfl⟩ | exact rfl)); try simp only [specV, addF, Act.put, List.setIfInBounds_toArray, List.set_cons_zero, List.set_cons_succ, List.take_succ_cons, List.take_zero, List.drop_succ_cons, List.drop_zero]); (apply Exists.intro; refine ⟨fun vs w1 hS hB hf => ?_, ?_⟩; (focus (obtain ⟨_, c0, c1, c2⟩ := hS.1; clear hS hB hf; go_simp; first | exact ⟨Below.refl _ _, rfl⟩ | exact rfl)); try simp only [specV, addF, Act.put, List.setIfInBounds_toArray, List.set_cons_zero, List.set_cons_succ, List.take_succ_cons, List.take_zero, List.drop_succ_cons, List.drop_zero]); (apply Exists.intro; refine ⟨fun vs w1 hS hB hf => ?_, ?_⟩; (focus (obtain ⟨_, c0, c1, c2⟩ := hS.1; clear hS hB hf; go_simp; first | exact ⟨Below.refl _ _, rfl⟩ | exact rfl)); try simp only [specV, addF, Act.put, List.setIfInBounds_toArray, List.set_cons_zero, List.set_cons_succ, List.take_succ_cons, List.take_zero, List.drop_succ_cons, List.drop_zero]); (apply Exists.intro; refine ⟨fun vs w1 hS hB hf => ?_, ?_⟩; (focus (obtain ⟨_, c0, c1, c2⟩ := hS.1; clear hS hB hf; go_simp; first | exact ⟨Below.refl _ _, rfl⟩ | exact rfl)); try simp only [specV, addF, Act.put, List.setIfInBounds_toArray, List.set_cons_zero, List.set_cons_succ, List.take_succ_cons, List.take_zero, List.drop_succ_cons, List.drop_zero]); (apply Exists.intro; refine ⟨fun vs w1 hS hB hf => ?_, ?_⟩; (focus (obtain ⟨_, c0, c1, c2⟩ := hS.1; clear hS hB hf; go_simp; first | exact ⟨Below.refl _ _, rfl⟩ | exact rfl)); try simp only [specV, addF, Act.put, List.setIfInBounds_toArray, List.set_cons_zero, List.set_cons_succ, List.take_succ_cons, List.take_zero, List.drop_succ_cons, List.drop_zero]); (apply Exists.intro; refine ⟨fun vs w1 hS hB hf => ?_, ?_⟩; (focus (obtain ⟨_, c0, c1, c2⟩ := hS.1; clear hS hB hf; go_simp; first | exact ⟨Below.refl _ _, rfl⟩ | exact rfl)); try simp only [specV, addF, Act.put, List.setIfInBounds_toArray, List.set_cons_zero, List.set_cons_succ, List.take_succ_cons, List.take_zero, List.drop_succ_cons, List.drop_zero]); (apply Exists.intro; refine ⟨fun vs w1 hS hB hf => ?_, ?_⟩; (focus (obtain ⟨_, c0, c1, c2⟩ := hS.1; clear hS hB hf; go_simp; first | exact ⟨Below.refl _ _, rfl⟩ | exact rfl)); try simp only [specV, addF, Act.put, List.setIfInBounds_toArray, List.set_cons_zero, List.set_cons_succ, List.take_succ_cons, List.take_zero, List.drop_succ_cons, List.drop_zero]); (apply Exists.intro; refine ⟨fun vs w1 hS hB hf => ?_, ?_⟩; (focus (obtain ⟨_, c0, c1, c2⟩ := hS.1; clear hS hB hf; go_simp; first | exact ⟨Below.refl _ _, rfl⟩ | exact rfl)); try simp only [specV, addF, Act.put, List.setIfInBounds_toArray, List.set_cons_zero, List.set_cons_succ, List.take_succ_cons, List.take_zero, List.drop_succ_cons, List.drop_zero]); (apply Exists.intro; refine ⟨fun vs w1 hS hB hf => ?_, ?_⟩; (focus (obtain ⟨_, c0, c1, c2⟩ := hS.1; clear hS hB hf; go_simp; first | exact ⟨Below.refl _ _, rfl⟩ | exact rfl)); try simp only [specV, addF, Act.put, List.setIfInBounds_toArray, List.set_cons_zero, List.set_cons_succ, List.take_succ_cons, List.take_zero, List.drop_succ_cons, List.drop_zero]); (apply Exists.intro; refine ⟨fun vs w1 hS hB hf => ?_, ?_⟩; (focus (obtain ⟨_, c0, c1, c2⟩ := hS.1; clear hS hB hf; go_simp; first | exact ⟨Below.refl _ _, rfl⟩ | exact rfl)); try simp only [specV, addF, Act.put, List.setIfInBounds_toArray, List.set_cons_zero, List.set_cons_succ, List.take_succ_cons, List.take_zero, List.drop_succ_cons, List.drop_zero]); (apply Exists.intro; refine ⟨fun vs w1 hS hB hf => ?_, ?_⟩; (focus (obtain ⟨_, c0, c1, c2⟩ := hS.1; clear hS hB hf; go_simp; first | exact ⟨Below.refl _ _, rfl⟩ | exact rfl)); try simp only [specV, addF, Act.put, List.setIfInBounds_toArray, List.set_cons_zero, List.set_cons_succ, List.take_succ_cons, List.take_zero, List.drop_succ_cons, List.drop_zero]); (apply Exists.intro; refine ⟨fun vs w1 hS hB hf => ?_, ?_⟩; (focus (obtain ⟨_, c0, c1, c2⟩ := hS.1; clear hS hB hf; go_simp; first | exact ⟨Below.refl _ _, rfl⟩ | exact rfl)); try simp only [specV, addF, Act.put, List.setIfInBounds_toArray, List.set_cons_zero, List.set_cons_succ, List.take_succ_cons, List.take_zero, List.drop_succ_cons, List.drop_zero]); (apply Exists.intro; refine ⟨fun vs w1 hS hB hf => ?_, ?_⟩; (focus (obtain ⟨_, c0, c1, c2⟩ := hS.1; clear hS hB hf; go_simp; first | exact ⟨Below.refl _ _, rfl⟩ | exact rfl)); try simp only [specV, addF, Act.put, List.setIfInBounds_toArray, List.set_cons_zero, List.set_cons_succ, List.take_succ_cons, List.take_zero, List.drop_succ_cons, List.drop_zero]); (apply Exists.intro; refine ⟨fun vs w1 hS hB hf => ?_, ?_⟩; (focus (obtain ⟨_, c0, c1, c2⟩ := hS.1; clear hS hB hf; go_simp; first | exact ⟨Below.refl _ _, rfl⟩ | exact rfl)); try simp only [specV, addF, Act.put, List.setIfInBounds_toArray, List.set_cons_zero, List.set_cons_succ, List.take_succ_cons, List.take_zero, List.drop_succ_cons, List.drop_zero]); (apply Exists.intro; refine ⟨fun vs w1 hS hB hf => ?_, ?_⟩; (focus (obtain ⟨_, c0, c1, c2⟩ := hS.1; clear hS hB hf; go_simp; first | exact ⟨Below.refl _ _, rfl⟩ | exact rfl)); try simp only [specV, addF, Act.put, List.setIfInBounds_toArray, List.set_cons_zero, List.set_cons_succ, List.take_succ_cons, List.take_zero, List.drop_succ_cons, List.drop_zero]); (apply Exists.intro; refine ⟨fun vs w1 hS hB hf => ?_, ?_⟩; (focus (obtain ⟨_, c0, c1, c2⟩ := hS.1; clear hS hB hf; go_simp; first | exact ⟨Below.refl _ _, rfl⟩ | exact rfl)); try simp only [specV, addF, Act.put, List.setIfInBounds_toArray, List.set_cons_zero, List.set_cons_succ, List.take_succ_cons, List.take_zero, List.drop_succ_cons, List.drop_zero])
      intro vs w5 hS hB5 _
      have B5 := Lib.hid (below_then HB.out HB.out.size hB5)
      have Q5 := Lib.hid hS.1
      have M5 := Lib.hid hS.2.1
      have R5 := Lib.hid hS.2.2.1
      have C5 := Lib.hid hS.2.2.2
      clear hS hB5 hp
      dsimp only
      go_wp2_with fail
      refine (paint_all b bW P f t is _ hf ht M5.out hne.symm).mono ?_
      rintro e w6 ⟨rfl, m6, G6⟩
      have M6 := Lib.hid m6
      have B6 := Lib.hid (B5.out.grown G6 B5.out.size (by intro k hk; cases hk; omega))
      have R6 := Lib.hid (R5.out.grown G6 NN.out.2.2.1 NN.out.2.2.2.1)
      have Q6 := Lib.hid (Q5.out.grown G6 Nbo.out)
      have C6 := Lib.hid (C5.out.grown G6 NN.out.2.2.2.2.1)
      clear m6 G6
      obtain ⟨KK, hKK⟩ : ∃ K, K = decide (paintOk P.length f t) := ⟨_, rfl⟩
      rw [← hKK]
      have HK := Lib.hid hKK
      clear hKK
      obtain ⟨PP, hPP⟩ : ∃ PP, PP = paintL P f t is := ⟨_, rfl⟩
      have HPP := Lib.hid hPP
      have M6 : Hid (ShM w6 b bW PP) := Lib.hid (by rw [hPP]; exact M6.out)
      clear hPP
      go_upto_region 12 with fail
      refine wp_flow_lit 16 (fun w' => PntAt w' bo oo j f t is ∧ ShM w' b bW PP ∧ RfM w' r rP Q ∧ Blk w' w.heap.size #[.bool (t0), .int .i64 (cb), .int .i64 (cp), .int .i64 (ca), .int .i64 (cq), .int .i64 (cy)] 23) [none, none, none, none, none, none, none, none, none, none, none, none, none, none, none, none]
        (by kernel_rfl) (by kernel_rfl) ⟨Q6.out, M6.out, R6.out, C6.out⟩ (fun w1 w2 h hb => ⟨h.1.below hb, h.2.1.below hb h.2.1.lt.1 h.2.1.lt.2, h.2.2.1.below hb h.2.2.1.lt.1 h.2.2.1.lt.2, h.2.2.2.below hb h.2.2.2.lt⟩) trivial ?_
      try simp only [specV, addF, Act.put, List.setIfInBounds_toArray, List.set_cons_zero, List.set_cons_succ, List.take_succ_cons, List.take_zero, List.drop_succ_cons, List.drop_zero]
      (apply Exists.intro; refine ⟨fun vs w1 hS hB hf => ?_, ?_⟩; (focus (obtain ⟨_, c0, c1, c2⟩ := hS.1; clear hS hB hf; go_simp; first | exact ⟨Below.refl _ _, rfl⟩ | exact rfl)); try simp only [specV, addF, Act.put, List.setIfInBounds_toArray, List.set_cons_zero, List.set_cons_succ, List.take_succ_cons, List.take_zero, List.drop_succ_cons, List.drop_zero]); (apply Exists.intro; refine ⟨fun vs w1 hS hB hf => ?_, ?_⟩; (focus (obtain ⟨_, c0, c1, c2⟩ := hS.1; clear hS hB hf; go_simp; first | exact ⟨Below.refl _ _, rfl⟩ | exact rfl)); try simp only [specV, addF, Act.put, List.setIfInBounds_toArray, List.set_cons_zero, List.set_cons_succ, List.take_succ_cons, List.take_zero, List.drop_succ_cons, List.drop_zero]); (apply Exists.intro; refine ⟨fun vs w1 hS hB hf => ?_, ?_⟩; (focus (obtain ⟨_, c0, c1, c2⟩ := hS.1; clear hS hB hf; go_simp; first | exact ⟨Below.refl _ _, rfl⟩ | exact rfl)); try simp only [specV, addF, Act.put, List.setIfInBounds_toArray, List.set_cons_zero, List.set_cons_succ, List.take_succ_cons, List.take_zero, List.drop_succ_cons, List.drop_zero]); (apply Exists.intro; refine ⟨fun vs w1 hS hB hf => ?_, ?_⟩; (focus (obtain ⟨_, c0, c1, c2⟩ := hS.1; clear hS hB hf; go_simp; first | exact ⟨Below.refl _ _, rfl⟩ | exact rfl)); try simp only [specV, addF, Act.put, List.setIfInBounds_toArray, List.set_cons_zero, List.set_cons_succ, List.take_succ_cons, List.take_zero, List.drop_succ_cons, List.drop_zero]); (apply Exists.intro; refine ⟨fun vs w1 hS hB hf => ?_, ?_⟩; (focus (obtain ⟨_, c0, c1, c2⟩ := hS.1; clear hS hB hf; go_simp; first | exact ⟨Below.refl _ _, rfl⟩ | exact rfl)); try simp only [specV, addF, Act.put, List.setIfInBounds_toArray, List.set_cons_zero, List.set_cons_succ, List.take_succ_cons, List.take_zero, List.drop_succ_cons, List.drop_zero]); (apply Exists.intro; refine ⟨fun vs w1 hS hB hf => ?_, ?_⟩; (focus (obtain ⟨_, c0, c1, c2⟩ := hS.1; clear hS hB hf; go_simp; first | exact ⟨Below.refl _ _, rfl⟩ | exact rfl)); try simp only [specV, addF, Act.put, List.setIfInBounds_toArray, List.set_cons_zero, List.set_cons_succ, List.take_succ_cons, List.take_zero, List.drop_succ_cons, List.drop_zero]); (apply Exists.intro; refine ⟨fun vs w1 hS hB hf => ?_, ?_⟩; (focus (obtain ⟨_, c0, c1, c2⟩ := hS.1; clear hS hB hf; go_simp; first | exact ⟨Below.refl _ _, rfl⟩ | exact rfl)); try simp only [specV, addF, Act.put, List.setIfInBounds_toArray, List.set_cons_zero, List.set_cons_succ, List.take_succ_cons, List.take_zero, List.drop_succ_cons, List.drop_zero]); (apply Exists.intro; refine ⟨fun vs w1 hS hB hf => ?_, ?_⟩; (focus (obtain ⟨_, c0, c1, c2⟩ := hS.1; clear hS hB hf; go_simp; first | exact ⟨Below.refl _ _, rfl⟩ | exact rfl)); try simp only [specV, addF, Act.put, List.setIfInBounds_toArray, List.set_cons_zero, List.set_cons_succ, List.take_succ_cons, List.take_zero, List.drop_succ_cons, List.drop_zero]); (apply Exists.intro; refine ⟨fun vs w1 hS hB hf => ?_, ?_⟩; (focus (obtain ⟨_, c0, c1, c2⟩ := hS.1; clear hS hB hf; go_simp; first | exact ⟨Below.refl _ _, rfl⟩ | exact rfl)); try simp only [specV, addF, Act.put, List.setIfInBounds_toArray, List.set_cons_zero, List.set_cons_succ, List.take_succ_cons, List.take_zero, List.drop_succ_cons, List.drop_zero]); (apply Exists.intro; refine ⟨fun vs w1 hS hB hf => ?_, ?_⟩; (focus (obtain ⟨_, c0, c1, c2⟩ := hS.1; clear hS hB hf; go_simp; first | exact ⟨Below.refl _ _, rfl⟩ | exact rfl)); try simp only [specV, addF, Act.put, List.setIfInBounds_toArray, List.set_cons_zero, List.set_cons_succ, List.take_succ_cons, List.take_zero, List.drop_succ_cons, List.drop_zero]); (apply Exists.intro; refine ⟨fun vs w1 hS hB hf => ?_, ?_⟩; (focus (obtain ⟨_, c0, c1, c2⟩ := hS.1; clear hS hB hf; go_simp; first | exact ⟨Below.refl _ _, rfl⟩ | exact rfl)); try simp only [specV, addF, Act.put, List.setIfInBounds_toArray, List.set_cons_zero, List.set_cons_succ, List.take_succ_cons, List.take_zero, List.drop_succ_cons, List.drop_zero]); (apply Exists.intro; refine ⟨fun vs w1 hS hB hf => ?_, ?_⟩; (focus (obtain ⟨_, c0, c1, c2⟩ := hS.1; clear hS hB hf; go_simp; first | exact ⟨Below.refl _ _, rfl⟩ | exact rfl)); try simp only [specV, addF, Act.put, List.setIfInBounds_toArray, List.set_cons_zero, List.set_cons_succ, List.take_succ_cons, List.take_zero, List.drop_succ_cons, List.drop_zero]); (apply Exists.intro; refine ⟨fun vs w1 hS hB hf => ?_, ?_⟩; (focus (obtain ⟨_, c0, c1, c2⟩ := hS.1; clear hS hB hf; go_simp; first | exact ⟨Below.refl _ _, rfl⟩ | exact rfl)); try simp only [specV, addF, Act.put, List.setIfInBounds_toArray, List.set_cons_zero, List.set_cons_succ, List.take_succ_cons, List.take_zero, List.drop_succ_cons, List.drop_zero]); (apply Exists.intro; refine ⟨fun vs w1 hS hB hf => ?_, ?_⟩; (focus (obtain ⟨_, c0, c1, c2⟩ := hS.1; clear hS hB hf; go_simp; first | exact ⟨Below.refl _ _, rfl⟩ | exact rfl)); try simp only [specV, addF, Act.put, List.setIfInBounds_toArray, List.set_cons_zero, List.set_cons_succ, List.take_succ_cons, List.take_zero, List.drop_succ_cons, List.drop_zero]); (apply Exists.intro; refine ⟨fun vs w1 hS hB hf => ?_, ?_⟩; (focus (obtain ⟨_, c0, c1, c2⟩ := hS.1; clear hS hB hf; go_simp; first | exact ⟨Below.refl _ _, rfl⟩ | exact rfl)); try simp only [specV, addF, Act.put, List.setIfInBounds_toArray, List.set_cons_zero, List.set_cons_succ, List.take_succ_cons, List.take_zero, List.drop_succ_cons, List.drop_zero]); (apply Exists.intro; refine ⟨fun vs w1 hS hB hf => ?_, ?_⟩; (focus (obtain ⟨_, c0, c1, c2⟩ := hS.1; clear hS hB hf; go_simp; first | exact ⟨Below.refl _ _, rfl⟩ | exact rfl)); try simp only [specV, addF, Act.put, List.setIfInBounds_toArray, List.set_cons_zero, List.set_cons_succ, List.take_succ_cons, List.take_zero, List.drop_succ_cons, List.drop_zero])
      intro vs w7 hS hB7 _
      have B7 := Lib.hid (below_then B6.out B6.out.size hB7)
      have M7 := Lib.hid hS.2.1
      have R7 : Hid (RfM w7 r rP P) := Lib.hid (by rw [← HQ.out]; exact hS.2.2.1)
      have C7 := Lib.hid hS.2.2.2
      clear hS hB7
      dsimp only
      go_wp2_with fail
      refine (ref_paint_all r rP P f t is _ hf ht R7.out hnr.symm).mono ?_
      rintro e w8 ⟨rfl, r8, G8⟩
      have r8 : RfM w8 r rP PP := by rw [HPP.out]; exact r8
      rw [← HK.out]
      have m8 := M7.out.grown G8 NN.out.1 NN.out.2.1
      have c8 := C7.out.grown G8 NN.out.2.2.2.2.2
      have B8 := Lib.hid (B7.out.grown G8 B7.out.size (by intro k hk; cases hk; exact g7))
      have HPl : Hid (PP.length = G) := Lib.hid (by rw [HPP.out, paintL_len]; exact HP.out)
      clear G8
      go_upto_region 13 with fail
      refine wp_flow_lit 27 (fun w' => ShM w' b bW PP ∧ RfM w' r rP PP ∧ Blk w' w.heap.size #[.bool (t0), .int .i64 (cb), .int .i64 (cp), .int .i64 (ca), .int .i64 (cq), .int .i64 (cy)] 23) [none, none, none, none, none, none, none, none, none, none, none, none, none, none, none, none, none, none, none, none, none, none, none, none, none, none, none]
        (by kernel_rfl) (by kernel_rfl) ⟨m8, r8, c8⟩ (fun w1 w2 h hb => ⟨h.1.below hb h.1.lt.1 h.1.lt.2, h.2.1.below hb h.2.1.lt.1 h.2.1.lt.2, h.2.2.below hb h.2.2.lt⟩) trivial ?_
      try simp only [specV, addF, Act.put, List.setIfInBounds_toArray, List.set_cons_zero, List.set_cons_succ, List.take_succ_cons, List.take_zero, List.drop_succ_cons, List.drop_zero]
      (apply Exists.intro; refine ⟨fun vs w1 hS hB hf => ?_, ?_⟩; (focus (clear hS hB hf; go_simp; first | exact ⟨Below.refl _ _, rfl⟩ | exact rfl)); try simp only [specV, addF, Act.put, List.setIfInBounds_toArray, List.set_cons_zero, List.set_cons_succ, List.take_succ_cons, List.take_zero, List.drop_succ_cons, List.drop_zero])
      (apply Exists.intro; refine ⟨fun vs w1 hS hB hf => ?_, ?_⟩; (focus (clear hS hB hf; go_simp; first | exact ⟨Below.refl _ _, rfl⟩ | exact rfl)); try simp only [specV, addF, Act.put, List.setIfInBounds_toArray, List.set_cons_zero, List.set_cons_succ, List.take_succ_cons, List.take_zero, List.drop_succ_cons, List.drop_zero])
      (apply Exists.intro; refine ⟨fun vs w1 hS hB hf => ?_, ?_⟩; (focus (clear hS hB hf; go_simp; first | exact ⟨Below.refl _ _, rfl⟩ | exact rfl)); try simp only [specV, addF, Act.put, List.setIfInBounds_toArray, List.set_cons_zero, List.set_cons_succ, List.take_succ_cons, List.take_zero, List.drop_succ_cons, List.drop_zero])
      (apply Exists.intro; refine ⟨fun vs w1 hS hB hf => ?_, ?_⟩; (focus (clear hS hB hf; go_simp; first | exact ⟨Below.refl _ _, rfl⟩ | exact rfl)); try simp only [specV, addF, Act.put, List.setIfInBounds_toArray, List.set_cons_zero, List.set_cons_succ, List.take_succ_cons, List.take_zero, List.drop_succ_cons, List.drop_zero])
      (apply Exists.intro; refine ⟨fun vs w1 hS hB hf => ?_, ?_⟩; (focus (clear hS hB hf; go_simp; first | exact ⟨Below.refl _ _, rfl⟩ | exact rfl)); try simp only [specV, addF, Act.put, List.setIfInBounds_toArray, List.set_cons_zero, List.set_cons_succ, List.take_succ_cons, List.take_zero, List.drop_succ_cons, List.drop_zero])
      (apply Exists.intro; refine ⟨fun vs w1 hS hB hf => ?_, ?_⟩; (focus (go_simp; exact (many_any b bW _ w1 hS.1).mono fun e w2 ⟨he, hb⟩ => callPost.of (v := .int .i64 (manyL PP)) he (by rw [hb]; exact Below.refl _ _) rfl)); try simp only [specV, addF, Act.put, List.setIfInBounds_toArray, List.set_cons_zero, List.set_cons_succ, List.take_succ_cons, List.take_zero, List.drop_succ_cons, List.drop_zero])
      (apply Exists.intro; refine ⟨fun vs w1 hS hB hf => ?_, ?_⟩; (focus (clear hS hB hf; go_simp; first | exact ⟨Below.refl _ _, rfl⟩ | exact rfl)); try simp only [specV, addF, Act.put, List.setIfInBounds_toArray, List.set_cons_zero, List.set_cons_succ, List.take_succ_cons, List.take_zero, List.drop_succ_cons, List.drop_zero])
      (apply Exists.intro; refine ⟨fun vs w1 hS hB hf => ?_, ?_⟩; (focus (go_simp; exact (ref_many_any r rP _ w1 hS.2.1).mono fun e w2 ⟨he, hb⟩ => callPost.of (v := .int .i64 (manyL PP)) he (by rw [hb]; exact Below.refl _ _) rfl)); try simp only [specV, addF, Act.put, List.setIfInBounds_toArray, List.set_cons_zero, List.set_cons_succ, List.take_succ_cons, List.take_zero, List.drop_succ_cons, List.drop_zero])
      (apply Exists.intro; refine ⟨fun vs w1 hS hB hf => ?_, ?_⟩; (focus (clear hS hB hf; go_simp; first | exact ⟨Below.refl _ _, rfl⟩ | exact rfl)); try simp only [specV, addF, Act.put, List.setIfInBounds_toArray, List.set_cons_zero, List.set_cons_succ, List.take_succ_cons, List.take_zero, List.drop_succ_cons, List.drop_zero])
      (apply Exists.intro; refine ⟨fun vs w1 hS hB hf => ?_, ?_⟩; (focus (clear hS hB hf; go_simp; first | exact ⟨Below.refl _ _, rfl⟩ | exact rfl)); try simp only [specV, addF, Act.put, List.setIfInBounds_toArray, List.set_cons_zero, List.set_cons_succ, List.take_succ_cons, List.take_zero, List.drop_succ_cons, List.drop_zero])
      (apply Exists.intro; refine ⟨fun vs w1 hS hB hf => ?_, ?_⟩; (focus (clear hS hB hf; go_simp; first | exact ⟨Below.refl _ _, rfl⟩ | exact rfl)); try simp only [specV, addF, Act.put, List.setIfInBounds_toArray, List.set_cons_zero, List.set_cons_succ, List.take_succ_cons, List.take_zero, List.drop_succ_cons, List.drop_zero])
      (apply Exists.intro; refine ⟨fun vs w1 hS hB hf => ?_, ?_⟩; (focus (clear hS hB hf; go_simp; first | exact ⟨Below.refl _ _, rfl⟩ | exact rfl)); try simp only [specV, addF, Act.put, List.setIfInBounds_toArray, List.set_cons_zero, List.set_cons_succ, List.take_succ_cons, List.take_zero, List.drop_succ_cons, List.drop_zero])
      (apply Exists.intro; refine ⟨fun vs w1 hS hB hf => ?_, ?_⟩; (focus (clear hS hB hf; go_simp; first | exact ⟨Below.refl _ _, rfl⟩ | exact rfl)); try simp only [specV, addF, Act.put, List.setIfInBounds_toArray, List.set_cons_zero, List.set_cons_succ, List.take_succ_cons, List.take_zero, List.drop_succ_cons, List.drop_zero])
      (apply Exists.intro; refine ⟨fun vs w1 hS hB hf => ?_, ?_⟩; (focus (go_simp; exact (is_any b bW _ at_ w1 hat hS.1).mono fun e w2 ⟨he, hb⟩ => callPost.of (v := .bool (isB' PP at_)) he (by rw [hb]; exact Below.refl _ _) rfl)); try simp only [specV, addF, Act.put, List.setIfInBounds_toArray, List.set_cons_zero, List.set_cons_succ, List.take_succ_cons, List.take_zero, List.drop_succ_cons, List.drop_zero])
      (apply Exists.intro; refine ⟨fun vs w1 hS hB hf => ?_, ?_⟩; (focus (clear hS hB hf; go_simp; first | exact ⟨Below.refl _ _, rfl⟩ | exact rfl)); try simp only [specV, addF, Act.put, List.setIfInBounds_toArray, List.set_cons_zero, List.set_cons_succ, List.take_succ_cons, List.take_zero, List.drop_succ_cons, List.drop_zero])
      (apply Exists.intro; refine ⟨fun vs w1 hS hB hf => ?_, ?_⟩; (focus (clear hS hB hf; go_simp; first | exact ⟨Below.refl _ _, rfl⟩ | exact rfl)); try simp only [specV, addF, Act.put, List.setIfInBounds_toArray, List.set_cons_zero, List.set_cons_succ, List.take_succ_cons, List.take_zero, List.drop_succ_cons, List.drop_zero])
      (apply Exists.intro; refine ⟨fun vs w1 hS hB hf => ?_, ?_⟩; (focus (go_simp; exact (ref_is_any r rP _ at_ w1 hat hS.2.1).mono fun e w2 ⟨he, hb⟩ => callPost.of (v := .bool (isB' PP at_)) he (by rw [hb]; exact Below.refl _ _) rfl)); try simp only [specV, addF, Act.put, List.setIfInBounds_toArray, List.set_cons_zero, List.set_cons_succ, List.take_succ_cons, List.take_zero, List.drop_succ_cons, List.drop_zero])
      (apply Exists.intro; refine ⟨fun vs w1 hS hB hf => ?_, ?_⟩; (focus (clear hS hB hf; go_simp; first | exact ⟨Below.refl _ _, rfl⟩ | exact rfl)); try simp only [specV, addF, Act.put, List.setIfInBounds_toArray, List.set_cons_zero, List.set_cons_succ, List.take_succ_cons, List.take_zero, List.drop_succ_cons, List.drop_zero])
      (apply Exists.intro; refine ⟨fun vs w1 hS hB hf => ?_, ?_⟩; (focus (clear hS hB hf; go_simp; first | exact ⟨Below.refl _ _, rfl⟩ | exact rfl)); try simp only [specV, addF, Act.put, List.setIfInBounds_toArray, List.set_cons_zero, List.set_cons_succ, List.take_succ_cons, List.take_zero, List.drop_succ_cons, List.drop_zero])
      (apply Exists.intro; refine ⟨fun vs w1 hS hB hf => ?_, ?_⟩; (focus (clear hS hB hf; go_simp; first | exact ⟨Below.refl _ _, rfl⟩ | exact rfl)); try simp only [specV, addF, Act.put, List.setIfInBounds_toArray, List.set_cons_zero, List.set_cons_succ, List.take_succ_cons, List.take_zero, List.drop_succ_cons, List.drop_zero])
      (apply Exists.intro; refine ⟨fun vs w1 hS hB hf => ?_, ?_⟩; (focus (clear hS hB hf; go_simp; first | exact ⟨Below.refl _ _, rfl⟩ | exact rfl)); try simp only [specV, addF, Act.put, List.setIfInBounds_toArray, List.set_cons_zero, List.set_cons_succ, List.take_succ_cons, List.take_zero, List.drop_succ_cons, List.drop_zero])
      (apply Exists.intro; refine ⟨fun vs w1 hS hB hf => ?_, ?_⟩; (focus (have L1 := hS.2.2.cell; clear hS hB hf; go_simp; first | exact ⟨Below.refl _ _, rfl⟩ | exact rfl)); try simp only [specV, addF, Act.put, List.setIfInBounds_toArray, List.set_cons_zero, List.set_cons_succ, List.take_succ_cons, List.take_zero, List.drop_succ_cons, List.drop_zero])
      (apply Exists.intro; refine ⟨fun vs w1 hS hB hf => ?_, ?_⟩; (focus (go_simp; exact (hits_any b bW _ t0 cb cp ca cq cy w1 hcb hcp hS.1).mono fun e w2 ⟨he, hb⟩ => callPost.of (v := .bool (hitsB PP t0 cb cp)) he hb rfl)); try simp only [specV, addF, Act.put, List.setIfInBounds_toArray, List.set_cons_zero, List.set_cons_succ, List.take_succ_cons, List.take_zero, List.drop_succ_cons, List.drop_zero])
      (apply Exists.intro; refine ⟨fun vs w1 hS hB hf => ?_, ?_⟩; (focus (clear hS hB hf; go_simp; first | exact ⟨Below.refl _ _, rfl⟩ | exact rfl)); try simp only [specV, addF, Act.put, List.setIfInBounds_toArray, List.set_cons_zero, List.set_cons_succ, List.take_succ_cons, List.take_zero, List.drop_succ_cons, List.drop_zero])
      (apply Exists.intro; refine ⟨fun vs w1 hS hB hf => ?_, ?_⟩; (focus (have L1 := hS.2.2.cell; clear hS hB hf; go_simp; first | exact ⟨Below.refl _ _, rfl⟩ | exact rfl)); try simp only [specV, addF, Act.put, List.setIfInBounds_toArray, List.set_cons_zero, List.set_cons_succ, List.take_succ_cons, List.take_zero, List.drop_succ_cons, List.drop_zero])
      (apply Exists.intro; refine ⟨fun vs w1 hS hB hf => ?_, ?_⟩; (focus (go_simp; exact (ref_hits_any r rP _ t0 cb cp ca cq cy w1 hcb hcp hS.2.1).mono fun e w2 ⟨he, hb⟩ => callPost.of (v := .bool (hitsB PP t0 cb cp)) he hb rfl)); try simp only [specV, addF, Act.put, List.setIfInBounds_toArray, List.set_cons_zero, List.set_cons_succ, List.take_succ_cons, List.take_zero, List.drop_succ_cons, List.drop_zero])
      (apply Exists.intro; refine ⟨fun vs w1 hS hB hf => ?_, ?_⟩; (focus (clear hS hB hf; go_simp; first | exact ⟨Below.refl _ _, rfl⟩ | exact rfl)); try simp only [specV, addF, Act.put, List.setIfInBounds_toArray, List.set_cons_zero, List.set_cons_succ, List.take_succ_cons, List.take_zero, List.drop_succ_cons, List.drop_zero])
      intro vs w9 hS hB9 _
      have B9 := Lib.hid (below_then B8.out B8.out.size hB9)
      have M9 := Lib.hid hS.1
      have R9 := Lib.hid hS.2.1
      have C9 := Lib.hid hS.2.2
      clear hS hB9 m8 r8 c8
      dsimp only
      go_wp2
      go_roundg (gk - 1)
      case measure => have := Hjk.out; have := Hlt.out; omega
      case rel => exact ⟨j + 1, PP, by have := Hjk.out; have := Hlt.out; omega, by go_num, HPl.out, M9.out, R9.out, C9.out, B9.out⟩
    · have i1 : ¬ (j : Int) < n := by omega
      have hrl : (runsL P).length ≤ 1048576 := by have h1 : (runsL P).length ≤ P.length := runsTo_len P P.length; have := HP.out; omega
      have Hrl := Lib.hid hrl
      clear hge hrl
      go_wp2_with fail
      refine (runs_any b bW P _ HM.out).mono ?_
      rintro e w9 ⟨v9, rfl, r9, b9⟩
      have q9 := HR.out.below b9 HR.out.lt.1 HR.out.lt.2
      have B9 := below_then HB.out HB.out.size b9
      have R9 := RowR.own r9
      clear r9 b9
      go_wp2_with fail
      refine (ref_runs_any r rP P _ q9).mono ?_
      rintro e w10 ⟨v10, rfl, r10, b10⟩
      have B10 := below_then B9 B9.size b10
      have R10 := RowR.own r10
      have R9 := R9.below b10
      clear r10 b10 q9 B9
      go_wp2_with fail
      refine (same_rows v9 v10 _ _ _ R9 R10 Hrl.out).mono ?_
      rintro e w13 ⟨rfl, nn, rfl⟩
      rw [decide_eq_true rfl]
      have B13 := below_drewN B10 nn
      clear R9 R10 B10
      go_wp2
      go_ret
      exact ⟨rfl, B13⟩

set_option maxRecDepth 100000 in
theorem lifted (os : Os) (started : os.Started) (H : Type) (enc : TypeId × Value → H) :
    ReturnsInHanded {} Try.checked os 8 .any (Rows.shadowPlaysSpec.pre6 enc Try.prog Try.f8 Rows.shadowPlaysRow.domain false) (Rows.shadowPlaysSpec.post enc Try.prog Try.f8 false true false false) := by
  refine returnsInHanded_of_change (C := Try.checked) own started (by kernel_rfl) Try.func8
    (ChangeSpec.witness6 (enc := enc) (C := Try.checked) false ⟨#[], #[.int .i64 0, .slice none 0 0, .int .i64 0, .agg #[.bool (false), .int .i64 (0), .int .i64 (0), .int .i64 (0), .int .i64 (0), .int .i64 (0)]], []⟩ 8 (by kernel_rfl) (by kernel_rfl) (by kernel_rfl) (by kernel_rfl)) ?_
  intro W base args ds gs before hval0 hW hcnd _
  have hval : ∀ (j : Nat) t v, Try.f8.params[j]? = some t → args[j]? = some v → Value.okWide Try.prog W .any base t v := hval0
  have hW' := hW
  obtain ⟨p, q, hA0, hV, rfl, hfz, hnd⟩ := hW
  have hA : DataW.TrodAll enc Try.prog W 0 (fun _ => true) true Try.f8.params.toList args.toList ds p := hA0
  rw [Try.params8] at hA hval
  obtain ⟨v0, vs0, d0, ds0, p0, q0, hargs, rfl, rfl, h0, r0⟩ := trodAll_cons hA
  obtain ⟨v1, vs1, d1, ds1, p1, q1, rfl, rfl, rfl, h1, r1⟩ := trodAll_cons r0
  obtain ⟨v2, vs2, d2, ds2, p2, q2, rfl, rfl, rfl, h2, r2⟩ := trodAll_cons r1
  obtain ⟨v3, vs3, d3, ds3, p3, q3, rfl, rfl, rfl, h3, r3⟩ := trodAll_cons r2
  obtain ⟨rfl, rfl, rfl⟩ := trodAll_nil r3
  obtain rfl : args = #[v0, v1, v2, v3] := by cases args; simp_all
  obtain ⟨rfl, rfl⟩ := trodVars_none hV
  have k0 := h0
  have lt0 : ∀ x ∈ p0, x.block < W.heap.size := by obtain ⟨m, hm⟩ := k0; exact DataW.trod_lt m _ _ _ hm
  obtain ⟨x0, rfl, _, _, w0⟩ := open_int Try.underlying3 (hval 0 3 v0 rfl rfl) h0
  have k1 := h1
  have lt1 : ∀ x ∈ p1, x.block < W.heap.size := by obtain ⟨m, hm⟩ := k1; exact DataW.trod_lt m _ _ _ hm
  obtain ⟨L1, hL1⟩ := open_ops (hval 1 34 v1 rfl rfl) h1
  have k2 := h2
  have lt2 : ∀ x ∈ p2, x.block < W.heap.size := by obtain ⟨m, hm⟩ := k2; exact DataW.trod_lt m _ _ _ hm
  obtain ⟨x2, rfl, _, _, w2⟩ := open_int Try.underlying3 (hval 2 3 v2 rfl rfl) h2
  have k3 := h3
  have lt3 : ∀ x ∈ p3, x.block < W.heap.size := by obtain ⟨m, hm⟩ := k3; exact DataW.trod_lt m _ _ _ hm
  obtain ⟨t3, b3, e3, a3, g3, y3, rfl, ib3, ie3, ia3, ig3, iy3⟩ := open_cap (hval 3 23 v3 rfl rfl) h3
  clear hA0 hval0
  refine (walk x0 v1 L1 x2 t3 b3 e3 a3 g3 y3 W w0 hL1 w2 ib3 ie3 ia3 ig3 iy3).mono fun e W' ⟨he, bel⟩ => ?_
  subst he
  exact ⟨_, rfl, _, _, _, [], _, [], hW', trodAll_mk1 (shut_bool Try.underlying4 _), (trodAll_cons_mk (Below.trod laidOut (by kernel_rfl) (of_decide_eq_true (by kernel_rfl)) k0 bel lt0) (trodAll_cons_mk (Below.trod laidOut (by kernel_rfl) (of_decide_eq_true (by kernel_rfl)) k1 bel lt1) (trodAll_cons_mk (Below.trod laidOut (by kernel_rfl) (of_decide_eq_true (by kernel_rfl)) k2 bel lt2) (trodAll_cons_mk (Below.trod laidOut (by kernel_rfl) (of_decide_eq_true (by kernel_rfl)) k3 bel lt3) trodAll_mk0)))), rfl, bel.frame _, fun h => by cases h⟩

theorem over : Rows.shadowPlaysRow.holds Try.pinned (OpenSpec.ofChange Rows.shadowPlaysSpec) :=
  OpenClaim.holds_of_wide 8 Try.f8 rfl rfl rfl rfl rfl rfl rfl ⟨rfl, rfl, rfl, rfl, rfl⟩ rfl rfl rfl rfl rfl (by kernel_rfl) Try.func8 (by kernel_rfl)
    (of_decide_eq_true (by kernel_rfl)) (by unfold Func.isWrapper; rw [if_neg (of_decide_eq_false (by kernel_rfl))]; exact ⟨rfl, rfl⟩)
    (fun os started H enc _ => lifted os started H enc)

/-- The statement. -/
theorem proved : Rows.ShadowPlaysSaid := over

#print axioms proved
end Go.Proofs.Ytjimkkkiilcpoaa.ShadowPlays
