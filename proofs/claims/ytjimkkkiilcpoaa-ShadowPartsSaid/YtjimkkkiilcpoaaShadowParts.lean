/-
  ShadowParts: for every slice of paints, every three bytes and both ways of painting the law returns true, and each argument reads as it did. Condition: none.
-/
import Derived.Test.YtjimkkkiilcpoaaRows
import Derived.Test.YtjimkkkiilcpoaaShL
import Derived.Test.YtjimkkkiilcpoaaFlow
import Derived.ChangeOld
set_option linter.unusedVariables false
set_option linter.unusedSimpArgs false
namespace Go.Proofs.Ytjimkkkiilcpoaa.ShadowParts
open Go.ChangeShapes Go.WideShapes Go.ChangeAt Go.RowKit Go.Proofs.Ytjimkkkiilcpoaa

theorem own : ownKnob Try.prog.godebug = none := by kernel_rfl
theorem laidOut : laidOutB Try.prog = true := by kernel_rfl

theorem parts_mod (F D K : Nat) (h : D ≤ 255) (hK : K ≤ 255) : ∃ E : Nat, (K : Int) % ((D : Int) + 1) = E ∧ E ≤ D := by
  refine ⟨K % (D + 1), by push_cast; rfl, ?_⟩
  have := Nat.mod_lt K (show 0 < D + 1 by omega)
  omega

set_option maxRecDepth 100000 in
set_option maxHeartbeats 3200000 in
theorem walk (v : Value) (L : List Pnt) (x y z : Int) (is0 : Bool) (w : World) (ho : OpsR w v L) (hx : (Lit.int .u8 x).wf = true) (hy : (Lit.int .u8 y).wf = true) (hz : (Lit.int .u8 z).wf = true) :
    Calls Try.prog 12 #[v, .int .u8 x, .int .u8 y, .int .u8 z, .bool is0] w fun e w' => e = .returned (.bool true) ∧ Below w.heap.size w w' := by
  obtain ⟨x0, x1⟩ := u8_of_wf hx
  obtain ⟨y0, y1⟩ := u8_of_wf hy
  obtain ⟨z0, z1⟩ := u8_of_wf hz
  clear hx hy hz
  obtain ⟨F, rfl⟩ := Int.eq_ofNat_of_zero_le x0
  obtain ⟨D, rfl⟩ := Int.eq_ofNat_of_zero_le y0
  obtain ⟨K, rfl⟩ := Int.eq_ofNat_of_zero_le z0
  obtain ⟨E, hE, hED⟩ := parts_mod F D K (by omega) (by omega)
  obtain ⟨A, c, rfl⟩ : ∃ A c, v = .slice A L.length c := ho.form
  have HO := Lib.hid ho
  clear ho
  generalize hn : L.length = n at *
  have Hn := Lib.hid hn
  clear hn
  have HE := Lib.hid hE
  clear hE
  go_enter Try.func12, Try.ntmps12
  go_wp2_with fail
  refine (head8_true _).mono ?_
  rintro e w1 ⟨rfl, B1⟩
  go_wp2_with fail
  refine (new_any 600 _ (by decide) (by decide)).mono ?_
  rintro e w2 ⟨a, aW, rfl, p2, gaW, ga, hna, B2⟩
  have gaW := Nat.le_trans B1.size gaW
  have ga := Nat.le_trans B1.size ga
  have B2 := below_then B1 B1.size B2
  have la := p2.lt
  clear B1
  go_wp2_with fail
  refine (new_any 600 _ (by decide) (by decide)).mono ?_
  rintro e w3 ⟨b, bW, rfl, m2, gW, gb, hne, B3⟩
  have p3 := p2.below B3 p2.lt.1 p2.lt.2
  have n1 : some a ≠ some bW := by intro h; cases h; omega
  have n2 : some aW ≠ some bW := by intro h; cases h; omega
  have n3 : some b ≠ some aW := by intro h; cases h; omega
  have n4 : some bW ≠ some aW := by intro h; cases h; omega
  have gW := Nat.le_trans B2.size gW
  have gb := Nat.le_trans B2.size gb
  have B3 := below_then B2 B2.size B3
  clear B2 p2 la
  have NN := Lib.hid (And.intro n1 (And.intro n2 (And.intro n3 n4)))
  clear n1 n2 n3 n4
  by_cases h300 : (300 : Int) < n
  · go_wp2
    go_ret
    exact ⟨rfl, B3⟩
  · go_wp2
    go_loopg [14] n (fun gk v14 wr => ∃ (j : Nat) (P : List Bool), j + gk = n ∧ v14 = .int .i64 j ∧ P.length = 600 ∧ ShM wr a aW P ∧ ShM wr b bW P ∧ Below w.heap.size w wr)
    case atStart => exact ⟨0, List.replicate 600 false, by omega, rfl, by simp, p3, m2, B3⟩
    case round =>
      obtain ⟨j, P, hjk, rfl, hP, hp, hm, hb⟩ := hrel
      have Hjk := Lib.hid hjk
      have HP := Lib.hid hP
      have HA := Lib.hid hp
      have HM := Lib.hid hm
      have HB := Lib.hid hb
      have HO2 := Lib.hid (HO.out.below hb)
      clear hjk hP hp hm hb m2 B3 p3
      rcases Nat.lt_or_ge j n with hlt | hge
      · have i1 : (j : Int) < n := by omega
        obtain ⟨bo, oo, f, t, is, rfl, hq, hf, ht, hp⟩ := HO2.out.pnt j (by rw [Hn.out]; exact hlt)
        have nbo : some bo ≠ some aW := by
          obtain ⟨bo', oo', _, _, _, e0, _, _, _, hp0⟩ := HO.out.pnt j (by rw [Hn.out]; exact hlt)
          cases e0
          intro h; cases h
          have := hp0.1
          omega
        have Nbo := Lib.hid nbo
        have Hlt := Lib.hid hlt
        clear hlt hq nbo
        go_upto_region 9 with fail
        refine wp_flow_lit 16 (fun w' => PntAt w' bo oo j f t is ∧ ShM w' a aW P ∧ ShM w' b bW P) [none, none, none, none, none, none, none, none, none, none, none, none, none, none, none, none]
          (by kernel_rfl) (by kernel_rfl) ⟨hp, HA.out, HM.out⟩ (fun w1 w2 h hb => ⟨h.1.below hb, h.2.1.below hb h.2.1.lt.1 h.2.1.lt.2, h.2.2.below hb h.2.2.lt.1 h.2.2.lt.2⟩) trivial ?_
        try simp only [specV, addF, Act.put, List.setIfInBounds_toArray, List.set_cons_zero, List.set_cons_succ, List.take_succ_cons, List.take_zero, List.drop_succ_cons, List.drop_zero]
        (apply Exists.intro; refine ⟨fun vs w1 hS hB hf => ?_, ?_⟩; (focus (obtain ⟨_, c0, c1, c2⟩ := hS.1; clear hS hB hf; go_simp; first | exact ⟨Below.refl _ _, rfl⟩ | exact rfl)); try simp only [specV, addF, Act.put, List.setIfInBounds_toArray, List.set_cons_zero, List.set_cons_succ, List.take_succ_cons, List.take_zero, List.drop_succ_cons, List.drop_zero]); (apply Exists.intro; refine ⟨fun vs w1 hS hB hf => ?_, ?_⟩; (focus (obtain ⟨_, c0, c1, c2⟩ := hS.1; clear hS hB hf; go_simp; first | exact ⟨Below.refl _ _, rfl⟩ | exact rfl)); try simp only [specV, addF, Act.put, List.setIfInBounds_toArray, List.set_cons_zero, List.set_cons_succ, List.take_succ_cons, List.take_zero, List.drop_succ_cons, List.drop_zero]); (apply Exists.intro; refine ⟨fun vs w1 hS hB hf => ?_, ?_⟩; (focus (obtain ⟨_, c0, c1, c2⟩ := hS.1; clear hS hB hf; go_simp; first | exact ⟨Below.refl _ _, rfl⟩ | exact rfl)); try simp only [specV, addF, Act.put, List.setIfInBounds_toArray, List.set_cons_zero, List.set_cons_succ, List.take_succ_cons, List.take_zero, List.drop_succ_cons, List.drop_zero]); (apply Exists.intro; refine ⟨fun vs w1 hS hB hf => ?_, ?_⟩; (focus (obtain ⟨_, c0, c1, c2⟩ := hS.1; clear hS hB hf; go_simp; first | exact ⟨Below.refl _ _, rfl⟩ | exact rfl)); try simp only [specV, addF, Act.put, List.setIfInBounds_toArray, List.set_cons_zero, List.set_cons_succ, List.take_succ_cons, List.take_zero, List.drop_succ_cons, List.drop_zero]); (apply Exists.intro; refine ⟨fun vs w1 hS hB hf => ?_, ?_⟩; (focus (obtain ⟨_, c0, c1, c2⟩ := hS.1; clear hS hB hf; go_simp; first | exact ⟨Below.refl _ _, rfl⟩ | exact rfl)); try simp only [specV, addF, Act.put, List.setIfInBounds_toArray, List.set_cons_zero, List.set_cons_succ, List.take_succ_cons, List.take_zero, List.drop_succ_cons, List.drop_zero]); (apply Exists.intro; refine ⟨fun vs w1 hS hB hf => ?_, ?_⟩; (focus (obtain ⟨_, c0, c1, c2⟩ := hS.1; clear hS hB hf; go_simp; first | exact ⟨Below.refl _ _, rfl⟩ | exact rfl)); try simp only [specV, addF, Act.put, List.setIfInBounds_toArray, List.set_cons_zero, List.set_cons_succ, List.take_succ_cons, List.take_zero, List.drop_succ_cons, List.drop_zero]); (apply Exists.intro; refine ⟨fun vs w1 hS hB hf => ?_, ?_⟩; (focus (obtain ⟨_, c0, c1, c2⟩ := hS.1; clear hS hB hf; go_simp; first | exact ⟨Below.refl _ _, rfl⟩ | exact rfl)); try simp only [specV, addF, Act.put, List.setIfInBounds_toArray, List.set_cons_zero, List.set_cons_succ, List.take_succ_cons, List.take_zero, List.drop_succ_cons, List.drop_zero]); (apply Exists.intro; refine ⟨fun vs w1 hS hB hf => ?_, ?_⟩; (focus (obtain ⟨_, c0, c1, c2⟩ := hS.1; clear hS hB hf; go_simp; first | exact ⟨Below.refl _ _, rfl⟩ | exact rfl)); try simp only [specV, addF, Act.put, List.setIfInBounds_toArray, List.set_cons_zero, List.set_cons_succ, List.take_succ_cons, List.take_zero, List.drop_succ_cons, List.drop_zero]); (apply Exists.intro; refine ⟨fun vs w1 hS hB hf => ?_, ?_⟩; (focus (obtain ⟨_, c0, c1, c2⟩ := hS.1; clear hS hB hf; go_simp; first | exact ⟨Below.refl _ _, rfl⟩ | exact rfl)); try simp only [specV, addF, Act.put, List.setIfInBounds_toArray, List.set_cons_zero, List.set_cons_succ, List.take_succ_cons, List.take_zero, List.drop_succ_cons, List.drop_zero]); (apply Exists.intro; refine ⟨fun vs w1 hS hB hf => ?_, ?_⟩; (focus (obtain ⟨_, c0, c1, c2⟩ := hS.1; clear hS hB hf; go_simp; first | exact ⟨Below.refl _ _, rfl⟩ | exact rfl)); try simp only [specV, addF, Act.put, List.setIfInBounds_toArray, List.set_cons_zero, List.set_cons_succ, List.take_succ_cons, List.take_zero, List.drop_succ_cons, List.drop_zero]); (apply Exists.intro; refine ⟨fun vs w1 hS hB hf => ?_, ?_⟩; (focus (obtain ⟨_, c0, c1, c2⟩ := hS.1; clear hS hB hf; go_simp; first | exact ⟨Below.refl _ _, rfl⟩ | exact rfl)); try simp only [specV, addF, Act.put, List.setIfInBounds_toArray, List.set_cons_zero, List.set_cons_succ, List.take_succ_cons, List.take_zero, List.drop_succ_cons, List.drop_zero]); (apply Exists.intro; refine ⟨fun vs w1 hS hB hf => ?_, ?_⟩; (focus (obtain ⟨_, c0, c1, c2⟩ := hS.1; clear hS hB hf; go_simp; first | exact ⟨Below.refl _ _, rfl⟩ | exact rfl)); try simp only [specV, addF, Act.put, List.setIfInBounds_toArray, List.set_cons_zero, List.set_cons_succ, List.take_succ_cons, List.take_zero, List.drop_succ_cons, List.drop_zero]); (apply Exists.intro; refine ⟨fun vs w1 hS hB hf => ?_, ?_⟩; (focus (obtain ⟨_, c0, c1, c2⟩ := hS.1; clear hS hB hf; go_simp; first | exact ⟨Below.refl _ _, rfl⟩ | exact rfl)); try simp only [specV, addF, Act.put, List.setIfInBounds_toArray, List.set_cons_zero, List.set_cons_succ, List.take_succ_cons, List.take_zero, List.drop_succ_cons, List.drop_zero]); (apply Exists.intro; refine ⟨fun vs w1 hS hB hf => ?_, ?_⟩; (focus (obtain ⟨_, c0, c1, c2⟩ := hS.1; clear hS hB hf; go_simp; first | exact ⟨Below.refl _ _, rfl⟩ | exact rfl)); try simp only [specV, addF, Act.put, List.setIfInBounds_toArray, List.set_cons_zero, List.set_cons_succ, List.take_succ_cons, List.take_zero, List.drop_succ_cons, List.drop_zero]); (apply Exists.intro; refine ⟨fun vs w1 hS hB hf => ?_, ?_⟩; (focus (obtain ⟨_, c0, c1, c2⟩ := hS.1; clear hS hB hf; go_simp; first | exact ⟨Below.refl _ _, rfl⟩ | exact rfl)); try simp only [specV, addF, Act.put, List.setIfInBounds_toArray, List.set_cons_zero, List.set_cons_succ, List.take_succ_cons, List.take_zero, List.drop_succ_cons, List.drop_zero]); (apply Exists.intro; refine ⟨fun vs w1 hS hB hf => ?_, ?_⟩; (focus (obtain ⟨_, c0, c1, c2⟩ := hS.1; clear hS hB hf; go_simp; first | exact ⟨Below.refl _ _, rfl⟩ | exact rfl)); try simp only [specV, addF, Act.put, List.setIfInBounds_toArray, List.set_cons_zero, List.set_cons_succ, List.take_succ_cons, List.take_zero, List.drop_succ_cons, List.drop_zero])
        intro vs w5 hS hB5 _
        have B5 := Lib.hid (below_then HB.out HB.out.size hB5)
        have Q5 := Lib.hid hS.1
        have A5 := Lib.hid hS.2.1
        have M5 := Lib.hid hS.2.2
        clear hS hB5 hp
        dsimp only
        go_wp2_with fail
        refine (paint_all a aW P f t is _ hf ht A5.out hna.symm).mono ?_
        rintro e w6 ⟨rfl, m6, G6⟩
        have A6 := Lib.hid m6
        have B6 := Lib.hid (B5.out.grown G6 B5.out.size (by intro k hk; cases hk; exact gaW))
        have M6 := Lib.hid (M5.out.grown G6 NN.out.2.2.1 NN.out.2.2.2)
        have q6 : PntAt w6 bo oo j f t is := by
          obtain ⟨h0, h1, h2, h3⟩ := Q5.out
          have hc : ∀ o, w6.cell? ⟨bo, o, none⟩ = w5.cell? ⟨bo, o, none⟩ := fun o => by simp only [World.cell?, G6.block bo h0 Nbo.out]
          exact ⟨Nat.lt_of_lt_of_le h0 G6.size, (hc _).trans h1, (hc _).trans h2, (hc _).trans h3⟩
        clear m6 G6
        go_upto_region 10 with fail
        refine wp_flow_lit 16 (fun w' => PntAt w' bo oo j f t is ∧ ShM w' a aW (paintL P f t is) ∧ ShM w' b bW P) [none, none, none, none, none, none, none, none, none, none, none, none, none, none, none, none]
          (by kernel_rfl) (by kernel_rfl) ⟨q6, A6.out, M6.out⟩ (fun w1 w2 h hb => ⟨h.1.below hb, h.2.1.below hb h.2.1.lt.1 h.2.1.lt.2, h.2.2.below hb h.2.2.lt.1 h.2.2.lt.2⟩) trivial ?_
        try simp only [specV, addF, Act.put, List.setIfInBounds_toArray, List.set_cons_zero, List.set_cons_succ, List.take_succ_cons, List.take_zero, List.drop_succ_cons, List.drop_zero]
        (apply Exists.intro; refine ⟨fun vs w1 hS hB hf => ?_, ?_⟩; (focus (obtain ⟨_, c0, c1, c2⟩ := hS.1; clear hS hB hf; go_simp; first | exact ⟨Below.refl _ _, rfl⟩ | exact rfl)); try simp only [specV, addF, Act.put, List.setIfInBounds_toArray, List.set_cons_zero, List.set_cons_succ, List.take_succ_cons, List.take_zero, List.drop_succ_cons, List.drop_zero]); (apply Exists.intro; refine ⟨fun vs w1 hS hB hf => ?_, ?_⟩; (focus (obtain ⟨_, c0, c1, c2⟩ := hS.1; clear hS hB hf; go_simp; first | exact ⟨Below.refl _ _, rfl⟩ | exact rfl)); try simp only [specV, addF, Act.put, List.setIfInBounds_toArray, List.set_cons_zero, List.set_cons_succ, List.take_succ_cons, List.take_zero, List.drop_succ_cons, List.drop_zero]); (apply Exists.intro; refine ⟨fun vs w1 hS hB hf => ?_, ?_⟩; (focus (obtain ⟨_, c0, c1, c2⟩ := hS.1; clear hS hB hf; go_simp; first | exact ⟨Below.refl _ _, rfl⟩ | exact rfl)); try simp only [specV, addF, Act.put, List.setIfInBounds_toArray, List.set_cons_zero, List.set_cons_succ, List.take_succ_cons, List.take_zero, List.drop_succ_cons, List.drop_zero]); (apply Exists.intro; refine ⟨fun vs w1 hS hB hf => ?_, ?_⟩; (focus (obtain ⟨_, c0, c1, c2⟩ := hS.1; clear hS hB hf; go_simp; first | exact ⟨Below.refl _ _, rfl⟩ | exact rfl)); try simp only [specV, addF, Act.put, List.setIfInBounds_toArray, List.set_cons_zero, List.set_cons_succ, List.take_succ_cons, List.take_zero, List.drop_succ_cons, List.drop_zero]); (apply Exists.intro; refine ⟨fun vs w1 hS hB hf => ?_, ?_⟩; (focus (obtain ⟨_, c0, c1, c2⟩ := hS.1; clear hS hB hf; go_simp; first | exact ⟨Below.refl _ _, rfl⟩ | exact rfl)); try simp only [specV, addF, Act.put, List.setIfInBounds_toArray, List.set_cons_zero, List.set_cons_succ, List.take_succ_cons, List.take_zero, List.drop_succ_cons, List.drop_zero]); (apply Exists.intro; refine ⟨fun vs w1 hS hB hf => ?_, ?_⟩; (focus (obtain ⟨_, c0, c1, c2⟩ := hS.1; clear hS hB hf; go_simp; first | exact ⟨Below.refl _ _, rfl⟩ | exact rfl)); try simp only [specV, addF, Act.put, List.setIfInBounds_toArray, List.set_cons_zero, List.set_cons_succ, List.take_succ_cons, List.take_zero, List.drop_succ_cons, List.drop_zero]); (apply Exists.intro; refine ⟨fun vs w1 hS hB hf => ?_, ?_⟩; (focus (obtain ⟨_, c0, c1, c2⟩ := hS.1; clear hS hB hf; go_simp; first | exact ⟨Below.refl _ _, rfl⟩ | exact rfl)); try simp only [specV, addF, Act.put, List.setIfInBounds_toArray, List.set_cons_zero, List.set_cons_succ, List.take_succ_cons, List.take_zero, List.drop_succ_cons, List.drop_zero]); (apply Exists.intro; refine ⟨fun vs w1 hS hB hf => ?_, ?_⟩; (focus (obtain ⟨_, c0, c1, c2⟩ := hS.1; clear hS hB hf; go_simp; first | exact ⟨Below.refl _ _, rfl⟩ | exact rfl)); try simp only [specV, addF, Act.put, List.setIfInBounds_toArray, List.set_cons_zero, List.set_cons_succ, List.take_succ_cons, List.take_zero, List.drop_succ_cons, List.drop_zero]); (apply Exists.intro; refine ⟨fun vs w1 hS hB hf => ?_, ?_⟩; (focus (obtain ⟨_, c0, c1, c2⟩ := hS.1; clear hS hB hf; go_simp; first | exact ⟨Below.refl _ _, rfl⟩ | exact rfl)); try simp only [specV, addF, Act.put, List.setIfInBounds_toArray, List.set_cons_zero, List.set_cons_succ, List.take_succ_cons, List.take_zero, List.drop_succ_cons, List.drop_zero]); (apply Exists.intro; refine ⟨fun vs w1 hS hB hf => ?_, ?_⟩; (focus (obtain ⟨_, c0, c1, c2⟩ := hS.1; clear hS hB hf; go_simp; first | exact ⟨Below.refl _ _, rfl⟩ | exact rfl)); try simp only [specV, addF, Act.put, List.setIfInBounds_toArray, List.set_cons_zero, List.set_cons_succ, List.take_succ_cons, List.take_zero, List.drop_succ_cons, List.drop_zero]); (apply Exists.intro; refine ⟨fun vs w1 hS hB hf => ?_, ?_⟩; (focus (obtain ⟨_, c0, c1, c2⟩ := hS.1; clear hS hB hf; go_simp; first | exact ⟨Below.refl _ _, rfl⟩ | exact rfl)); try simp only [specV, addF, Act.put, List.setIfInBounds_toArray, List.set_cons_zero, List.set_cons_succ, List.take_succ_cons, List.take_zero, List.drop_succ_cons, List.drop_zero]); (apply Exists.intro; refine ⟨fun vs w1 hS hB hf => ?_, ?_⟩; (focus (obtain ⟨_, c0, c1, c2⟩ := hS.1; clear hS hB hf; go_simp; first | exact ⟨Below.refl _ _, rfl⟩ | exact rfl)); try simp only [specV, addF, Act.put, List.setIfInBounds_toArray, List.set_cons_zero, List.set_cons_succ, List.take_succ_cons, List.take_zero, List.drop_succ_cons, List.drop_zero]); (apply Exists.intro; refine ⟨fun vs w1 hS hB hf => ?_, ?_⟩; (focus (obtain ⟨_, c0, c1, c2⟩ := hS.1; clear hS hB hf; go_simp; first | exact ⟨Below.refl _ _, rfl⟩ | exact rfl)); try simp only [specV, addF, Act.put, List.setIfInBounds_toArray, List.set_cons_zero, List.set_cons_succ, List.take_succ_cons, List.take_zero, List.drop_succ_cons, List.drop_zero]); (apply Exists.intro; refine ⟨fun vs w1 hS hB hf => ?_, ?_⟩; (focus (obtain ⟨_, c0, c1, c2⟩ := hS.1; clear hS hB hf; go_simp; first | exact ⟨Below.refl _ _, rfl⟩ | exact rfl)); try simp only [specV, addF, Act.put, List.setIfInBounds_toArray, List.set_cons_zero, List.set_cons_succ, List.take_succ_cons, List.take_zero, List.drop_succ_cons, List.drop_zero]); (apply Exists.intro; refine ⟨fun vs w1 hS hB hf => ?_, ?_⟩; (focus (obtain ⟨_, c0, c1, c2⟩ := hS.1; clear hS hB hf; go_simp; first | exact ⟨Below.refl _ _, rfl⟩ | exact rfl)); try simp only [specV, addF, Act.put, List.setIfInBounds_toArray, List.set_cons_zero, List.set_cons_succ, List.take_succ_cons, List.take_zero, List.drop_succ_cons, List.drop_zero]); (apply Exists.intro; refine ⟨fun vs w1 hS hB hf => ?_, ?_⟩; (focus (obtain ⟨_, c0, c1, c2⟩ := hS.1; clear hS hB hf; go_simp; first | exact ⟨Below.refl _ _, rfl⟩ | exact rfl)); try simp only [specV, addF, Act.put, List.setIfInBounds_toArray, List.set_cons_zero, List.set_cons_succ, List.take_succ_cons, List.take_zero, List.drop_succ_cons, List.drop_zero])
        intro vs w7 hS hB7 _
        have B7 := Lib.hid (below_then B6.out B6.out.size hB7)
        have A7 := Lib.hid hS.2.1
        have M7 := Lib.hid hS.2.2
        clear hS hB7 q6
        dsimp only
        go_wp2_with fail
        refine (paint_all b bW P f t is _ hf ht M7.out hne.symm).mono ?_
        rintro e w8 ⟨rfl, m8, G8⟩
        have M8 := Lib.hid m8
        have B8 := Lib.hid (B7.out.grown G8 B7.out.size (by intro k hk; cases hk; exact gW))
        have A8 := Lib.hid (A7.out.grown G8 NN.out.1 NN.out.2.1)
        clear m8 G8
        go_wp2
        go_roundg (gk - 1)
        case measure => have := Hjk.out; have := Hlt.out; omega
        case rel => exact ⟨j + 1, _, by have := Hjk.out; have := Hlt.out; omega, by go_num, by rw [paintL_len]; exact HP.out, A8.out, M8.out, B8.out⟩
      · have i1 : ¬ (j : Int) < n := by omega
        clear hge
        have hl := HP.out
        have ok1 : paintOk P.length (16 * (F : Int)) (16 * (F : Int) + 16 * D) := by rw [hl]; exact ⟨by omega, by omega, by omega, by omega, by omega⟩
        have ok2 : paintOk P.length (16 * (F : Int) + 16 * E) (16 * (F : Int) + 16 * D) := by rw [hl]; exact ⟨by omega, by omega, by omega, by omega, by omega⟩
        have ok3 : paintOk P.length (16 * (F : Int)) (16 * (F : Int) + 16 * E) := by rw [hl]; exact ⟨by omega, by omega, by omega, by omega, by omega⟩
        have e1 : (16 * (F : Int) / 16).toNat = F := by omega
        have e2 : ((16 * (F : Int) + 16 * D) / 16).toNat = F + D := by omega
        have e3 : ((16 * (F : Int) + 16 * E) / 16).toNat = F + E := by omega
        have hP1 := fun W h => paint_yes a aW P (16 * (F : Int)) (16 * (F : Int) + 16 * D) is0 W ⟨by omega, by omega⟩ ⟨by omega, by omega⟩ h hna.symm ok1
        have hP2 := fun W h => paint_yes b bW P (16 * (F : Int) + 16 * E) (16 * (F : Int) + 16 * D) is0 W ⟨by omega, by omega⟩ ⟨by omega, by omega⟩ h hne.symm ok2
        have hP3 := fun W h => paint_yes b bW (paintR P (F + E) (F + D) is0) (16 * (F : Int)) (16 * (F : Int) + 16 * E) is0 W ⟨by omega, by omega⟩ ⟨by omega, by omega⟩ h hne.symm (by rw [paintR_len]; exact ok3)
        rw [e1, e2] at hP1
        rw [e3, e2] at hP2
        rw [e1, e3, paint_parts _ _ _ _ _ (by omega) (by omega)] at hP3
        have hQl : (paintR P F (F + D) is0).length = 600 := by rw [paintR_len]; exact hl
        have HP1 := Lib.hid hP1
        have HP2 := Lib.hid hP2
        have HP3 := Lib.hid hP3
        clear ok1 ok2 ok3 e1 e2 e3 hP1 hP2 hP3 hl
        generalize paintR P F (F + D) is0 = Q at *
        have hml : (manyL Q : Int) ≤ 600 := by have := many_le Q; omega
        have hrl : (runsL Q).length ≤ 1048576 := by have h1 : (runsL Q).length ≤ Q.length := runsTo_len Q Q.length; omega
        have Hrl := Lib.hid hrl
        clear hrl hQl
        have hk := HE.out
        go_wp2_with fail
        refine (HP1.out _ HA.out).mono ?_
        rintro e w6 ⟨rfl, a6, G6⟩
        have m6 := HM.out.grown G6 NN.out.2.2.1 NN.out.2.2.2
        have B6 := HB.out.grown G6 HB.out.size (by intro k hk; cases hk; exact gaW)
        clear G6
        go_wp2_with fail
        refine (HP2.out _ m6).mono ?_
        rintro e w7 ⟨rfl, m7, G7⟩
        have a7 := a6.grown G7 NN.out.1 NN.out.2.1
        have B7 := B6.grown G7 B6.size (by intro k hk; cases hk; exact gW)
        clear G7 a6 m6 B6
        go_wp2_with fail
        refine (HP3.out _ m7).mono ?_
        rintro e w8 ⟨rfl, m8, G8⟩
        have a8 := a7.grown G8 NN.out.1 NN.out.2.1
        have B8 := B7.grown G8 B7.size (by intro k hk; cases hk; exact gW)
        clear G8 a7 m7 B7
        go_wp2_with fail
        refine (runs_any a aW Q _ a8).mono ?_
        rintro e w9 ⟨v9, rfl, r9, b9⟩
        have m9 := m8.below b9 m8.lt.1 m8.lt.2
        have a9 := a8.below b9 a8.lt.1 a8.lt.2
        have B9 := below_then B8 B8.size b9
        have R9 := RowR.own r9
        clear r9 b9 a8 m8 B8
        go_wp2_with fail
        refine (runs_any b bW Q _ m9).mono ?_
        rintro e w10 ⟨v10, rfl, r10, b10⟩
        have m10 := m9.below b10 m9.lt.1 m9.lt.2
        have a10 := a9.below b10 a9.lt.1 a9.lt.2
        have B10 := below_then B9 B9.size b10
        have R10 := RowR.own r10
        have R9 := R9.below b10
        clear r10 b10 a9 m9 B9
        go_wp2_with fail
        refine (same_rows v9 v10 _ _ _ R9 R10 Hrl.out).mono ?_
        rintro e w13 ⟨rfl, nn, rfl⟩
        rw [decide_eq_true rfl]
        have B13 := below_drewN B10 nn
        have a13 : ShM (w10.drewN nn) a aW Q := a10.below (below_drewN (Below.refl _ _) nn) a10.lt.1 a10.lt.2
        have m13 : ShM (w10.drewN nn) b bW Q := m10.below (below_drewN (Below.refl _ _) nn) m10.lt.1 m10.lt.2
        clear R9 R10 B10 a10 m10
        go_wp2_with fail
        refine (many_any a aW Q _ a13).mono ?_
        rintro e w14 ⟨rfl, rfl⟩
        go_wp2_with fail
        refine (many_any b bW Q _ m13).mono ?_
        rintro e w15 ⟨rfl, rfl⟩
        go_wp2
        go_ret
        exact ⟨rfl, B13⟩

set_option maxRecDepth 100000 in
theorem lifted (os : Os) (started : os.Started) (H : Type) (enc : TypeId × Value → H) :
    ReturnsInHanded {} Try.checked os 12 .any (Rows.shadowPartsSpec.pre6 enc Try.prog Try.f12 Rows.shadowPartsRow.domain false) (Rows.shadowPartsSpec.post enc Try.prog Try.f12 false true false false) := by
  refine returnsInHanded_of_change (C := Try.checked) own started (by kernel_rfl) Try.func12
    (ChangeSpec.witness6 (enc := enc) (C := Try.checked) false ⟨#[], #[.slice none 0 0, .int .u8 0, .int .u8 0, .int .u8 0, .bool false], []⟩ 8 (by kernel_rfl) (by kernel_rfl) (by kernel_rfl) (by kernel_rfl)) ?_
  intro W base args ds gs before hval0 hW hcnd _
  have hval : ∀ (j : Nat) t v, Try.f12.params[j]? = some t → args[j]? = some v → Value.okWide Try.prog W .any base t v := hval0
  have hW' := hW
  obtain ⟨p, q, hA0, hV, rfl, hfz, hnd⟩ := hW
  have hA : DataW.TrodAll enc Try.prog W 0 (fun _ => true) true Try.f12.params.toList args.toList ds p := hA0
  rw [Try.params12] at hA hval
  obtain ⟨v0, vs0, d0, ds0, p0, q0, hargs, rfl, rfl, h0, r0⟩ := trodAll_cons hA
  obtain ⟨v1, vs1, d1, ds1, p1, q1, rfl, rfl, rfl, h1, r1⟩ := trodAll_cons r0
  obtain ⟨v2, vs2, d2, ds2, p2, q2, rfl, rfl, rfl, h2, r2⟩ := trodAll_cons r1
  obtain ⟨v3, vs3, d3, ds3, p3, q3, rfl, rfl, rfl, h3, r3⟩ := trodAll_cons r2
  obtain ⟨v4, vs4, d4, ds4, p4, q4, rfl, rfl, rfl, h4, r4⟩ := trodAll_cons r3
  obtain ⟨rfl, rfl, rfl⟩ := trodAll_nil r4
  obtain rfl : args = #[v0, v1, v2, v3, v4] := by cases args; simp_all
  obtain ⟨rfl, rfl⟩ := trodVars_none hV
  have k0 := h0
  have lt0 : ∀ x ∈ p0, x.block < W.heap.size := by obtain ⟨m, hm⟩ := k0; exact DataW.trod_lt m _ _ _ hm
  obtain ⟨L0, hL0⟩ := open_ops (hval 0 34 v0 rfl rfl) h0
  have k1 := h1
  have lt1 : ∀ x ∈ p1, x.block < W.heap.size := by obtain ⟨m, hm⟩ := k1; exact DataW.trod_lt m _ _ _ hm
  obtain ⟨x1, rfl, _, _, w1⟩ := open_int Try.underlying5 (hval 1 5 v1 rfl rfl) h1
  have k2 := h2
  have lt2 : ∀ x ∈ p2, x.block < W.heap.size := by obtain ⟨m, hm⟩ := k2; exact DataW.trod_lt m _ _ _ hm
  obtain ⟨x2, rfl, _, _, w2⟩ := open_int Try.underlying5 (hval 2 5 v2 rfl rfl) h2
  have k3 := h3
  have lt3 : ∀ x ∈ p3, x.block < W.heap.size := by obtain ⟨m, hm⟩ := k3; exact DataW.trod_lt m _ _ _ hm
  obtain ⟨x3, rfl, _, _, w3⟩ := open_int Try.underlying5 (hval 3 5 v3 rfl rfl) h3
  have k4 := h4
  have lt4 : ∀ x ∈ p4, x.block < W.heap.size := by obtain ⟨m, hm⟩ := k4; exact DataW.trod_lt m _ _ _ hm
  obtain ⟨x4, rfl, _, _⟩ := open_bool Try.underlying4 (hval 4 4 v4 rfl rfl) h4
  clear hA0 hval0
  refine (walk v0 L0 x1 x2 x3 x4 W hL0 w1 w2 w3).mono fun e W' ⟨he, bel⟩ => ?_
  subst he
  exact ⟨_, rfl, _, _, _, [], _, [], hW', trodAll_mk1 (shut_bool Try.underlying4 _), (trodAll_cons_mk (Below.trod laidOut (by kernel_rfl) (of_decide_eq_true (by kernel_rfl)) k0 bel lt0) (trodAll_cons_mk (Below.trod laidOut (by kernel_rfl) (of_decide_eq_true (by kernel_rfl)) k1 bel lt1) (trodAll_cons_mk (Below.trod laidOut (by kernel_rfl) (of_decide_eq_true (by kernel_rfl)) k2 bel lt2) (trodAll_cons_mk (Below.trod laidOut (by kernel_rfl) (of_decide_eq_true (by kernel_rfl)) k3 bel lt3) (trodAll_cons_mk (Below.trod laidOut (by kernel_rfl) (of_decide_eq_true (by kernel_rfl)) k4 bel lt4) trodAll_mk0))))), rfl, bel.frame _, fun h => by cases h⟩

theorem over : Rows.shadowPartsRow.holds Try.pinned (OpenSpec.ofChange Rows.shadowPartsSpec) :=
  OpenClaim.holds_of_wide 12 Try.f12 rfl rfl rfl rfl rfl rfl rfl ⟨rfl, rfl, rfl, rfl, rfl⟩ rfl rfl rfl rfl rfl (by kernel_rfl) Try.func12 (by kernel_rfl)
    (of_decide_eq_true (by kernel_rfl)) (by unfold Func.isWrapper; rw [if_neg (of_decide_eq_false (by kernel_rfl))]; exact ⟨rfl, rfl⟩)
    (fun os started H enc _ => lifted os started H enc)

/-- The statement. -/
theorem proved : Rows.ShadowPartsSaid := over

#print axioms proved
end Go.Proofs.Ytjimkkkiilcpoaa.ShadowParts
