/-
  ShadowBack: for every slice of paints and every two bytes the law returns true, and each argument reads as it did. Condition: none.
-/
import Derived.Test.YtjimkkkiilcpoaaRows
import Derived.Test.YtjimkkkiilcpoaaShL
import Derived.Test.YtjimkkkiilcpoaaFlow
import Derived.ChangeOld
set_option linter.unusedVariables false
set_option linter.unusedSimpArgs false
namespace Go.Proofs.Ytjimkkkiilcpoaa.ShadowBack
open Go.ChangeShapes Go.WideShapes Go.ChangeAt Go.RowKit Go.Proofs.Ytjimkkkiilcpoaa

theorem own : ownKnob Try.prog.godebug = none := by kernel_rfl
theorem laidOut : laidOutB Try.prog = true := by kernel_rfl

set_option maxRecDepth 100000 in
set_option maxHeartbeats 3200000 in
theorem walk (v : Value) (L : List Pnt) (x y : Int) (w : World) (ho : OpsR w v L) (hx : (Lit.int .u8 x).wf = true) (hy : (Lit.int .u8 y).wf = true) :
    Calls Try.prog 11 #[v, .int .u8 x, .int .u8 y] w fun e w' => e = .returned (.bool true) ∧ Below w.heap.size w w' := by
  obtain ⟨x0, x1⟩ := u8_of_wf hx
  obtain ⟨y0, y1⟩ := u8_of_wf hy
  clear hx hy
  obtain ⟨F, rfl⟩ := Int.eq_ofNat_of_zero_le x0
  obtain ⟨D, rfl⟩ := Int.eq_ofNat_of_zero_le y0
  obtain ⟨A, c, rfl⟩ : ∃ A c, v = .slice A L.length c := ho.form
  have HO := Lib.hid ho
  clear ho
  generalize hn : L.length = n at *
  have Hn := Lib.hid hn
  clear hn
  go_enter Try.func11, Try.ntmps11
  go_wp2_with fail
  refine (head8_true _).mono ?_
  rintro e w1 ⟨rfl, B1⟩
  go_wp2_with fail
  refine (new_any 600 _ (by decide) (by decide)).mono ?_
  rintro e w2 ⟨b, bW, rfl, m2, gW, gb, hne, B2⟩
  have gW := Nat.le_trans B1.size gW
  have gb := Nat.le_trans B1.size gb
  have B2 := below_then B1 B1.size B2
  clear B1
  by_cases h300 : (300 : Int) < n
  · go_wp2
    go_ret
    exact ⟨rfl, B2⟩
  · go_wp2
    go_loopg [9] n (fun gk v9 wr => ∃ (j : Nat) (P : List Bool), j + gk = n ∧ v9 = .int .i64 j ∧ P.length = 600 ∧ ShM wr b bW P ∧ Below w.heap.size w wr)
    case atStart => exact ⟨0, List.replicate 600 false, by omega, rfl, by simp, m2, B2⟩
    case round =>
      obtain ⟨j, P, hjk, rfl, hP, hm, hb⟩ := hrel
      have Hjk := Lib.hid hjk
      have HP := Lib.hid hP
      have HM := Lib.hid hm
      have HB := Lib.hid hb
      have HO2 := Lib.hid (HO.out.below hb)
      clear hjk hP hm hb m2 B2
      rcases Nat.lt_or_ge j n with hlt | hge
      · have i1 : (j : Int) < n := by omega
        obtain ⟨bo, oo, f, t, is, rfl, hq, hf, ht, hp⟩ := HO2.out.pnt j (by rw [Hn.out]; exact hlt)
        have Hlt := Lib.hid hlt
        clear hlt hq
        go_upto_region 8 with fail
        refine wp_flow_lit 16 (fun w' => PntAt w' bo oo j f t is ∧ ShM w' b bW P) [none, none, none, none, none, none, none, none, none, none, none, none, none, none, none, none]
          (by kernel_rfl) (by kernel_rfl) ⟨hp, HM.out⟩ (fun w1 w2 h hb => ⟨h.1.below hb, h.2.below hb h.2.lt.1 h.2.lt.2⟩) trivial ?_
        try simp only [specV, addF, Act.put, List.setIfInBounds_toArray, List.set_cons_zero, List.set_cons_succ, List.take_succ_cons, List.take_zero, List.drop_succ_cons, List.drop_zero]
        (apply Exists.intro; refine ⟨fun vs w1 hS hB hf => ?_, ?_⟩; (focus (obtain ⟨_, c0, c1, c2⟩ := hS.1; clear hS hB hf; go_simp; first | exact ⟨Below.refl _ _, rfl⟩ | exact rfl)); try simp only [specV, addF, Act.put, List.setIfInBounds_toArray, List.set_cons_zero, List.set_cons_succ, List.take_succ_cons, List.take_zero, List.drop_succ_cons, List.drop_zero]); (apply Exists.intro; refine ⟨fun vs w1 hS hB hf => ?_, ?_⟩; (focus (obtain ⟨_, c0, c1, c2⟩ := hS.1; clear hS hB hf; go_simp; first | exact ⟨Below.refl _ _, rfl⟩ | exact rfl)); try simp only [specV, addF, Act.put, List.setIfInBounds_toArray, List.set_cons_zero, List.set_cons_succ, List.take_succ_cons, List.take_zero, List.drop_succ_cons, List.drop_zero]); (apply Exists.intro; refine ⟨fun vs w1 hS hB hf => ?_, ?_⟩; (focus (obtain ⟨_, c0, c1, c2⟩ := hS.1; clear hS hB hf; go_simp; first | exact ⟨Below.refl _ _, rfl⟩ | exact rfl)); try simp only [specV, addF, Act.put, List.setIfInBounds_toArray, List.set_cons_zero, List.set_cons_succ, List.take_succ_cons, List.take_zero, List.drop_succ_cons, List.drop_zero]); (apply Exists.intro; refine ⟨fun vs w1 hS hB hf => ?_, ?_⟩; (focus (obtain ⟨_, c0, c1, c2⟩ := hS.1; clear hS hB hf; go_simp; first | exact ⟨Below.refl _ _, rfl⟩ | exact rfl)); try simp only [specV, addF, Act.put, List.setIfInBounds_toArray, List.set_cons_zero, List.set_cons_succ, List.take_succ_cons, List.take_zero, List.drop_succ_cons, List.drop_zero]); (apply Exists.intro; refine ⟨fun vs w1 hS hB hf => ?_, ?_⟩; (focus (obtain ⟨_, c0, c1, c2⟩ := hS.1; clear hS hB hf; go_simp; first | exact ⟨Below.refl _ _, rfl⟩ | exact rfl)); try simp only [specV, addF, Act.put, List.setIfInBounds_toArray, List.set_cons_zero, List.set_cons_succ, List.take_succ_cons, List.take_zero, List.drop_succ_cons, List.drop_zero]); (apply Exists.intro; refine ⟨fun vs w1 hS hB hf => ?_, ?_⟩; (focus (obtain ⟨_, c0, c1, c2⟩ := hS.1; clear hS hB hf; go_simp; first | exact ⟨Below.refl _ _, rfl⟩ | exact rfl)); try simp only [specV, addF, Act.put, List.setIfInBounds_toArray, List.set_cons_zero, List.set_cons_succ, List.take_succ_cons, List.take_zero, List.drop_succ_cons, List.drop_zero]); (apply Exists.intro; refine ⟨fun vs w1 hS hB hf => ?_, ?_⟩; (focus (obtain ⟨_, c0, c1, c2⟩ := hS.1; clear hS hB hf; go_simp; first | exact ⟨Below.refl _ _, rfl⟩ | exact rfl)); try simp only [specV, addF, Act.put, List.setIfInBounds_toArray, List.set_cons_zero, List.set_cons_succ, List.take_succ_cons, List.take_zero, List.drop_succ_cons, List.drop_zero]); (apply Exists.intro; refine ⟨fun vs w1 hS hB hf => ?_, ?_⟩; (focus (obtain ⟨_, c0, c1, c2⟩ := hS.1; clear hS hB hf; go_simp; first | exact ⟨Below.refl _ _, rfl⟩ | exact rfl)); try simp only [specV, addF, Act.put, List.setIfInBounds_toArray, List.set_cons_zero, List.set_cons_succ, List.take_succ_cons, List.take_zero, List.drop_succ_cons, List.drop_zero]); (apply Exists.intro; refine ⟨fun vs w1 hS hB hf => ?_, ?_⟩; (focus (obtain ⟨_, c0, c1, c2⟩ := hS.1; clear hS hB hf; go_simp; first | exact ⟨Below.refl _ _, rfl⟩ | exact rfl)); try simp only [specV, addF, Act.put, List.setIfInBounds_toArray, List.set_cons_zero, List.set_cons_succ, List.take_succ_cons, List.take_zero, List.drop_succ_cons, List.drop_zero]); (apply Exists.intro; refine ⟨fun vs w1 hS hB hf => ?_, ?_⟩; (focus (obtain ⟨_, c0, c1, c2⟩ := hS.1; clear hS hB hf; go_simp; first | exact ⟨Below.refl _ _, rfl⟩ | exact rfl)); try simp only [specV, addF, Act.put, List.setIfInBounds_toArray, List.set_cons_zero, List.set_cons_succ, List.take_succ_cons, List.take_zero, List.drop_succ_cons, List.drop_zero]); (apply Exists.intro; refine ⟨fun vs w1 hS hB hf => ?_, ?_⟩; (focus (obtain ⟨_, c0, c1, c2⟩ := hS.1; clear hS hB hf; go_simp; first | exact ⟨Below.refl _ _, rfl⟩ | exact rfl)); try simp only [specV, addF, Act.put, List.setIfInBounds_toArray, List.set_cons_zero, List.set_cons_succ, List.take_succ_cons, List.take_zero, List.drop_succ_cons, List.drop_zero]); (apply Exists.intro; refine ⟨fun vs w1 hS hB hf => ?_, ?_⟩; (focus (obtain ⟨_, c0, c1, c2⟩ := hS.1; clear hS hB hf; go_simp; first | exact ⟨Below.refl _ _, rfl⟩ | exact rfl)); try simp only [specV, addF, Act.put, List.setIfInBounds_toArray, List.set_cons_zero, List.set_cons_succ, List.take_succ_cons, List.take_zero, List.drop_succ_cons, List.drop_zero]); (apply Exists.intro; refine ⟨fun vs w1 hS hB hf => ?_, ?_⟩; (focus (obtain ⟨_, c0, c1, c2⟩ := hS.1; clear hS hB hf; go_simp; first | exact ⟨Below.refl _ _, rfl⟩ | exact rfl)); try simp only [specV, addF, Act.put, List.setIfInBounds_toArray, List.set_cons_zero, List.set_cons_succ, List.take_succ_cons, List.take_zero, List.drop_succ_cons, List.drop_zero]); (apply Exists.intro; refine ⟨fun vs w1 hS hB hf => ?_, ?_⟩; (focus (obtain ⟨_, c0, c1, c2⟩ := hS.1; clear hS hB hf; go_simp; first | exact ⟨Below.refl _ _, rfl⟩ | exact rfl)); try simp only [specV, addF, Act.put, List.setIfInBounds_toArray, List.set_cons_zero, List.set_cons_succ, List.take_succ_cons, List.take_zero, List.drop_succ_cons, List.drop_zero]); (apply Exists.intro; refine ⟨fun vs w1 hS hB hf => ?_, ?_⟩; (focus (obtain ⟨_, c0, c1, c2⟩ := hS.1; clear hS hB hf; go_simp; first | exact ⟨Below.refl _ _, rfl⟩ | exact rfl)); try simp only [specV, addF, Act.put, List.setIfInBounds_toArray, List.set_cons_zero, List.set_cons_succ, List.take_succ_cons, List.take_zero, List.drop_succ_cons, List.drop_zero]); (apply Exists.intro; refine ⟨fun vs w1 hS hB hf => ?_, ?_⟩; (focus (obtain ⟨_, c0, c1, c2⟩ := hS.1; clear hS hB hf; go_simp; first | exact ⟨Below.refl _ _, rfl⟩ | exact rfl)); try simp only [specV, addF, Act.put, List.setIfInBounds_toArray, List.set_cons_zero, List.set_cons_succ, List.take_succ_cons, List.take_zero, List.drop_succ_cons, List.drop_zero])
        intro vs w5 hS hB5 _
        have B5 := Lib.hid (below_then HB.out HB.out.size hB5)
        have M5 := Lib.hid hS.2
        clear hS hB5 hp
        dsimp only
        go_wp2_with fail
        refine (paint_all b bW P f t is _ hf ht M5.out hne.symm).mono ?_
        rintro e w6 ⟨rfl, m6, G6⟩
        have M6 := Lib.hid m6
        have B6 := Lib.hid (B5.out.grown G6 B5.out.size (by intro k hk; cases hk; exact gW))
        clear m6 G6
        go_wp2
        go_roundg (gk - 1)
        case measure => have := Hjk.out; have := Hlt.out; omega
        case rel => exact ⟨j + 1, _, by have := Hjk.out; have := Hlt.out; omega, by go_num, by rw [paintL_len]; exact HP.out, M6.out, B6.out⟩
      · have i1 : ¬ (j : Int) < n := by omega
        clear hge
        go_wp2
        obtain ⟨wo, rfl⟩ : ∃ wo : World, wo = wr := ⟨_, rfl⟩
        go_loopg [12] D (fun gk v12 wr => ∃ d : Nat, d + gk = D ∧ v12 = .int .i64 (16 * (F : Int) + 16 * d) ∧ (∀ g, F ≤ g → g < F + d → isG P g = false) ∧ wr = wo)
        case atStart => exact ⟨0, by omega, by first | rfl | simp, fun g h1 h2 => by omega, rfl⟩
        case round =>
          obtain ⟨d, hd, rfl, hall, rfl⟩ := hrel
          have Hd := Lib.hid hd
          have Hall := Lib.hid hall
          clear hd hall
          rcases Nat.lt_or_ge d D with hlt | hge
          · have i2 : (d : Int) < D := by omega
            have Hlt := Lib.hid hlt
            clear hlt
            have hi : isB' P (16 * (F : Int) + 16 * d) = isG P (F + d) := by
              rw [isB', decide_eq_true (by omega), Bool.true_and, show ((16 * (F : Int) + 16 * d) / 16).toNat = F + d by omega]
              rfl
            go_wp2_with fail
            refine (is_any b bW P (16 * (F : Int) + 16 * d) _ ⟨by omega, by omega⟩ HM.out).mono ?_
            rintro e w6 ⟨rfl, rfl⟩
            rw [hi]
            clear hi
            cases hg : isG P (F + d) with
            | true =>
              clear hg
              go_wp2
              go_ret
              exact ⟨rfl, HB.out⟩
            | false =>
              have HGg := Lib.hid hg
              clear hg
              go_wp2
              go_roundg (gk - 1)
              case measure => have := Hd.out; have := Hlt.out; omega
              case rel =>
                refine ⟨d + 1, by have := Hd.out; have := Hlt.out; omega, congrArg (Value.int .i64) (by omega), fun g h1 h2 => ?_, rfl⟩
                rcases Nat.lt_or_ge g (F + d) with h3 | h3
                · exact Hall.out g h1 h3
                · rw [show g = F + d by omega]; exact HGg.out
          · have i2 : ¬ (d : Int) < D := by omega
            have e : d = D := by have := Hd.out; omega
            subst e
            clear hge
            have hnone := Hall.out
            have hc1 := Lib.hid (many_paint P F d (by have := HP.out; omega) hnone)
            have hc2 := Lib.hid (paint_back P F (F + d) hnone)
            have hok : paintOk P.length (16 * (F : Int)) (16 * (F : Int) + 16 * d) := by rw [HP.out]; exact ⟨by omega, by omega, by omega, by omega, by omega⟩
            have e1 : (16 * (F : Int) / 16).toNat = F := by omega
            have e2 : ((16 * (F : Int) + 16 * d) / 16).toNat = F + d := by omega
            have hP1 := fun W h => paint_yes b bW P (16 * (F : Int)) (16 * (F : Int) + 16 * d) true W ⟨by omega, by omega⟩ ⟨by omega, by omega⟩ h hne.symm hok
            have hP2 := fun W h => paint_yes b bW (paintR P F (F + d) true) (16 * (F : Int)) (16 * (F : Int) + 16 * d) false W ⟨by omega, by omega⟩ ⟨by omega, by omega⟩ h hne.symm (by rw [paintR_len]; exact hok)
            rw [e1, e2] at hP1 hP2
            rw [hc2.out] at hP2
            have HP1 := Lib.hid hP1
            have HP2 := Lib.hid hP2
            have hml : (manyL P : Int) ≤ 600 := by have := many_le P; have := HP.out; omega
            have hrl : (runsL P).length ≤ 1048576 := by have h1 : (runsL P).length ≤ P.length := runsTo_len P P.length; have := HP.out; omega
            have Hrl := Lib.hid hrl
            clear hok e1 e2 hP1 hP2 hnone hrl
            go_wp2_with fail
            refine (runs_any b bW P _ HM.out).mono ?_
            rintro e w7 ⟨v7, rfl, r7, b7⟩
            have m7 := HM.out.below b7 HM.out.lt.1 HM.out.lt.2
            have B7 := below_then HB.out HB.out.size b7
            have nb7 : v7.ownBlock = none ∨ v7.ownBlock ≠ some bW := by
              right
              intro hc
              have := (r7.lt bW hc).1
              have := HM.out.lt.2
              omega
            clear b7
            go_wp2_with fail
            refine (many_any b bW P _ m7).mono ?_
            rintro e w8 ⟨rfl, rfl⟩
            go_wp2_with fail
            refine (HP1.out _ m7).mono ?_
            rintro e w9 ⟨rfl, m9, G9⟩
            have r9 := r7.kept G9 nb7
            have B9 := B7.grown G9 B7.size (by intro k hk; cases hk; exact gW)
            clear G9 m7 B7 r7
            go_wp2_with fail
            refine (many_any b bW _ _ m9).mono ?_
            rintro e w10 ⟨rfl, rfl⟩
            rw [hc1.out]
            go_wp2_with fail
            refine (HP2.out _ m9).mono ?_
            rintro e w11 ⟨rfl, m11, G11⟩
            have r11 := r9.kept G11 nb7
            have B11 := B9.grown G11 B9.size (by intro k hk; cases hk; exact gW)
            clear G11 m9 B9 r9 nb7
            go_wp2_with fail
            refine (runs_any b bW P _ m11).mono ?_
            rintro e w12 ⟨v12, rfl, r12, b12⟩
            have R7 := (RowR.own r11).below b12
            have R12 := RowR.own r12
            have B12 := below_then B11 B11.size b12
            clear r11 r12 b12 m11 B11
            go_wp2_with fail
            refine (same_rows v12 v7 _ _ _ R12 R7 Hrl.out).mono ?_
            rintro e w13 ⟨rfl, nn, rfl⟩
            rw [decide_eq_true rfl]
            have B13 := below_drewN B12 nn
            clear R7 R12 B12
            go_wp2
            go_ret
            exact ⟨rfl, B13⟩

set_option maxRecDepth 100000 in
theorem lifted (os : Os) (started : os.Started) (H : Type) (enc : TypeId × Value → H) :
    ReturnsInHanded {} Try.checked os 11 .any (Rows.shadowBackSpec.pre6 enc Try.prog Try.f11 Rows.shadowBackRow.domain false) (Rows.shadowBackSpec.post enc Try.prog Try.f11 false true false false) := by
  refine returnsInHanded_of_change (C := Try.checked) own started (by kernel_rfl) Try.func11
    (ChangeSpec.witness6 (enc := enc) (C := Try.checked) false ⟨#[], #[.slice none 0 0, .int .u8 0, .int .u8 0], []⟩ 8 (by kernel_rfl) (by kernel_rfl) (by kernel_rfl) (by kernel_rfl)) ?_
  intro W base args ds gs before hval0 hW hcnd _
  have hval : ∀ (j : Nat) t v, Try.f11.params[j]? = some t → args[j]? = some v → Value.okWide Try.prog W .any base t v := hval0
  have hW' := hW
  obtain ⟨p, q, hA0, hV, rfl, hfz, hnd⟩ := hW
  have hA : DataW.TrodAll enc Try.prog W 0 (fun _ => true) true Try.f11.params.toList args.toList ds p := hA0
  rw [Try.params11] at hA hval
  obtain ⟨v0, vs0, d0, ds0, p0, q0, hargs, rfl, rfl, h0, r0⟩ := trodAll_cons hA
  obtain ⟨v1, vs1, d1, ds1, p1, q1, rfl, rfl, rfl, h1, r1⟩ := trodAll_cons r0
  obtain ⟨v2, vs2, d2, ds2, p2, q2, rfl, rfl, rfl, h2, r2⟩ := trodAll_cons r1
  obtain ⟨rfl, rfl, rfl⟩ := trodAll_nil r2
  obtain rfl : args = #[v0, v1, v2] := by cases args; simp_all
  obtain ⟨rfl, rfl⟩ := trodVars_none hV
  have k0 := h0
  have lt0 : ∀ x ∈ p0, x.block < W.heap.size := by obtain ⟨m, hm⟩ := k0; exact DataW.trod_lt m _ _ _ hm
  obtain ⟨L0, hL0⟩ := open_ops (hval 0 34 v0 rfl rfl) h0
  have k1 := h1
  have lt1 : ∀ x ∈ p1, x.block < W.heap.size := by obtain ⟨m, hm⟩ := k1; exact DataW.trod_lt m _ _ _ hm
  obtain ⟨x1, rfl, _, _, w1⟩ := open_int Try.underlying5 (hval 1 5 v1 rfl rfl) h1
  have k2 := h2
  have lt2 : ∀ x ∈ p2, x.block < W.heap.size := by obtain ⟨m, hm⟩ := k2; exact DataW.trod_lt m _ _ _ hm
  obtain ⟨x2, rfl, _, _, w2⟩ := open_int Try.underlying5 (hval 2 5 v2 rfl rfl) h2
  clear hA0 hval0
  refine (walk v0 L0 x1 x2 W hL0 w1 w2).mono fun e W' ⟨he, bel⟩ => ?_
  subst he
  exact ⟨_, rfl, _, _, _, [], _, [], hW', trodAll_mk1 (shut_bool Try.underlying4 _), (trodAll_cons_mk (Below.trod laidOut (by kernel_rfl) (of_decide_eq_true (by kernel_rfl)) k0 bel lt0) (trodAll_cons_mk (Below.trod laidOut (by kernel_rfl) (of_decide_eq_true (by kernel_rfl)) k1 bel lt1) (trodAll_cons_mk (Below.trod laidOut (by kernel_rfl) (of_decide_eq_true (by kernel_rfl)) k2 bel lt2) trodAll_mk0))), rfl, bel.frame _, fun h => by cases h⟩

theorem over : Rows.shadowBackRow.holds Try.pinned (OpenSpec.ofChange Rows.shadowBackSpec) :=
  OpenClaim.holds_of_wide 11 Try.f11 rfl rfl rfl rfl rfl rfl rfl ⟨rfl, rfl, rfl, rfl, rfl⟩ rfl rfl rfl rfl rfl (by kernel_rfl) Try.func11 (by kernel_rfl)
    (of_decide_eq_true (by kernel_rfl)) (by unfold Func.isWrapper; rw [if_neg (of_decide_eq_false (by kernel_rfl))]; exact ⟨rfl, rfl⟩)
    (fun os started H enc _ => lifted os started H enc)

/-- The statement. -/
theorem proved : Rows.ShadowBackSaid := over

#print axioms proved
end Go.Proofs.Ytjimkkkiilcpoaa.ShadowBack
