/-
  ShadowRows: for every slice of paints the law returns true, and the argument reads as it did. Condition: none.
-/
import Derived.Test.YtjimkkkiilcpoaaRows
import Derived.Test.YtjimkkkiilcpoaaShL
import Derived.Test.YtjimkkkiilcpoaaFlow
import Derived.ChangeOld
set_option linter.unusedVariables false
set_option linter.unusedSimpArgs false
namespace Go.Proofs.Ytjimkkkiilcpoaa.ShadowRows
open Go.ChangeShapes Go.WideShapes Go.ChangeAt Go.RowKit Go.Proofs.Ytjimkkkiilcpoaa

theorem own : ownKnob Try.prog.godebug = none := by kernel_rfl
theorem laidOut : laidOutB Try.prog = true := by kernel_rfl

set_option maxRecDepth 100000 in
set_option maxHeartbeats 3200000 in
theorem walk (v : Value) (L : List Pnt) (w : World) (ho : OpsR w v L) :
    Calls Try.prog 10 #[v] w fun e w' => e = .returned (.bool true) ∧ Below w.heap.size w w' := by
  obtain ⟨A, c, rfl⟩ : ∃ A c, v = .slice A L.length c := ho.form
  have HO := Lib.hid ho
  clear ho
  generalize hn : L.length = n at *
  have Hn := Lib.hid hn
  clear hn
  go_enter Try.func10, Try.ntmps10
  go_wp2_with fail
  refine (head8_true _).mono ?_
  rintro e w1 ⟨rfl, B1⟩
  go_wp2_with fail
  refine (new_any 130 _ (by decide) (by decide)).mono ?_
  rintro e w2 ⟨b, bW, rfl, m2, gW, gb, hne, B2⟩
  have gW := Nat.le_trans B1.size gW
  have gb := Nat.le_trans B1.size gb
  have B2 := below_then B1 B1.size B2
  clear B1
  by_cases h300 : (300 : Int) < n
  · go_wp2
    go_ret
    exact ⟨rfl, B2⟩
  · go_wp2
    go_loopg [5] n (fun gk v5 wr => ∃ (j : Nat) (P : List Bool), j + gk = n ∧ v5 = .int .i64 j ∧ P.length = 130 ∧ ShM wr b bW P ∧ Below w.heap.size w wr)
    case atStart => exact ⟨0, List.replicate 130 false, by omega, rfl, by simp, m2, B2⟩
    case round =>
      obtain ⟨j, P, hjk, rfl, hP, hm, hb⟩ := hrel
      have Hjk := Lib.hid hjk
      have HP := Lib.hid hP
      have HM := Lib.hid hm
      have HB := Lib.hid hb
      have HO2 := Lib.hid (HO.out.below hb)
      clear hjk hP hm hb m2 B2
      rcases Nat.lt_or_ge j n with hlt | hge
      · have i1 : (j : Int) < n := by omega
        obtain ⟨bo, oo, f, t, is, rfl, hq, hf, ht, hp⟩ := HO2.out.pnt j (by rw [Hn.out]; exact hlt)
        have Hlt := Lib.hid hlt
        clear hlt hq
        go_upto_region 8 with fail
        refine wp_flow_lit 16 (fun w' => PntAt w' bo oo j f t is ∧ ShM w' b bW P) [none, none, none, none, none, none, none, none, none, none, none, none, none, none, none, none]
          (by kernel_rfl) (by kernel_rfl) ⟨hp, HM.out⟩ (fun w1 w2 h hb => ⟨h.1.below hb, h.2.below hb h.2.lt.1 h.2.lt.2⟩) trivial ?_
        try simp only [specV, addF, Act.put, List.setIfInBounds_toArray, List.set_cons_zero, List.set_cons_succ, List.take_succ_cons, List.take_zero, List.drop_succ_cons, List.drop_zero]
        (apply Exists.intro; refine ⟨fun vs w1 hS hB hf => ?_, ?_⟩; (focus (obtain ⟨_, c0, c1, c2⟩ := hS.1; clear hS hB hf; go_simp; first | exact ⟨Below.refl _ _, rfl⟩ | exact rfl)); try simp only [specV, addF, Act.put, List.setIfInBounds_toArray, List.set_cons_zero, List.set_cons_succ, List.take_succ_cons, List.take_zero, List.drop_succ_cons, List.drop_zero]); (apply Exists.intro; refine ⟨fun vs w1 hS hB hf => ?_, ?_⟩; (focus (obtain ⟨_, c0, c1, c2⟩ := hS.1; clear hS hB hf; go_simp; first | exact ⟨Below.refl _ _, rfl⟩ | exact rfl)); try simp only [specV, addF, Act.put, List.setIfInBounds_toArray, List.set_cons_zero, List.set_cons_succ, List.take_succ_cons, List.take_zero, List.drop_succ_cons, List.drop_zero]); (apply Exists.intro; refine ⟨fun vs w1 hS hB hf => ?_, ?_⟩; (focus (obtain ⟨_, c0, c1, c2⟩ := hS.1; clear hS hB hf; go_simp; first | exact ⟨Below.refl _ _, rfl⟩ | exact rfl)); try simp only [specV, addF, Act.put, List.setIfInBounds_toArray, List.set_cons_zero, List.set_cons_succ, List.take_succ_cons, List.take_zero, List.drop_succ_cons, List.drop_zero]); (apply Exists.intro; refine ⟨fun vs w1 hS hB hf => ?_, ?_⟩; (focus (obtain ⟨_, c0, c1, c2⟩ := hS.1; clear hS hB hf; go_simp; first | exact ⟨Below.refl _ _, rfl⟩ | exact rfl)); try simp only [specV, addF, Act.put, List.setIfInBounds_toArray, List.set_cons_zero, List.set_cons_succ, List.take_succ_cons, List.take_zero, List.drop_succ_cons, List.drop_zero]); (apply Exists.intro; refine ⟨fun vs w1 hS hB hf => ?_, ?_⟩; (focus (obtain ⟨_, c0, c1, c2⟩ := hS.1; clear hS hB hf; go_simp; first | exact ⟨Below.refl _ _, rfl⟩ | exact rfl)); try simp only [specV, addF, Act.put, List.setIfInBounds_toArray, List.set_cons_zero, List.set_cons_succ, List.take_succ_cons, List.take_zero, List.drop_succ_cons, List.drop_zero]); (apply Exists.intro; refine ⟨fun vs w1 hS hB hf => ?_, ?_⟩; (focus (obtain ⟨_, c0, c1, c2⟩ := hS.1; clear hS hB hf; go_simp; first | exact ⟨Below.refl _ _, rfl⟩ | exact rfl)); try simp only [specV, addF, Act.put, List.setIfInBounds_toArray, List.set_cons_zero, List.set_cons_succ, List.take_succ_cons, List.take_zero, List.drop_succ_cons, List.drop_zero]); (apply Exists.intro; refine ⟨fun vs w1 hS hB hf => ?_, ?_⟩; (focus (obtain ⟨_, c0, c1, c2⟩ := hS.1; clear hS hB hf; go_simp; first | exact ⟨Below.refl _ _, rfl⟩ | exact rfl)); try simp only [specV, addF, Act.put, List.setIfInBounds_toArray, List.set_cons_zero, List.set_cons_succ, List.take_succ_cons, List.take_zero, List.drop_succ_cons, List.drop_zero]); (apply Exists.intro; refine ⟨fun vs w1 hS hB hf => ?_, ?_⟩; (focus (obtain ⟨_, c0, c1, c2⟩ := hS.1; clear hS hB hf; go_simp; first | exact ⟨Below.refl _ _, rfl⟩ | exact rfl)); try simp only [specV, addF, Act.put, List.setIfInBounds_toArray, List.set_cons_zero, List.set_cons_succ, List.take_succ_cons, List.take_zero, List.drop_succ_cons, List.drop_zero]); (apply Exists.intro; refine ⟨fun vs w1 hS hB hf => ?_, ?_⟩; (focus (obtain ⟨_, c0, c1, c2⟩ := hS.1; clear hS hB hf; go_simp; first | exact ⟨Below.refl _ _, rfl⟩ | exact rfl)); try simp only [specV, addF, Act.put, List.setIfInBounds_toArray, List.set_cons_zero, List.set_cons_succ, List.take_succ_cons, List.take_zero, List.drop_succ_cons, List.drop_zero]); (apply Exists.intro; refine ⟨fun vs w1 hS hB hf => ?_, ?_⟩; (focus (obtain ⟨_, c0, c1, c2⟩ := hS.1; clear hS hB hf; go_simp; first | exact ⟨Below.refl _ _, rfl⟩ | exact rfl)); try simp only [specV, addF, Act.put, List.setIfInBounds_toArray, List.set_cons_zero, List.set_cons_succ, List.take_succ_cons, List.take_zero, List.drop_succ_cons, List.drop_zero]); (apply Exists.intro; refine ⟨fun vs w1 hS hB hf => ?_, ?_⟩; (focus (obtain ⟨_, c0, c1, c2⟩ := hS.1; clear hS hB hf; go_simp; first | exact ⟨Below.refl _ _, rfl⟩ | exact rfl)); try simp only [specV, addF, Act.put, List.setIfInBounds_toArray, List.set_cons_zero, List.set_cons_succ, List.take_succ_cons, List.take_zero, List.drop_succ_cons, List.drop_zero]); (apply Exists.intro; refine ⟨fun vs w1 hS hB hf => ?_, ?_⟩; (focus (obtain ⟨_, c0, c1, c2⟩ := hS.1; clear hS hB hf; go_simp; first | exact ⟨Below.refl _ _, rfl⟩ | exact rfl)); try simp only [specV, addF, Act.put, List.setIfInBounds_toArray, List.set_cons_zero, List.set_cons_succ, List.take_succ_cons, List.take_zero, List.drop_succ_cons, List.drop_zero]); (apply Exists.intro; refine ⟨fun vs w1 hS hB hf => ?_, ?_⟩; (focus (obtain ⟨_, c0, c1, c2⟩ := hS.1; clear hS hB hf; go_simp; first | exact ⟨Below.refl _ _, rfl⟩ | exact rfl)); try simp only [specV, addF, Act.put, List.setIfInBounds_toArray, List.set_cons_zero, List.set_cons_succ, List.take_succ_cons, List.take_zero, List.drop_succ_cons, List.drop_zero]); (apply Exists.intro; refine ⟨fun vs w1 hS hB hf => ?_, ?_⟩; (focus (obtain ⟨_, c0, c1, c2⟩ := hS.1; clear hS hB hf; go_simp; first | exact ⟨Below.refl _ _, rfl⟩ | exact rfl)); try simp only [specV, addF, Act.put, List.setIfInBounds_toArray, List.set_cons_zero, List.set_cons_succ, List.take_succ_cons, List.take_zero, List.drop_succ_cons, List.drop_zero]); (apply Exists.intro; refine ⟨fun vs w1 hS hB hf => ?_, ?_⟩; (focus (obtain ⟨_, c0, c1, c2⟩ := hS.1; clear hS hB hf; go_simp; first | exact ⟨Below.refl _ _, rfl⟩ | exact rfl)); try simp only [specV, addF, Act.put, List.setIfInBounds_toArray, List.set_cons_zero, List.set_cons_succ, List.take_succ_cons, List.take_zero, List.drop_succ_cons, List.drop_zero]); (apply Exists.intro; refine ⟨fun vs w1 hS hB hf => ?_, ?_⟩; (focus (obtain ⟨_, c0, c1, c2⟩ := hS.1; clear hS hB hf; go_simp; first | exact ⟨Below.refl _ _, rfl⟩ | exact rfl)); try simp only [specV, addF, Act.put, List.setIfInBounds_toArray, List.set_cons_zero, List.set_cons_succ, List.take_succ_cons, List.take_zero, List.drop_succ_cons, List.drop_zero])
        intro vs w5 hS hB5 _
        have B5 := Lib.hid (below_then HB.out HB.out.size hB5)
        have M5 := Lib.hid hS.2
        clear hS hB5 hp
        dsimp only
        go_wp2_with fail
        refine (paint_all b bW P f t is _ hf ht M5.out hne.symm).mono ?_
        rintro e w6 ⟨rfl, m6, G6⟩
        have M6 := Lib.hid m6
        have B6 := Lib.hid (B5.out.grown G6 B5.out.size (by intro k hk; cases hk; exact gW))
        clear m6 G6
        go_wp2
        go_roundg (gk - 1)
        case measure => have := Hjk.out; have := Hlt.out; omega
        case rel => exact ⟨j + 1, _, by have := Hjk.out; have := Hlt.out; omega, by go_num, by rw [paintL_len]; exact HP.out, M6.out, B6.out⟩
      · have i1 : ¬ (j : Int) < n := by omega
        clear hge
        go_wp2_with fail
        refine (runs_any b bW P _ HM.out).mono ?_
        rintro e w3 ⟨v, rfl, r3, b3⟩
        have m3 := HM.out.below b3 HM.out.lt.1 HM.out.lt.2
        have B3 := below_then HB.out HB.out.size b3
        have R3 := RowR.own r3
        have HG := Lib.hid (runsOk P)
        have hrl : (runsL P).length ≤ 130 := by have h1 : (runsL P).length ≤ P.length := runsTo_len P P.length; have := HP.out; omega
        obtain ⟨hs0, hs1⟩ := lenSum_le (HG.out.ok)
        clear b3 r3
        generalize hR : runsL P = R at *
        have HR := Lib.hid hR
        clear hR hs0 hs1
        obtain ⟨A', c', rfl, k3, a3⟩ := R3
        have R3 : Hid (RowR w3 (.slice A' R.length c') R) := Lib.hid ⟨A', c', rfl, k3, a3⟩
        have a3 := Lib.hid a3
        have M3 := Lib.hid m3
        have B3 := Lib.hid B3
        clear k3 m3
        generalize hm : R.length = m at *
        have Hm := Lib.hid hm
        clear hm
        go_wp2
        go_loopg [7, 8, 9, 10, 11] m (fun gk v7 v8 v9 v10 v11 wr => ∃ q : Nat, q + gk = m ∧ v8 = .int .i64 q ∧ v7 = .int .i64 (lenSum (R.take q)) ∧ wr = w3)
        case atStart => exact ⟨0, by omega, rfl, rfl, rfl⟩
        case round =>
          obtain ⟨q, hqk, rfl, rfl, rfl⟩ := hrel
          have Hqk := Lib.hid hqk
          clear hqk
          obtain ⟨l0, l1⟩ := lenSum_le (P := P) (R := R.take q) (fun r hr => HG.out.ok r (List.mem_of_mem_take hr))
          have l2 : lenSum (R.take q) ≤ 16900 := by
            have : ((R.take q).length : Int) * (P.length : Int) ≤ 130 * 130 := by
              rw [HP.out]
              have : (R.take q).length ≤ 130 := by rw [List.length_take]; have := Hm.out; omega
              omega
            omega
          clear l1
          rcases Nat.lt_or_ge q m with hlt | hge
          · have i1 : (q : Int) < m := by omega
            obtain ⟨r, hr⟩ : ∃ r, R[q]? = some r := ⟨_, List.getElem?_eq_getElem (by rw [Hm.out]; exact hlt)⟩
            obtain ⟨g, rfl⟩ : ∃ g, A' = some ⟨g, 0, none⟩ := by
              rcases a3.out with h | h
              · have := Hm.out; rw [h] at this; simp at this; omega
              · exact h
            obtain ⟨c0, c1⟩ := R3.out.at q r hr
            obtain ⟨f1, f2, f3, f4, f5, f6, f7, f8⟩ := row_info (HG.out.ok r (List.mem_of_getElem? hr))
            rw [HP.out] at f5
            have hst : lenSum (R.take (q + 1)) = lenSum (R.take q) + (r.2 - r.1) / 16 := by
              rw [List.take_add_one, hr, Option.toList_some, lenSum_snoc]
            have hap : ∀ s, 0 < q → R[q - 1]? = some s → s.2 < r.1 := fun s h0 hs => HG.out.apart (q - 1) s r hs (by rw [show q - 1 + 1 = q by omega]; exact hr)
            obtain ⟨a, bb⟩ := r
            dsimp only at *
            have Hst := Lib.hid hst
            have Hlt := Lib.hid hlt
            have F6 := Lib.hid f6
            have F7 := Lib.hid f7
            have F8 := Lib.hid f8
            have Hr := Lib.hid hr
            clear hst hlt f6 f7 f8 hr
            generalize lenSum (R.take q) = S at *
            rcases Nat.eq_zero_or_pos q with h0 | h0
            · subst h0
              clear hap
              go_wp2_with fail
              refine (is_any b bW P (a - 1) _ ⟨by omega, by omega⟩ M3.out).mono ?_
              rintro e w4 ⟨rfl, rfl⟩
              rw [F6.out]
              go_wp2_with fail
              refine (is_any b bW P bb _ ⟨by omega, by omega⟩ M3.out).mono ?_
              rintro e w5 ⟨rfl, rfl⟩
              rw [F7.out]
              go_wp2
              obtain ⟨wo, rfl⟩ : ∃ wo : World, wo = w5 := ⟨_, rfl⟩
              obtain ⟨gq, rfl⟩ : ∃ gq : Nat, gq = gk := ⟨_, rfl⟩
              go_loopg [11] (bb - a).toNat (fun g2 v11 wr => ∃ k : Int, a ≤ k ∧ k ≤ bb ∧ g2 = (bb - k).toNat ∧ v11 = .int .i64 k ∧ wr = wo)
              case atStart => exact ⟨a, Int.le_refl _, by omega, rfl, rfl, rfl⟩
              case round =>
                obtain ⟨k, k1, k2, hg2, rfl, rfl⟩ := hrel
                have Hg2 := Lib.hid hg2
                clear hg2
                by_cases hkb : k < bb
                · have hk := F8.out k k1 hkb
                  have Hk := Lib.hid hk
                  clear hk
                  go_wp2_with fail
                  refine (is_any b bW P k _ ⟨by omega, by omega⟩ M3.out).mono ?_
                  rintro e w6 ⟨rfl, rfl⟩
                  rw [Hk.out]
                  go_wp2
                  go_roundg (bb - (k + 1)).toNat
                  case measure => have := Hg2.out; omega
                  case rel => exact ⟨k + 1, by omega, by omega, rfl, rfl, rfl⟩
                · have e : k = bb := by omega
                  subst e
                  clear hkb k2
                  go_wp2
                  go_roundg (gq - 1)
                  case measure => have := Hqk.out; have := Hlt.out; omega
                  case rel => exact ⟨0 + 1, by have := Hqk.out; have := Hlt.out; omega, by go_num, by rw [Hst.out], rfl⟩
            · obtain ⟨s, hs⟩ : ∃ s, R[q - 1]? = some s := ⟨_, List.getElem?_eq_getElem (by rw [Hm.out]; have := Hlt.out; omega)⟩
              have h6 := hap s h0 hs
              obtain ⟨d0, d1⟩ := R3.out.at (q - 1) s hs
              obtain ⟨s1, s2⟩ := s
              dsimp only at *
              clear hap hs d0
              have i3 : (0 : Int) < q := by omega
              go_wp2_with fail
              refine (is_any b bW P (a - 1) _ ⟨by omega, by omega⟩ M3.out).mono ?_
              rintro e w4 ⟨rfl, rfl⟩
              rw [F6.out]
              go_wp2_with fail
              refine (is_any b bW P bb _ ⟨by omega, by omega⟩ M3.out).mono ?_
              rintro e w5 ⟨rfl, rfl⟩
              rw [F7.out]
              go_wp2
              obtain ⟨wo, rfl⟩ : ∃ wo : World, wo = w5 := ⟨_, rfl⟩
              obtain ⟨gq, rfl⟩ : ∃ gq : Nat, gq = gk := ⟨_, rfl⟩
              go_loopg [11] (bb - a).toNat (fun g2 v11 wr => ∃ k : Int, a ≤ k ∧ k ≤ bb ∧ g2 = (bb - k).toNat ∧ v11 = .int .i64 k ∧ wr = wo)
              case atStart => exact ⟨a, Int.le_refl _, by omega, rfl, rfl, rfl⟩
              case round =>
                obtain ⟨k, k1, k2, hg2, rfl, rfl⟩ := hrel
                have Hg2 := Lib.hid hg2
                clear hg2
                by_cases hkb : k < bb
                · have hk := F8.out k k1 hkb
                  have Hk := Lib.hid hk
                  clear hk
                  go_wp2_with fail
                  refine (is_any b bW P k _ ⟨by omega, by omega⟩ M3.out).mono ?_
                  rintro e w6 ⟨rfl, rfl⟩
                  rw [Hk.out]
                  go_wp2
                  go_roundg (bb - (k + 1)).toNat
                  case measure => have := Hg2.out; omega
                  case rel => exact ⟨k + 1, by omega, by omega, rfl, rfl, rfl⟩
                · have e : k = bb := by omega
                  subst e
                  clear hkb k2
                  go_wp2
                  go_roundg (gq - 1)
                  case measure => have := Hqk.out; have := Hlt.out; omega
                  case rel => exact ⟨q + 1, by have := Hqk.out; have := Hlt.out; omega, by go_num, by rw [Hst.out], rfl⟩
          · have i1 : ¬ (q : Int) < m := by omega
            have e : lenSum (R.take q) = (manyL P : Int) := by
              rw [List.take_of_length_le (by rw [Hm.out]; exact hge), HG.out.sum, List.take_of_length_le (Nat.le_refl _)]
            rw [e]
            clear hge e l0 l2
            go_wp2_with fail
            refine (many_any b bW P _ M3.out).mono ?_
            rintro e w4 ⟨rfl, rfl⟩
            go_wp2
            go_ret
            exact ⟨rfl, B3.out⟩

set_option maxRecDepth 100000 in
theorem lifted (os : Os) (started : os.Started) (H : Type) (enc : TypeId × Value → H) :
    ReturnsInHanded {} Try.checked os 10 .any (Rows.shadowRowsSpec.pre6 enc Try.prog Try.f10 Rows.shadowRowsRow.domain false) (Rows.shadowRowsSpec.post enc Try.prog Try.f10 false true false false) := by
  refine returnsInHanded_of_change (C := Try.checked) own started (by kernel_rfl) Try.func10
    (ChangeSpec.witness6 (enc := enc) (C := Try.checked) false ⟨#[], #[.slice none 0 0], []⟩ 8 (by kernel_rfl) (by kernel_rfl) (by kernel_rfl) (by kernel_rfl)) ?_
  intro W base args ds gs before hval0 hW hcnd _
  have hval : ∀ (j : Nat) t v, Try.f10.params[j]? = some t → args[j]? = some v → Value.okWide Try.prog W .any base t v := hval0
  have hW' := hW
  obtain ⟨p, q, hA0, hV, rfl, hfz, hnd⟩ := hW
  have hA : DataW.TrodAll enc Try.prog W 0 (fun _ => true) true Try.f10.params.toList args.toList ds p := hA0
  rw [Try.params10] at hA hval
  obtain ⟨v0, vs0, d0, ds0, p0, q0, hargs, rfl, rfl, h0, r0⟩ := trodAll_cons hA
  obtain ⟨rfl, rfl, rfl⟩ := trodAll_nil r0
  obtain rfl : args = #[v0] := by cases args; simp_all
  obtain ⟨rfl, rfl⟩ := trodVars_none hV
  have k0 := h0
  have lt0 : ∀ x ∈ p0, x.block < W.heap.size := by obtain ⟨m, hm⟩ := k0; exact DataW.trod_lt m _ _ _ hm
  obtain ⟨L0, hL0⟩ := open_ops (hval 0 34 v0 rfl rfl) h0
  clear hA0 hval0
  refine (walk v0 L0 W hL0).mono fun e W' ⟨he, bel⟩ => ?_
  subst he
  exact ⟨_, rfl, _, _, _, [], _, [], hW', trodAll_mk1 (shut_bool Try.underlying4 _), (trodAll_cons_mk (Below.trod laidOut (by kernel_rfl) (of_decide_eq_true (by kernel_rfl)) k0 bel lt0) trodAll_mk0), rfl, bel.frame _, fun h => by cases h⟩

theorem over : Rows.shadowRowsRow.holds Try.pinned (OpenSpec.ofChange Rows.shadowRowsSpec) :=
  OpenClaim.holds_of_wide 10 Try.f10 rfl rfl rfl rfl rfl rfl rfl ⟨rfl, rfl, rfl, rfl, rfl⟩ rfl rfl rfl rfl rfl (by kernel_rfl) Try.func10 (by kernel_rfl)
    (of_decide_eq_true (by kernel_rfl)) (by unfold Func.isWrapper; rw [if_neg (of_decide_eq_false (by kernel_rfl))]; exact ⟨rfl, rfl⟩)
    (fun os started H enc _ => lifted os started H enc)

/-- The statement. -/
theorem proved : Rows.ShadowRowsSaid := over

#print axioms proved
end Go.Proofs.Ytjimkkkiilcpoaa.ShadowRows
