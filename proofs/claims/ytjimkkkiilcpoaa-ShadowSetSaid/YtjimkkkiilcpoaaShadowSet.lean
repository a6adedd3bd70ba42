/-
  ShadowSet: for every slice of paints and every 16-bit number the law returns true, and each argument reads as it did. Condition: none.
-/
import Derived.Test.YtjimkkkiilcpoaaRows
import Derived.Test.YtjimkkkiilcpoaaShK
import Derived.ChangeOld
set_option linter.unusedVariables false
set_option linter.unusedSimpArgs false
namespace Go.Proofs.Ytjimkkkiilcpoaa.ShadowSet
open Go.ChangeShapes Go.WideShapes Go.ChangeAt Go.RowKit Go.Proofs.Ytjimkkkiilcpoaa

theorem own : ownKnob Try.prog.godebug = none := by kernel_rfl
theorem laidOut : laidOutB Try.prog = true := by kernel_rfl

set_option maxRecDepth 100000 in
set_option maxHeartbeats 3200000 in
theorem walk (v : Value) (L : List Pnt) (x : Int) (w : World) (ho : OpsR w v L) (hx : (Lit.int .u16 x).wf = true) :
    Calls Try.prog 9 #[v, .int .u16 x] w fun e w' => e = .returned (.bool true) ∧ Below w.heap.size w w' := by
  obtain ⟨x0, x1⟩ : 0 ≤ x ∧ x ≤ 65535 := by simpa [Lit.wf, IntKind.min, IntKind.max, IntKind.bits, IntKind.signed] using hx
  clear hx
  obtain ⟨A, c, rfl⟩ : ∃ A c, v = .slice A L.length c := ho.form
  have HO := Lib.hid ho
  clear ho
  generalize hn : L.length = n at *
  have Hn := Lib.hid hn
  clear hn
  go_enter Try.func9, Try.ntmps9
  go_wp2_with fail
  refine (head8_true _).mono ?_
  rintro e w1 ⟨rfl, B1⟩
  go_wp2_with fail
  refine (new_any 200 _ (by decide) (by decide)).mono ?_
  rintro e w2 ⟨b, bW, rfl, m2, gW, gb, hne, B2⟩
  have gW := Nat.le_trans B1.size gW
  have gb := Nat.le_trans B1.size gb
  have B2 := below_then B1 B1.size B2
  clear B1
  by_cases h300 : (300 : Int) < n
  · go_wp2
    go_ret
    exact ⟨rfl, B2⟩
  · have K1 : 0 ≤ x % 3200 := by omega
    have K2 : x % 3200 < 3200 := by omega
    go_upto_region 6 with fail
    generalize x % 3200 = k at *
    go_wp2
    go_loopg [8, 9, 10, 11] n (fun gk v8 v9 v10 v11 wr => ∃ (j : Nat) (P : List Bool), j + gk = n ∧ v9 = .int .i64 j ∧ v8 = .bool (isB' P k) ∧ P.length = 200 ∧ ShM wr b bW P ∧ Below w.heap.size w wr)
    case atStart => exact ⟨0, List.replicate 200 false, by omega, rfl, by rw [isB', List.getD_eq_getElem?_getD, List.getElem?_replicate]; split <;> simp, by simp, m2, B2⟩
    case round =>
      obtain ⟨j, P, hjk, rfl, rfl, hP, hm, hb⟩ := hrel
      have Hjk := Lib.hid hjk
      have HP := Lib.hid hP
      have HM := Lib.hid hm
      have HB := Lib.hid hb
      have HO2 := Lib.hid (HO.out.below hb)
      clear hjk hP hm hb m2 B2
      rcases Nat.lt_or_ge j n with hlt | hge
      · have i1 : (j : Int) < n := by omega
        obtain ⟨bo, oo, f, t, is, rfl, hq, ⟨f0, f1⟩, ⟨t0, t1⟩, hbo, c0, c1, c2⟩ := HO2.out.at_lt j (by rw [Hn.out]; exact hlt)
        have Hlt := Lib.hid hlt
        have Hq := Lib.hid hq
        clear hlt hq
        by_cases hy : paintOk 200 f t
        · obtain ⟨y1, y2, y3, y4, y5⟩ := hy
          have y6 : f.tmod 16 = 0 := by rw [Int.tmod_eq_emod_of_nonneg y3]; exact y1
          have y7 : t.tmod 16 = 0 := by rw [Int.tmod_eq_emod_of_nonneg (by omega)]; exact y2
          have y8 : t ≤ 3200 := by omega
          have Hy : Hid (paintOk P.length f t) := Lib.hid (by rw [HP.out]; exact ⟨y1, y2, y3, y4, y5⟩)
          clear y5
          go_wp2_with fail
          have hA : Below wr.heap.size wr (wr.alloc (.cells #[.int .i64 f, .int .i64 t, .bool is] 41)) := by go_grown
          have mA := HM.out.below hA HM.out.lt.1 HM.out.lt.2
          have BA := below_then HB.out HB.out.size hA
          have C4 := Blk.new wr #[.int .i64 f, .int .i64 t, .bool is] 41
          have nW : wr.heap.size ≠ bW := by have := HM.out.lt.2; omega
          refine (paint_yes b bW P f t is _ ⟨f0, f1⟩ ⟨t0, t1⟩ mA hne.symm Hy.out).mono ?_
          rintro e w5 ⟨rfl, m5, G5⟩
          have m5 : ShM w5 b bW (paintL P f t is) := by rw [paintL, if_pos Hy.out]; exact m5
          have B5 := BA.grown G5 (by have := HB.out.size; simp; omega) (by intro k hk; cases hk; exact gW)
          have C5 := C4.grown G5 (by intro h; cases h; exact nW rfl)
          have L5 := C5.cell
          have l5 := C5.lt
          clear hA mA BA C4 G5 C5
          have M5 := Lib.hid m5
          have B5 := Lib.hid B5
          clear m5
          have HL : Hid ((paintL P f t is).length = 200) := Lib.hid (by rw [paintL_len]; exact HP.out)
          have e1 := Lib.hid (paintL_at is Hy.out K1)
          generalize hQ : paintL P f t is = Q at *
          have HQ := Lib.hid hQ
          clear hQ
          by_cases g1 : f ≤ k / 16 * 16
          · by_cases g2 : k < t
            · have e2 : Hid (isB' Q k = is) := Lib.hid (by rw [e1.out, if_pos ⟨g1, g2⟩])
              go_wp2_with fail
              (refine (is_any b bW Q k _ ⟨by omega, by omega⟩ M5.out).mono ?_; rintro e w6 ⟨rfl, rfl⟩; rw [e2.out]; (try generalize hV : isB' P k = V); go_wp2; go_roundg (gk - 1); (case measure => have := Hjk.out; have := Hlt.out; omega); (case rel => exact ⟨j + 1, Q, by have := Hjk.out; have := Hlt.out; omega, by go_num, by first | (rw [e2.out]; done) | (rw [e2.out, hV]), HL.out, M5.out, B5.out⟩))
            · have e2 : Hid (isB' Q k = isB' P k) := Lib.hid (by rw [e1.out, if_neg (fun h => g2 h.2)])
              go_wp2_with fail
              (refine (is_any b bW Q k _ ⟨by omega, by omega⟩ M5.out).mono ?_; rintro e w6 ⟨rfl, rfl⟩; rw [e2.out]; (try generalize hV : isB' P k = V); go_wp2; go_roundg (gk - 1); (case measure => have := Hjk.out; have := Hlt.out; omega); (case rel => exact ⟨j + 1, Q, by have := Hjk.out; have := Hlt.out; omega, by go_num, by first | (rw [e2.out]; done) | (rw [e2.out, hV]), HL.out, M5.out, B5.out⟩))
          · have e2 : Hid (isB' Q k = isB' P k) := Lib.hid (by rw [e1.out, if_neg (fun h => g1 h.1)])
            go_wp2_with fail
            (refine (is_any b bW Q k _ ⟨by omega, by omega⟩ M5.out).mono ?_; rintro e w6 ⟨rfl, rfl⟩; rw [e2.out]; (try generalize hV : isB' P k = V); go_wp2; go_roundg (gk - 1); (case measure => have := Hjk.out; have := Hlt.out; omega); (case rel => exact ⟨j + 1, Q, by have := Hjk.out; have := Hlt.out; omega, by go_num, by first | (rw [e2.out]; done) | (rw [e2.out, hV]), HL.out, M5.out, B5.out⟩))
        · have Hn : Hid (¬ paintOk P.length f t) := Lib.hid (by rw [HP.out]; exact hy)
          have hA : Below wr.heap.size wr (wr.alloc (.cells #[.int .i64 f, .int .i64 t, .bool is] 41)) := by go_grown
          have mA := Lib.hid (HM.out.below hA HM.out.lt.1 HM.out.lt.2)
          have BA := Lib.hid (below_then HB.out HB.out.size hA)
          have hcs : f < 0 ∨ (0 ≤ f ∧ t < f) ∨ (0 ≤ f ∧ f ≤ t ∧ 3200 < t) ∨ (0 ≤ f ∧ f ≤ t ∧ t ≤ 3200 ∧ (f % 16 == 0) = false) ∨ (0 ≤ f ∧ f ≤ t ∧ t ≤ 3200 ∧ (f % 16 == 0) = true ∧ (t % 16 == 0) = false) := by
            unfold paintOk at hy
            simp only [beq_eq_false_iff_ne, beq_iff_eq]
            omega
          clear hy hA
          rcases hcs with z1 | ⟨z1, z2⟩ | ⟨z1, z2, z3⟩ | ⟨z1, z2, z3, z4⟩ | ⟨z1, z2, z3, z4, z5⟩
          all_goals
            go_wp2_with fail
            refine (paint_no b bW P f t is _ ⟨f0, f1⟩ ⟨t0, t1⟩ mA.out Hn.out).mono ?_
            rintro e w5 ⟨rfl, rfl⟩
            go_wp2_with fail
            refine (is_any b bW P k _ ⟨by omega, by omega⟩ mA.out).mono ?_
            rintro e w6 ⟨rfl, rfl⟩
            generalize hV : isB' P k = V
            have HV := Lib.hid hV
            clear hV
            go_wp2
            go_roundg (gk - 1)
            case measure => have := Hjk.out; have := Hlt.out; omega
            case rel => exact ⟨j + 1, P, by have := Hjk.out; have := Hlt.out; omega, by go_num, by rw [HV.out], HP.out, mA.out, BA.out⟩
      · have i1 : ¬ (j : Int) < n := by omega
        clear hge
        go_wp2_with fail
        refine (hits_any b bW P true k 1048576 0 0 0 _ ⟨by omega, by omega⟩ ⟨by decide, by decide⟩ HM.out).mono ?_
        rintro e w6 ⟨rfl, h6⟩
        have B6 := below_then HB.out HB.out.size h6
        rw [hitsB, decide_eq_true (show k < 1048576 by omega), Bool.true_and, Bool.true_and]
        generalize isB' P k = V
        clear h6 HB
        go_wp2
        go_ret
        exact ⟨by simp, B6⟩

set_option maxRecDepth 100000 in
theorem lifted (os : Os) (started : os.Started) (H : Type) (enc : TypeId × Value → H) :
    ReturnsInHanded {} Try.checked os 9 .any (Rows.shadowSetSpec.pre6 enc Try.prog Try.f9 Rows.shadowSetRow.domain false) (Rows.shadowSetSpec.post enc Try.prog Try.f9 false true false false) := by
  refine returnsInHanded_of_change (C := Try.checked) own started (by kernel_rfl) Try.func9
    (ChangeSpec.witness6 (enc := enc) (C := Try.checked) false ⟨#[], #[.slice none 0 0, .int .u16 0], []⟩ 8 (by kernel_rfl) (by kernel_rfl) (by kernel_rfl) (by kernel_rfl)) ?_
  intro W base args ds gs before hval0 hW hcnd _
  have hval : ∀ (j : Nat) t v, Try.f9.params[j]? = some t → args[j]? = some v → Value.okWide Try.prog W .any base t v := hval0
  have hW' := hW
  obtain ⟨p, q, hA0, hV, rfl, hfz, hnd⟩ := hW
  have hA : DataW.TrodAll enc Try.prog W 0 (fun _ => true) true Try.f9.params.toList args.toList ds p := hA0
  rw [Try.params9] at hA hval
  obtain ⟨v0, vs0, d0, ds0, p0, q0, hargs, rfl, rfl, h0, r0⟩ := trodAll_cons hA
  obtain ⟨v1, vs1, d1, ds1, p1, q1, rfl, rfl, rfl, h1, r1⟩ := trodAll_cons r0
  obtain ⟨rfl, rfl, rfl⟩ := trodAll_nil r1
  obtain rfl : args = #[v0, v1] := by cases args; simp_all
  obtain ⟨rfl, rfl⟩ := trodVars_none hV
  have k0 := h0
  have lt0 : ∀ x ∈ p0, x.block < W.heap.size := by obtain ⟨m, hm⟩ := k0; exact DataW.trod_lt m _ _ _ hm
  obtain ⟨L0, hL0⟩ := open_ops (hval 0 34 v0 rfl rfl) h0
  have k1 := h1
  have lt1 : ∀ x ∈ p1, x.block < W.heap.size := by obtain ⟨m, hm⟩ := k1; exact DataW.trod_lt m _ _ _ hm
  obtain ⟨x1, rfl, _, _, w1⟩ := open_int Try.underlying48 (hval 1 48 v1 rfl rfl) h1
  clear hA0 hval0
  refine (walk v0 L0 x1 W hL0 w1).mono fun e W' ⟨he, bel⟩ => ?_
  subst he
  exact ⟨_, rfl, _, _, _, [], _, [], hW', trodAll_mk1 (shut_bool Try.underlying4 _), (trodAll_cons_mk (Below.trod laidOut (by kernel_rfl) (of_decide_eq_true (by kernel_rfl)) k0 bel lt0) (trodAll_cons_mk (Below.trod laidOut (by kernel_rfl) (of_decide_eq_true (by kernel_rfl)) k1 bel lt1) trodAll_mk0)), rfl, bel.frame _, fun h => by cases h⟩

theorem over : Rows.shadowSetRow.holds Try.pinned (OpenSpec.ofChange Rows.shadowSetSpec) :=
  OpenClaim.holds_of_wide 9 Try.f9 rfl rfl rfl rfl rfl rfl rfl ⟨rfl, rfl, rfl, rfl, rfl⟩ rfl rfl rfl rfl rfl (by kernel_rfl) Try.func9 (by kernel_rfl)
    (of_decide_eq_true (by kernel_rfl)) (by unfold Func.isWrapper; rw [if_neg (of_decide_eq_false (by kernel_rfl))]; exact ⟨rfl, rfl⟩)
    (fun os started H enc _ => lifted os started H enc)

/-- The statement. -/
theorem proved : Rows.ShadowSetSaid := over

#print axioms proved
end Go.Proofs.Ytjimkkkiilcpoaa.ShadowSet
