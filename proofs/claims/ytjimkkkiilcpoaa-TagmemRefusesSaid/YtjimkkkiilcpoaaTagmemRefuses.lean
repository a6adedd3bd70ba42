/-
  TagmemRefuses: for every slice of calls the law returns true, and each argument reads as it did. Condition: none.
-/
import Derived.Test.YtjimkkkiilcpoaaRows
import Derived.Test.YtjimkkkiilcpoaaTmU
import Derived.ChangeOld
set_option linter.unusedVariables false
set_option linter.unusedSimpArgs false
namespace Go.Proofs.Ytjimkkkiilcpoaa.TagmemRefuses
open Go.ChangeShapes Go.WideShapes Go.ChangeAt Go.RowKit Go.Proofs.Ytjimkkkiilcpoaa

theorem own : ownKnob Try.prog.godebug = none := by kernel_rfl
theorem laidOut : laidOutB Try.prog = true := by kernel_rfl

set_option maxRecDepth 100000 in
set_option maxHeartbeats 3200000 in
theorem walk (v : Value) (L : List Op7) (w : World) (ho : OpsM w v L) :
    Calls Try.prog 16 #[v] w fun e w' => e = .returned (.bool true) ∧ Below w.heap.size w w' := by
  obtain ⟨A, c, rfl⟩ : ∃ A c, v = .slice A L.length c := ho.form
  have HO := Lib.hid ho
  clear ho
  generalize hn : L.length = n at *
  have Hn := Lib.hid hn
  clear hn
  go_enter Try.func16, Try.ntmps16
  go_wp2_with fail
  refine (head7_true _).mono ?_
  rintro e w1 ⟨rfl, B1⟩
  go_wp2_with fail
  refine (tm_new 2 _ (by decide) (by decide)).mono ?_
  rintro e w2 ⟨b, bP, rfl, m2, gP, gb, B2⟩
  have B2 := below_then B1 B1.size B2
  have HB2 := Lib.hid B2
  have HM2 := Lib.hid m2
  have HG := Lib.hid (show w.heap.size ≤ bP ∧ w.heap.size ≤ b from ⟨Nat.le_trans B1.size gP, Nat.le_trans B1.size gb⟩)
  have hgr := great_any (.slice A n c) L w2 (HO.out.below B2)
  have HGR := Lib.hid (great_no (L := L))
  clear B1 B2 m2 gP gb
  go_wp2_with fail
  refine hgr.mono ?_
  rintro e w3 ⟨rfl, rfl⟩
  clear hgr
  cases hgb : greatB L with
  | true =>
    clear hgb
    go_wp2
    go_ret
    exact ⟨rfl, HB2.out⟩
  | false =>
    obtain ⟨hn200, hbs⟩ := HGR.out hgb
    have HBS := Lib.hid hbs
    rw [Hn.out] at hn200
    have HN200 : (n : Int) ≤ 200 := by omega
    clear hgb hbs HGR hn200
    go_wp2
    go_loopg [5] n (fun gk i wr => ∃ (j : Nat) (D : List Int) (T P : List Bool), j + gk = n ∧ i = .int .i64 j ∧ TmM wr b bP D T P ∧ P.length = 2 ∧ Below w.heap.size w wr)
    case atStart => exact ⟨0, _, _, _, by omega, rfl, HM2.out, by simp, HB2.out⟩
    case round =>
      obtain ⟨j, D, T, P, hjk, rfl, hT, hP, hB⟩ := hrel
      have HJ := Lib.hid hjk
      have HT := Lib.hid hT
      have HP := Lib.hid hP
      have HB := Lib.hid hB
      clear hjk hT hP hB
      rcases Nat.lt_or_ge j n with hlt | hge
      · have i1 : (j : Int) < n := by omega
        obtain ⟨op, hop⟩ : ∃ op, L[j]? = some op := ⟨_, List.getElem?_eq_getElem (by rw [Hn.out]; exact hlt)⟩
        have hb9 := HBS.out op (List.mem_of_getElem? hop)
        (obtain ⟨bo, oo, Ab, c9, rfl, hq, hbo, hopv, hrb, hna, k0, k1, k2, k3, k4, k5, k6, k7, k8, k9⟩ := OpsM.get HO.out HB.out hop; have HQ := Lib.hid hq; have HV := Lib.hid hopv; have HNA := Lib.hid hna; have HRB0 := Lib.hid hrb; obtain ⟨wh, at_, bs, t, cb, cp, ca, cq, cy, cn⟩ := op; dsimp only at *; clear hopv hna hrb)
        have HLT := Lib.hid hlt
        clear hlt hop
        go_wp2_with fail
        obtain ⟨W1, hW1⟩ : ∃ W1, wr.alloc (.cells #[.int .i64 wh, .int .i64 at_, .slice Ab bs.length c9, .bool t, .int .i64 cb, .int .i64 cp, .int .i64 ca, .int .i64 cq, .int .i64 cy, .int .i64 cn] 61) = W1 := ⟨_, rfl⟩
        have hbl1 : Below wr.heap.size wr W1 := by rw [← hW1]; exact (Below.refl _ _).alloc (Nat.le_refl _) _
        have S1 := Lib.hid (show Sc w b bP wr.heap.size (.slice Ab bs.length c9) bs #[.int .i64 wh, .int .i64 at_, .slice Ab bs.length c9, .bool t, .int .i64 cb, .int .i64 cp, .int .i64 ca, .int .i64 cq, .int .i64 cy, .int .i64 cn] D T P W1 from ⟨HT.out.grow hbl1, below_then HB.out HB.out.size hbl1, HRB0.out.below hbl1, by rw [← hW1]; exact Blk.new _ _ _⟩)
        have HNP := Lib.hid (show wr.heap.size ≠ bP by have := HT.out.lt.2; omega)
        clear k0 k1 k2 k3 k4 k5 k6 k7 k8 k9 hbo hbl1 HT HB HRB0
        rw [hW1]
        clear hW1
        generalize hlo : wr.heap.size = lo at *
        clear hlo
        refine (tm_load b bP D T P 0 512 W1 S1.out.1 (by rw [HP.out]; decide)).mono ?_
        rintro e w4 ⟨va, rfl, own4, b4⟩
        have S4 := Lib.hid (S1.out.grow b4)
        have OA := Lib.hid own4
        have HB1 := Lib.hid S1.out.1.lt.2
        clear b4 S1 own4
        go_wp2_with fail
        refine (tm_tags b bP D T P _ S4.out.1).mono ?_
        rintro e w5 ⟨vt, rfl, own5, b5⟩
        have S5 := Lib.hid (S4.out.grow b5)
        have OA5 := Lib.hid (own_below OA.out b5)
        have OT5 := Lib.hid own5
        have HB4 := Lib.hid S4.out.1.lt.2
        clear b5 S4 own5 OA
        have c5 := S5.out.2.2.2.cell
        have l5 := S5.out.2.2.2.lt
        obtain ⟨va1, va2, va3, va4, va5, va6, va7, va8, va9, va10⟩ := HV.out
        rcases (show wh < 2 ∨ 2 ≤ wh by omega) with hw | hw
        · go_wp2_with fail
          refine (tm_storeU b bP D T P at_ Ab c9 bs _ S5.out.1 va2 S5.out.2.2.1 va9 (by omega) (HNA.out bP HG.out.1)).mono ?_
          rintro e w6 ⟨rfl, m6, t6⟩
          have S6 := Lib.hid (S5.out.turns m6 t6 HG.out.1 HNP.out (HNA.out bP HG.out.1))
          have OA6 := Lib.hid (row_turns OA5.out t6 (by simpa using HB1.out))
          have OT6 := Lib.hid (row_turns OT5.out t6 (by simpa using HB4.out))
          have c6 := S6.out.2.2.2.cell
          have l6 := S6.out.2.2.2.lt
          rw [HP.out] at S6 ⊢
          clear m6 c5 l5 S5 hw t6 OA5 OT5
          cases hz : inB 2 at_ bs.length with
          | true =>
            have HL6 := Lib.hid HP.out
            have hz' := hz
            simp only [inB, decide_eq_true_eq] at hz'
            obtain ⟨z1, _, z3, z4⟩ := hz'
            have z3' : at_ ≤ 512 := by omega
            have z4' : (bs.length : Int) ≤ 512 - at_ := by omega
            clear z3 z4 hz
            (go_wp2_with fail; refine (tm_load b bP _ _ _ 0 512 _ S6.out.1 (by rw [HL6.out]; decide)).mono ?_; rintro e w7 ⟨vn, rfl, own7, b7⟩; have S7 := Lib.hid (S6.out.grow b7); clear own7 b7 S6 c6 l6; go_wp2; go_roundg (gk - 1); (case measure => have := HJ.out; have := HLT.out; omega); (case rel => exact ⟨j + 1, _, _, _, by have := HJ.out; have := HLT.out; omega, by go_num, S7.out.1, HL6.out, S7.out.2.1⟩))
          | false =>
            rw [stD, stT, hz, if_neg (by decide), if_neg (by decide)] at S6
            simp only [inB, decide_eq_false_iff_not] at hz
            rcases (show at_ < 0 ∨ (0 ≤ at_ ∧ 512 < at_) ∨ (0 ≤ at_ ∧ at_ ≤ 512 ∧ 512 - at_ < (bs.length : Int)) by omega) with z1 | ⟨z1, z2⟩ | ⟨z1, z2, z3⟩
            · clear hz
              (go_wp2_with fail; refine (tm_load b bP D T P 0 512 _ S6.out.1 (by rw [HP.out]; decide)).mono ?_; rintro e w7 ⟨vn, rfl, own7, b7⟩; have S7 := Lib.hid (S6.out.grow b7); have OT7 := Lib.hid (own_below OT6.out b7); obtain ⟨An, cn', rfl⟩ := own_form own7; obtain ⟨Aa, ca', rfl⟩ := own_form OA6.out; have k1 := run_str (P := Try.prog) Try.underlying24 Try.underlying5 Try.underlying9 cn' (partL_len D 0 512 (by rw [S7.out.1.1.1, HP.out]; decide)) (RdL.own own7); have k2 := run_str (P := Try.prog) Try.underlying24 Try.underlying5 Try.underlying9 ca' (partL_len D 0 512 (by rw [S7.out.1.1.1, HP.out]; decide)) ((RdL.own OA6.out).below b7); generalize strOfNums (partL D 0 512) = sx at *; clear own7 b7 S6 c6 l6; go_wp2_with fail; refine (tm_tags b bP D T P _ S7.out.1).mono ?_; rintro e w8 ⟨vt2, rfl, own8, b8⟩; have S8 := Lib.hid (S7.out.grow b8); have R8 := Lib.hid (RowI.own own8); have OT8 := Lib.hid (RowI.own (own_below OT7.out b8)); clear own8 b8 S7 k1 k2; go_wp2_with fail; refine (same_ints vt2 vt (tagsL T) (tagsL T) _ R8.out OT8.out (by have h1 := posL_len 16 T T.length; have h2 := S8.out.1.1.2.1; have h3 := HP.out; show (posL 16 T T.length).length ≤ _; omega)).mono ?_; rintro e w9 ⟨rfl, n9, rfl⟩; rw [decide_eq_true rfl]; have S9 := Lib.hid (S8.out.grow (below_drewN (Below.refl _ _) n9)); clear S8; generalize World.drewN _ n9 = w9 at *; go_wp2; go_roundg (gk - 1); (case measure => have := HJ.out; have := HLT.out; omega); (case rel => exact ⟨j + 1, _, _, _, by have := HJ.out; have := HLT.out; omega, by go_num, S9.out.1, HP.out, S9.out.2.1⟩))
            · clear hz
              (go_wp2_with fail; refine (tm_load b bP D T P 0 512 _ S6.out.1 (by rw [HP.out]; decide)).mono ?_; rintro e w7 ⟨vn, rfl, own7, b7⟩; have S7 := Lib.hid (S6.out.grow b7); have OT7 := Lib.hid (own_below OT6.out b7); obtain ⟨An, cn', rfl⟩ := own_form own7; obtain ⟨Aa, ca', rfl⟩ := own_form OA6.out; have k1 := run_str (P := Try.prog) Try.underlying24 Try.underlying5 Try.underlying9 cn' (partL_len D 0 512 (by rw [S7.out.1.1.1, HP.out]; decide)) (RdL.own own7); have k2 := run_str (P := Try.prog) Try.underlying24 Try.underlying5 Try.underlying9 ca' (partL_len D 0 512 (by rw [S7.out.1.1.1, HP.out]; decide)) ((RdL.own OA6.out).below b7); generalize strOfNums (partL D 0 512) = sx at *; clear own7 b7 S6 c6 l6; go_wp2_with fail; refine (tm_tags b bP D T P _ S7.out.1).mono ?_; rintro e w8 ⟨vt2, rfl, own8, b8⟩; have S8 := Lib.hid (S7.out.grow b8); have R8 := Lib.hid (RowI.own own8); have OT8 := Lib.hid (RowI.own (own_below OT7.out b8)); clear own8 b8 S7 k1 k2; go_wp2_with fail; refine (same_ints vt2 vt (tagsL T) (tagsL T) _ R8.out OT8.out (by have h1 := posL_len 16 T T.length; have h2 := S8.out.1.1.2.1; have h3 := HP.out; show (posL 16 T T.length).length ≤ _; omega)).mono ?_; rintro e w9 ⟨rfl, n9, rfl⟩; rw [decide_eq_true rfl]; have S9 := Lib.hid (S8.out.grow (below_drewN (Below.refl _ _) n9)); clear S8; generalize World.drewN _ n9 = w9 at *; go_wp2; go_roundg (gk - 1); (case measure => have := HJ.out; have := HLT.out; omega); (case rel => exact ⟨j + 1, _, _, _, by have := HJ.out; have := HLT.out; omega, by go_num, S9.out.1, HP.out, S9.out.2.1⟩))
            · clear hz
              (go_wp2_with fail; refine (tm_load b bP D T P 0 512 _ S6.out.1 (by rw [HP.out]; decide)).mono ?_; rintro e w7 ⟨vn, rfl, own7, b7⟩; have S7 := Lib.hid (S6.out.grow b7); have OT7 := Lib.hid (own_below OT6.out b7); obtain ⟨An, cn', rfl⟩ := own_form own7; obtain ⟨Aa, ca', rfl⟩ := own_form OA6.out; have k1 := run_str (P := Try.prog) Try.underlying24 Try.underlying5 Try.underlying9 cn' (partL_len D 0 512 (by rw [S7.out.1.1.1, HP.out]; decide)) (RdL.own own7); have k2 := run_str (P := Try.prog) Try.underlying24 Try.underlying5 Try.underlying9 ca' (partL_len D 0 512 (by rw [S7.out.1.1.1, HP.out]; decide)) ((RdL.own OA6.out).below b7); generalize strOfNums (partL D 0 512) = sx at *; clear own7 b7 S6 c6 l6; go_wp2_with fail; refine (tm_tags b bP D T P _ S7.out.1).mono ?_; rintro e w8 ⟨vt2, rfl, own8, b8⟩; have S8 := Lib.hid (S7.out.grow b8); have R8 := Lib.hid (RowI.own own8); have OT8 := Lib.hid (RowI.own (own_below OT7.out b8)); clear own8 b8 S7 k1 k2; go_wp2_with fail; refine (same_ints vt2 vt (tagsL T) (tagsL T) _ R8.out OT8.out (by have h1 := posL_len 16 T T.length; have h2 := S8.out.1.1.2.1; have h3 := HP.out; show (posL 16 T T.length).length ≤ _; omega)).mono ?_; rintro e w9 ⟨rfl, n9, rfl⟩; rw [decide_eq_true rfl]; have S9 := Lib.hid (S8.out.grow (below_drewN (Below.refl _ _) n9)); clear S8; generalize World.drewN _ n9 = w9 at *; go_wp2; go_roundg (gk - 1); (case measure => have := HJ.out; have := HLT.out; omega); (case rel => exact ⟨j + 1, _, _, _, by have := HJ.out; have := HLT.out; omega, by go_num, S9.out.1, HP.out, S9.out.2.1⟩))
        · have hw' : ¬ wh < 2 := by omega
          go_wp2_with fail
          refine (tm_storecapU b bP D T P at_ t cb cp ca cq cy _ S5.out.1 va2 va6).mono ?_
          rintro e w6 ⟨rfl, m6, t6⟩
          have S6 := Lib.hid (S5.out.turns m6 t6 HG.out.1 HNP.out (HNA.out bP HG.out.1))
          have OA6 := Lib.hid (row_turns OA5.out t6 (by simpa using HB1.out))
          have OT6 := Lib.hid (row_turns OT5.out t6 (by simpa using HB4.out))
          have c6 := S6.out.2.2.2.cell
          have l6 := S6.out.2.2.2.lt
          have HL6 := Lib.hid ((scP_length P at_ t cb cp ca cq cy).trans HP.out)
          rw [HP.out] at S6 ⊢
          clear m6 c5 l5 S5 hw t6 OA5 OT5 hw'
          cases hp : plB 2 at_ with
          | true =>
            have hp' := hp
            simp only [plB, decide_eq_true_eq] at hp'
            obtain ⟨z1, z2, z3⟩ := hp'
            have z2' : at_ < 512 := by omega
            have z3' : (at_ % 16 == 0) = true := by rw [beq_iff_eq]; exact z3
            clear z2 z3
            cases hr : rightB t cb cp ca cq cy with
            | true =>
              have e1 : scB 2 at_ t cb cp ca cq cy = true := by rw [scB, hp, hr]; rfl
              rw [e1]
              have hrr := fun W => ref_right t cb cp ca cq cy W
              rw [hr] at hrr
              have HRR := Lib.hid hrr
              clear hrr hr hp e1
              go_wp2_with fail
              refine (HRR.out _).mono ?_
              rintro e wz ⟨rfl, bz⟩
              replace S6 := Lib.hid (S6.out.grow bz)
              replace OA6 := Lib.hid (own_below OA6.out bz)
              replace OT6 := Lib.hid (own_below OT6.out bz)
              clear bz c6 l6
              have c6 := S6.out.2.2.2.cell
              have l6 := S6.out.2.2.2.lt
              (go_wp2_with fail; refine (tm_load b bP _ _ _ 0 512 _ S6.out.1 (by rw [HL6.out]; decide)).mono ?_; rintro e w7 ⟨vn, rfl, own7, b7⟩; have S7 := Lib.hid (S6.out.grow b7); clear own7 b7 S6 c6 l6; go_wp2; go_roundg (gk - 1); (case measure => have := HJ.out; have := HLT.out; omega); (case rel => exact ⟨j + 1, _, _, _, by have := HJ.out; have := HLT.out; omega, by go_num, S7.out.1, HL6.out, S7.out.2.1⟩))
            | false =>
              have e1 : scB 2 at_ t cb cp ca cq cy = false := by rw [scB, hp, hr]; rfl
              rw [scD, scT, scP, HP.out, e1, if_neg (by decide), if_neg (by decide), Bool.false_and, if_neg (by decide)] at S6
              rw [e1]
              have hrr := fun W => ref_right t cb cp ca cq cy W
              rw [hr] at hrr
              have HRR := Lib.hid hrr
              clear hrr hr hp e1
              go_wp2_with fail
              refine (HRR.out _).mono ?_
              rintro e wz ⟨rfl, bz⟩
              replace S6 := Lib.hid (S6.out.grow bz)
              replace OA6 := Lib.hid (own_below OA6.out bz)
              replace OT6 := Lib.hid (own_below OT6.out bz)
              clear bz c6 l6
              have c6 := S6.out.2.2.2.cell
              have l6 := S6.out.2.2.2.lt
              (go_wp2_with fail; refine (tm_load b bP D T P 0 512 _ S6.out.1 (by rw [HP.out]; decide)).mono ?_; rintro e w7 ⟨vn, rfl, own7, b7⟩; have S7 := Lib.hid (S6.out.grow b7); have OT7 := Lib.hid (own_below OT6.out b7); obtain ⟨An, cn', rfl⟩ := own_form own7; obtain ⟨Aa, ca', rfl⟩ := own_form OA6.out; have k1 := run_str (P := Try.prog) Try.underlying24 Try.underlying5 Try.underlying9 cn' (partL_len D 0 512 (by rw [S7.out.1.1.1, HP.out]; decide)) (RdL.own own7); have k2 := run_str (P := Try.prog) Try.underlying24 Try.underlying5 Try.underlying9 ca' (partL_len D 0 512 (by rw [S7.out.1.1.1, HP.out]; decide)) ((RdL.own OA6.out).below b7); generalize strOfNums (partL D 0 512) = sx at *; clear own7 b7 S6 c6 l6; go_wp2_with fail; refine (tm_tags b bP D T P _ S7.out.1).mono ?_; rintro e w8 ⟨vt2, rfl, own8, b8⟩; have S8 := Lib.hid (S7.out.grow b8); have R8 := Lib.hid (RowI.own own8); have OT8 := Lib.hid (RowI.own (own_below OT7.out b8)); clear own8 b8 S7 k1 k2; go_wp2_with fail; refine (same_ints vt2 vt (tagsL T) (tagsL T) _ R8.out OT8.out (by have h1 := posL_len 16 T T.length; have h2 := S8.out.1.1.2.1; have h3 := HP.out; show (posL 16 T T.length).length ≤ _; omega)).mono ?_; rintro e w9 ⟨rfl, n9, rfl⟩; rw [decide_eq_true rfl]; have S9 := Lib.hid (S8.out.grow (below_drewN (Below.refl _ _) n9)); clear S8; generalize World.drewN _ n9 = w9 at *; go_wp2; go_roundg (gk - 1); (case measure => have := HJ.out; have := HLT.out; omega); (case rel => exact ⟨j + 1, _, _, _, by have := HJ.out; have := HLT.out; omega, by go_num, S9.out.1, HP.out, S9.out.2.1⟩))
          | false =>
            have e1 : scB 2 at_ t cb cp ca cq cy = false := by rw [scB, hp]; rfl
            rw [scD, scT, scP, HP.out, e1, if_neg (by decide), if_neg (by decide), Bool.false_and, if_neg (by decide)] at S6
            rw [e1]
            simp only [plB, decide_eq_false_iff_not] at hp
            rcases (show at_ < 0 ∨ (0 ≤ at_ ∧ 512 ≤ at_) ∨ (0 ≤ at_ ∧ at_ < 512 ∧ (at_ % 16 == 0) = false) by
              rcases (show at_ < 0 ∨ (0 ≤ at_ ∧ 512 ≤ at_) ∨ (0 ≤ at_ ∧ at_ < 512 ∧ ¬ at_ % 16 = 0) by omega) with h | h | ⟨h1, h2, h3⟩
              · exact .inl h
              · exact .inr (.inl h)
              · exact .inr (.inr ⟨h1, h2, by simpa using h3⟩)) with z1 | ⟨z1, z2⟩ | ⟨z1, z2, z3⟩
            · clear hp
              (go_wp2_with fail; refine (tm_load b bP D T P 0 512 _ S6.out.1 (by rw [HP.out]; decide)).mono ?_; rintro e w7 ⟨vn, rfl, own7, b7⟩; have S7 := Lib.hid (S6.out.grow b7); have OT7 := Lib.hid (own_below OT6.out b7); obtain ⟨An, cn', rfl⟩ := own_form own7; obtain ⟨Aa, ca', rfl⟩ := own_form OA6.out; have k1 := run_str (P := Try.prog) Try.underlying24 Try.underlying5 Try.underlying9 cn' (partL_len D 0 512 (by rw [S7.out.1.1.1, HP.out]; decide)) (RdL.own own7); have k2 := run_str (P := Try.prog) Try.underlying24 Try.underlying5 Try.underlying9 ca' (partL_len D 0 512 (by rw [S7.out.1.1.1, HP.out]; decide)) ((RdL.own OA6.out).below b7); generalize strOfNums (partL D 0 512) = sx at *; clear own7 b7 S6 c6 l6; go_wp2_with fail; refine (tm_tags b bP D T P _ S7.out.1).mono ?_; rintro e w8 ⟨vt2, rfl, own8, b8⟩; have S8 := Lib.hid (S7.out.grow b8); have R8 := Lib.hid (RowI.own own8); have OT8 := Lib.hid (RowI.own (own_below OT7.out b8)); clear own8 b8 S7 k1 k2; go_wp2_with fail; refine (same_ints vt2 vt (tagsL T) (tagsL T) _ R8.out OT8.out (by have h1 := posL_len 16 T T.length; have h2 := S8.out.1.1.2.1; have h3 := HP.out; show (posL 16 T T.length).length ≤ _; omega)).mono ?_; rintro e w9 ⟨rfl, n9, rfl⟩; rw [decide_eq_true rfl]; have S9 := Lib.hid (S8.out.grow (below_drewN (Below.refl _ _) n9)); clear S8; generalize World.drewN _ n9 = w9 at *; go_wp2; go_roundg (gk - 1); (case measure => have := HJ.out; have := HLT.out; omega); (case rel => exact ⟨j + 1, _, _, _, by have := HJ.out; have := HLT.out; omega, by go_num, S9.out.1, HP.out, S9.out.2.1⟩))
            · clear hp
              (go_wp2_with fail; refine (tm_load b bP D T P 0 512 _ S6.out.1 (by rw [HP.out]; decide)).mono ?_; rintro e w7 ⟨vn, rfl, own7, b7⟩; have S7 := Lib.hid (S6.out.grow b7); have OT7 := Lib.hid (own_below OT6.out b7); obtain ⟨An, cn', rfl⟩ := own_form own7; obtain ⟨Aa, ca', rfl⟩ := own_form OA6.out; have k1 := run_str (P := Try.prog) Try.underlying24 Try.underlying5 Try.underlying9 cn' (partL_len D 0 512 (by rw [S7.out.1.1.1, HP.out]; decide)) (RdL.own own7); have k2 := run_str (P := Try.prog) Try.underlying24 Try.underlying5 Try.underlying9 ca' (partL_len D 0 512 (by rw [S7.out.1.1.1, HP.out]; decide)) ((RdL.own OA6.out).below b7); generalize strOfNums (partL D 0 512) = sx at *; clear own7 b7 S6 c6 l6; go_wp2_with fail; refine (tm_tags b bP D T P _ S7.out.1).mono ?_; rintro e w8 ⟨vt2, rfl, own8, b8⟩; have S8 := Lib.hid (S7.out.grow b8); have R8 := Lib.hid (RowI.own own8); have OT8 := Lib.hid (RowI.own (own_below OT7.out b8)); clear own8 b8 S7 k1 k2; go_wp2_with fail; refine (same_ints vt2 vt (tagsL T) (tagsL T) _ R8.out OT8.out (by have h1 := posL_len 16 T T.length; have h2 := S8.out.1.1.2.1; have h3 := HP.out; show (posL 16 T T.length).length ≤ _; omega)).mono ?_; rintro e w9 ⟨rfl, n9, rfl⟩; rw [decide_eq_true rfl]; have S9 := Lib.hid (S8.out.grow (below_drewN (Below.refl _ _) n9)); clear S8; generalize World.drewN _ n9 = w9 at *; go_wp2; go_roundg (gk - 1); (case measure => have := HJ.out; have := HLT.out; omega); (case rel => exact ⟨j + 1, _, _, _, by have := HJ.out; have := HLT.out; omega, by go_num, S9.out.1, HP.out, S9.out.2.1⟩))
            · clear hp
              (go_wp2_with fail; refine (tm_load b bP D T P 0 512 _ S6.out.1 (by rw [HP.out]; decide)).mono ?_; rintro e w7 ⟨vn, rfl, own7, b7⟩; have S7 := Lib.hid (S6.out.grow b7); have OT7 := Lib.hid (own_below OT6.out b7); obtain ⟨An, cn', rfl⟩ := own_form own7; obtain ⟨Aa, ca', rfl⟩ := own_form OA6.out; have k1 := run_str (P := Try.prog) Try.underlying24 Try.underlying5 Try.underlying9 cn' (partL_len D 0 512 (by rw [S7.out.1.1.1, HP.out]; decide)) (RdL.own own7); have k2 := run_str (P := Try.prog) Try.underlying24 Try.underlying5 Try.underlying9 ca' (partL_len D 0 512 (by rw [S7.out.1.1.1, HP.out]; decide)) ((RdL.own OA6.out).below b7); generalize strOfNums (partL D 0 512) = sx at *; clear own7 b7 S6 c6 l6; go_wp2_with fail; refine (tm_tags b bP D T P _ S7.out.1).mono ?_; rintro e w8 ⟨vt2, rfl, own8, b8⟩; have S8 := Lib.hid (S7.out.grow b8); have R8 := Lib.hid (RowI.own own8); have OT8 := Lib.hid (RowI.own (own_below OT7.out b8)); clear own8 b8 S7 k1 k2; go_wp2_with fail; refine (same_ints vt2 vt (tagsL T) (tagsL T) _ R8.out OT8.out (by have h1 := posL_len 16 T T.length; have h2 := S8.out.1.1.2.1; have h3 := HP.out; show (posL 16 T T.length).length ≤ _; omega)).mono ?_; rintro e w9 ⟨rfl, n9, rfl⟩; rw [decide_eq_true rfl]; have S9 := Lib.hid (S8.out.grow (below_drewN (Below.refl _ _) n9)); clear S8; generalize World.drewN _ n9 = w9 at *; go_wp2; go_roundg (gk - 1); (case measure => have := HJ.out; have := HLT.out; omega); (case rel => exact ⟨j + 1, _, _, _, by have := HJ.out; have := HLT.out; omega, by go_num, S9.out.1, HP.out, S9.out.2.1⟩))
      · have i1 : ¬ (j : Int) < n := by omega
        clear hge
        go_wp2
        go_ret
        exact ⟨rfl, HB.out⟩

set_option maxRecDepth 100000 in
theorem lifted (os : Os) (started : os.Started) (H : Type) (enc : TypeId × Value → H) :
    ReturnsInHanded {} Try.checked os 16 .any (Rows.tagmemRefusesSpec.pre6 enc Try.prog Try.f16 Rows.tagmemRefusesRow.domain false) (Rows.tagmemRefusesSpec.post enc Try.prog Try.f16 false true false false) := by
  refine returnsInHanded_of_change (C := Try.checked) own started (by kernel_rfl) Try.func16
    (ChangeSpec.witness6 (enc := enc) (C := Try.checked) false ⟨#[], #[.slice none 0 0], []⟩ 8 (by kernel_rfl) (by kernel_rfl) (by kernel_rfl) (by kernel_rfl)) ?_
  intro W base args ds gs before hval0 hW hcnd _
  have hval : ∀ (j : Nat) t v, Try.f16.params[j]? = some t → args[j]? = some v → Value.okWide Try.prog W .any base t v := hval0
  have hW' := hW
  obtain ⟨p, q, hA0, hV, rfl, hfz, hnd⟩ := hW
  have hA : DataW.TrodAll enc Try.prog W 0 (fun _ => true) true Try.f16.params.toList args.toList ds p := hA0
  rw [Try.params16] at hA hval
  obtain ⟨v0, vs0, d0, ds0, p0, q0, hargs, rfl, rfl, h0, r0⟩ := trodAll_cons hA
  obtain ⟨rfl, rfl, rfl⟩ := trodAll_nil r0
  obtain rfl : args = #[v0] := by cases args; simp_all
  obtain ⟨rfl, rfl⟩ := trodVars_none hV
  have k0 := h0
  have lt0 : ∀ x ∈ p0, x.block < W.heap.size := by obtain ⟨m, hm⟩ := k0; exact DataW.trod_lt m _ _ _ hm
  obtain ⟨L0, hL0⟩ := open_opsM (hval 0 54 v0 rfl rfl) h0
  clear hA0 hval0
  refine (walk v0 L0 W hL0).mono fun e W' ⟨he, bel⟩ => ?_
  subst he
  exact ⟨_, rfl, _, _, _, [], _, [], hW', trodAll_mk1 (shut_bool Try.underlying4 _), (trodAll_cons_mk (Below.trod laidOut (by kernel_rfl) (of_decide_eq_true (by kernel_rfl)) k0 bel lt0) trodAll_mk0), rfl, bel.frame _, fun h => by cases h⟩

theorem over : Rows.tagmemRefusesRow.holds Try.pinned (OpenSpec.ofChange Rows.tagmemRefusesSpec) :=
  OpenClaim.holds_of_wide 16 Try.f16 rfl rfl rfl rfl rfl rfl rfl ⟨rfl, rfl, rfl, rfl, rfl⟩ rfl rfl rfl rfl rfl (by kernel_rfl) Try.func16 (by kernel_rfl)
    (of_decide_eq_true (by kernel_rfl)) (by unfold Func.isWrapper; rw [if_neg (of_decide_eq_false (by kernel_rfl))]; exact ⟨rfl, rfl⟩)
    (fun os started H enc _ => lifted os started H enc)

/-- The statement. -/
theorem proved : Rows.TagmemRefusesSaid := over

#print axioms proved
end Go.Proofs.Ytjimkkkiilcpoaa.TagmemRefuses
