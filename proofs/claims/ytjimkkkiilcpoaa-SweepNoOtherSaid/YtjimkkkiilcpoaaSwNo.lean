/-
  SweepNoOther: for every slice of calls and every slice of paints the law returns true, and each argument reads as it did. Condition: none.
-/
import Derived.Test.YtjimkkkiilcpoaaSwJ
import Derived.Test.YtjimkkkiilcpoaaEncM
set_option linter.unusedVariables false
set_option linter.unusedSimpArgs false
namespace Go.Proofs.Ytjimkkkiilcpoaa.SweepNoOther
open Go.RowKit Go.Proofs.Ytjimkkkiilcpoaa

theorem own : ownKnob Try.prog.godebug = none := by kernel_rfl
theorem laidOut : laidOutB Try.prog = true := by kernel_rfl

theorem loadcapU (mb bP : Nat) (D : List Int) (T P : List Bool) (a : Nat) (w : World) (h : TmM w mb bP D T P) (hp : plB P.length (a : Int) = true) :
    Calls Try.prog 57 #[.pointer (some ⟨mb, 0, none⟩), .int .i64 a] w fun e w' => e = .returned (.tuple #[capV (ldC D T a), .bool true]) ∧ Below w.heap.size w w' := by
  obtain ⟨i, k, hi, hk, e⟩ := pl_split hp
  have e : a = i * 256 + k * 16 := by omega
  subst e
  exact tm_loadcap mb bP D T P i k w h hi hk

set_option maxRecDepth 100000 in
set_option maxHeartbeats 3200000 in
theorem walk (v : Value) (L : List Op7) (vp : Value) (LP : List Pnt) (w : World) (ho : OpsM w v L) (hp : OpsR w vp LP) :
    Calls Try.prog 22 #[v, vp] w fun e w' => e = .returned (.bool true) ∧ Below w.heap.size w w' := by
  obtain ⟨A, c, rfl⟩ : ∃ A c, v = .slice A L.length c := ho.form
  obtain ⟨Ap, cp', rfl⟩ : ∃ A c, vp = .slice A LP.length c := hp.form
  have HO := Lib.hid ho
  have HPO := Lib.hid hp
  clear ho hp
  generalize hn : L.length = n at *
  have Hn := Lib.hid hn
  clear hn
  generalize hnp : LP.length = np at *
  have Hnp := Lib.hid hnp
  clear hnp
  go_enter Try.func22, Try.ntmps22
  go_wp2_with fail
  refine (head10_true _).mono ?_
  rintro e w1 ⟨rfl, b1⟩
  have B1 := Lib.hid b1
  clear b1
  go_wp2_with fail
  refine (tm_new 4 _ (by decide) (by decide)).mono ?_
  rintro e w2 ⟨b, bP, rfl, m2, gP, gb, b2⟩
  have M2 := Lib.hid (show TmM w2 b bP s0.1 s0.2.1 s0.2.2 from m2)
  have B2 := Lib.hid (below_then B1.out B1.out.size b2)
  have G2 := Lib.hid (And.intro gP gb)
  clear m2 gP gb b2
  go_wp2_with fail
  refine (new_any 64 _ (by decide) (by decide)).mono ?_
  rintro e w3 ⟨pm, pW, rfl, q3, gW, gp, hne, b3⟩
  have F3 := Lib.hid (show Fl w b bP pm pW s0 (List.replicate 64 false) w3 w3 from ⟨M2.out.grow b3, q3, below_then B2.out B2.out.size b3, Turns.refl _ _⟩)
  have G3 := Lib.hid (show ApF w b bP pm pW ∧ b < w3.heap.size ∧ bP < w3.heap.size ∧ pm < w3.heap.size ∧ pW < w3.heap.size by
    have h1 := M2.out.lt
    have h2 := q3.lt
    have h3 := G2.out
    have h4 := B1.out.size
    have h5 := B2.out.size
    have h6 := b3.size
    refine ⟨⟨by omega, by omega, by omega, by omega, by omega, by omega⟩, by omega, by omega, h2.1, h2.2⟩)
  have hgr := great_any (.slice A n c) L w3 (HO.out.below F3.out.2.2.1)
  clear q3 gW gp hne b3 M2 B2 G2 B1
  go_wp2_with fail
  refine hgr.mono ?_
  rintro e w4 ⟨rfl, rfl⟩
  clear hgr
  cases hgb : greatB L with
  | true =>
    clear hgb
    go_wp2
    go_ret
    exact ⟨rfl, F3.out.2.2.1⟩
  | false =>
    obtain ⟨hn200, hbs⟩ := great_no hgb
    clear hgb
    rcases Nat.lt_or_ge 200 np with hbig | hsm
    · have i0 : (200 : Int) < np := by omega
      clear hn200 hbs hbig
      go_wp2
      go_ret
      exact ⟨rfl, F3.out.2.2.1⟩
    · have i0 : ¬ (200 : Int) < np := by omega
      have HF := Lib.hid (fill_any w b bP pm pW s0 (List.replicate 64 false) (.slice A n c) L (.slice Ap np cp') LP w3 HO.out HPO.out F3.out G3.out.1 hn200 hbs (by rw [Hnp.out]; exact hsm))
      have HOD := Lib.hid (onD_flM L (S := s0) (onD_new _ 64))
      have HPL := Lib.hid (show (flM s0 L).2.2.length = 4 from flM_len L s0)
      generalize flM s0 L = S at *
      generalize flQ (List.replicate 64 false) LP = Q at *
      obtain ⟨D, T, P⟩ := S
      dsimp only at *
      clear hn200 hbs hsm
      go_wp2_with fail
      refine HF.out.mono ?_
      rintro e w5 ⟨⟨ve, rfl⟩, f5⟩
      have F5 := Lib.hid f5
      clear f5 HF F3
      go_wp2_with fail
      refine (sw_new b pm w5).mono ?_
      rintro e w6 ⟨rfl, k6, b6⟩
      obtain ⟨s, hs⟩ : ∃ s, w5.heap.size = s := ⟨_, rfl⟩
      rw [hs] at k6 ⊢
      have S6 := Lib.hid (show Scn w b bP pm pW s D T P Q (swC b pm false (.slice none 0 0) 0) w6 from ⟨F5.out.1.grow b6, F5.out.2.1.grow b6, k6, below_then F5.out.2.2.1 F5.out.2.2.1.size b6⟩)
      have HG := Lib.hid (show ScnG w b bP pm pW s by
        have h1 := G3.out
        unfold ApF at h1
        have h2 := F5.out.2.2.1.size
        have h3 := F5.out.1.lt
        have h4 := F5.out.2.1.lt
        unfold ScnG
        omega)
      clear k6 b6 hs F5 G3
      go_wp2_with fail
      refine (tm_load b bP D T P 0 1024 _ S6.out.1 (by rw [HPL.out]; decide)).mono ?_
      rintro e w7 ⟨v7, rfl, o7, b7⟩
      obtain ⟨A7, c7, rfl⟩ := own_form o7
      have S7 := Lib.hid (S6.out.grow b7)
      have R7 := Lib.hid (RdL.own o7)
      have O7 := Lib.hid (show ∀ ad, A7 = some ad → ad.block ≠ bP ∧ ad.block ≠ s from fun ad ha => by
        have h1 := own_base o7 ad ha
        have h2 := S6.out.1.lt
        have h3 := S6.out.2.2.1.lt
        omega)
      clear o7 b7 S6
      go_wp2_with fail
      refine (tm_tags b bP D T P _ S7.out.1).mono ?_
      rintro e w8 ⟨v8, rfl, o8, b8⟩
      obtain ⟨A8, c8, hv8⟩ := own_form o8
      subst hv8
      have S8 := Lib.hid (S7.out.grow b8)
      have R8 := Lib.hid (R7.out.below b8)
      have T8 := Lib.hid (RowI.own o8)
      clear o8 b8 S7 R7
      have HTG := Lib.hid (show (tagsL T).length ≤ 64 by have h1 := posL_len 16 T T.length; have h2 := S8.out.1.1.2.1; have h3 := HPL.out; show (posL 16 T T.length).length ≤ _; omega)
      have HGN := Lib.hid (stay_gone (D := D) (Q := Q) HOD.out)
      have HST := Lib.hid (stay_all (D := D) (Q := Q) HOD.out 0)
      obtain ⟨tl, htl⟩ : ∃ tl, tagsL T = tl := ⟨_, rfl⟩
      have HTE := Lib.hid htl
      rw [htl] at T8 HTG HGN HST ⊢
      clear htl
      generalize htn : tl.length = tn at *
      have Htn := Lib.hid htn
      clear htn
      have i9 : (tn : Int) ≤ 64 := by have h5 := HTG.out; have h6 := Htn.out; omega
      go_wp2
      go_loopg [12, 13] tn (fun gk v12 v13 wr => ∃ j : Nat, j + gk = tn ∧ v13 = .int .i64 j ∧ wr.ownsRow w8.heap.size 3 1 v12 (stayF D T Q (tl.take j)).length (i64s (stayF D T Q (tl.take j))) ∧ Below w8.heap.size w8 wr)
      case atStart => exact ⟨0, by omega, rfl, World.ownsRow_nil _ _ _ _, Below.refl _ _⟩
      case round =>
        obtain ⟨j, hjk, rfl, hown, hb⟩ := hrel
        have hS := S8.out.grow hb
        have HJ := Lib.hid hjk
        have OW := Lib.hid hown
        have SR := Lib.hid hS
        have BR := Lib.hid hb
        have ZR := Lib.hid hb.size
        have TR := Lib.hid (T8.out.below hb)
        clear hjk hown hS hb
        rcases Nat.lt_or_ge j tn with hlt | hge
        · have i1 : (j : Int) < tn := by omega
          have HLT := Lib.hid hlt
          have hlt' : j < tl.length := by rw [Htn.out]; exact hlt
          obtain ⟨ba, oa, rfl, hca⟩ := TR.out.cellsA (by omega)
          have hk := hca j hlt'
          have hba : ba < wr.heap.size := World.block_lt_of_cell? wr _ hk
          obtain ⟨z, hz1, hz2, hz3⟩ : ∃ z : Nat, z < T.length ∧ T.getD z false = true ∧ rdi tl j = ((z * 16 : Nat) : Int) := by
            have hm : rdi tl j ∈ tagsL T := by
              rw [HTE.out, rdi, List.getD_eq_getElem?_getD, List.getElem?_eq_getElem hlt']
              exact List.getElem_mem hlt'
            obtain ⟨z, h1, h2, h3⟩ := posL_mem.1 hm
            exact ⟨z, h1, h2, h3⟩
          have HTK := Lib.hid (show stayF D T Q (tl.take (j + 1)) = stayF D T Q (tl.take j) ++ (if hitK D T Q z then [] else [((z * 16 : Nat) : Int)]) by
            rw [take_snoc_i tl j hlt', stay_snoc, hz3, Int.toNat_natCast, Nat.mul_div_cancel _ (by decide : 0 < 16)])
          have hzl : z * 16 + 16 ≤ D.length := by have h1 := SR.out.1.1.1; have h2 := SR.out.1.1.2.1; omega
          have hin := Lib.hid (ldC_in (T := T) SR.out.1.1.2.2.2 hzl)
          have hpb : plB P.length ((z * 16 : Nat) : Int) = true := by have h2 := SR.out.1.1.2.1; simp only [plB, decide_eq_true_eq]; omega
          have glc := loadcapU b bP D T P (z * 16) wr SR.out.1 hpb
          have hkk : hitK D T Q z = hitsB Q (ldC D T (z * 16)).1 (ldC D T (z * 16)).2.1 (ldC D T (z * 16)).2.2.1 := rfl
          rw [hz3] at hk
          have hzi : ((z * 16 : Nat) : Int) ≤ 1048576 := by have h1 := SR.out.1.1.2.1; have h2 := HPL.out; omega
          have hzi0 : 0 ≤ ((z * 16 : Nat) : Int) := by omega
          have hsl : (stayF D T Q (tl.take j)).length ≤ 64 := by
            have h1 := List.length_filter_le (fun x : Int => !hitK D T Q (x.toNat / 16)) (tl.take j)
            have h2 : (tl.take j).length ≤ 64 := by rw [List.length_take]; have h5 := HTG.out; have h6 := Htn.out; omega
            unfold stayF
            omega
          have HSL := Lib.hid hsl
          generalize hzz : ((z * 16 : Nat) : Int) = zz at *
          generalize ldC D T (z * 16) = ld at *
          obtain ⟨tc, bc, pc, ac, qc, yc⟩ := ld
          dsimp only [capV] at *
          have HKK := Lib.hid hkk
          clear hlt hlt' hca hz1 hz2 hz3 hzl hpb hzz hsl hkk
          go_wp2_with fail
          refine glc.mono ?_
          rintro e wa ⟨rfl, ba'⟩
          have SA := Lib.hid (SR.out.grow ba')
          have OA := Lib.hid (own_below OW.out ba')
          have BA := Lib.hid (below_then BR.out BR.out.size ba')
          have hca := (ba'.cell (p := ⟨ba, oa + j, none⟩) hba).trans hk
          have hbaa : ba < wa.heap.size := Nat.lt_of_lt_of_le hba ba'.size
          clear glc ba' SR OW BR hk hba
          go_wp2_with fail
          obtain ⟨wc, hwc⟩ : ∃ wc, wa.alloc (.cells #[.bool (tc), .int .i64 (bc), .int .i64 (pc), .int .i64 (ac), .int .i64 (qc), .int .i64 (yc)] 23) = wc := ⟨_, rfl⟩
          have hbc : Below wa.heap.size wa wc := by rw [← hwc]; go_grown
          rw [hwc]
          have hcc := (hbc.cell (p := ⟨ba, oa + j, none⟩) hbaa).trans hca
          have hbcc : ba < wc.heap.size := Nat.lt_of_lt_of_le hbaa hbc.size
          refine (hits_any pm pW Q tc bc pc ac qc yc _ hin.out.1 hin.out.2 (SA.out.2.1.grow hbc)).mono ?_
          rintro e wd ⟨rfl, bd⟩
          have bd2 := below_then hbc hbc.size bd
          have hcd := (bd.cell (p := ⟨ba, oa + j, none⟩) hbcc).trans hcc
          have hbd : ba < wd.heap.size := Nat.lt_of_lt_of_le hbcc bd.size
          have SD := Lib.hid (SA.out.grow bd2)
          have OD := Lib.hid (own_below OA.out bd2)
          have BD := Lib.hid (below_then BA.out BA.out.size bd2)
          have ZD := Lib.hid (show w8.heap.size ≤ wd.heap.size from BD.out.size)
          rw [← HKK.out]
          clear hca hbaa hcc hbcc hwc hbc SA OA BA bd bd2 HKK
          cases hh : hitK D T Q z with
          | true =>
            rw [hh, if_pos rfl, List.append_nil] at HTK
            clear hh hcd hbd
            go_wp2
            go_roundg (gk - 1)
            case measure => have := HJ.out; have := HLT.out; omega
            case rel => exact ⟨j + 1, by have := HJ.out; have := HLT.out; omega, by go_num, by rw [HTK.out]; exact OD.out, BD.out⟩
          | false =>
            rw [hh, if_neg (by decide)] at HTK
            clear hh
            go_wp2_with (first
              | (at_builtin; go_loud (refine app (w0 := w8) (W := wd.alloc _) w8.heap.size rfl _ _ 68 3 (.int .i64 0) 1 8 rfl Try.underlying68 infoInt rfl (by decide) (by decide) _ _ _ (i64s [zz]) (some ⟨wd.heap.size, 0, none⟩) 1 1 rfl rfl rfl (by intro u hu; simp [i64s] at hu; subst hu; rfl) (OD.out.alloc _) (RdL.new wd _ _) (BD.out.alloc ZD.out _) (by have := ZD.out; simp; omega) (by have := HSL.out; omega) ?_; intro v1 w3 hown1 hb2 hgb)))
            go_roundg (gk - 1)
            case measure => have := HJ.out; have := HLT.out; omega
            case rel => exact ⟨j + 1, by have := HJ.out; have := HLT.out; omega, by go_num, by rw [HTK.out, List.length_append, i64s_append]; exact hown1, hb2⟩
        · have i1 : ¬ (j : Int) < tn := by omega
          have hj : tl.take j = tl := List.take_of_length_le (by rw [Htn.out]; exact hge)
          rw [hj] at OW
          obtain ⟨A12, c12, hv12⟩ := own_form OW.out
          subst hv12
          have R12 := Lib.hid (RowI.own OW.out)
          have O12 := Lib.hid (show ∀ ad, A12 = some ad → ad.block ≠ bP ∧ ad.block ≠ s from fun ad ha => by
            have h1 := own_base OW.out ad ha
            have h2 := S8.out.1.lt
            have h3 := S8.out.2.2.1.lt
            omega)
          have R7' := Lib.hid (R8.out.below BR.out)
          generalize hstl : (stayF D T Q tl).length = sl at *
          have Hstl := Lib.hid hstl
          clear hge hj hstl T8 S8 R8 OW TR BR
          go_wp2_with fail
          refine (sw_begin s b bP pm D T P (.slice none 0 0) 0 _ SR.out.2.2.1 SR.out.1).mono ?_
          rintro e w10 ⟨rfl, ⟨A9, c9, k9, r9, hc9, hm9, ha9⟩, t9⟩
          have S10 := Lib.hid (SR.out.begun HG.out k9 t9)
          have O9 := Lib.hid (show ∀ ad, A9 = some ad → 0 < (dirtyL P).length → ad.block ≠ bP ∧ ad.block ≠ s from fun ad ha h0 => by
            have h1 := ha9 h0 ad ha
            have h2 := SR.out.1.lt
            have h3 := SR.out.2.2.1.lt
            omega)
          have gst := sw_whole s b bP pm pW D T P Q A9 c9 w10 k9 r9 hc9 (by have : maxLen ≤ 9223372036854775807 := by decide
                                                                            omega) (fun h0 ad ha => O9.out ad ha h0) S10.out.1 S10.out.2.1 HG.out.1 HPL.out
          have R12a := Lib.hid (R12.out.turns t9 (fun _ ad ha => by have := O12.out ad ha; simp; omega))
          have R7a := Lib.hid (R7'.out.turns t9 (fun _ ad ha => by have := O7.out ad ha; simp; omega))
          clear k9 r9 hc9 hm9 ha9 t9 SR R12 R7' O9
          go_wp2_with fail
          refine gst.mono ?_
          clear gst
          rintro e w11 ⟨⟨vst, rfl⟩, m11, ⟨A11, n11, c11, k11⟩, t11⟩
          have S11 := Lib.hid (S10.out.swept HG.out m11 k11 t11)
          have R12b := Lib.hid (R12a.out.turns t11 (fun _ ad ha => by have := O12.out ad ha; simp; omega))
          have R7b := Lib.hid (R7a.out.turns t11 (fun _ ad ha => by have := O7.out ad ha; simp; omega))
          clear m11 k11 t11 S10 R12a R7a O12 O7
          have HP2 := Lib.hid ((swS_len D Q (dirtyL P) (T, P, 0)).trans HPL.out)
          generalize (swS D Q (dirtyL P) (T, P, 0)).2.2 = gg at *
          generalize (swS D Q (dirtyL P) (T, P, 0)).2.1 = P' at *
          generalize (swS D Q (dirtyL P) (T, P, 0)).1 = T' at *
          have e9 : tn = gg + sl := HGN.out.symm
          subst e9
          go_wp2_with fail
          refine (tm_load b bP D T' P' 0 1024 _ S11.out.1 (by rw [HP2.out]; decide)).mono ?_
          rintro e w12 ⟨v12, rfl, o12, b12⟩
          obtain ⟨A12', c12', hv12⟩ := own_form o12
          subst hv12
          have S12 := Lib.hid (S11.out.grow b12)
          have R12c := Lib.hid (R12b.out.below b12)
          have R7c := Lib.hid (R7b.out.below b12)
          have RN := Lib.hid (RdL.own o12)
          clear o12 b12 S11 R12b R7b
          go_wp2_with fail
          refine (tm_tags b bP D T' P' _ S12.out.1).mono ?_
          rintro e w13 ⟨v13, rfl, o13, b13⟩
          have S13 := Lib.hid (S12.out.grow b13)
          have R12d := Lib.hid (R12c.out.below b13)
          have R7d := Lib.hid (R7c.out.below b13)
          have RNd := Lib.hid (RN.out.below b13)
          have RT := Lib.hid (RowI.own o13)
          clear o13 b13 S12 R12c R7c RN
          go_wp2_with fail
          refine (same_ints v13 (.slice A12 sl c12) (tagsL T') (stayF D T Q tl) _ RT.out R12d.out (by rw [HST.out, Hstl.out]; have h1 := HTG.out; have h2 := Htn.out; omega)).mono ?_
          rintro e w14 ⟨rfl, n14, rfl⟩
          rw [decide_eq_true HST.out]
          have b14 := below_drewN (Below.refl w13.heap.size w13) n14
          have S14 := Lib.hid (S13.out.grow b14)
          have k1 := run_str (P := Try.prog) Try.underlying24 Try.underlying5 Try.underlying9 c7 (partL_len D 0 1024 (by rw [S14.out.1.1.1, HP2.out]; decide)) (R7d.out.below b14)
          have k2 := run_str (P := Try.prog) Try.underlying24 Try.underlying5 Try.underlying9 c12' (partL_len D 0 1024 (by rw [S14.out.1.1.1, HP2.out]; decide)) (RNd.out.below b14)
          generalize strOfNums (partL D 0 1024) = sx at *
          clear b14 S13 R12d R7d RNd RT
          generalize World.drewN _ n14 = w14 at *
          go_wp2_with fail
          clear k1 k2
          refine (sw_gone s b pm _ _ _ _ S14.out.2.2.1).mono ?_
          rintro e w15 ⟨rfl, rfl⟩
          go_wp2
          go_ret
          exact ⟨rfl, S14.out.2.2.2⟩
end Go.Proofs.Ytjimkkkiilcpoaa.SweepNoOther
