/-
  SweepAll: for every two slices of calls, every slice of paints and every slice of numbers of pages the law returns true, and each argument reads as it did. Condition: none.
-/
import Derived.Test.YtjimkkkiilcpoaaSwL
import Derived.Deep.DeepCutAuto
import Derived.Deep.CutBlock
set_option linter.unusedVariables false
set_option linter.unusedSimpArgs false
namespace Go.Proofs.Ytjimkkkiilcpoaa.SweepAll
open Go.RowKit Go.Proofs.Ytjimkkkiilcpoaa

theorem own : ownKnob Try.prog.godebug = none := by kernel_rfl
theorem laidOut : laidOutB Try.prog = true := by kernel_rfl

theorem loadcapU (mb bP : Nat) (D : List Int) (T P : List Bool) (a : Nat) (w : World) (h : TmM w mb bP D T P) (hp : plB P.length (a : Int) = true) :
    Calls Try.prog 57 #[.pointer (some ⟨mb, 0, none⟩), .int .i64 a] w fun e w' => e = .returned (.tuple #[capV (ldC D T a), .bool true]) ∧ Below w.heap.size w w' := by
  obtain ⟨i, k, hi, hk, e⟩ := pl_split hp
  have e : a = i * 256 + k * 16 := by omega
  subst e
  exact tm_loadcap mb bP D T P i k w h hi hk


set_option maxRecDepth 100000 in
set_option maxHeartbeats 32000000 in
theorem walk (v : Value) (L : List Op7) (vp : Value) (LP : List Pnt) (v2 : Value) (L2 : List Op7) (vb : Value) (bs : List Int) (w : World) (ho : OpsM w v L) (hp : OpsR w vp LP) (ho2 : OpsM w v2 L2) (hrb : RowU w vb bs) (hbb : isB bs) (hbm : bs.length ≤ maxLen) :
    Calls Try.prog 19 #[v, vp, v2, vb] w fun e w' => e = .returned (.bool true) ∧ Below w.heap.size w w' := by
  obtain ⟨A, c, rfl⟩ : ∃ A c, v = .slice A L.length c := ho.form
  obtain ⟨A2, c2, rfl⟩ : ∃ A c, v2 = .slice A L2.length c := ho2.form
  obtain ⟨Ap, cp', rfl⟩ : ∃ A c, vp = .slice A LP.length c := hp.form
  obtain ⟨Ab, cb, rfl, hrd, hcb⟩ := id hrb
  have HO := Lib.hid ho
  have HO2 := Lib.hid ho2
  have HPO := Lib.hid hp
  have HRB := Lib.hid hrb
  have HBB := Lib.hid hbb
  clear ho ho2 hp hrb hbb hbm hrd
  generalize hn : L.length = n at *
  have Hn := Lib.hid hn
  clear hn
  generalize hn2 : L2.length = n2 at *
  have Hn2 := Lib.hid hn2
  clear hn2
  generalize hnp : LP.length = np at *
  have Hnp := Lib.hid hnp
  clear hnp
  generalize hnb : bs.length = nb at *
  have Hnb := Lib.hid hnb
  clear hnb
  go_enter Try.func19, Try.ntmps19
  go_wp2_with fail
  refine (head10_true _).mono ?_
  rintro e w1 ⟨rfl, b1⟩
  have B1 := Lib.hid b1
  clear b1
  go_wp2_with fail
  refine (tm_new 4 _ (by decide) (by decide)).mono ?_
  rintro e w2 ⟨b, bP, rfl, m2, gP, gb, b2⟩
  have M2 := Lib.hid (show TmM w2 b bP s0.1 s0.2.1 s0.2.2 from m2)
  have B2 := Lib.hid (below_then B1.out B1.out.size b2)
  have G2 := Lib.hid (And.intro gP gb)
  clear m2 gP gb b2
  go_wp2_with fail
  refine (new_any 64 _ (by decide) (by decide)).mono ?_
  rintro e w3 ⟨pm, pW, rfl, q3, gW, gp, hne, b3⟩
  have F3 := Lib.hid (show Fl w b bP pm pW s0 (List.replicate 64 false) w3 w3 from ⟨M2.out.grow b3, q3, below_then B2.out B2.out.size b3, Turns.refl _ _⟩)
  have G3 := Lib.hid (show ApF w b bP pm pW ∧ b < w3.heap.size ∧ bP < w3.heap.size ∧ pm < w3.heap.size ∧ pW < w3.heap.size by
    have h1 := M2.out.lt
    have h2 := q3.lt
    have h3 := G2.out
    have h4 := B1.out.size
    have h5 := B2.out.size
    have h6 := b3.size
    refine ⟨⟨by omega, by omega, by omega, by omega, by omega, by omega⟩, by omega, by omega, h2.1, h2.2⟩)
  have hgr := great_any (.slice A n c) L w3 (HO.out.below F3.out.2.2.1)
  have HGR2 := Lib.hid (great_any (.slice A2 n2 c2) L2 w3 (HO2.out.below F3.out.2.2.1))
  clear q3 gW gp hne b3 M2 B2 G2 B1
  go_wp2_with fail
  refine hgr.mono ?_
  rintro e w4 ⟨rfl, rfl⟩
  clear hgr
  cases hgb : greatB L with
  | true =>
    clear hgb
    go_wp2
    go_ret
    exact ⟨rfl, F3.out.2.2.1⟩
  | false =>
    obtain ⟨hn200, hbs⟩ := great_no hgb
    have HN1 := Lib.hid (And.intro hn200 hbs)
    clear hgb hn200 hbs
    go_wp2_with fail
    refine HGR2.out.mono ?_
    rintro e w4 ⟨rfl, rfl⟩
    clear HGR2
    cases hgb : greatB L2 with
    | true =>
      clear hgb
      go_wp2
      go_ret
      exact ⟨rfl, F3.out.2.2.1⟩
    | false =>
      have HN2 := Lib.hid (great_no hgb)
      clear hgb
      rcases Nat.lt_or_ge 200 np with hbig | hsm
      · have i0 : (200 : Int) < np := by omega
        clear hbig
        go_wp2
        go_ret
        exact ⟨rfl, F3.out.2.2.1⟩
      · have i0 : ¬ (200 : Int) < np := by omega
        rcases Nat.lt_or_ge 300 nb with hbig | hsb
        · have i1 : (300 : Int) < nb := by omega
          clear hbig hsm
          go_wp2
          go_ret
          exact ⟨rfl, F3.out.2.2.1⟩
        · have i1 : ¬ (300 : Int) < nb := by omega
          have i1' : (nb : Int) ≤ 300 := by omega
          have i2' : (n2 : Int) ≤ 200 := by have := HN2.out.1; have := Hn2.out; omega
          have HF := Lib.hid (fill_any w b bP pm pW s0 (List.replicate 64 false) (.slice A n c) L (.slice Ap np cp') LP w3 HO.out HPO.out F3.out G3.out.1 HN1.out.1 HN1.out.2 (by rw [Hnp.out]; exact hsm))
          have HOD := Lib.hid (onD_flM L (S := s0) (onD_new _ 64))
          have HPL := Lib.hid (show (flM s0 L).2.2.length = 4 from flM_len L s0)
          generalize flM s0 L = S at *
          generalize flQ (List.replicate 64 false) LP = Q at *
          obtain ⟨D, T, P⟩ := S
          dsimp only at *
          have HSB := Lib.hid hsb
          clear hsm hsb HN1
          go_wp2_with fail
          refine HF.out.mono ?_
          rintro e w5 ⟨⟨ve, rfl⟩, f5⟩
          have F5 := Lib.hid f5
          clear f5 HF F3
          go_wp2_with fail
          refine (sw_new b pm w5).mono ?_
          rintro e w6 ⟨rfl, k6, b6⟩
          obtain ⟨s, hs⟩ : ∃ s, w5.heap.size = s := ⟨_, rfl⟩
          rw [hs] at k6 ⊢
          have S6 := Lib.hid (show Scn w b bP pm pW s D T P Q (swC b pm false (.slice none 0 0) 0) w6 from ⟨F5.out.1.grow b6, F5.out.2.1.grow b6, k6, below_then F5.out.2.2.1 F5.out.2.2.1.size b6⟩)
          have HG := Lib.hid (show ScnG w b bP pm pW s by
            have h1 := G3.out
            unfold ApF at h1
            have h2 := F5.out.2.2.1.size
            have h3 := F5.out.1.lt
            have h4 := F5.out.2.1.lt
            unfold ScnG
            omega)
          clear k6 b6 hs F5 G3
          go_wp2_with fail
          refine (tm_dirty b bP D T P _ S6.out.1).mono ?_
          rintro e w7 ⟨v7, rfl, o7, b7⟩
          obtain ⟨A7, c7, hv7⟩ := own_form o7
          subst hv7
          have S7 := Lib.hid (S6.out.grow b7)
          have HBD := Lib.hid (show ∀ x ∈ [bP, s], x < w7.heap.size from fun x hx => by
            have h1 := S7.out.1.lt
            have h2 := S7.out.2.2.1.lt
            simp at hx
            rcases hx with rfl | rfl <;> omega)
          have gb8 := swr_begin s b bP pm D T P (.slice none 0 0) [bP, s] w7 S7.out.2.2.1 S7.out.1 HBD.out
          have HI0 := Lib.hid (hitIn_begin (D := D) (Q := Q) HOD.out)
          have HDP := Lib.hid (show ∀ p ∈ dirtyL P, 0 ≤ p ∧ p < ((4 : Nat) : Int) from fun p hp => by rw [← HPL.out]; exact dirty_lt p hp)
          have HND := Lib.hid (show (dirtyL P).length ≤ 4 by rw [← HPL.out]; exact dirty_len P)
          generalize dirtyL P = dL at *
          generalize hnd : dL.length = nd at *
          have Hnd := Lib.hid hnd
          have hnd4 : (nd : Int) ≤ 4 := by have := HND.out; omega
          clear hnd o7 b7 S6 HOD
          go_wp2_with fail
          refine gb8.mono ?_
          clear gb8
          rintro e w8 ⟨rfl, k8, t8⟩
          have S8 := Lib.hid (show SA w b bP pm pW s D T P Q dL true 0 0 w8 by
            have hg := HG.out
            unfold ScnG at hg
            exact ⟨S7.out.1.turns t8 (by simp; omega) (by simp; omega), S7.out.2.1.turns t8 (by simp; omega) (by simp; omega), k8, below_turns S7.out.2.2.2 t8 (by simp; omega)⟩)
          have gl := swr_left s b pm _ _ _ _ _ _ S8.out.2.2.1
          rw [Hnd.out, Nat.sub_zero] at gl
          clear k8 t8 S7 HBD
          go_wp2_with fail
          refine gl.mono ?_
          clear gl
          rintro e w9 ⟨rfl, rfl⟩
          go_wp2
          go_loopg [14, 15] (nb + 1) (fun gk v14 v15 wr => ∃ (j i g : Nat) (run : Bool) (D' : List Int) (T' P' : List Bool), j + gk = nb + 1 ∧ v14 = .int .i64 i ∧ v15 = .int .i64 j ∧ (j ≤ nb → run = runF nd i (onlyB bs j)) ∧ (j = nb + 1 → run = false ∧ i = nd) ∧ i ≤ nd ∧ g ≤ 16 * i ∧
            P'.length = 4 ∧ HitIn D' T' Q (dL.drop i) ∧ SA w b bP pm pW s D' T' P' Q dL run i g wr)
          case atStart => exact ⟨0, 0, 0, true, D, T, P, by omega, rfl, rfl, fun _ => by
            unfold runF
            rcases Nat.eq_zero_or_pos nd with h | h
            · rw [h]; rfl
            · rw [decide_eq_true h]; rfl, fun h => by omega, Nat.zero_le _, Nat.zero_le _, HPL.out, HI0.out, S8.out⟩
          case round =>
            obtain ⟨j, i, g, run, D', T', P', hjk, rfl, rfl, hrun, hend, hi, hgg, hP', hit, hS⟩ := hrel
            have HJ := Lib.hid hjk
            have HRUN := Lib.hid (And.intro hrun hend)
            have HIL := Lib.hid hi
            have HGG := Lib.hid hgg
            have HP' := Lib.hid hP'
            have HIT := Lib.hid hit
            have SR := Lib.hid hS
            have hi4 : (i : Int) ≤ 4 := by omega
            clear hjk hrun hend hi hgg hP' hit hS S8 HI0
            rcases Nat.lt_or_ge nb j with hgt | hle
            · have i2 : ¬ (j : Int) ≤ nb := by omega
              obtain ⟨er, ei⟩ := HRUN.out.2 (by have := HJ.out; omega)
              subst er
              subst ei
              have HZ0 := Lib.hid (show ∀ z, hitK D' T' Q z = false from fun z => by
                cases hh : hitK D' T' Q z with
                | false => rfl
                | true =>
                  have h1 := HIT.out z hh
                  rw [← Hnd.out, List.drop_length] at h1
                  cases h1)
              have HP4 := Lib.hid HP'.out
              clear hgt HRUN HIL HGG HP' HIT
              go_wp2_with fail
              refine (tm_tags b bP D' T' P' _ SR.out.1).mono ?_
              rintro e w8 ⟨v8, rfl, o8, b8⟩
              obtain ⟨A8, c8, hv8⟩ := own_form o8
              subst hv8
              have S8 := Lib.hid (SR.out.grow b8)
              have T8 := Lib.hid (RowI.own o8)
              clear o8 b8 SR
              have HTG := Lib.hid (show (tagsL T').length ≤ 64 by have h1 := posL_len 16 T' T'.length; have h2 := S8.out.1.1.2.1; have h3 := HP4.out; show (posL 16 T' T'.length).length ≤ _; omega)
              obtain ⟨tl, htl⟩ : ∃ tl, tagsL T' = tl := ⟨_, rfl⟩
              have HTE := Lib.hid htl
              rw [htl] at T8 HTG ⊢
              clear htl
              generalize htn : tl.length = tn at *
              have Htn := Lib.hid htn
              clear htn
              have i9 : (tn : Int) ≤ 64 := by have h5 := HTG.out; omega
              go_wp2
              go_loopg [18] tn (fun gk v18 wr => ∃ j : Nat, j + gk = tn ∧ v18 = .int .i64 j ∧ Below w8.heap.size w8 wr)
              case atStart => exact ⟨0, by omega, rfl, Below.refl _ _⟩
              case round =>
                obtain ⟨j', hjk', rfl, hb⟩ := hrel
                have HJ' := Lib.hid hjk'
                have BR := Lib.hid hb
                clear hjk' hb
                rcases Nat.lt_or_ge j' tn with hlt | hge
                · have i1 : (j' : Int) < tn := by omega
                  have HLT := Lib.hid hlt
                  have SW := Lib.hid (S8.out.grow BR.out)
                  have TR := T8.out.below BR.out
                  have hlt' : j' < tl.length := by rw [Htn.out]; exact hlt
                  obtain ⟨ba, oa, rfl, hca⟩ := TR.cellsA (by omega)
                  have hk := hca j' hlt'
                  have hba : ba < wr.heap.size := World.block_lt_of_cell? wr _ hk
                  obtain ⟨z, hz1, hz2, hz3⟩ : ∃ z : Nat, z < T'.length ∧ T'.getD z false = true ∧ rdi tl j' = ((z * 16 : Nat) : Int) := by
                    have hm : rdi tl j' ∈ tagsL T' := by
                      rw [HTE.out, rdi, List.getD_eq_getElem?_getD, List.getElem?_eq_getElem hlt']
                      exact List.getElem_mem hlt'
                    obtain ⟨z, h1, h2, h3⟩ := posL_mem.1 hm
                    exact ⟨z, h1, h2, h3⟩
                  have hzl : z * 16 + 16 ≤ D'.length := by have h1 := SW.out.1.1.1; have h2 := SW.out.1.1.2.1; omega
                  have hin := Lib.hid (ldC_in (T := T') SW.out.1.1.2.2.2 hzl)
                  have hpb : plB P'.length ((z * 16 : Nat) : Int) = true := by have h2 := SW.out.1.1.2.1; simp only [plB, decide_eq_true_eq]; omega
                  have glc := loadcapU b bP D' T' P' (z * 16) wr SW.out.1 hpb
                  have HKK := Lib.hid (show hitsB Q (ldC D' T' (z * 16)).1 (ldC D' T' (z * 16)).2.1 (ldC D' T' (z * 16)).2.2.1 = false from HZ0.out z)
                  rw [hz3] at hk
                  have hzi : ((z * 16 : Nat) : Int) ≤ 1048576 := by have h1 := SW.out.1.1.2.1; have h2 := HP4.out; omega
                  have hzi0 : 0 ≤ ((z * 16 : Nat) : Int) := by omega
                  generalize hzz : ((z * 16 : Nat) : Int) = zz at *
                  generalize ldC D' T' (z * 16) = ld at *
                  obtain ⟨tc, bc, pc, ac, qc, yc⟩ := ld
                  dsimp only [capV] at *
                  clear hlt hlt' hca hz1 hz2 hz3 hzl hpb hzz TR
                  go_wp2_with fail
                  refine glc.mono ?_
                  rintro e wa ⟨rfl, ba'⟩
                  have SA' := Lib.hid (SW.out.grow ba')
                  have BA := Lib.hid (below_then BR.out BR.out.size ba')
                  clear glc ba' SW BR hk hba
                  go_wp2_with fail
                  refine (hits_any pm pW Q tc bc pc ac qc yc _ hin.out.1 hin.out.2 (SA'.out.2.1.grow (by go_grown))).mono ?_
                  rintro e wd ⟨rfl, bd⟩
                  rw [HKK.out]
                  have BD := Lib.hid (below_then (BA.out.alloc BA.out.size (.cells #[.bool (tc), .int .i64 (bc), .int .i64 (pc), .int .i64 (ac), .int .i64 (qc), .int .i64 (yc)] 23)) (by have := BA.out.size; simp; omega) bd)
                  clear bd HKK SA' BA
                  go_wp2
                  go_roundg (gk - 1)
                  case measure => have := HJ'.out; have := HLT.out; omega
                  case rel => exact ⟨j' + 1, by have := HJ'.out; have := HLT.out; omega, by go_num, BD.out⟩
                · have i1 : ¬ (j' : Int) < tn := by omega
                  have S9 := Lib.hid (S8.out.grow BR.out)
                  clear hge T8 S8 BR
                  go_wp2_with fail
                  refine (swr_runs s b pm _ _ _ _ _ _ S9.out.2.2.1).mono ?_
                  rintro e w9 ⟨rfl, rfl⟩
                  go_wp2
                  go_ret
                  exact ⟨rfl, S9.out.2.2.2⟩
            · have i2 : (j : Int) ≤ nb := by omega
              have HLE := Lib.hid hle
              have er := HRUN.out.1 hle
              subst er
              clear HRUN hle
              go_upto_if 88 with fail
              go_cut [] from 79 to 155 (fun wx => ∃ (D1 : List Int) (T1 P1 : List Bool), P1.length = 4 ∧ HitIn D1 T1 Q (dL.drop i) ∧ SA w b bP pm pW s D1 T1 P1 Q dL (runF nd i (onlyB bs j)) i g wx)
              case first =>
                rcases Nat.lt_or_ge j n2 with hlt | hge
                · have i3 : (j : Int) < n2 := by omega
                  obtain ⟨op, hop⟩ : ∃ op, L2[j]? = some op := ⟨_, List.getElem?_eq_getElem (by rw [Hn2.out]; exact hlt)⟩
                  have hb9 := HN2.out.2 op (List.mem_of_getElem? hop)
                  obtain ⟨bo, oo, Ao, co, rfl, hq, hopv, hro, hna, hnb, hx⟩ := HO2.out.getX SR.out.2.2.2 hop
                  have HV := Lib.hid hopv
                  have HR0 := Lib.hid hro
                  have HNA := Lib.hid (hna bP HG.out.2.1)
                  have HX := Lib.hid hx
                  obtain ⟨wh, ad_, os, t, cb', cp, ca, cq, cy, cn⟩ := op
                  dsimp only at *
                  obtain ⟨hbo, k0, _⟩ := id hx
                  clear hlt hop hopv hnb hx hro hna
                  rcases (show wh < 2 ∨ 2 ≤ wh by omega) with hw | hw
                  · go_upto_region 19 with fail
                    refine wp_flow_lit 11 (fun w' => OpX w' bo (oo + j * 10) (.slice Ao os.length co) ⟨wh, ad_, os, t, cb', cp, ca, cq, cy, cn⟩ ∧ SA w b bP pm pW s D' T' P' Q dL (runF nd i (onlyB bs j)) i g w' ∧ RowU w' (.slice Ao os.length co) os) [none, none, none, none, none, none, none, none, none, none, none]
                      (by kernel_rfl) (by kernel_rfl) ⟨HX.out.below (Below.drew (Below.refl _ _)), SR.out.grow (Below.drew (Below.refl _ _)), HR0.out.below (Below.drew (Below.refl _ _))⟩ (fun w1 w2 h hb => ⟨h.1.below hb, h.2.1.grow hb, h.2.2.below hb⟩) trivial ?_
                    clear k0 hbo
                    try simp (config := { maxSteps := 10000000 }) only [specV, addF, Act.put, List.setIfInBounds_toArray, List.set_cons_zero, List.set_cons_succ, List.take_succ_cons, List.take_zero, List.drop_succ_cons, List.drop_zero]
                    (apply Exists.intro; refine ⟨fun vs w1 hS hB hf => ?_, ?_⟩; (focus (obtain ⟨hbo, k0, k1, k2, k3, k4, k5, k6, k7, k8, k9⟩ := hS.1; clear hS hB hf; go_simp; first | exact ⟨Below.refl _ _, rfl⟩ | exact rfl)); try simp (config := { maxSteps := 10000000 }) only [specV, addF, Act.put, List.setIfInBounds_toArray, List.set_cons_zero, List.set_cons_succ, List.take_succ_cons, List.take_zero, List.drop_succ_cons, List.drop_zero]); (apply Exists.intro; refine ⟨fun vs w1 hS hB hf => ?_, ?_⟩; (focus (obtain ⟨hbo, k0, k1, k2, k3, k4, k5, k6, k7, k8, k9⟩ := hS.1; clear hS hB hf; go_simp; first | exact ⟨Below.refl _ _, rfl⟩ | exact rfl)); try simp (config := { maxSteps := 10000000 }) only [specV, addF, Act.put, List.setIfInBounds_toArray, List.set_cons_zero, List.set_cons_succ, List.take_succ_cons, List.take_zero, List.drop_succ_cons, List.drop_zero]); (apply Exists.intro; refine ⟨fun vs w1 hS hB hf => ?_, ?_⟩; (focus (obtain ⟨hbo, k0, k1, k2, k3, k4, k5, k6, k7, k8, k9⟩ := hS.1; clear hS hB hf; go_simp; first | exact ⟨Below.refl _ _, rfl⟩ | exact rfl)); try simp (config := { maxSteps := 10000000 }) only [specV, addF, Act.put, List.setIfInBounds_toArray, List.set_cons_zero, List.set_cons_succ, List.take_succ_cons, List.take_zero, List.drop_succ_cons, List.drop_zero]); (apply Exists.intro; refine ⟨fun vs w1 hS hB hf => ?_, ?_⟩; (focus (obtain ⟨hbo, k0, k1, k2, k3, k4, k5, k6, k7, k8, k9⟩ := hS.1; clear hS hB hf; go_simp; first | exact ⟨Below.refl _ _, rfl⟩ | exact rfl)); try simp (config := { maxSteps := 10000000 }) only [specV, addF, Act.put, List.setIfInBounds_toArray, List.set_cons_zero, List.set_cons_succ, List.take_succ_cons, List.take_zero, List.drop_succ_cons, List.drop_zero]); (apply Exists.intro; refine ⟨fun vs w1 hS hB hf => ?_, ?_⟩; (focus (obtain ⟨hbo, k0, k1, k2, k3, k4, k5, k6, k7, k8, k9⟩ := hS.1; clear hS hB hf; go_simp; first | exact ⟨Below.refl _ _, rfl⟩ | exact rfl)); try simp (config := { maxSteps := 10000000 }) only [specV, addF, Act.put, List.setIfInBounds_toArray, List.set_cons_zero, List.set_cons_succ, List.take_succ_cons, List.take_zero, List.drop_succ_cons, List.drop_zero]); (apply Exists.intro; refine ⟨fun vs w1 hS hB hf => ?_, ?_⟩; (focus (obtain ⟨hbo, k0, k1, k2, k3, k4, k5, k6, k7, k8, k9⟩ := hS.1; clear hS hB hf; go_simp; first | exact ⟨Below.refl _ _, rfl⟩ | exact rfl)); try simp (config := { maxSteps := 10000000 }) only [specV, addF, Act.put, List.setIfInBounds_toArray, List.set_cons_zero, List.set_cons_succ, List.take_succ_cons, List.take_zero, List.drop_succ_cons, List.drop_zero]); (apply Exists.intro; refine ⟨fun vs w1 hS hB hf => ?_, ?_⟩; (focus (obtain ⟨hbo, k0, k1, k2, k3, k4, k5, k6, k7, k8, k9⟩ := hS.1; clear hS hB hf; go_simp; first | exact ⟨Below.refl _ _, rfl⟩ | exact rfl)); try simp (config := { maxSteps := 10000000 }) only [specV, addF, Act.put, List.setIfInBounds_toArray, List.set_cons_zero, List.set_cons_succ, List.take_succ_cons, List.take_zero, List.drop_succ_cons, List.drop_zero]); (apply Exists.intro; refine ⟨fun vs w1 hS hB hf => ?_, ?_⟩; (focus (obtain ⟨hbo, k0, k1, k2, k3, k4, k5, k6, k7, k8, k9⟩ := hS.1; clear hS hB hf; go_simp; first | exact ⟨Below.refl _ _, rfl⟩ | exact rfl)); try simp (config := { maxSteps := 10000000 }) only [specV, addF, Act.put, List.setIfInBounds_toArray, List.set_cons_zero, List.set_cons_succ, List.take_succ_cons, List.take_zero, List.drop_succ_cons, List.drop_zero]); (apply Exists.intro; refine ⟨fun vs w1 hS hB hf => ?_, ?_⟩; (focus (obtain ⟨hbo, k0, k1, k2, k3, k4, k5, k6, k7, k8, k9⟩ := hS.1; clear hS hB hf; go_simp; first | exact ⟨Below.refl _ _, rfl⟩ | exact rfl)); try simp (config := { maxSteps := 10000000 }) only [specV, addF, Act.put, List.setIfInBounds_toArray, List.set_cons_zero, List.set_cons_succ, List.take_succ_cons, List.take_zero, List.drop_succ_cons, List.drop_zero]); (apply Exists.intro; refine ⟨fun vs w1 hS hB hf => ?_, ?_⟩; (focus (obtain ⟨hbo, k0, k1, k2, k3, k4, k5, k6, k7, k8, k9⟩ := hS.1; clear hS hB hf; go_simp; first | exact ⟨Below.refl _ _, rfl⟩ | exact rfl)); try simp (config := { maxSteps := 10000000 }) only [specV, addF, Act.put, List.setIfInBounds_toArray, List.set_cons_zero, List.set_cons_succ, List.take_succ_cons, List.take_zero, List.drop_succ_cons, List.drop_zero]); (apply Exists.intro; refine ⟨fun vs w1 hS hB hf => ?_, ?_⟩; (focus (obtain ⟨hbo, k0, k1, k2, k3, k4, k5, k6, k7, k8, k9⟩ := hS.1; clear hS hB hf; go_simp; first | exact ⟨Below.refl _ _, rfl⟩ | exact rfl)); try simp (config := { maxSteps := 10000000 }) only [specV, addF, Act.put, List.setIfInBounds_toArray, List.set_cons_zero, List.set_cons_succ, List.take_succ_cons, List.take_zero, List.drop_succ_cons, List.drop_zero])
                    intro vs w5 hS hB5 _
                    have S5 := Lib.hid hS.2.1
                    have R5 := Lib.hid hS.2.2
                    clear hS hB5
                    dsimp only
                    go_wp2_with fail
                    refine (tm_storeU b bP D' T' P' ad_ Ao co os _ S5.out.1 HV.out.2.1 R5.out HV.out.2.2.2.2.2.2.2.2.1 (by omega) HNA.out).mono ?_
                    rintro e w6 ⟨rfl, m6, t6⟩
                    have S6 := Lib.hid (S5.out.stored HG.out m6 t6)
                    clear m6 t6 R5
                    go_wp2_with fail
                    go_meet
                    exact ⟨_, _, _, HP'.out, fun z hz => HIT.out z (hit_store SR.out.1.1.1 SR.out.1.1.2.1 ad_ os hz), S6.out⟩
                  · have hw' : ¬ wh < 2 := by omega
                    go_upto_region 20 with fail
                    refine wp_flow_lit 13 (fun w' => OpX w' bo (oo + j * 10) (.slice Ao os.length co) ⟨wh, ad_, os, t, cb', cp, ca, cq, cy, cn⟩ ∧ SA w b bP pm pW s D' T' P' Q dL (runF nd i (onlyB bs j)) i g w') [none, none, none, none, none, none, none, none, none, none, none, none, none]
                      (by kernel_rfl) (by kernel_rfl) ⟨HX.out.below (Below.drew (Below.refl _ _)), SR.out.grow (Below.drew (Below.refl _ _))⟩ (fun w1 w2 h hb => ⟨h.1.below hb, h.2.grow hb⟩) trivial ?_
                    clear k0 hbo
                    try simp (config := { maxSteps := 10000000 }) only [specV, addF, Act.put, List.setIfInBounds_toArray, List.set_cons_zero, List.set_cons_succ, List.take_succ_cons, List.take_zero, List.drop_succ_cons, List.drop_zero]
                    (apply Exists.intro; refine ⟨fun vs w1 hS hB hf => ?_, ?_⟩; (focus (obtain ⟨hbo, k0, k1, k2, k3, k4, k5, k6, k7, k8, k9⟩ := hS.1; clear hS hB hf; go_simp; first | exact ⟨Below.refl _ _, rfl⟩ | exact rfl)); try simp (config := { maxSteps := 10000000 }) only [specV, addF, Act.put, List.setIfInBounds_toArray, List.set_cons_zero, List.set_cons_succ, List.take_succ_cons, List.take_zero, List.drop_succ_cons, List.drop_zero]); (apply Exists.intro; refine ⟨fun vs w1 hS hB hf => ?_, ?_⟩; (focus (obtain ⟨hbo, k0, k1, k2, k3, k4, k5, k6, k7, k8, k9⟩ := hS.1; clear hS hB hf; go_simp; first | exact ⟨Below.refl _ _, rfl⟩ | exact rfl)); try simp (config := { maxSteps := 10000000 }) only [specV, addF, Act.put, List.setIfInBounds_toArray, List.set_cons_zero, List.set_cons_succ, List.take_succ_cons, List.take_zero, List.drop_succ_cons, List.drop_zero]); (apply Exists.intro; refine ⟨fun vs w1 hS hB hf => ?_, ?_⟩; (focus (obtain ⟨hbo, k0, k1, k2, k3, k4, k5, k6, k7, k8, k9⟩ := hS.1; clear hS hB hf; go_simp; first | exact ⟨Below.refl _ _, rfl⟩ | exact rfl)); try simp (config := { maxSteps := 10000000 }) only [specV, addF, Act.put, List.setIfInBounds_toArray, List.set_cons_zero, List.set_cons_succ, List.take_succ_cons, List.take_zero, List.drop_succ_cons, List.drop_zero]); (apply Exists.intro; refine ⟨fun vs w1 hS hB hf => ?_, ?_⟩; (focus (obtain ⟨hbo, k0, k1, k2, k3, k4, k5, k6, k7, k8, k9⟩ := hS.1; clear hS hB hf; go_simp; first | exact ⟨Below.refl _ _, rfl⟩ | exact rfl)); try simp (config := { maxSteps := 10000000 }) only [specV, addF, Act.put, List.setIfInBounds_toArray, List.set_cons_zero, List.set_cons_succ, List.take_succ_cons, List.take_zero, List.drop_succ_cons, List.drop_zero]); (apply Exists.intro; refine ⟨fun vs w1 hS hB hf => ?_, ?_⟩; (focus (obtain ⟨hbo, k0, k1, k2, k3, k4, k5, k6, k7, k8, k9⟩ := hS.1; clear hS hB hf; go_simp; first | exact ⟨Below.refl _ _, rfl⟩ | exact rfl)); try simp (config := { maxSteps := 10000000 }) only [specV, addF, Act.put, List.setIfInBounds_toArray, List.set_cons_zero, List.set_cons_succ, List.take_succ_cons, List.take_zero, List.drop_succ_cons, List.drop_zero]); (apply Exists.intro; refine ⟨fun vs w1 hS hB hf => ?_, ?_⟩; (focus (obtain ⟨hbo, k0, k1, k2, k3, k4, k5, k6, k7, k8, k9⟩ := hS.1; clear hS hB hf; go_simp; first | exact ⟨Below.refl _ _, rfl⟩ | exact rfl)); try simp (config := { maxSteps := 10000000 }) only [specV, addF, Act.put, List.setIfInBounds_toArray, List.set_cons_zero, List.set_cons_succ, List.take_succ_cons, List.take_zero, List.drop_succ_cons, List.drop_zero]); (apply Exists.intro; refine ⟨fun vs w1 hS hB hf => ?_, ?_⟩; (focus (obtain ⟨hbo, k0, k1, k2, k3, k4, k5, k6, k7, k8, k9⟩ := hS.1; clear hS hB hf; go_simp; first | exact ⟨Below.refl _ _, rfl⟩ | exact rfl)); try simp (config := { maxSteps := 10000000 }) only [specV, addF, Act.put, List.setIfInBounds_toArray, List.set_cons_zero, List.set_cons_succ, List.take_succ_cons, List.take_zero, List.drop_succ_cons, List.drop_zero]); (apply Exists.intro; refine ⟨fun vs w1 hS hB hf => ?_, ?_⟩; (focus (obtain ⟨hbo, k0, k1, k2, k3, k4, k5, k6, k7, k8, k9⟩ := hS.1; clear hS hB hf; go_simp; first | exact ⟨Below.refl _ _, rfl⟩ | exact rfl)); try simp (config := { maxSteps := 10000000 }) only [specV, addF, Act.put, List.setIfInBounds_toArray, List.set_cons_zero, List.set_cons_succ, List.take_succ_cons, List.take_zero, List.drop_succ_cons, List.drop_zero]); (apply Exists.intro; refine ⟨fun vs w1 hS hB hf => ?_, ?_⟩; (focus (obtain ⟨hbo, k0, k1, k2, k3, k4, k5, k6, k7, k8, k9⟩ := hS.1; clear hS hB hf; go_simp; first | exact ⟨Below.refl _ _, rfl⟩ | exact rfl)); try simp (config := { maxSteps := 10000000 }) only [specV, addF, Act.put, List.setIfInBounds_toArray, List.set_cons_zero, List.set_cons_succ, List.take_succ_cons, List.take_zero, List.drop_succ_cons, List.drop_zero]); (apply Exists.intro; refine ⟨fun vs w1 hS hB hf => ?_, ?_⟩; (focus (obtain ⟨hbo, k0, k1, k2, k3, k4, k5, k6, k7, k8, k9⟩ := hS.1; clear hS hB hf; go_simp; first | exact ⟨Below.refl _ _, rfl⟩ | exact rfl)); try simp (config := { maxSteps := 10000000 }) only [specV, addF, Act.put, List.setIfInBounds_toArray, List.set_cons_zero, List.set_cons_succ, List.take_succ_cons, List.take_zero, List.drop_succ_cons, List.drop_zero]); (apply Exists.intro; refine ⟨fun vs w1 hS hB hf => ?_, ?_⟩; (focus (obtain ⟨hbo, k0, k1, k2, k3, k4, k5, k6, k7, k8, k9⟩ := hS.1; clear hS hB hf; go_simp; first | exact ⟨Below.refl _ _, rfl⟩ | exact rfl)); try simp (config := { maxSteps := 10000000 }) only [specV, addF, Act.put, List.setIfInBounds_toArray, List.set_cons_zero, List.set_cons_succ, List.take_succ_cons, List.take_zero, List.drop_succ_cons, List.drop_zero])
                    (apply Exists.intro; refine ⟨fun vs w1 hS hB hf => ?_, ?_⟩; (focus (obtain ⟨hbo, k0, k1, k2, k3, k4, k5, k6, k7, k8, k9⟩ := hS.1; clear hS hB hf; go_simp; first | exact ⟨Below.refl _ _, rfl⟩ | exact rfl)); try simp (config := { maxSteps := 10000000 }) only [specV, addF, Act.put, List.setIfInBounds_toArray, List.set_cons_zero, List.set_cons_succ, List.take_succ_cons, List.take_zero, List.drop_succ_cons, List.drop_zero])
                    (apply Exists.intro; refine ⟨fun vs w1 hS hB hf => ?_, ?_⟩; (focus (go_simp; exact (swr_barrier s b pm pW Q [bP, s] dL _ i g t cb' cp ca cq cy w1 hS.2.2.2.1 hS.2.2.1 HV.out.2.2.1 HV.out.2.2.2.1).mono fun e w2 ⟨he, hb⟩ => callPost.of he hb rfl)); try simp (config := { maxSteps := 10000000 }) only [specV, addF, Act.put, List.setIfInBounds_toArray, List.set_cons_zero, List.set_cons_succ, List.take_succ_cons, List.take_zero, List.drop_succ_cons, List.drop_zero])
                    intro vs w5 hS hB5 _
                    have S5 := Lib.hid hS.2
                    clear hS hB5
                    dsimp only
                    have HNH := Lib.hid (hitsB_not Q t cb' cp)
                    generalize (t && !hitsB Q t cb' cp) = t2 at *
                    go_wp2_with fail
                    refine (tm_storecapU b bP D' T' P' ad_ t2 cb' cp ca cq cy _ S5.out.1 HV.out.2.1 HV.out.2.2.2.2.2.1).mono ?_
                    rintro e w6 ⟨rfl, m6, t6⟩
                    have S6 := Lib.hid (S5.out.stored HG.out m6 t6)
                    clear m6 t6
                    go_wp2_with fail
                    go_meet
                    exact ⟨_, _, _, (scP_length _ _ _ _ _ _ _ _).trans HP'.out, fun z hz => HIT.out z (hit_cap SR.out.1.1.1 SR.out.1.1.2.1 ad_ t2 cb' cp ca cq cy HNH.out hz), S6.out⟩
                · have i3 : ¬ (j : Int) < n2 := by omega
                  clear hge
                  go_wp2_with fail
                  go_meet
                  exact ⟨_, _, _, HP'.out, HIT.out, SR.out⟩
              case rest =>
                obtain ⟨D1, T1, P1, hP1, hit1, hS1⟩ := hcut
                have SC := Lib.hid hS1
                have HP1 := Lib.hid hP1
                have HT1 := Lib.hid hit1
                clear hP1 hit1 hS1 SR HP' HIT
                rcases Nat.lt_or_ge j nb with hlt | hge
                · have i4 : (j : Int) < nb := by omega
                  have HLT := Lib.hid hlt
                  have hlt' : j < bs.length := by rw [Hnb.out]; exact hlt
                  have HRR := HRB.out.below SC.out.2.2.2
                  obtain ⟨ba, oa, ca, hva, hca0, hca⟩ := HRR.cells (by omega)
                  cases hva
                  have hk := hca j hlt'
                  have hba : ba < wc.heap.size := World.block_lt_of_cell? wc _ hk
                  obtain ⟨x0, x1⟩ := isB_rdn HBB.out j
                  have HOS := Lib.hid (onlyB_succ bs j hlt')
                  have HON := Lib.hid (fun (W : World) (h : RowU W (.slice (some ⟨ba, oa, none⟩) bs.length cb) bs) => only_none (.slice (some ⟨ba, oa, none⟩) bs.length cb) bs j W h HBB.out hlt' (by rw [Hnb.out]; exact HSB.out))
                  rw [Hnb.out] at HON
                  generalize rdn bs j = x at *
                  have gs := SC.out.step HG.out (by rw [HP1.out]; exact HDP.out) (by have := HGG.out; have := HIL.out; rw [Hnd.out]; omega) x ⟨by omega, by omega⟩
                  rw [Hnd.out] at gs
                  have hmn := stepN_le nd i (runF nd i (onlyB bs j)) x HIL.out
                  rw [run_next HIL.out x0, ← HOS.out] at gs
                  have HHI := Lib.hid (hit_step (P := P1) (dL.drop i) (stepN nd i (runF nd i (onlyB bs j)) x) g (fun p hp => (HDP.out p (List.mem_of_mem_drop hp)).1) HT1.out)
                  rw [List.drop_drop] at HHI
                  have hg2 := swS_gone D1 Q ((dL.drop i).take (stepN nd i (runF nd i (onlyB bs j)) x)) (T1, P1, g)
                  have hp2 := swS_len D1 Q ((dL.drop i).take (stepN nd i (runF nd i (onlyB bs j)) x)) (T1, P1, g)
                  have hl2 : ((dL.drop i).take (stepN nd i (runF nd i (onlyB bs j)) x)).length ≤ stepN nd i (runF nd i (onlyB bs j)) x := by rw [List.length_take]; omega
                  generalize swS D1 Q ((dL.drop i).take (stepN nd i (runF nd i (onlyB bs j)) x)) (T1, P1, g) = SS at *
                  generalize stepN nd i (runF nd i (onlyB bs j)) x = m at *
                  obtain ⟨T3, P3, g3⟩ := SS
                  dsimp only at *
                  have HM := Lib.hid hmn
                  have HG3 := Lib.hid (show g3 ≤ 16 * (i + m) by have := HGG.out; omega)
                  have HP3 := Lib.hid (hp2.trans HP1.out)
                  have hm4 : (m : Int) ≤ 4 := by omega
                  clear hlt hlt' HRR hca hca0 hmn hg2 hp2 hl2 HOS
                  go_wp2_with fail
                  refine gs.mono ?_
                  clear gs hk hba
                  rintro e w6 ⟨rfl, s6⟩
                  have S6 := Lib.hid s6
                  clear s6 SC HT1
                  go_wp2_with fail
                  refine (swr_runs s b pm _ _ _ _ _ _ S6.out.2.2.1).mono ?_
                  rintro e w7 ⟨rfl, rfl⟩
                  rcases (show i + m < nd ∨ (¬ i + m < nd ∧ nd ≠ 0) ∨ (¬ i + m < nd ∧ nd = 0) by omega) with h | ⟨h, h0⟩ | ⟨h, h0⟩
                  · have i5 : (i : Int) + m < nd := by omega
                    rw [show runF nd (i + m) (onlyB bs (j + 1)) = true by unfold runF; rw [decide_eq_true h]; rfl]
                    clear h
                    go_wp2
                    go_roundg (gk - 1)
                    case measure => have := HJ.out; have := HLT.out; omega
                    case rel => exact ⟨j + 1, i + m, g3, _, D1, T3, P3, by have := HJ.out; have := HLT.out; omega, by go_num, by go_num, fun _ => rfl, fun h => by have := HLT.out; omega, HM.out, HG3.out, HP3.out, HHI.out, S6.out⟩
                  · have i5 : ¬ (i : Int) + m < nd := by omega
                    have i6 : ((nd : Int) == 0) = false := by simpa using h0
                    rw [show runF nd (i + m) (onlyB bs (j + 1)) = false by unfold runF; rw [decide_eq_false h, decide_eq_false h0]; rfl]
                    clear h h0
                    go_wp2
                    go_roundg (gk - 1)
                    case measure => have := HJ.out; have := HLT.out; omega
                    case rel => exact ⟨j + 1, i + m, g3, _, D1, T3, P3, by have := HJ.out; have := HLT.out; omega, by go_num, by go_num, fun _ => rfl, fun h => by have := HLT.out; omega, HM.out, HG3.out, HP3.out, HHI.out, S6.out⟩
                  · have i5 : ¬ (i : Int) + m < nd := by omega
                    have i6 : ((nd : Int) == 0) = true := by simpa using h0
                    rw [show runF nd (i + m) (onlyB bs (j + 1)) = onlyB bs (j + 1) by unfold runF; rw [decide_eq_false h, decide_eq_true h0]; rfl]
                    clear h h0
                    cases ho : onlyB bs (j + 1) with
                    | false =>
                      have hon := HON.out w6 (HRB.out.below S6.out.2.2.2)
                      rw [ho] at hon
                      clear ho
                      go_wp2_with fail
                      refine hon.mono ?_
                      clear hon
                      rintro e w8 ⟨rfl, rfl⟩
                      go_wp2
                      go_roundg (gk - 1)
                      case measure => have := HJ.out; have := HLT.out; omega
                      case rel => exact ⟨j + 1, i + m, g3, _, D1, T3, P3, by have := HJ.out; have := HLT.out; omega, by go_num, by go_num, fun _ => rfl, fun h => by have := HLT.out; omega, HM.out, HG3.out, HP3.out, HHI.out, S6.out⟩
                    | true =>
                      have hon := HON.out w6 (HRB.out.below S6.out.2.2.2)
                      rw [ho] at hon
                      clear ho
                      go_wp2_with fail
                      refine hon.mono ?_
                      clear hon
                      rintro e w8 ⟨rfl, rfl⟩
                      go_wp2
                      go_roundg (gk - 1)
                      case measure => have := HJ.out; have := HLT.out; omega
                      case rel => exact ⟨j + 1, i + m, g3, _, D1, T3, P3, by have := HJ.out; have := HLT.out; omega, by go_num, by go_num, fun _ => rfl, fun h => by have := HLT.out; omega, HM.out, HG3.out, HP3.out, HHI.out, S6.out⟩
                · have i4 : ¬ (j : Int) < nb := by omega
                  have hjn : j = nb := by have := HLE.out; omega
                  have gs := SC.out.step HG.out (by rw [HP1.out]; exact HDP.out) (by have := HGG.out; have := HIL.out; rw [Hnd.out]; omega) 99 ⟨by decide, by decide⟩
                  rw [Hnd.out] at gs
                  obtain ⟨z1, z2⟩ := last_99 HND.out HIL.out (runF_or (ob := onlyB bs j) HIL.out)
                  rw [z2] at gs
                  have HHI := Lib.hid (hit_step (P := P1) (dL.drop i) (stepN nd i (runF nd i (onlyB bs j)) 99) g (fun p hp => (HDP.out p (List.mem_of_mem_drop hp)).1) HT1.out)
                  rw [List.drop_drop] at HHI
                  have hg2 := swS_gone D1 Q ((dL.drop i).take (stepN nd i (runF nd i (onlyB bs j)) 99)) (T1, P1, g)
                  have hp2 := swS_len D1 Q ((dL.drop i).take (stepN nd i (runF nd i (onlyB bs j)) 99)) (T1, P1, g)
                  have hl2 : ((dL.drop i).take (stepN nd i (runF nd i (onlyB bs j)) 99)).length ≤ stepN nd i (runF nd i (onlyB bs j)) 99 := by rw [List.length_take]; omega
                  generalize swS D1 Q ((dL.drop i).take (stepN nd i (runF nd i (onlyB bs j)) 99)) (T1, P1, g) = SS at *
                  generalize stepN nd i (runF nd i (onlyB bs j)) 99 = m at *
                  obtain ⟨T3, P3, g3⟩ := SS
                  dsimp only at *
                  have HZ := Lib.hid z1
                  have HG3 := Lib.hid (show g3 ≤ 16 * (i + m) by have := HGG.out; omega)
                  have HP3 := Lib.hid (hp2.trans HP1.out)
                  have hm4 : (m : Int) ≤ 4 := by omega
                  have i5 : ¬ (i : Int) + m < nd := by omega
                  have HJN := Lib.hid hjn
                  clear hge hjn z1 z2 hg2 hp2 hl2
                  go_wp2_with fail
                  refine gs.mono ?_
                  clear gs
                  rintro e w6 ⟨rfl, s6⟩
                  have S6 := Lib.hid s6
                  clear s6 SC HT1
                  go_wp2_with fail
                  refine (swr_runs s b pm _ _ _ _ _ _ S6.out.2.2.1).mono ?_
                  rintro e w7 ⟨rfl, rfl⟩
                  rcases (show nd ≠ 0 ∨ nd = 0 by omega) with h0 | h0
                  · have i6 : ((nd : Int) == 0) = false := by simpa using h0
                    clear h0
                    go_wp2
                    go_roundg (gk - 1)
                    case measure => have := HJ.out; have := HJN.out; omega
                    case rel => exact ⟨j + 1, i + m, g3, false, D1, T3, P3, by have := HJ.out; have := HJN.out; omega, by go_num, by go_num, fun h => by have := HJN.out; omega, fun _ => ⟨rfl, HZ.out⟩, Nat.le_of_eq HZ.out, HG3.out, HP3.out, HHI.out, S6.out⟩
                  · have i6 : ((nd : Int) == 0) = true := by simpa using h0
                    clear h0
                    go_wp2
                    go_roundg (gk - 1)
                    case measure => have := HJ.out; have := HJN.out; omega
                    case rel => exact ⟨j + 1, i + m, g3, false, D1, T3, P3, by have := HJ.out; have := HJN.out; omega, by go_num, by go_num, fun h => by have := HJN.out; omega, fun _ => ⟨rfl, HZ.out⟩, Nat.le_of_eq HZ.out, HG3.out, HP3.out, HHI.out, S6.out⟩
end Go.Proofs.Ytjimkkkiilcpoaa.SweepAll
