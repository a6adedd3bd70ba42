/-
  TagmemBack: for every slice of calls, address, slice of bytes and capability the law returns true, and each argument reads as it did. Condition: none.
-/
import Derived.Test.YtjimkkkiilcpoaaRows
import Derived.Test.YtjimkkkiilcpoaaTmU
import Derived.Test.YtjimkkkiilcpoaaEncM
import Derived.Test.YtjimkkkiilcpoaaFlowH
import Derived.ChangeOld
import Derived.Deep.DeepCutAuto
import Derived.Deep.CutBlock
set_option linter.unusedVariables false
set_option linter.unusedSimpArgs false
namespace Go.Proofs.Ytjimkkkiilcpoaa.TagmemBack
open Go.ChangeShapes Go.WideShapes Go.ChangeAt Go.RowKit Go.Proofs.Ytjimkkkiilcpoaa

theorem own : ownKnob Try.prog.godebug = none := by kernel_rfl
theorem laidOut : laidOutB Try.prog = true := by kernel_rfl

/-- The memory, the capability's box, what was there. -/
def Sb (w : World) (b bP kb : Nat) (cs : Array Value) (D : List Int) (T P : List Bool) (W : World) : Prop :=
  TmM W b bP D T P ∧ Below w.heap.size w W ∧ Blk W kb cs 23
theorem Sb.grow {w : World} {b bP kb : Nat} {cs : Array Value} {D : List Int} {T P : List Bool} {W W1 : World} (h : Sb w b bP kb cs D T P W) (hb : Below W.heap.size W W1) : Sb w b bP kb cs D T P W1 :=
  ⟨h.1.grow hb, below_then h.2.1 h.2.1.size hb, h.2.2.below hb h.2.2.lt⟩
theorem Sb.turns {w : World} {b bP kb : Nat} {cs : Array Value} {D D1 : List Int} {T P T1 P1 : List Bool} {W W1 : World} (h : Sb w b bP kb cs D T P W) (h1 : TmM W1 b bP D1 T1 P1) (ht : Turns [bP] W W1) (hP : w.heap.size ≤ bP ∧ kb ≠ bP) : Sb w b bP kb cs D1 T1 P1 W1 :=
  ⟨h1, below_turns h.2.1 ht (by simpa using hP.1), h.2.2.turns ht (by simpa using hP.2)⟩

theorem partL_write (D : List Int) (a : Nat) (bs : List Int) (h : a + bs.length ≤ D.length) : partL (writeL D a bs) a bs.length = bs := by
  have hl : (D.take a).length = a := by rw [List.length_take]; omega
  unfold partL writeL
  rw [List.append_assoc, List.drop_append_of_le_length (by omega), List.drop_of_length_le (by omega), List.nil_append, List.take_append_of_le_length (Nat.le_refl _), List.take_of_length_le (Nat.le_refl _)]
theorem ld_put {D : List Int} {T : List Bool} {j : Nat} {t : Bool} {b p a q y : Int} (hr : rightB t b p a q y = true) (hD : j + 16 ≤ D.length) (hT : j / 16 < T.length) :
    ldC (writeL D j (putL t b p a q y)) (T.set (j / 16) t) j = (t, b, p, a, q, y) := by
  have hl := putL_len hr
  have e := partL_write D j (putL t b p a q y) (by omega)
  rw [hl] at e
  obtain ⟨g1, g2, g3, g4, g5, g6, _⟩ := got_put hr t
  unfold ldC
  rw [e, g2, g3, g4, g5, g6, getD_setL _ _ _ _ _ hT, if_pos rfl, g1, right_tag hr]
theorem take_set {cur : Array Value} {X : List Int} {n : Nat} (h : cur.toList.take n = u8s X) (p : Nat) (y : Int) : (cur.setIfInBounds p (.int .u8 y)).toList.take n = u8s (X.set p y) := by
  rw [Array.toList_setIfInBounds, List.take_set, h]
  simp [u8s, List.map_set]

theorem scD_again {n : Nat} {D : List Int} (hD : D.length = 256 * n) (at_ : Int) (t : Bool) (b p a q y : Int) : scD n (scD n D at_ t b p a q y) at_ t b p a q y = scD n D at_ t b p a q y := by
  unfold scD
  cases hs : scB n at_ t b p a q y with
  | false => rfl
  | true =>
    rw [if_pos rfl, if_pos rfl]
    rw [scB, Bool.and_eq_true] at hs
    obtain ⟨i, k, hi, hk, rfl⟩ := pl_split hs.1
    exact writeL_again _ _ _ (by rw [putL_len hs.2, Int.toNat_natCast]; omega)
theorem scT_again (n : Nat) (T : List Bool) (at_ : Int) (t : Bool) (b p a q y : Int) : scT n (scT n T at_ t b p a q y) at_ t b p a q y = scT n T at_ t b p a q y := by
  unfold scT
  split <;> simp
theorem scP_again (P : List Bool) (at_ : Int) (t : Bool) (b p a q y : Int) : scP (scP P at_ t b p a q y) at_ t b p a q y = scP P at_ t b p a q y := by
  have h := scP_length P at_ t b p a q y
  rw [show scP (scP P at_ t b p a q y) at_ t b p a q y = if scB (scP P at_ t b p a q y).length at_ t b p a q y && t then (scP P at_ t b p a q y).set (at_ / 256).toNat true else scP P at_ t b p a q y from rfl, h]
  unfold scP
  split <;> simp
/-- StoreCap in a world where it may have been done. -/
theorem storecap_twice (mb bP : Nat) (D : List Int) (T P : List Bool) (at_ : Int) (t : Bool) (b p a q y : Int) (w : World) (h : TmM w mb bP D T P ∨ TmM w mb bP (scD P.length D at_ t b p a q y) (scT P.length T at_ t b p a q y) (scP P at_ t b p a q y)) (hD : D.length = 256 * P.length) (ha : inI at_) (hq : inI q) :
    Calls Try.prog 49 #[.pointer (some ⟨mb, 0, none⟩), .int .i64 at_, .agg #[.bool (t), .int .i64 (b), .int .i64 (p), .int .i64 (a), .int .i64 (q), .int .i64 (y)]] w fun e w' => e = .returned (.bool (scB P.length at_ t b p a q y)) ∧
      TmM w' mb bP (scD P.length D at_ t b p a q y) (scT P.length T at_ t b p a q y) (scP P at_ t b p a q y) ∧ Turns [bP] w w' := by
  rcases h with h | h
  · exact tm_storecapU mb bP D T P at_ t b p a q y w h ha hq
  · have g := tm_storecapU mb bP _ _ _ at_ t b p a q y w h ha hq
    rw [scP_again, scP_length, scT_again, scD_again hD] at g
    exact g
theorem tm_loadcapU (mb bP : Nat) (D : List Int) (T P : List Bool) (a : Nat) (w : World) (h : TmM w mb bP D T P) (hp : plB P.length (a : Int) = true) :
    Calls Try.prog 57 #[.pointer (some ⟨mb, 0, none⟩), .int .i64 a] w fun e w' => e = .returned (.tuple #[capV (ldC D T a), .bool true]) ∧ Below w.heap.size w w' := by
  obtain ⟨i, k, hi, hk, e⟩ := pl_split hp
  have e : a = i * 256 + k * 16 := by omega
  subst e
  exact tm_loadcap mb bP D T P i k w h hi hk

set_option maxRecDepth 100000 in
set_option maxHeartbeats 3200000 in
theorem walk (v : Value) (L : List Op7) (at_ : Int) (vb : Value) (bs : List Int) (t0 : Bool) (b0 p0 a0 q0 y0 : Int) (w : World) (ho : OpsM w v L) (hat : (Lit.int .u16 at_).wf = true) (hrb : RowU w vb bs) (hbb : isB bs) (hbm : bs.length ≤ maxLen)
    (ib : inI b0) (ip : inI p0) (ia : inI a0) (iq : inI q0) (iy : inI y0) :
    Calls Try.prog 15 #[v, .int .u16 at_, vb, .agg #[.bool (t0), .int .i64 (b0), .int .i64 (p0), .int .i64 (a0), .int .i64 (q0), .int .i64 (y0)]] w fun e w' => e = .returned (.bool true) ∧ Below w.heap.size w w' := by
  obtain ⟨x0, x1⟩ : 0 ≤ at_ ∧ at_ ≤ 65535 := by simpa [Lit.wf, IntKind.min, IntKind.max, IntKind.bits, IntKind.signed] using hat
  clear hat
  obtain ⟨am, rfl⟩ := Int.eq_ofNat_of_zero_le x0
  obtain ⟨A, c, rfl⟩ : ∃ A c, v = .slice A L.length c := ho.form
  obtain ⟨Ab, cb, rfl, hrd, hcb⟩ := id hrb
  clear hrd
  have HRA := Lib.hid hrb.apart
  have HBB := Lib.hid hbb
  have HII := Lib.hid (And.intro ib (And.intro ip (And.intro ia (And.intro iq iy))))
  clear hbb hbm ib ip ia iq iy
  have HO := Lib.hid ho
  have HRB := Lib.hid hrb
  clear ho hrb
  generalize hn : L.length = n at *
  have Hn := Lib.hid hn
  clear hn
  go_enter Try.func15, Try.ntmps15
  go_wp2_with fail
  obtain ⟨W0, hW0⟩ : ∃ W0, w.alloc (.cells #[.bool (t0), .int .i64 (b0), .int .i64 (p0), .int .i64 (a0), .int .i64 (q0), .int .i64 (y0)] 23) = W0 := ⟨_, rfl⟩
  have k0 : Blk W0 w.heap.size #[.bool (t0), .int .i64 (b0), .int .i64 (p0), .int .i64 (a0), .int .i64 (q0), .int .i64 (y0)] 23 := by rw [← hW0]; exact Blk.new _ _ _
  have b0 : Below w.heap.size w W0 := by rw [← hW0]; go_grown
  rw [hW0]
  clear hW0
  refine (head7_true _).mono ?_
  rintro e w1 ⟨rfl, B1⟩
  have K1 := Lib.hid (k0.below B1 k0.lt)
  have B1 := Lib.hid (below_then b0 b0.size B1)
  obtain ⟨kb, hkb⟩ : ∃ kb, w.heap.size = kb := ⟨_, rfl⟩
  have HKB := Lib.hid hkb
  rw [hkb] at K1 ⊢
  clear hkb k0 b0
  go_wp2_with fail
  refine (tm_new 4 _ (by decide) (by decide)).mono ?_
  rintro e w2 ⟨b, bP, rfl, m2, gP, gb, B2⟩
  have HS := Lib.hid (show Sb w b bP kb #[.bool (t0), .int .i64 (b0), .int .i64 (p0), .int .i64 (a0), .int .i64 (q0), .int .i64 (y0)] _ _ _ w2 from ⟨m2, below_then B1.out B1.out.size B2, K1.out.below B2 K1.out.lt⟩)
  have HG := Lib.hid (show w.heap.size ≤ bP ∧ kb ≠ bP by have := B1.out.size; have := K1.out.lt; omega)
  have hgr := great_any (.slice A n c) L w2 (HO.out.below HS.out.2.1)
  have HGR := Lib.hid (great_no (L := L))
  clear B1 B2 m2 gP gb K1
  go_wp2_with fail
  refine hgr.mono ?_
  rintro e w3 ⟨rfl, rfl⟩
  clear hgr
  cases hgb : greatB L with
  | true =>
    clear hgb
    go_wp2
    go_ret
    exact ⟨rfl, HS.out.2.1⟩
  | false =>
    obtain ⟨hn200, hbs⟩ := HGR.out hgb
    have HBS := Lib.hid hbs
    rw [Hn.out] at hn200
    have HN200 : (n : Int) ≤ 200 := by omega
    clear hgb HGR hn200 hbs
    rcases Nat.lt_or_ge 1000 bs.length with hbig | hsm
    · have i0 : (1000 : Int) < bs.length := by omega
      go_wp2
      go_ret
      exact ⟨rfl, HS.out.2.1⟩
    · have i0 : ¬ (1000 : Int) < bs.length := by omega
      go_wp2
      go_loopg [11] n (fun gk v11 wr => ∃ (j : Nat) (D : List Int) (T P : List Bool), j + gk = n ∧ v11 = .int .i64 j ∧ P.length = 4 ∧ Sb w b bP kb #[.bool (t0), .int .i64 (b0), .int .i64 (p0), .int .i64 (a0), .int .i64 (q0), .int .i64 (y0)] D T P wr)
      case atStart => exact ⟨0, _, _, _, by omega, rfl, by simp, HS.out⟩
      case round =>
        obtain ⟨j, D, T, P, hjk, rfl, hP, hS⟩ := hrel
        have HJ := Lib.hid hjk
        have HP := Lib.hid hP
        have HS2 := Lib.hid hS
        clear hjk hP hS HS
        rcases Nat.lt_or_ge j n with hlt | hge
        · have i1 : (j : Int) < n := by omega
          obtain ⟨op, hop⟩ : ∃ op, L[j]? = some op := ⟨_, List.getElem?_eq_getElem (by rw [Hn.out]; exact hlt)⟩
          have hb9 := HBS.out op (List.mem_of_getElem? hop)
          obtain ⟨bo, oo, Ao, co, rfl, hq, hopv, hro, hna, hnb, hx⟩ := HO.out.getX HS2.out.2.1 hop
          have HV := Lib.hid hopv
          have HR0 := Lib.hid hro
          have HNA := Lib.hid (hna bP HG.out.1)
          have HX := Lib.hid hx
          have HLT := Lib.hid hlt
          obtain ⟨wh, ad_, os, t, cb', cp, ca, cq, cy, cn⟩ := op
          dsimp only at *
          obtain ⟨hbo, k0, _⟩ := id hx
          clear hlt hop hopv hnb hx hro hna
          rcases (show wh < 2 ∨ 2 ≤ wh by omega) with hw | hw
          · go_upto_region 9 with fail
            refine wp_flow_lit 11 (fun w' => OpX w' bo (oo + j * 10) (.slice Ao os.length co) ⟨wh, ad_, os, t, cb', cp, ca, cq, cy, cn⟩ ∧ Sb w b bP kb #[.bool (t0), .int .i64 (b0), .int .i64 (p0), .int .i64 (a0), .int .i64 (q0), .int .i64 (y0)] D T P w' ∧ RowU w' (.slice Ao os.length co) os) [none, none, none, none, none, none, none, none, none, none, none]
              (by kernel_rfl) (by kernel_rfl) ⟨HX.out.below (Below.drew (Below.refl _ _)), HS2.out.grow (Below.drew (Below.refl _ _)), HR0.out.below (Below.drew (Below.refl _ _))⟩ (fun w1 w2 h hb => ⟨h.1.below hb, h.2.1.grow hb, h.2.2.below hb⟩) trivial ?_
            clear k0 hbo
            try simp (config := { maxSteps := 10000000 }) only [specV, addF, Act.put, List.setIfInBounds_toArray, List.set_cons_zero, List.set_cons_succ, List.take_succ_cons, List.take_zero, List.drop_succ_cons, List.drop_zero]
            (apply Exists.intro; refine ⟨fun vs w1 hS hB hf => ?_, ?_⟩; (focus (obtain ⟨hbo, k0, k1, k2, k3, k4, k5, k6, k7, k8, k9⟩ := hS.1; clear hS hB hf; go_simp; first | exact ⟨Below.refl _ _, rfl⟩ | exact rfl)); try simp (config := { maxSteps := 10000000 }) only [specV, addF, Act.put, List.setIfInBounds_toArray, List.set_cons_zero, List.set_cons_succ, List.take_succ_cons, List.take_zero, List.drop_succ_cons, List.drop_zero]); (apply Exists.intro; refine ⟨fun vs w1 hS hB hf => ?_, ?_⟩; (focus (obtain ⟨hbo, k0, k1, k2, k3, k4, k5, k6, k7, k8, k9⟩ := hS.1; clear hS hB hf; go_simp; first | exact ⟨Below.refl _ _, rfl⟩ | exact rfl)); try simp (config := { maxSteps := 10000000 }) only [specV, addF, Act.put, List.setIfInBounds_toArray, List.set_cons_zero, List.set_cons_succ, List.take_succ_cons, List.take_zero, List.drop_succ_cons, List.drop_zero]); (apply Exists.intro; refine ⟨fun vs w1 hS hB hf => ?_, ?_⟩; (focus (obtain ⟨hbo, k0, k1, k2, k3, k4, k5, k6, k7, k8, k9⟩ := hS.1; clear hS hB hf; go_simp; first | exact ⟨Below.refl _ _, rfl⟩ | exact rfl)); try simp (config := { maxSteps := 10000000 }) only [specV, addF, Act.put, List.setIfInBounds_toArray, List.set_cons_zero, List.set_cons_succ, List.take_succ_cons, List.take_zero, List.drop_succ_cons, List.drop_zero]); (apply Exists.intro; refine ⟨fun vs w1 hS hB hf => ?_, ?_⟩; (focus (obtain ⟨hbo, k0, k1, k2, k3, k4, k5, k6, k7, k8, k9⟩ := hS.1; clear hS hB hf; go_simp; first | exact ⟨Below.refl _ _, rfl⟩ | exact rfl)); try simp (config := { maxSteps := 10000000 }) only [specV, addF, Act.put, List.setIfInBounds_toArray, List.set_cons_zero, List.set_cons_succ, List.take_succ_cons, List.take_zero, List.drop_succ_cons, List.drop_zero]); (apply Exists.intro; refine ⟨fun vs w1 hS hB hf => ?_, ?_⟩; (focus (obtain ⟨hbo, k0, k1, k2, k3, k4, k5, k6, k7, k8, k9⟩ := hS.1; clear hS hB hf; go_simp; first | exact ⟨Below.refl _ _, rfl⟩ | exact rfl)); try simp (config := { maxSteps := 10000000 }) only [specV, addF, Act.put, List.setIfInBounds_toArray, List.set_cons_zero, List.set_cons_succ, List.take_succ_cons, List.take_zero, List.drop_succ_cons, List.drop_zero]); (apply Exists.intro; refine ⟨fun vs w1 hS hB hf => ?_, ?_⟩; (focus (obtain ⟨hbo, k0, k1, k2, k3, k4, k5, k6, k7, k8, k9⟩ := hS.1; clear hS hB hf; go_simp; first | exact ⟨Below.refl _ _, rfl⟩ | exact rfl)); try simp (config := { maxSteps := 10000000 }) only [specV, addF, Act.put, List.setIfInBounds_toArray, List.set_cons_zero, List.set_cons_succ, List.take_succ_cons, List.take_zero, List.drop_succ_cons, List.drop_zero]); (apply Exists.intro; refine ⟨fun vs w1 hS hB hf => ?_, ?_⟩; (focus (obtain ⟨hbo, k0, k1, k2, k3, k4, k5, k6, k7, k8, k9⟩ := hS.1; clear hS hB hf; go_simp; first | exact ⟨Below.refl _ _, rfl⟩ | exact rfl)); try simp (config := { maxSteps := 10000000 }) only [specV, addF, Act.put, List.setIfInBounds_toArray, List.set_cons_zero, List.set_cons_succ, List.take_succ_cons, List.take_zero, List.drop_succ_cons, List.drop_zero]); (apply Exists.intro; refine ⟨fun vs w1 hS hB hf => ?_, ?_⟩; (focus (obtain ⟨hbo, k0, k1, k2, k3, k4, k5, k6, k7, k8, k9⟩ := hS.1; clear hS hB hf; go_simp; first | exact ⟨Below.refl _ _, rfl⟩ | exact rfl)); try simp (config := { maxSteps := 10000000 }) only [specV, addF, Act.put, List.setIfInBounds_toArray, List.set_cons_zero, List.set_cons_succ, List.take_succ_cons, List.take_zero, List.drop_succ_cons, List.drop_zero]); (apply Exists.intro; refine ⟨fun vs w1 hS hB hf => ?_, ?_⟩; (focus (obtain ⟨hbo, k0, k1, k2, k3, k4, k5, k6, k7, k8, k9⟩ := hS.1; clear hS hB hf; go_simp; first | exact ⟨Below.refl _ _, rfl⟩ | exact rfl)); try simp (config := { maxSteps := 10000000 }) only [specV, addF, Act.put, List.setIfInBounds_toArray, List.set_cons_zero, List.set_cons_succ, List.take_succ_cons, List.take_zero, List.drop_succ_cons, List.drop_zero]); (apply Exists.intro; refine ⟨fun vs w1 hS hB hf => ?_, ?_⟩; (focus (obtain ⟨hbo, k0, k1, k2, k3, k4, k5, k6, k7, k8, k9⟩ := hS.1; clear hS hB hf; go_simp; first | exact ⟨Below.refl _ _, rfl⟩ | exact rfl)); try simp (config := { maxSteps := 10000000 }) only [specV, addF, Act.put, List.setIfInBounds_toArray, List.set_cons_zero, List.set_cons_succ, List.take_succ_cons, List.take_zero, List.drop_succ_cons, List.drop_zero]); (apply Exists.intro; refine ⟨fun vs w1 hS hB hf => ?_, ?_⟩; (focus (obtain ⟨hbo, k0, k1, k2, k3, k4, k5, k6, k7, k8, k9⟩ := hS.1; clear hS hB hf; go_simp; first | exact ⟨Below.refl _ _, rfl⟩ | exact rfl)); try simp (config := { maxSteps := 10000000 }) only [specV, addF, Act.put, List.setIfInBounds_toArray, List.set_cons_zero, List.set_cons_succ, List.take_succ_cons, List.take_zero, List.drop_succ_cons, List.drop_zero])
            intro vs w5 hS hB5 _
            have S5 := Lib.hid hS.2.1
            have R5 := Lib.hid hS.2.2
            clear hS hB5
            dsimp only
            go_wp2_with fail
            refine (tm_storeU b bP D T P ad_ Ao co os _ S5.out.1 HV.out.2.1 R5.out HV.out.2.2.2.2.2.2.2.2.1 (by omega) HNA.out).mono ?_
            rintro e w6 ⟨rfl, m6, t6⟩
            have S6 := Lib.hid (S5.out.turns m6 t6 HG.out)
            clear S5 m6 t6 R5
            go_wp2
            go_roundg (gk - 1)
            case measure => have := HJ.out; have := HLT.out; omega
            case rel => exact ⟨j + 1, _, _, _, by have := HJ.out; have := HLT.out; omega, by go_num, HP.out, S6.out⟩
          · have hw' : ¬ wh < 2 := by omega
            go_upto_region 10 with fail
            refine wp_flow_lit 11 (fun w' => OpX w' bo (oo + j * 10) (.slice Ao os.length co) ⟨wh, ad_, os, t, cb', cp, ca, cq, cy, cn⟩ ∧ Sb w b bP kb #[.bool (t0), .int .i64 (b0), .int .i64 (p0), .int .i64 (a0), .int .i64 (q0), .int .i64 (y0)] D T P w') [none, none, none, none, none, none, none, none, none, none, none]
              (by kernel_rfl) (by kernel_rfl) ⟨HX.out.below (Below.drew (Below.refl _ _)), HS2.out.grow (Below.drew (Below.refl _ _))⟩ (fun w1 w2 h hb => ⟨h.1.below hb, h.2.grow hb⟩) trivial ?_
            clear k0 hbo
            try simp (config := { maxSteps := 10000000 }) only [specV, addF, Act.put, List.setIfInBounds_toArray, List.set_cons_zero, List.set_cons_succ, List.take_succ_cons, List.take_zero, List.drop_succ_cons, List.drop_zero]
            (apply Exists.intro; refine ⟨fun vs w1 hS hB hf => ?_, ?_⟩; (focus (obtain ⟨hbo, k0, k1, k2, k3, k4, k5, k6, k7, k8, k9⟩ := hS.1; clear hS hB hf; go_simp; first | exact ⟨Below.refl _ _, rfl⟩ | exact rfl)); try simp (config := { maxSteps := 10000000 }) only [specV, addF, Act.put, List.setIfInBounds_toArray, List.set_cons_zero, List.set_cons_succ, List.take_succ_cons, List.take_zero, List.drop_succ_cons, List.drop_zero]); (apply Exists.intro; refine ⟨fun vs w1 hS hB hf => ?_, ?_⟩; (focus (obtain ⟨hbo, k0, k1, k2, k3, k4, k5, k6, k7, k8, k9⟩ := hS.1; clear hS hB hf; go_simp; first | exact ⟨Below.refl _ _, rfl⟩ | exact rfl)); try simp (config := { maxSteps := 10000000 }) only [specV, addF, Act.put, List.setIfInBounds_toArray, List.set_cons_zero, List.set_cons_succ, List.take_succ_cons, List.take_zero, List.drop_succ_cons, List.drop_zero]); (apply Exists.intro; refine ⟨fun vs w1 hS hB hf => ?_, ?_⟩; (focus (obtain ⟨hbo, k0, k1, k2, k3, k4, k5, k6, k7, k8, k9⟩ := hS.1; clear hS hB hf; go_simp; first | exact ⟨Below.refl _ _, rfl⟩ | exact rfl)); try simp (config := { maxSteps := 10000000 }) only [specV, addF, Act.put, List.setIfInBounds_toArray, List.set_cons_zero, List.set_cons_succ, List.take_succ_cons, List.take_zero, List.drop_succ_cons, List.drop_zero]); (apply Exists.intro; refine ⟨fun vs w1 hS hB hf => ?_, ?_⟩; (focus (obtain ⟨hbo, k0, k1, k2, k3, k4, k5, k6, k7, k8, k9⟩ := hS.1; clear hS hB hf; go_simp; first | exact ⟨Below.refl _ _, rfl⟩ | exact rfl)); try simp (config := { maxSteps := 10000000 }) only [specV, addF, Act.put, List.setIfInBounds_toArray, List.set_cons_zero, List.set_cons_succ, List.take_succ_cons, List.take_zero, List.drop_succ_cons, List.drop_zero]); (apply Exists.intro; refine ⟨fun vs w1 hS hB hf => ?_, ?_⟩; (focus (obtain ⟨hbo, k0, k1, k2, k3, k4, k5, k6, k7, k8, k9⟩ := hS.1; clear hS hB hf; go_simp; first | exact ⟨Below.refl _ _, rfl⟩ | exact rfl)); try simp (config := { maxSteps := 10000000 }) only [specV, addF, Act.put, List.setIfInBounds_toArray, List.set_cons_zero, List.set_cons_succ, List.take_succ_cons, List.take_zero, List.drop_succ_cons, List.drop_zero]); (apply Exists.intro; refine ⟨fun vs w1 hS hB hf => ?_, ?_⟩; (focus (obtain ⟨hbo, k0, k1, k2, k3, k4, k5, k6, k7, k8, k9⟩ := hS.1; clear hS hB hf; go_simp; first | exact ⟨Below.refl _ _, rfl⟩ | exact rfl)); try simp (config := { maxSteps := 10000000 }) only [specV, addF, Act.put, List.setIfInBounds_toArray, List.set_cons_zero, List.set_cons_succ, List.take_succ_cons, List.take_zero, List.drop_succ_cons, List.drop_zero]); (apply Exists.intro; refine ⟨fun vs w1 hS hB hf => ?_, ?_⟩; (focus (obtain ⟨hbo, k0, k1, k2, k3, k4, k5, k6, k7, k8, k9⟩ := hS.1; clear hS hB hf; go_simp; first | exact ⟨Below.refl _ _, rfl⟩ | exact rfl)); try simp (config := { maxSteps := 10000000 }) only [specV, addF, Act.put, List.setIfInBounds_toArray, List.set_cons_zero, List.set_cons_succ, List.take_succ_cons, List.take_zero, List.drop_succ_cons, List.drop_zero]); (apply Exists.intro; refine ⟨fun vs w1 hS hB hf => ?_, ?_⟩; (focus (obtain ⟨hbo, k0, k1, k2, k3, k4, k5, k6, k7, k8, k9⟩ := hS.1; clear hS hB hf; go_simp; first | exact ⟨Below.refl _ _, rfl⟩ | exact rfl)); try simp (config := { maxSteps := 10000000 }) only [specV, addF, Act.put, List.setIfInBounds_toArray, List.set_cons_zero, List.set_cons_succ, List.take_succ_cons, List.take_zero, List.drop_succ_cons, List.drop_zero]); (apply Exists.intro; refine ⟨fun vs w1 hS hB hf => ?_, ?_⟩; (focus (obtain ⟨hbo, k0, k1, k2, k3, k4, k5, k6, k7, k8, k9⟩ := hS.1; clear hS hB hf; go_simp; first | exact ⟨Below.refl _ _, rfl⟩ | exact rfl)); try simp (config := { maxSteps := 10000000 }) only [specV, addF, Act.put, List.setIfInBounds_toArray, List.set_cons_zero, List.set_cons_succ, List.take_succ_cons, List.take_zero, List.drop_succ_cons, List.drop_zero]); (apply Exists.intro; refine ⟨fun vs w1 hS hB hf => ?_, ?_⟩; (focus (obtain ⟨hbo, k0, k1, k2, k3, k4, k5, k6, k7, k8, k9⟩ := hS.1; clear hS hB hf; go_simp; first | exact ⟨Below.refl _ _, rfl⟩ | exact rfl)); try simp (config := { maxSteps := 10000000 }) only [specV, addF, Act.put, List.setIfInBounds_toArray, List.set_cons_zero, List.set_cons_succ, List.take_succ_cons, List.take_zero, List.drop_succ_cons, List.drop_zero]); (apply Exists.intro; refine ⟨fun vs w1 hS hB hf => ?_, ?_⟩; (focus (obtain ⟨hbo, k0, k1, k2, k3, k4, k5, k6, k7, k8, k9⟩ := hS.1; clear hS hB hf; go_simp; first | exact ⟨Below.refl _ _, rfl⟩ | exact rfl)); try simp (config := { maxSteps := 10000000 }) only [specV, addF, Act.put, List.setIfInBounds_toArray, List.set_cons_zero, List.set_cons_succ, List.take_succ_cons, List.take_zero, List.drop_succ_cons, List.drop_zero])
            intro vs w5 hS hB5 _
            have S5 := Lib.hid hS.2
            clear hS hB5
            dsimp only
            go_wp2_with fail
            refine (tm_storecapU b bP D T P ad_ t cb' cp ca cq cy _ S5.out.1 HV.out.2.1 HV.out.2.2.2.2.2.1).mono ?_
            rintro e w6 ⟨rfl, m6, t6⟩
            have S6 := Lib.hid (S5.out.turns m6 t6 HG.out)
            clear S5 m6 t6
            go_wp2
            go_roundg (gk - 1)
            case measure => have := HJ.out; have := HLT.out; omega
            case rel => exact ⟨j + 1, _, _, _, by have := HJ.out; have := HLT.out; omega, by go_num, (scP_length _ _ _ _ _ _ _ _).trans HP.out, S6.out⟩
        · have i1 : ¬ (j : Int) < n := by omega
          clear hge
          obtain ⟨ar, har⟩ : ∃ ar : Nat, am % 1025 = ar := ⟨_, rfl⟩
          have q1 : (am : Int) % 1025 = (ar : Int) := by omega
          have har2 : ar ≤ 1024 := by omega
          clear har
          go_wp2_with fail
          refine (tm_load b bP D T P 0 1024 _ HS2.out.1 (by rw [HP.out]; decide)).mono ?_
          rintro e w4 ⟨va, rfl, own4, b4⟩
          have S4 := Lib.hid (HS2.out.grow b4)
          have HBR := Lib.hid HS2.out.1.lt.2
          obtain ⟨Aw, cw, rfl⟩ := own_form own4
          have OW4 := Lib.hid own4
          have HDL0 := Lib.hid HS2.out.1.1.1
          clear own4 b4 HS2
          go_wp2_with fail
          refine (tm_storeU b bP D T P (ar : Int) Ab cb bs _ S4.out.1 ⟨by omega, by omega⟩ (HRB.out.below S4.out.2.1) HBB.out (by omega) (HRA.out bP HG.out.1)).mono ?_
          rintro e w5 ⟨rfl, m5, t5⟩
          have S5 := Lib.hid (S4.out.turns m5 t5 HG.out)
          have OW5 := Lib.hid (row_turns OW4.out t5 (by simpa using HBR.out))
          clear m5 t5 S4 OW4
          rw [HP.out] at S5 ⊢
          have hzd : inB 4 (ar : Int) bs.length = decide ((ar : Int) + bs.length ≤ 1024) := by rw [inB, Bool.eq_iff_iff]; simp only [decide_eq_true_eq]; omega
          have HLD := Lib.hid (show D.length = 1024 by have := HDL0.out; have := HP.out; omega)
          have hpD : partL D 0 1024 = D := by unfold partL; rw [List.drop_zero, List.take_of_length_le (by rw [HLD.out]; exact Nat.le_refl _)]
          rw [hpD] at OW5
          have HZD := Lib.hid hzd
          rw [hzd]
          clear hzd hpD
          have HO5 : Hid ((w5.alloc (.cells #[] 5)).ownsRow w5.heap.size 5 1 (.slice (some ⟨w5.heap.size, 0, none⟩) 0 0) 0 []) := Lib.hid (World.ownsRow_made w5 #[] 0 (Nat.le_refl _) (by decide) rfl)
          have HR5 := Lib.hid ((RdL.own OW5.out).below (by go_grown : Below w5.heap.size w5 (w5.alloc (.cells #[] 5))))
          have HL8 := Lib.hid (show (u8s D).length = 1024 * 1 by rw [u8s, List.length_map, HLD.out])
          have H18 := Lib.hid (show ∀ u ∈ u8s D, u.oneCell' = true by intro u hu; simp [u8s] at hu; obtain ⟨x, _, rfl⟩ := hu; rfl)
          clear OW5
          go_upto_block 2 with (first
            | (at_builtin; (refine app (w0 := w5) (W := w5.alloc _) w5.heap.size rfl _ _ 24 5 (.int .u8 0) 1 1 rfl Try.underlying24 infoU8' rfl (by decide) (by decide) _ _ _ (u8s D) Aw 1024 cw rfl rfl HL8.out H18.out HO5.out HR5.out ((Below.refl _ w5).alloc (Nat.le_refl _) _) (by first | omega | (simp only [World.size_alloc, World.size_drew, World.size_setCell]; omega) | (simp; done) | (simp; omega)) (by decide) ?_; intro v6 w6 own6 hb6 _)))
          have S6 := Lib.hid (S5.out.grow hb6)
          rw [List.nil_append, Nat.zero_add] at own6
          obtain ⟨_, hor⟩ := own6
          rcases hor with ⟨_, h0⟩ | ⟨gw, capw, cur, rfl, hgw, hkw, hcw, hmw, hsw, htw⟩
          · cases h0
          rw [Nat.mul_one] at htw hsw
          have KW := Lib.hid (show Blk w6 gw cur 5 from hkw)
          have HGW := Lib.hid (show bP < gw ∧ 1024 ≤ capw ∧ b < gw by have := S5.out.1.lt; omega)
          have HCW := Lib.hid (And.intro hsw htw)
          have S5b := Lib.hid S5.out.1.lt.2
          clear hb6 hgw hkw hmw hsw htw HR5 HO5 HL8 H18
          have hcw' : (1024 : Int) ≤ capw := by omega
          obtain ⟨D1, hD1⟩ : ∃ D1, stD 4 D (ar : Int) bs = D1 := ⟨_, rfl⟩
          have HD1 := Lib.hid hD1
          rw [hD1] at S6
          generalize stT 4 T (ar : Int) bs.length = T1 at *
          clear hD1 S5 hcw
          clear q1
          go_cut [16] from 24 (fun s16 wx => ∃ cur', Blk wx gw cur' 5 ∧ cur'.size = capw ∧ cur'.toList.take 1024 = u8s D1 ∧ Sb w b bP kb #[.bool (t0), .int .i64 (b0), .int .i64 (p0), .int .i64 (a0), .int .i64 (q0), .int .i64 (y0)] D1 T1 P wx)
          case first =>
            rcases Nat.lt_or_ge 1024 (ar + bs.length) with hbg | hft
            · have i2 : ¬ (ar : Int) + bs.length ≤ 1024 := by omega
              have i3 : (0 : Int) < bs.length := by omega
              have e1 : D1 = D := by rw [← HD1.out, stD, HZD.out, decide_eq_false i2]; rfl
              clear hbg
              go_wp2
              go_loopg [16] 1 (fun gk v16 wi => v16 = .int .i64 0 ∧ w6 = wi)
              case atStart => exact ⟨rfl, rfl⟩
              case round =>
                obtain ⟨rfl, rfl⟩ := hrel
                go_wp2
                go_meet
                exact ⟨cur, KW.out, HCW.out.1, by rw [e1]; exact HCW.out.2, S6.out⟩
            · have i2 : (ar : Int) + bs.length ≤ 1024 := by omega
              have HE1 := Lib.hid (show D1 = writeL D ar bs by rw [← HD1.out, stD, HZD.out, decide_eq_true i2, if_pos rfl, Int.toNat_natCast])
              have HFT := Lib.hid hft
              clear hft
              go_wp2
              go_loopg [16] bs.length (fun gk v16 wi => ∃ (r : Nat) (cur' : Array Value), r + gk = bs.length ∧ v16 = .int .i64 r ∧ Blk wi gw cur' 5 ∧ cur'.size = capw ∧ cur'.toList.take 1024 = u8s (writeL D ar (bs.take r)) ∧ Sb w b bP kb #[.bool (t0), .int .i64 (b0), .int .i64 (p0), .int .i64 (a0), .int .i64 (q0), .int .i64 (y0)] D1 T1 P wi)
              case atStart => exact ⟨0, cur, by omega, rfl, KW.out, HCW.out.1, by rw [List.take_zero, writeL_nil]; exact HCW.out.2, S6.out⟩
              case round =>
                obtain ⟨r, cur', hr, rfl, hk, hs, ht, hS⟩ := hrel
                have HR := Lib.hid hr
                have HK := Lib.hid hk
                have HCU := Lib.hid (And.intro hs ht)
                have SI := Lib.hid hS
                clear hr ht hS
                rcases Nat.lt_or_ge r bs.length with h1 | h1
                · have i4 : (r : Int) < bs.length := by omega
                  obtain ⟨gb, ob, cb2, hv, _, hcell⟩ := (HRB.out.below SI.out.2.1).cells (by omega)
                  cases hv
                  have cb0 := hcell r h1
                  have lb0 := World.block_lt_of_cell? _ _ cb0
                  dsimp only at lb0
                  obtain ⟨z, hz⟩ : ∃ z, ar + r = z := ⟨_, rfl⟩
                  have q4 : (ar : Int) + r = (z : Int) := by omega
                  have q5 : (z : Int) < 1024 := by have := HFT.out; omega
                  have hzs : z < cur'.size := by have := HFT.out; have := HGW.out.2.1; omega
                  have cw0 : wr.cell? ⟨gw, z, none⟩ = some cur'[z] := by rw [hk.cell, Array.getElem?_eq_getElem hzs]
                  have fw0 : wr.frozen? ⟨gw, z, none⟩ = false := hk.frozen _
                  have lw0 := hk.lt
                  have HNX := Lib.hid (show TmM (wr.setCell ⟨gw, z, none⟩ (.int .u8 (rdn bs r))) b bP D1 T1 P from SI.out.1.set_other (by have := HGW.out.1; have := HGW.out.2.2; omega) (by have := HGW.out.1; omega) _ _)
                  have HZ := Lib.hid hz
                  have H1 := Lib.hid h1
                  have HE := Lib.hid (take_snoc_n bs r h1)
                  generalize cur'[z] = old at *
                  generalize hx : rdn bs r = x at *
                  clear hcell hs hk hzs h1 hz
                  go_wp2
                  go_roundg (gk - 1)
                  case measure => have := HR.out; have := H1.out; omega
                  case rel =>
                    refine ⟨r + 1, cur'.setIfInBounds z (.int .u8 x), by have := HR.out; have := H1.out; omega, by go_num, HK.out.set z _, by rw [Array.size_setIfInBounds]; exact HCU.out.1, ?_, HNX.out, ?_, ?_⟩
                    · rw [take_set HCU.out.2, HE.out]
                      have hl : (bs.take r).length = r := by rw [List.length_take]; have := H1.out; omega
                      rw [writeL_snoc D ar (bs.take r) x (by rw [hl]; have := HLD.out; have := HFT.out; have := H1.out; omega), hl, HZ.out]
                    · exact SI.out.2.1.setCell (by have := HGW.out.1; have := HG.out.1; show w.heap.size ≤ gw; omega) _
                    · exact SI.out.2.2.set_other (by have := HGW.out.1; have := HKB.out; have := HG.out.1; omega) _ _
                · have i4 : ¬ (r : Int) < bs.length := by omega
                  go_wp2
                  go_meet
                  exact ⟨cur', HK.out, HCU.out.1, by rw [HCU.out.2, List.take_of_length_le h1, HE1.out], SI.out⟩
          case rest =>
            obtain ⟨cur', hk', hs', ht', hS'⟩ := hcut
            have S7 := Lib.hid hS'
            have RW := Lib.hid (show RowU wc (.slice (some ⟨gw, 0, none⟩) 1024 capw) D1 by
              have hl := hS'.1.1.1
              rw [HP.out] at hl
              refine ⟨_, _, by rw [hl], fun r u hu => ⟨_, rfl, ?_⟩, by rw [hl]; exact HGW.out.2.1⟩
              rw [add_plain, hk'.cell, Nat.zero_add, ← Array.getElem?_toList]
              have hr : r < 1024 := by have := (List.getElem?_eq_some_iff.1 hu).1; rw [u8s, List.length_map] at this; omega
              have h2 : (cur'.toList.take 1024)[r]? = some u := by rw [ht']; exact hu
              rwa [List.getElem?_take, if_pos hr] at h2)
            clear hk' hs' ht' hS' KW HCW
            obtain ⟨jz, hjz⟩ : ∃ jz, 16 * (ar % 64) = jz := ⟨_, rfl⟩
            have q6 : 16 * ((ar : Int) % 64) = (jz : Int) := by omega
            have HJZ := Lib.hid (show plB 4 (jz : Int) = true ∧ jz + 16 ≤ 1024 by rw [plB, decide_eq_true_eq]; omega)
            clear hjz
            go_wp2_with fail
            refine (tm_load b bP D1 T1 P 0 1024 _ S7.out.1 (by rw [HP.out]; decide)).mono ?_
            rintro e w8 ⟨vn, rfl, own8, b8⟩
            have S8 := Lib.hid (S7.out.grow b8)
            have RW8 := Lib.hid (RW.out.below b8)
            obtain ⟨An, cn, rfl⟩ := own_form own8
            have hl1 : D1.length = 1024 := by have := S8.out.1.1.1; rw [HP.out] at this; exact this
            have hpD : partL D1 0 1024 = D1 := by unfold partL; rw [List.drop_zero, List.take_of_length_le (by rw [hl1]; exact Nat.le_refl _)]
            rw [hpD] at own8
            have RN8 := Lib.hid (RowU.own own8)
            have HAN := Lib.hid (show ∀ ad, An = some ad → ad.block ≠ bP by
              intro ad e
              subst e
              have h1 := S7.out.1.lt.2
              obtain ⟨_, h2⟩ := own8
              rcases h2 with ⟨h2, _⟩ | ⟨g, _, _, h2, h3, _⟩
              · cases h2
              · cases h2
                show g ≠ bP
                omega)
            have E1024 := Lib.hid hl1
            clear hl1 hpD own8 b8 S7 RW
            obtain ⟨sx, hsx⟩ : ∃ sx, sx = strOfNums D1 := ⟨_, rfl⟩
            have E1 := Lib.hid hsx
            clear hsx
            go_upto_region 22 with fail
            clear q6
            have HIQ := Lib.hid HII.out.2.2.2.1
            have HSC := Lib.hid (storecap_twice b bP D1 T1 P (jz : Int) t0 b0 p0 a0 q0 y0)
            have HDP := Lib.hid S8.out.1.1.1
            have hsb : scB P.length (jz : Int) t0 b0 p0 a0 q0 y0 = rightB t0 b0 p0 a0 q0 y0 := by rw [scB, HP.out, HJZ.out.1, Bool.true_and]
            rw [hsb] at HSC
            have HSB := Lib.hid hsb
            clear hsb
            obtain ⟨D2, hD2⟩ : ∃ D2, scD P.length D1 (jz : Int) t0 b0 p0 a0 q0 y0 = D2 := ⟨_, rfl⟩
            obtain ⟨T2, hT2⟩ : ∃ T2, scT P.length T1 (jz : Int) t0 b0 p0 a0 q0 y0 = T2 := ⟨_, rfl⟩
            obtain ⟨P2, hP2⟩ : ∃ P2, scP P (jz : Int) t0 b0 p0 a0 q0 y0 = P2 := ⟨_, rfl⟩
            rw [hD2, hT2, hP2] at HSC
            have HD2 := Lib.hid hD2
            have HT2 := Lib.hid hT2
            have HP2 := Lib.hid hP2
            clear hD2 hT2 hP2
            have hji : inI (jz : Int) := by have := HJZ.out.2; exact ⟨by omega, by omega⟩
            have HJI := Lib.hid hji
            clear hji
            obtain ⟨G, hGd⟩ : ∃ G : World → World → Prop, G = fun X Y => Turns [bP] X Y ∧ (TmM X b bP D2 T2 P2 → TmM Y b bP D2 T2 P2) ∧ (TmM X b bP D1 T1 P → TmM Y b bP D1 T1 P ∨ TmM Y b bP D2 T2 P2) := ⟨_, rfl⟩
            have hG : FG.Pre G := by
              subst hGd
              exact ⟨fun X => ⟨Turns.refl _ _, id, .inl⟩, fun h k => ⟨h.1.trans k.1, fun x => k.2.1 (h.2.1 x), fun x => by rcases h.2.2 x with y | y; exact k.2.2 y; exact .inr (k.2.1 y)⟩, fun X => ⟨Turns.below (Below.refl _ _).drew, fun h => h.drew, fun h => .inl h.drew⟩⟩
            have HPre := Lib.hid hG
            have HGT := Lib.hid (show ∀ X Y : World, G X Y → Turns [bP] X Y ∧ (TmM X b bP D2 T2 P2 → TmM Y b bP D2 T2 P2) ∧ (TmM X b bP D1 T1 P → TmM Y b bP D1 T1 P ∨ TmM Y b bP D2 T2 P2) from fun X Y h => by subst hGd; exact h)
            have HGI := Lib.hid (show ∀ X Y : World, Turns [bP] X Y → TmM Y b bP D2 T2 P2 → G X Y from fun X Y h k => by subst hGd; exact ⟨h, fun _ => k, fun _ => .inr k⟩)
            have HGB := Lib.hid (show ∀ X Y : World, Below X.heap.size X Y → G X Y from fun X Y h => by subst hGd; exact ⟨Turns.below h, fun k => k.grow h, fun k => .inl (k.grow h)⟩)
            clear hG hGd
            refine FH.wp_flow_lit HPre.out 16 (fun w' => Blk w' kb #[.bool (t0), .int .i64 (b0), .int .i64 (p0), .int .i64 (a0), .int .i64 (q0), .int .i64 (y0)] 23 ∧ RowU w' (.slice An 1024 cn) D1 ∧ RowU w' (.slice (some ⟨gw, 0, none⟩) 1024 capw) D1 ∧ (TmM w' b bP D1 T1 P ∨ TmM w' b bP D2 T2 P2))
              [none, none, none, none, none, none, none, none, none, none, none, none, none, some (fun v w' => v = .bool (rightB t0 b0 p0 a0 q0 y0) ∧ TmM w' b bP D2 T2 P2), none, none] (by kernel_rfl) (by kernel_rfl)
              ⟨S8.out.2.2.drew, RN8.out.below (Below.drew (Below.refl _ _)), RW8.out.below (Below.drew (Below.refl _ _)), .inl S8.out.1.drew⟩
              (fun w1 w2 h hb => ⟨h.1.turns (HGT.out _ _ hb).1 (by simp; exact HG.out.2), h.2.1.turns (HGT.out _ _ hb).1 (fun _ ad e => by simp; exact HAN.out ad e), h.2.2.1.turns (HGT.out _ _ hb).1 (fun _ ad e => by cases e; have := HGW.out.1; simp; omega), by rcases h.2.2.2 with y | y; exact (HGT.out _ _ hb).2.2 y; exact .inr ((HGT.out _ _ hb).2.1 y)⟩)
              ⟨fun v w1 w2 h hb => ⟨h.1, (HGT.out _ _ hb).2.1 h.2⟩, trivial⟩ ?_
            try simp (config := { maxSteps := 10000000 }) only [specV, addF, Act.put, List.setIfInBounds_toArray, List.set_cons_zero, List.set_cons_succ, List.take_succ_cons, List.take_zero, List.drop_succ_cons, List.drop_zero]
            (apply Exists.intro; refine ⟨fun vs w1 hS hB hf => ?_, ?_⟩; (focus (clear hS hB hf; go_simp; first | exact ⟨HPre.out.refl _, rfl⟩ | exact rfl)); try simp (config := { maxSteps := 10000000 }) only [specV, addF, Act.put, List.setIfInBounds_toArray, List.set_cons_zero, List.set_cons_succ, List.take_succ_cons, List.take_zero, List.drop_succ_cons, List.drop_zero])
            (apply Exists.intro; refine ⟨fun vs w1 hS hB hf => ?_, ?_⟩; (focus (clear hS hB hf; go_simp; first | exact ⟨HPre.out.refl _, rfl⟩ | exact rfl)); try simp (config := { maxSteps := 10000000 }) only [specV, addF, Act.put, List.setIfInBounds_toArray, List.set_cons_zero, List.set_cons_succ, List.take_succ_cons, List.take_zero, List.drop_succ_cons, List.drop_zero])
            (apply Exists.intro; refine ⟨fun vs w1 hS hB hf => ?_, ?_⟩; (focus (clear hS hB hf; go_simp; first | exact ⟨HPre.out.refl _, rfl⟩ | exact rfl)); try simp (config := { maxSteps := 10000000 }) only [specV, addF, Act.put, List.setIfInBounds_toArray, List.set_cons_zero, List.set_cons_succ, List.take_succ_cons, List.take_zero, List.drop_succ_cons, List.drop_zero])
            (apply Exists.intro; refine ⟨fun vs w1 hS hB hf => ?_, ?_⟩; (focus (clear hS hB hf; go_simp; first | exact ⟨HPre.out.refl _, rfl⟩ | exact rfl)); try simp (config := { maxSteps := 10000000 }) only [specV, addF, Act.put, List.setIfInBounds_toArray, List.set_cons_zero, List.set_cons_succ, List.take_succ_cons, List.take_zero, List.drop_succ_cons, List.drop_zero])
            (apply Exists.intro; refine ⟨fun vs w1 hS hB hf => ?_, ?_⟩; (focus (obtain ⟨A1, c1, hv1, r1, _⟩ := hS.2.1; simp only [Value.slice.injEq] at hv1; obtain ⟨rfl, h9, rfl⟩ := hv1; clear h9; have k1 := run_str (P := Try.prog) Try.underlying24 Try.underlying5 Try.underlying9 (cn) rfl r1; rw [E1024.out] at k1; rw [← E1.out] at k1; clear hS hB hf r1; go_simp; first | exact ⟨HPre.out.refl _, rfl⟩ | exact rfl)); try simp (config := { maxSteps := 10000000 }) only [specV, addF, Act.put, List.setIfInBounds_toArray, List.set_cons_zero, List.set_cons_succ, List.take_succ_cons, List.take_zero, List.drop_succ_cons, List.drop_zero])
            (apply Exists.intro; refine ⟨fun vs w1 hS hB hf => ?_, ?_⟩; (focus (clear hS hB hf; go_simp; first | exact ⟨HPre.out.refl _, rfl⟩ | exact rfl)); try simp (config := { maxSteps := 10000000 }) only [specV, addF, Act.put, List.setIfInBounds_toArray, List.set_cons_zero, List.set_cons_succ, List.take_succ_cons, List.take_zero, List.drop_succ_cons, List.drop_zero])
            (apply Exists.intro; refine ⟨fun vs w1 hS hB hf => ?_, ?_⟩; (focus (obtain ⟨A1, c1, hv1, r1, _⟩ := hS.2.2.1; simp only [Value.slice.injEq] at hv1; obtain ⟨rfl, h9, rfl⟩ := hv1; clear h9; have k1 := run_str (P := Try.prog) Try.underlying24 Try.underlying5 Try.underlying9 (capw) rfl r1; rw [E1024.out] at k1; rw [← E1.out] at k1; clear hS hB hf r1; go_simp; first | exact ⟨HPre.out.refl _, rfl⟩ | exact rfl)); try simp (config := { maxSteps := 10000000 }) only [specV, addF, Act.put, List.setIfInBounds_toArray, List.set_cons_zero, List.set_cons_succ, List.take_succ_cons, List.take_zero, List.drop_succ_cons, List.drop_zero])
            (apply Exists.intro; refine ⟨fun vs w1 hS hB hf => ?_, ?_⟩; (focus (clear hS hB hf; go_simp; first | exact ⟨HPre.out.refl _, rfl⟩ | exact rfl)); try simp (config := { maxSteps := 10000000 }) only [specV, addF, Act.put, List.setIfInBounds_toArray, List.set_cons_zero, List.set_cons_succ, List.take_succ_cons, List.take_zero, List.drop_succ_cons, List.drop_zero])
            (apply Exists.intro; refine ⟨fun vs w1 hS hB hf => ?_, ?_⟩; (focus (clear hS hB hf; go_simp; first | exact ⟨HPre.out.refl _, rfl⟩ | exact rfl)); try simp (config := { maxSteps := 10000000 }) only [specV, addF, Act.put, List.setIfInBounds_toArray, List.set_cons_zero, List.set_cons_succ, List.take_succ_cons, List.take_zero, List.drop_succ_cons, List.drop_zero])
            (apply Exists.intro; refine ⟨fun vs w1 hS hB hf => ?_, ?_⟩; (focus (clear hS hB hf; go_simp; first | exact ⟨HPre.out.refl _, rfl⟩ | exact rfl)); try simp (config := { maxSteps := 10000000 }) only [specV, addF, Act.put, List.setIfInBounds_toArray, List.set_cons_zero, List.set_cons_succ, List.take_succ_cons, List.take_zero, List.drop_succ_cons, List.drop_zero])
            (apply Exists.intro; refine ⟨fun vs w1 hS hB hf => ?_, ?_⟩; (focus (clear hS hB hf; go_simp; first | exact ⟨HPre.out.refl _, rfl⟩ | exact rfl)); try simp (config := { maxSteps := 10000000 }) only [specV, addF, Act.put, List.setIfInBounds_toArray, List.set_cons_zero, List.set_cons_succ, List.take_succ_cons, List.take_zero, List.drop_succ_cons, List.drop_zero])
            (apply Exists.intro; refine ⟨fun vs w1 hS hB hf => ?_, ?_⟩; (focus (clear hS hB hf; go_simp; first | exact ⟨HPre.out.refl _, rfl⟩ | exact rfl)); try simp (config := { maxSteps := 10000000 }) only [specV, addF, Act.put, List.setIfInBounds_toArray, List.set_cons_zero, List.set_cons_succ, List.take_succ_cons, List.take_zero, List.drop_succ_cons, List.drop_zero])
            (apply Exists.intro; refine ⟨fun vs w1 hS hB hf => ?_, ?_⟩; (focus (have L1 := hS.1.cell; have l1 := hS.1.lt; clear hS hB hf; go_simp; first | exact ⟨HPre.out.refl _, rfl⟩ | exact rfl)); try simp (config := { maxSteps := 10000000 }) only [specV, addF, Act.put, List.setIfInBounds_toArray, List.set_cons_zero, List.set_cons_succ, List.take_succ_cons, List.take_zero, List.drop_succ_cons, List.drop_zero])
            (refine ⟨fun vs w1 hS hB hf => ?_, ?_⟩; (focus (go_simp; exact (HSC.out w1 hS.2.2.2 HDP.out HJI.out HIQ.out).mono fun e w2 ⟨he, hm, ht⟩ => FG.callPost.of he (HGI.out _ _ ht hm) ⟨rfl, hm⟩)); try simp (config := { maxSteps := 10000000 }) only [specV, addF, Act.put, List.setIfInBounds_toArray, List.set_cons_zero, List.set_cons_succ, List.take_succ_cons, List.take_zero, List.drop_succ_cons, List.drop_zero])
            (apply Exists.intro; refine ⟨fun vs w1 hS hB hf => ?_, ?_⟩; (focus (have L1 := hS.1.cell; have l1 := hS.1.lt; clear hS hB hf; go_simp; first | exact ⟨HPre.out.refl _, rfl⟩ | exact rfl)); try simp (config := { maxSteps := 10000000 }) only [specV, addF, Act.put, List.setIfInBounds_toArray, List.set_cons_zero, List.set_cons_succ, List.take_succ_cons, List.take_zero, List.drop_succ_cons, List.drop_zero])
            (apply Exists.intro; refine ⟨fun vs w1 hS hB hf => ?_, ?_⟩; (focus (go_simp; exact (ref_right t0 b0 p0 a0 q0 y0 w1).mono fun e w2 ⟨he, hb⟩ => FG.callPost.of he (HGB.out _ _ hb) rfl)); try simp (config := { maxSteps := 10000000 }) only [specV, addF, Act.put, List.setIfInBounds_toArray, List.set_cons_zero, List.set_cons_succ, List.take_succ_cons, List.take_zero, List.drop_succ_cons, List.drop_zero])
            intro vs w9 hS hB9 hF
            obtain ⟨⟨hv13, hT9⟩, _⟩ := hF
            have t9 := (HGT.out _ _ hB9).1
            have S9 := Lib.hid (S8.out.turns hT9 t9 HG.out)
            dsimp only
            simp only [Nat.zero_add, Nat.reduceAdd] at hv13 ⊢
            rw [hv13]
            have HTL := Lib.hid (show jz / 16 < T1.length by have h1 := S8.out.1.1.2.1; have h2 := HP.out; have h3 := HJZ.out.2; omega)
            clear hS hB9 hT9 t9 hv13 S8 RW8 RN8 HSC HGT HGI HGB HPre HAN
            have HP2L := Lib.hid (show plB P2.length (jz : Int) = true by rw [← HP2.out, scP_length, HP.out]; exact HJZ.out.1)
            have HP2M := Lib.hid (show jz + 16 ≤ 256 * P2.length by rw [← HP2.out, scP_length, HP.out]; have := HJZ.out.2; omega)
            obtain ⟨rb, hrb⟩ : ∃ rb, rightB t0 b0 p0 a0 q0 y0 = rb := ⟨_, rfl⟩
            have HRR := Lib.hid hrb
            rw [hrb]
            clear hrb
            go_wp2_with fail
            refine (tm_loadcapU b bP D2 T2 P2 jz _ S9.out.1 HP2L.out).mono ?_
            rintro e w10 ⟨rfl, b10⟩
            have S10 := Lib.hid (S9.out.grow b10)
            obtain ⟨lc, hlc⟩ : ∃ lc, ldC D2 T2 jz = lc := ⟨_, rfl⟩
            have HLC := Lib.hid hlc
            rw [hlc]
            obtain ⟨g0, g1, g2, g3, g4, g5⟩ := lc
            simp only [capV]
            clear hlc b10 S9
            go_wp2_with fail
            obtain ⟨W11, hW11⟩ : ∃ W11, w10.alloc (.cells #[.bool (g0), .int .i64 (g1), .int .i64 (g2), .int .i64 (g3), .int .i64 (g4), .int .i64 (g5)] 23) = W11 := ⟨_, rfl⟩
            have hb11 : Below w10.heap.size w10 W11 := by rw [← hW11]; exact (Below.refl _ _).alloc (Nat.le_refl _) _
            have S11 := Lib.hid (S10.out.grow hb11)
            have kx : Blk W11 w10.heap.size #[.bool (g0), .int .i64 (g1), .int .i64 (g2), .int .i64 (g3), .int .i64 (g4), .int .i64 (g5)] 23 := by rw [← hW11]; exact Blk.new _ _ _
            have KX := Lib.hid kx
            rw [hW11]
            clear hW11 hb11 kx S10
            generalize w10.heap.size = kx at *
            refine (tm_load b bP D2 T2 P2 jz 16 _ S11.out.1 HP2M.out).mono ?_
            rintro e w12 ⟨vy, rfl, own12, b12⟩
            have S12 := Lib.hid (S11.out.grow b12)
            have KX12 := Lib.hid (KX.out.below b12 KX.out.lt)
            obtain ⟨Ay, cy', rfl⟩ := own_form own12
            have hly : (partL D2 jz 16).length = 16 := partL_len D2 _ _ (by have := S12.out.1.1.1; have := HP2M.out; omega)
            have RY := Lib.hid (RowU.own own12)
            have HLY := Lib.hid hly
            clear hly own12 b12 S11 KX
            go_upto_region 26 with fail
            cases rb with
            | false =>
              refine wp_flow_lit 22 (fun w' => Blk w' kb #[.bool (t0), .int .i64 (b0), .int .i64 (p0), .int .i64 (a0), .int .i64 (q0), .int .i64 (y0)] 23 ∧ Blk w' kx #[.bool (g0), .int .i64 (g1), .int .i64 (g2), .int .i64 (g3), .int .i64 (g4), .int .i64 (g5)] 23)
                [none, none, none, none, none, none, none, none, none, none, none, none, none, none, none, none, none, none, none, none, none, none] (by kernel_rfl) (by kernel_rfl)
                ⟨S12.out.2.2.drew, KX12.out.drew⟩ (fun w1 w2 h hb => ⟨h.1.below hb h.1.lt, h.2.below hb h.2.lt⟩) trivial ?_
              try simp (config := { maxSteps := 10000000 }) only [specV, addF, Act.put, List.setIfInBounds_toArray, List.set_cons_zero, List.set_cons_succ, List.take_succ_cons, List.take_zero, List.drop_succ_cons, List.drop_zero]
              (apply Exists.intro; refine ⟨fun vs w1 hS hB hf => ?_, ?_⟩; (focus (clear hS hB hf; go_simp; first | exact ⟨Below.refl _ _, rfl⟩ | exact rfl)); try simp (config := { maxSteps := 10000000 }) only [specV, addF, Act.put, List.setIfInBounds_toArray, List.set_cons_zero, List.set_cons_succ, List.take_succ_cons, List.take_zero, List.drop_succ_cons, List.drop_zero])
              (apply Exists.intro; refine ⟨fun vs w1 hS hB hf => ?_, ?_⟩; (focus (clear hS hB hf; go_simp; first | exact ⟨Below.refl _ _, rfl⟩ | exact rfl)); try simp (config := { maxSteps := 10000000 }) only [specV, addF, Act.put, List.setIfInBounds_toArray, List.set_cons_zero, List.set_cons_succ, List.take_succ_cons, List.take_zero, List.drop_succ_cons, List.drop_zero])
              (apply Exists.intro; refine ⟨fun vs w1 hS hB hf => ?_, ?_⟩; (focus (clear hS hB hf; go_simp; first | exact ⟨Below.refl _ _, rfl⟩ | exact rfl)); try simp (config := { maxSteps := 10000000 }) only [specV, addF, Act.put, List.setIfInBounds_toArray, List.set_cons_zero, List.set_cons_succ, List.take_succ_cons, List.take_zero, List.drop_succ_cons, List.drop_zero])
              (apply Exists.intro; refine ⟨fun vs w1 hS hB hf => ?_, ?_⟩; (focus (clear hS hB hf; go_simp; first | exact ⟨Below.refl _ _, rfl⟩ | exact rfl)); try simp (config := { maxSteps := 10000000 }) only [specV, addF, Act.put, List.setIfInBounds_toArray, List.set_cons_zero, List.set_cons_succ, List.take_succ_cons, List.take_zero, List.drop_succ_cons, List.drop_zero])
              (apply Exists.intro; refine ⟨fun vs w1 hS hB hf => ?_, ?_⟩; (focus (clear hS hB hf; go_simp; first | exact ⟨Below.refl _ _, rfl⟩ | exact rfl)); try simp (config := { maxSteps := 10000000 }) only [specV, addF, Act.put, List.setIfInBounds_toArray, List.set_cons_zero, List.set_cons_succ, List.take_succ_cons, List.take_zero, List.drop_succ_cons, List.drop_zero])
              (apply Exists.intro; refine ⟨fun vs w1 hS hB hf => ?_, ?_⟩; (focus (have L1 := hS.1.cell; have l1 := hS.1.lt; clear hS hB hf; go_simp; first | exact ⟨Below.refl _ _, rfl⟩ | exact rfl)); try simp (config := { maxSteps := 10000000 }) only [specV, addF, Act.put, List.setIfInBounds_toArray, List.set_cons_zero, List.set_cons_succ, List.take_succ_cons, List.take_zero, List.drop_succ_cons, List.drop_zero])
              (apply Exists.intro; refine ⟨fun vs w1 hS hB hf => ?_, ?_⟩; (focus (go_simp; exact (ref_right t0 b0 p0 a0 q0 y0 w1).mono fun e w2 ⟨he, hb⟩ => callPost.of (v := .bool false) (by rw [he, HRR.out]) hb rfl)); try simp (config := { maxSteps := 10000000 }) only [specV, addF, Act.put, List.setIfInBounds_toArray, List.set_cons_zero, List.set_cons_succ, List.take_succ_cons, List.take_zero, List.drop_succ_cons, List.drop_zero])
              (apply Exists.intro; refine ⟨fun vs w1 hS hB hf => ?_, ?_⟩; (focus (clear hS hB hf; go_simp; first | exact ⟨Below.refl _ _, rfl⟩ | exact rfl)); try simp (config := { maxSteps := 10000000 }) only [specV, addF, Act.put, List.setIfInBounds_toArray, List.set_cons_zero, List.set_cons_succ, List.take_succ_cons, List.take_zero, List.drop_succ_cons, List.drop_zero])
              (apply Exists.intro; refine ⟨fun vs w1 hS hB hf => ?_, ?_⟩; (focus (clear hS hB hf; go_simp; first | exact ⟨Below.refl _ _, rfl⟩ | exact rfl)); try simp (config := { maxSteps := 10000000 }) only [specV, addF, Act.put, List.setIfInBounds_toArray, List.set_cons_zero, List.set_cons_succ, List.take_succ_cons, List.take_zero, List.drop_succ_cons, List.drop_zero])
              (apply Exists.intro; refine ⟨fun vs w1 hS hB hf => ?_, ?_⟩; (focus (clear hS hB hf; go_simp; first | exact ⟨Below.refl _ _, rfl⟩ | exact rfl)); try simp (config := { maxSteps := 10000000 }) only [specV, addF, Act.put, List.setIfInBounds_toArray, List.set_cons_zero, List.set_cons_succ, List.take_succ_cons, List.take_zero, List.drop_succ_cons, List.drop_zero])
              (apply Exists.intro; refine ⟨fun vs w1 hS hB hf => ?_, ?_⟩; (focus (clear hS hB hf; go_simp; first | exact ⟨Below.refl _ _, rfl⟩ | exact rfl)); try simp (config := { maxSteps := 10000000 }) only [specV, addF, Act.put, List.setIfInBounds_toArray, List.set_cons_zero, List.set_cons_succ, List.take_succ_cons, List.take_zero, List.drop_succ_cons, List.drop_zero])
              (apply Exists.intro; refine ⟨fun vs w1 hS hB hf => ?_, ?_⟩; (focus (clear hS hB hf; go_simp; first | exact ⟨Below.refl _ _, rfl⟩ | exact rfl)); try simp (config := { maxSteps := 10000000 }) only [specV, addF, Act.put, List.setIfInBounds_toArray, List.set_cons_zero, List.set_cons_succ, List.take_succ_cons, List.take_zero, List.drop_succ_cons, List.drop_zero])
              (apply Exists.intro; refine ⟨fun vs w1 hS hB hf => ?_, ?_⟩; (focus (clear hS hB hf; go_simp; first | exact ⟨Below.refl _ _, rfl⟩ | exact rfl)); try simp (config := { maxSteps := 10000000 }) only [specV, addF, Act.put, List.setIfInBounds_toArray, List.set_cons_zero, List.set_cons_succ, List.take_succ_cons, List.take_zero, List.drop_succ_cons, List.drop_zero])
              (apply Exists.intro; refine ⟨fun vs w1 hS hB hf => ?_, ?_⟩; (focus (clear hS hB hf; go_simp; first | exact ⟨Below.refl _ _, rfl⟩ | exact rfl)); try simp (config := { maxSteps := 10000000 }) only [specV, addF, Act.put, List.setIfInBounds_toArray, List.set_cons_zero, List.set_cons_succ, List.take_succ_cons, List.take_zero, List.drop_succ_cons, List.drop_zero])
              (apply Exists.intro; refine ⟨fun vs w1 hS hB hf => ?_, ?_⟩; (focus (clear hS hB hf; go_simp; first | exact ⟨Below.refl _ _, rfl⟩ | exact rfl)); try simp (config := { maxSteps := 10000000 }) only [specV, addF, Act.put, List.setIfInBounds_toArray, List.set_cons_zero, List.set_cons_succ, List.take_succ_cons, List.take_zero, List.drop_succ_cons, List.drop_zero])
              (apply Exists.intro; refine ⟨fun vs w1 hS hB hf => ?_, ?_⟩; (focus (clear hS hB hf; go_simp; first | exact ⟨Below.refl _ _, rfl⟩ | exact rfl)); try simp (config := { maxSteps := 10000000 }) only [specV, addF, Act.put, List.setIfInBounds_toArray, List.set_cons_zero, List.set_cons_succ, List.take_succ_cons, List.take_zero, List.drop_succ_cons, List.drop_zero])
              (apply Exists.intro; refine ⟨fun vs w1 hS hB hf => ?_, ?_⟩; (focus (clear hS hB hf; go_simp; first | exact ⟨Below.refl _ _, rfl⟩ | exact rfl)); try simp (config := { maxSteps := 10000000 }) only [specV, addF, Act.put, List.setIfInBounds_toArray, List.set_cons_zero, List.set_cons_succ, List.take_succ_cons, List.take_zero, List.drop_succ_cons, List.drop_zero])
              (apply Exists.intro; refine ⟨fun vs w1 hS hB hf => ?_, ?_⟩; (focus (clear hS hB hf; go_simp; first | exact ⟨Below.refl _ _, rfl⟩ | exact rfl)); try simp (config := { maxSteps := 10000000 }) only [specV, addF, Act.put, List.setIfInBounds_toArray, List.set_cons_zero, List.set_cons_succ, List.take_succ_cons, List.take_zero, List.drop_succ_cons, List.drop_zero])
              (apply Exists.intro; refine ⟨fun vs w1 hS hB hf => ?_, ?_⟩; (focus (clear hS hB hf; go_simp; first | exact ⟨Below.refl _ _, rfl⟩ | exact rfl)); try simp (config := { maxSteps := 10000000 }) only [specV, addF, Act.put, List.setIfInBounds_toArray, List.set_cons_zero, List.set_cons_succ, List.take_succ_cons, List.take_zero, List.drop_succ_cons, List.drop_zero])
              (apply Exists.intro; refine ⟨fun vs w1 hS hB hf => ?_, ?_⟩; (focus (clear hS hB hf; go_simp; first | exact ⟨Below.refl _ _, rfl⟩ | exact rfl)); try simp (config := { maxSteps := 10000000 }) only [specV, addF, Act.put, List.setIfInBounds_toArray, List.set_cons_zero, List.set_cons_succ, List.take_succ_cons, List.take_zero, List.drop_succ_cons, List.drop_zero])
              (apply Exists.intro; refine ⟨fun vs w1 hS hB hf => ?_, ?_⟩; (focus (clear hS hB hf; go_simp; first | exact ⟨Below.refl _ _, rfl⟩ | exact rfl)); try simp (config := { maxSteps := 10000000 }) only [specV, addF, Act.put, List.setIfInBounds_toArray, List.set_cons_zero, List.set_cons_succ, List.take_succ_cons, List.take_zero, List.drop_succ_cons, List.drop_zero])
              (apply Exists.intro; refine ⟨fun vs w1 hS hB hf => ?_, ?_⟩; (focus (clear hS hB hf; go_simp; first | exact ⟨Below.refl _ _, rfl⟩ | exact rfl)); try simp (config := { maxSteps := 10000000 }) only [specV, addF, Act.put, List.setIfInBounds_toArray, List.set_cons_zero, List.set_cons_succ, List.take_succ_cons, List.take_zero, List.drop_succ_cons, List.drop_zero])
              intro vs w13 hS hB13 _
              have B13 := Lib.hid (below_then S12.out.2.1 S12.out.2.1.size hB13)
              clear hS hB13
              dsimp only
              go_wp2
              go_ret
              exact ⟨rfl, B13.out⟩
            | true =>
              have hd2 : D2 = writeL D1 jz (putL t0 b0 p0 a0 q0 y0) := by rw [← HD2.out, scD, HSB.out, HRR.out, if_pos rfl, Int.toNat_natCast]
              have ht2 : T2 = T1.set (jz / 16) t0 := by
                rw [← HT2.out, scT, HSB.out, HRR.out, if_pos rfl]
                congr 1
              have hlc := HLC.out
              rw [hd2, ht2, ld_put HRR.out (by rw [E1024.out]; exact HJZ.out.2) HTL.out] at hlc
              simp only [Prod.mk.injEq] at hlc
              obtain ⟨rfl, rfl, rfl, rfl, rfl, rfl⟩ := hlc
              have hpy : partL D2 jz 16 = putL t0 b0 p0 a0 q0 y0 := by
                rw [hd2]
                have := partL_write D1 jz (putL t0 b0 p0 a0 q0 y0) (by rw [putL_len HRR.out, E1024.out]; exact HJZ.out.2)
                rwa [putL_len HRR.out] at this
              rw [hpy] at RY
              obtain ⟨sy, hsy⟩ : ∃ sy, sy = strOfNums (putL t0 b0 p0 a0 q0 y0) := ⟨_, rfl⟩
              have E2 := Lib.hid hsy
              have EL := Lib.hid (putL_len HRR.out)
              clear hd2 ht2 hpy hsy HLC
              refine wp_flow_lit 22 (fun w' => Blk w' kb #[.bool (t0), .int .i64 (b0), .int .i64 (p0), .int .i64 (a0), .int .i64 (q0), .int .i64 (y0)] 23 ∧ Blk w' kx #[.bool (t0), .int .i64 (b0), .int .i64 (p0), .int .i64 (a0), .int .i64 (q0), .int .i64 (y0)] 23 ∧ RowU w' (.slice Ay 16 cy') (putL t0 b0 p0 a0 q0 y0))
                [none, none, none, none, none, none, none, none, none, none, none, none, none, none, none, none, some (RowS (putL t0 b0 p0 a0 q0 y0)), none, none, none, none, none] (by kernel_rfl) (by kernel_rfl)
                ⟨S12.out.2.2.drew, KX12.out.drew, RY.out.below (Below.drew (Below.refl _ _))⟩ (fun w1 w2 h hb => ⟨h.1.below hb h.1.lt, h.2.1.below hb h.2.1.lt, h.2.2.below hb⟩) ⟨rowS_stab _, trivial⟩ ?_
              try simp (config := { maxSteps := 10000000 }) only [specV, addF, Act.put, List.setIfInBounds_toArray, List.set_cons_zero, List.set_cons_succ, List.take_succ_cons, List.take_zero, List.drop_succ_cons, List.drop_zero]
              (apply Exists.intro; refine ⟨fun vs w1 hS hB hf => ?_, ?_⟩; (focus (clear hS hB hf; go_simp; first | exact ⟨Below.refl _ _, rfl⟩ | exact rfl)); try simp (config := { maxSteps := 10000000 }) only [specV, addF, Act.put, List.setIfInBounds_toArray, List.set_cons_zero, List.set_cons_succ, List.take_succ_cons, List.take_zero, List.drop_succ_cons, List.drop_zero])
              (apply Exists.intro; refine ⟨fun vs w1 hS hB hf => ?_, ?_⟩; (focus (clear hS hB hf; go_simp; first | exact ⟨Below.refl _ _, rfl⟩ | exact rfl)); try simp (config := { maxSteps := 10000000 }) only [specV, addF, Act.put, List.setIfInBounds_toArray, List.set_cons_zero, List.set_cons_succ, List.take_succ_cons, List.take_zero, List.drop_succ_cons, List.drop_zero])
              (apply Exists.intro; refine ⟨fun vs w1 hS hB hf => ?_, ?_⟩; (focus (clear hS hB hf; go_simp; first | exact ⟨Below.refl _ _, rfl⟩ | exact rfl)); try simp (config := { maxSteps := 10000000 }) only [specV, addF, Act.put, List.setIfInBounds_toArray, List.set_cons_zero, List.set_cons_succ, List.take_succ_cons, List.take_zero, List.drop_succ_cons, List.drop_zero])
              (apply Exists.intro; refine ⟨fun vs w1 hS hB hf => ?_, ?_⟩; (focus (clear hS hB hf; go_simp; first | exact ⟨Below.refl _ _, rfl⟩ | exact rfl)); try simp (config := { maxSteps := 10000000 }) only [specV, addF, Act.put, List.setIfInBounds_toArray, List.set_cons_zero, List.set_cons_succ, List.take_succ_cons, List.take_zero, List.drop_succ_cons, List.drop_zero])
              (apply Exists.intro; refine ⟨fun vs w1 hS hB hf => ?_, ?_⟩; (focus (clear hS hB hf; go_simp; first | exact ⟨Below.refl _ _, rfl⟩ | exact rfl)); try simp (config := { maxSteps := 10000000 }) only [specV, addF, Act.put, List.setIfInBounds_toArray, List.set_cons_zero, List.set_cons_succ, List.take_succ_cons, List.take_zero, List.drop_succ_cons, List.drop_zero])
              (apply Exists.intro; refine ⟨fun vs w1 hS hB hf => ?_, ?_⟩; (focus (have L1 := hS.1.cell; have l1 := hS.1.lt; clear hS hB hf; go_simp; first | exact ⟨Below.refl _ _, rfl⟩ | exact rfl)); try simp (config := { maxSteps := 10000000 }) only [specV, addF, Act.put, List.setIfInBounds_toArray, List.set_cons_zero, List.set_cons_succ, List.take_succ_cons, List.take_zero, List.drop_succ_cons, List.drop_zero])
              (apply Exists.intro; refine ⟨fun vs w1 hS hB hf => ?_, ?_⟩; (focus (go_simp; exact (ref_right t0 b0 p0 a0 q0 y0 w1).mono fun e w2 ⟨he, hb⟩ => callPost.of (v := .bool true) (by rw [he, HRR.out]) hb rfl)); try simp (config := { maxSteps := 10000000 }) only [specV, addF, Act.put, List.setIfInBounds_toArray, List.set_cons_zero, List.set_cons_succ, List.take_succ_cons, List.take_zero, List.drop_succ_cons, List.drop_zero])
              (apply Exists.intro; refine ⟨fun vs w1 hS hB hf => ?_, ?_⟩; (focus (clear hS hB hf; go_simp; first | exact ⟨Below.refl _ _, rfl⟩ | exact rfl)); try simp (config := { maxSteps := 10000000 }) only [specV, addF, Act.put, List.setIfInBounds_toArray, List.set_cons_zero, List.set_cons_succ, List.take_succ_cons, List.take_zero, List.drop_succ_cons, List.drop_zero])
              (apply Exists.intro; refine ⟨fun vs w1 hS hB hf => ?_, ?_⟩; (focus (clear hS hB hf; go_simp; first | exact ⟨Below.refl _ _, rfl⟩ | exact rfl)); try simp (config := { maxSteps := 10000000 }) only [specV, addF, Act.put, List.setIfInBounds_toArray, List.set_cons_zero, List.set_cons_succ, List.take_succ_cons, List.take_zero, List.drop_succ_cons, List.drop_zero])
              (apply Exists.intro; refine ⟨fun vs w1 hS hB hf => ?_, ?_⟩; (focus (have L1 := hS.2.1.cell; have l1 := hS.2.1.lt; clear hS hB hf; go_simp; first | exact ⟨Below.refl _ _, rfl⟩ | exact rfl)); try simp (config := { maxSteps := 10000000 }) only [specV, addF, Act.put, List.setIfInBounds_toArray, List.set_cons_zero, List.set_cons_succ, List.take_succ_cons, List.take_zero, List.drop_succ_cons, List.drop_zero])
              (apply Exists.intro; refine ⟨fun vs w1 hS hB hf => ?_, ?_⟩; (focus (have L1 := hS.1.cell; have l1 := hS.1.lt; clear hS hB hf; go_simp; first | exact ⟨Below.refl _ _, rfl⟩ | exact rfl)); try simp (config := { maxSteps := 10000000 }) only [specV, addF, Act.put, List.setIfInBounds_toArray, List.set_cons_zero, List.set_cons_succ, List.take_succ_cons, List.take_zero, List.drop_succ_cons, List.drop_zero])
              (apply Exists.intro; refine ⟨fun vs w1 hS hB hf => ?_, ?_⟩; (focus (clear hS hB hf; exact opOk_capeq rfl rfl rfl rfl (m := true) (by simp [capEq]))); try simp (config := { maxSteps := 10000000 }) only [specV, addF, Act.put, List.setIfInBounds_toArray, List.set_cons_zero, List.set_cons_succ, List.take_succ_cons, List.take_zero, List.drop_succ_cons, List.drop_zero])
              (apply Exists.intro; refine ⟨fun vs w1 hS hB hf => ?_, ?_⟩; (focus (clear hS hB hf; go_simp; first | exact ⟨Below.refl _ _, rfl⟩ | exact rfl)); try simp (config := { maxSteps := 10000000 }) only [specV, addF, Act.put, List.setIfInBounds_toArray, List.set_cons_zero, List.set_cons_succ, List.take_succ_cons, List.take_zero, List.drop_succ_cons, List.drop_zero])
              (apply Exists.intro; refine ⟨fun vs w1 hS hB hf => ?_, ?_⟩; (focus (clear hS hB hf; go_simp; first | exact ⟨Below.refl _ _, rfl⟩ | exact rfl)); try simp (config := { maxSteps := 10000000 }) only [specV, addF, Act.put, List.setIfInBounds_toArray, List.set_cons_zero, List.set_cons_succ, List.take_succ_cons, List.take_zero, List.drop_succ_cons, List.drop_zero])
              (apply Exists.intro; refine ⟨fun vs w1 hS hB hf => ?_, ?_⟩; (focus (obtain ⟨A1, c1, hv1, r1, _⟩ := hS.2.2; simp only [Value.slice.injEq] at hv1; obtain ⟨rfl, h9, rfl⟩ := hv1; clear h9; have k1 := run_str (P := Try.prog) Try.underlying24 Try.underlying5 Try.underlying9 cy' EL.out r1; rw [← E2.out] at k1; clear hS hB hf r1; go_simp; first | exact ⟨Below.refl _ _, rfl⟩ | exact rfl)); try simp (config := { maxSteps := 10000000 }) only [specV, addF, Act.put, List.setIfInBounds_toArray, List.set_cons_zero, List.set_cons_succ, List.take_succ_cons, List.take_zero, List.drop_succ_cons, List.drop_zero])
              (apply Exists.intro; refine ⟨fun vs w1 hS hB hf => ?_, ?_⟩; (focus (have L1 := hS.1.cell; have l1 := hS.1.lt; clear hS hB hf; go_simp; first | exact ⟨Below.refl _ _, rfl⟩ | exact rfl)); try simp (config := { maxSteps := 10000000 }) only [specV, addF, Act.put, List.setIfInBounds_toArray, List.set_cons_zero, List.set_cons_succ, List.take_succ_cons, List.take_zero, List.drop_succ_cons, List.drop_zero])
              (refine ⟨fun vs w1 hS hB hf => ?_, ?_⟩; (focus (go_simp; exact (ref_put_row t0 b0 p0 a0 q0 y0 w1).mono fun e w2 ⟨v, he, ho, hb⟩ => callPost.of he hb ho)); try simp (config := { maxSteps := 10000000 }) only [specV, addF, Act.put, List.setIfInBounds_toArray, List.set_cons_zero, List.set_cons_succ, List.take_succ_cons, List.take_zero, List.drop_succ_cons, List.drop_zero])
              (apply Exists.intro; refine ⟨fun vs w1 hS hB hf => ?_, ?_⟩; (focus (obtain ⟨h16, hf⟩ := hf; have r6 : RowU w1 (vs 16) (putL t0 b0 p0 a0 q0 y0) := h16 rfl; obtain ⟨A2, c2, hv2, r2, _⟩ := r6; have k2 := run_str (P := Try.prog) Try.underlying24 Try.underlying5 Try.underlying9 c2 rfl r2; rw [← E2.out] at k2; clear hS hB hf h16; simp only [Nat.zero_add, Nat.reduceAdd, hv2]; go_simp; first | exact ⟨Below.refl _ _, rfl⟩ | exact rfl)); try simp (config := { maxSteps := 10000000 }) only [specV, addF, Act.put, List.setIfInBounds_toArray, List.set_cons_zero, List.set_cons_succ, List.take_succ_cons, List.take_zero, List.drop_succ_cons, List.drop_zero])
              (apply Exists.intro; refine ⟨fun vs w1 hS hB hf => ?_, ?_⟩; (focus (clear hS hB hf; go_simp; first | exact ⟨Below.refl _ _, rfl⟩ | exact rfl)); try simp (config := { maxSteps := 10000000 }) only [specV, addF, Act.put, List.setIfInBounds_toArray, List.set_cons_zero, List.set_cons_succ, List.take_succ_cons, List.take_zero, List.drop_succ_cons, List.drop_zero])
              (apply Exists.intro; refine ⟨fun vs w1 hS hB hf => ?_, ?_⟩; (focus (clear hS hB hf; go_simp; first | exact ⟨Below.refl _ _, rfl⟩ | exact rfl)); try simp (config := { maxSteps := 10000000 }) only [specV, addF, Act.put, List.setIfInBounds_toArray, List.set_cons_zero, List.set_cons_succ, List.take_succ_cons, List.take_zero, List.drop_succ_cons, List.drop_zero])
              (apply Exists.intro; refine ⟨fun vs w1 hS hB hf => ?_, ?_⟩; (focus (clear hS hB hf; go_simp; first | exact ⟨Below.refl _ _, rfl⟩ | exact rfl)); try simp (config := { maxSteps := 10000000 }) only [specV, addF, Act.put, List.setIfInBounds_toArray, List.set_cons_zero, List.set_cons_succ, List.take_succ_cons, List.take_zero, List.drop_succ_cons, List.drop_zero])
              (apply Exists.intro; refine ⟨fun vs w1 hS hB hf => ?_, ?_⟩; (focus (clear hS hB hf; go_simp; first | exact ⟨Below.refl _ _, rfl⟩ | exact rfl)); try simp (config := { maxSteps := 10000000 }) only [specV, addF, Act.put, List.setIfInBounds_toArray, List.set_cons_zero, List.set_cons_succ, List.take_succ_cons, List.take_zero, List.drop_succ_cons, List.drop_zero])
              intro vs w13 hS hB13 _
              have B13 := Lib.hid (below_then S12.out.2.1 S12.out.2.1.size hB13)
              clear hS hB13
              dsimp only
              go_wp2
              go_ret
              exact ⟨rfl, B13.out⟩
end Go.Proofs.Ytjimkkkiilcpoaa.TagmemBack
