/-
  TagmemParts: for every slice of calls, address, slice of bytes and cut the law returns true, and each argument reads as it did. Condition: none.
-/
import Derived.Test.YtjimkkkiilcpoaaRows
import Derived.Test.YtjimkkkiilcpoaaTmU
import Derived.ChangeOld
set_option linter.unusedVariables false
set_option linter.unusedSimpArgs false
namespace Go.Proofs.Ytjimkkkiilcpoaa.TagmemParts
open Go.ChangeShapes Go.WideShapes Go.ChangeAt Go.RowKit Go.Proofs.Ytjimkkkiilcpoaa

theorem own : ownKnob Try.prog.godebug = none := by kernel_rfl
theorem laidOut : laidOutB Try.prog = true := by kernel_rfl

/-- Two memories. -/
def Two (w : World) (a aP b bP : Nat) (D : List Int) (T P : List Bool) (D' : List Int) (T' P' : List Bool) (W : World) : Prop :=
  TmM W a aP D T P ∧ TmM W b bP D' T' P' ∧ Below w.heap.size w W
theorem Two.grow {w : World} {a aP b bP : Nat} {D D' : List Int} {T P T' P' : List Bool} {W W1 : World} (h : Two w a aP b bP D T P D' T' P' W) (hb : Below W.heap.size W W1) : Two w a aP b bP D T P D' T' P' W1 :=
  ⟨h.1.grow hb, h.2.1.grow hb, below_then h.2.2 h.2.2.size hb⟩
/-- Four blocks apart, all new. -/
def Apart (w : World) (a aP b bP : Nat) : Prop := w.heap.size ≤ aP ∧ w.heap.size ≤ bP ∧ a ≠ bP ∧ aP ≠ bP ∧ b ≠ aP
theorem Two.one {w : World} {a aP b bP : Nat} {D D' D1 : List Int} {T P T' P' T1 P1 : List Bool} {W W1 : World} (h : Two w a aP b bP D T P D' T' P' W) (ha : Apart w a aP b bP) (h1 : TmM W1 a aP D1 T1 P1) (ht : Turns [aP] W W1) : Two w a aP b bP D1 T1 P1 D' T' P' W1 :=
  ⟨h1, h.2.1.turnsM ht ha.2.2.2.2 (Ne.symm ha.2.2.2.1), below_turns h.2.2 ht (by simpa using ha.1)⟩
theorem Two.two {w : World} {a aP b bP : Nat} {D D' D1 : List Int} {T P T' P' T1 P1 : List Bool} {W W1 : World} (h : Two w a aP b bP D T P D' T' P' W) (ha : Apart w a aP b bP) (h1 : TmM W1 b bP D1 T1 P1) (ht : Turns [bP] W W1) : Two w a aP b bP D T P D1 T1 P1 W1 :=
  ⟨h.1.turnsM ht ha.2.2.1 ha.2.2.2.1, h1, below_turns h.2.2 ht (by simpa using ha.2.1)⟩

theorem storeT_parts (T : List Bool) (a j n : Nat) (hj : j ≤ n) : storeT (storeT T a j) (a + j) (n - j) = storeT T a n := by
  refine list_ext_getD _ _ false (by rw [storeT_length, storeT_length, storeT_length]) fun k hk => ?_
  rw [storeT_getD, storeT_getD, storeT_getD]
  cases T.getD k false with
  | false => rfl
  | true =>
    rw [Bool.true_and, Bool.true_and, Bool.eq_iff_iff]
    simp only [Bool.and_eq_true, Bool.not_eq_true', decide_eq_false_iff_not]
    omega

set_option maxRecDepth 100000 in
set_option maxHeartbeats 3200000 in
theorem walk (v : Value) (L : List Op7) (at_ : Int) (vb : Value) (bs : List Int) (k : Int) (w : World) (ho : OpsM w v L) (hat : (Lit.int .u16 at_).wf = true) (hrb : RowU w vb bs) (hbb : isB bs) (hbm : bs.length ≤ maxLen) (hk : (Lit.int .u8 k).wf = true) :
    Calls Try.prog 17 #[v, .int .u16 at_, vb, .int .u8 k] w fun e w' => e = .returned (.bool true) ∧ Below w.heap.size w w' := by
  obtain ⟨x0, x1⟩ : 0 ≤ at_ ∧ at_ ≤ 65535 := by simpa [Lit.wf, IntKind.min, IntKind.max, IntKind.bits, IntKind.signed] using hat
  obtain ⟨y0, y1⟩ := u8_of_wf hk
  clear hat hk
  obtain ⟨am, rfl⟩ := Int.eq_ofNat_of_zero_le x0
  obtain ⟨km, rfl⟩ := Int.eq_ofNat_of_zero_le y0
  obtain ⟨A, c, rfl⟩ : ∃ A c, v = .slice A L.length c := ho.form
  obtain ⟨Ab, cb, rfl, hrd, hcb⟩ := id hrb
  clear hrd
  have HRA := Lib.hid hrb.apart
  have HBB := Lib.hid hbb
  have HBM := Lib.hid hbm
  clear hbb hbm
  have HO := Lib.hid ho
  have HRB := Lib.hid hrb
  clear ho hrb
  generalize hn : L.length = n at *
  have Hn := Lib.hid hn
  clear hn
  go_enter Try.func17, Try.ntmps17
  go_wp2_with fail
  refine (head7_true _).mono ?_
  rintro e w1 ⟨rfl, B1⟩
  go_wp2_with fail
  refine (tm_new 4 _ (by decide) (by decide)).mono ?_
  rintro e w2 ⟨a, aP, rfl, m2, gaP, ga, B2⟩
  have B2 := below_then B1 B1.size B2
  have gaP := Nat.le_trans B1.size gaP
  have ga := Nat.le_trans B1.size ga
  clear B1
  go_wp2_with fail
  refine (tm_new 4 _ (by decide) (by decide)).mono ?_
  rintro e w3 ⟨b, bP, rfl, m3, gbP, gb, B3⟩
  have S3 : Two w a aP b bP _ _ _ _ _ _ w3 := ⟨m2.grow B3, m3, below_then B2 B2.size B3⟩
  have AP := Lib.hid (show Apart w a aP b bP from by have := m2.lt; have := B2.size; exact ⟨gaP, by omega, by omega, by omega, by omega⟩)
  have HS := Lib.hid S3
  have hgr := great_any (.slice A n c) L w3 (HO.out.below S3.2.2)
  have HGR := Lib.hid (great_no (L := L))
  clear B2 B3 m2 m3 gaP ga gbP gb S3
  go_wp2_with fail
  refine hgr.mono ?_
  rintro e w4 ⟨rfl, rfl⟩
  clear hgr
  cases hgb : greatB L with
  | true =>
    clear hgb
    go_wp2
    go_ret
    exact ⟨rfl, HS.out.2.2⟩
  | false =>
    obtain ⟨hn200, hbs⟩ := HGR.out hgb
    rw [Hn.out] at hn200
    have HN200 : (n : Int) ≤ 200 := by omega
    clear hgb HGR hn200 hbs
    rcases Nat.lt_or_ge 1000 bs.length with hbig | hsm
    · have i0 : (1000 : Int) < bs.length := by omega
      go_wp2
      go_ret
      exact ⟨rfl, HS.out.2.2⟩
    · have i0 : ¬ (1000 : Int) < bs.length := by omega
      go_wp2
      go_loopg [12] n (fun gk v12 wr => ∃ (j : Nat) (D : List Int) (T P : List Bool), j + gk = n ∧ v12 = .int .i64 j ∧ P.length = 4 ∧ Two w a aP b bP D T P D T P wr)
      case atStart => exact ⟨0, _, _, _, by omega, rfl, by simp, HS.out⟩
      case round =>
        obtain ⟨j, D, T, P, hjk, rfl, hP, hS⟩ := hrel
        have HJ := Lib.hid hjk
        have HP := Lib.hid hP
        have HS2 := Lib.hid hS
        clear hjk hP hS
        rcases Nat.lt_or_ge j n with hlt | hge
        · have i1 : (j : Int) < n := by omega
          obtain ⟨op, hop⟩ : ∃ op, L[j]? = some op := ⟨_, List.getElem?_eq_getElem (by rw [Hn.out]; exact hlt)⟩
          obtain ⟨bo, oo, Ao, co, rfl, hq, hopv, _, _, hnb, hx⟩ := HO.out.getX HS2.out.2.2 hop
          have HV := Lib.hid hopv
          have NB := Lib.hid (And.intro (hnb aP AP.out.1) (hnb bP AP.out.2.1))
          have HLT := Lib.hid hlt
          obtain ⟨wh, ad_, os, t, cb', cp, ca, cq, cy, cn⟩ := op
          clear hlt hop hopv hnb
          go_upto_region 9 with fail
          refine wp_flow_lit 11 (fun w' => OpX w' bo (oo + j * 10) (.slice Ao os.length co) ⟨wh, ad_, os, t, cb', cp, ca, cq, cy, cn⟩ ∧ Two w a aP b bP D T P D T P w') [none, none, none, none, none, none, none, none, none, none, none]
            (by kernel_rfl) (by kernel_rfl) ⟨hx.below (Below.drew (Below.refl _ _)), HS2.out.grow (Below.drew (Below.refl _ _))⟩ (fun w1 w2 h hb => ⟨h.1.below hb, h.2.grow hb⟩) trivial ?_
          try simp (config := { maxSteps := 10000000 }) only [specV, addF, Act.put, List.setIfInBounds_toArray, List.set_cons_zero, List.set_cons_succ, List.take_succ_cons, List.take_zero, List.drop_succ_cons, List.drop_zero]
          (apply Exists.intro; refine ⟨fun vs w1 hS hB hf => ?_, ?_⟩; (focus (obtain ⟨hbo, k0, k1, k2, k3, k4, k5, k6, k7, k8, k9⟩ := hS.1; clear hS hB hf; go_simp; first | exact ⟨Below.refl _ _, rfl⟩ | exact rfl)); try simp (config := { maxSteps := 10000000 }) only [specV, addF, Act.put, List.setIfInBounds_toArray, List.set_cons_zero, List.set_cons_succ, List.take_succ_cons, List.take_zero, List.drop_succ_cons, List.drop_zero]); (apply Exists.intro; refine ⟨fun vs w1 hS hB hf => ?_, ?_⟩; (focus (obtain ⟨hbo, k0, k1, k2, k3, k4, k5, k6, k7, k8, k9⟩ := hS.1; clear hS hB hf; go_simp; first | exact ⟨Below.refl _ _, rfl⟩ | exact rfl)); try simp (config := { maxSteps := 10000000 }) only [specV, addF, Act.put, List.setIfInBounds_toArray, List.set_cons_zero, List.set_cons_succ, List.take_succ_cons, List.take_zero, List.drop_succ_cons, List.drop_zero]); (apply Exists.intro; refine ⟨fun vs w1 hS hB hf => ?_, ?_⟩; (focus (obtain ⟨hbo, k0, k1, k2, k3, k4, k5, k6, k7, k8, k9⟩ := hS.1; clear hS hB hf; go_simp; first | exact ⟨Below.refl _ _, rfl⟩ | exact rfl)); try simp (config := { maxSteps := 10000000 }) only [specV, addF, Act.put, List.setIfInBounds_toArray, List.set_cons_zero, List.set_cons_succ, List.take_succ_cons, List.take_zero, List.drop_succ_cons, List.drop_zero]); (apply Exists.intro; refine ⟨fun vs w1 hS hB hf => ?_, ?_⟩; (focus (obtain ⟨hbo, k0, k1, k2, k3, k4, k5, k6, k7, k8, k9⟩ := hS.1; clear hS hB hf; go_simp; first | exact ⟨Below.refl _ _, rfl⟩ | exact rfl)); try simp (config := { maxSteps := 10000000 }) only [specV, addF, Act.put, List.setIfInBounds_toArray, List.set_cons_zero, List.set_cons_succ, List.take_succ_cons, List.take_zero, List.drop_succ_cons, List.drop_zero]); (apply Exists.intro; refine ⟨fun vs w1 hS hB hf => ?_, ?_⟩; (focus (obtain ⟨hbo, k0, k1, k2, k3, k4, k5, k6, k7, k8, k9⟩ := hS.1; clear hS hB hf; go_simp; first | exact ⟨Below.refl _ _, rfl⟩ | exact rfl)); try simp (config := { maxSteps := 10000000 }) only [specV, addF, Act.put, List.setIfInBounds_toArray, List.set_cons_zero, List.set_cons_succ, List.take_succ_cons, List.take_zero, List.drop_succ_cons, List.drop_zero]); (apply Exists.intro; refine ⟨fun vs w1 hS hB hf => ?_, ?_⟩; (focus (obtain ⟨hbo, k0, k1, k2, k3, k4, k5, k6, k7, k8, k9⟩ := hS.1; clear hS hB hf; go_simp; first | exact ⟨Below.refl _ _, rfl⟩ | exact rfl)); try simp (config := { maxSteps := 10000000 }) only [specV, addF, Act.put, List.setIfInBounds_toArray, List.set_cons_zero, List.set_cons_succ, List.take_succ_cons, List.take_zero, List.drop_succ_cons, List.drop_zero]); (apply Exists.intro; refine ⟨fun vs w1 hS hB hf => ?_, ?_⟩; (focus (obtain ⟨hbo, k0, k1, k2, k3, k4, k5, k6, k7, k8, k9⟩ := hS.1; clear hS hB hf; go_simp; first | exact ⟨Below.refl _ _, rfl⟩ | exact rfl)); try simp (config := { maxSteps := 10000000 }) only [specV, addF, Act.put, List.setIfInBounds_toArray, List.set_cons_zero, List.set_cons_succ, List.take_succ_cons, List.take_zero, List.drop_succ_cons, List.drop_zero]); (apply Exists.intro; refine ⟨fun vs w1 hS hB hf => ?_, ?_⟩; (focus (obtain ⟨hbo, k0, k1, k2, k3, k4, k5, k6, k7, k8, k9⟩ := hS.1; clear hS hB hf; go_simp; first | exact ⟨Below.refl _ _, rfl⟩ | exact rfl)); try simp (config := { maxSteps := 10000000 }) only [specV, addF, Act.put, List.setIfInBounds_toArray, List.set_cons_zero, List.set_cons_succ, List.take_succ_cons, List.take_zero, List.drop_succ_cons, List.drop_zero]); (apply Exists.intro; refine ⟨fun vs w1 hS hB hf => ?_, ?_⟩; (focus (obtain ⟨hbo, k0, k1, k2, k3, k4, k5, k6, k7, k8, k9⟩ := hS.1; clear hS hB hf; go_simp; first | exact ⟨Below.refl _ _, rfl⟩ | exact rfl)); try simp (config := { maxSteps := 10000000 }) only [specV, addF, Act.put, List.setIfInBounds_toArray, List.set_cons_zero, List.set_cons_succ, List.take_succ_cons, List.take_zero, List.drop_succ_cons, List.drop_zero]); (apply Exists.intro; refine ⟨fun vs w1 hS hB hf => ?_, ?_⟩; (focus (obtain ⟨hbo, k0, k1, k2, k3, k4, k5, k6, k7, k8, k9⟩ := hS.1; clear hS hB hf; go_simp; first | exact ⟨Below.refl _ _, rfl⟩ | exact rfl)); try simp (config := { maxSteps := 10000000 }) only [specV, addF, Act.put, List.setIfInBounds_toArray, List.set_cons_zero, List.set_cons_succ, List.take_succ_cons, List.take_zero, List.drop_succ_cons, List.drop_zero]); (apply Exists.intro; refine ⟨fun vs w1 hS hB hf => ?_, ?_⟩; (focus (obtain ⟨hbo, k0, k1, k2, k3, k4, k5, k6, k7, k8, k9⟩ := hS.1; clear hS hB hf; go_simp; first | exact ⟨Below.refl _ _, rfl⟩ | exact rfl)); try simp (config := { maxSteps := 10000000 }) only [specV, addF, Act.put, List.setIfInBounds_toArray, List.set_cons_zero, List.set_cons_succ, List.take_succ_cons, List.take_zero, List.drop_succ_cons, List.drop_zero])
          intro vs w5 hS hB5 _
          have X5 := Lib.hid hS.1
          have S5 := Lib.hid hS.2
          clear hS hB5 hx
          dsimp only
          go_wp2_with fail
          refine (tm_storecapU a aP D T P ad_ t cb' cp ca cq cy _ S5.out.1 HV.out.2.1 HV.out.2.2.2.2.2.1).mono ?_
          rintro e w6 ⟨rfl, m6, t6⟩
          have X6 := X5.out.turns t6 (by simpa using NB.out.1)
          have S6 := Lib.hid (S5.out.one AP.out m6 t6)
          clear S5 X5 m6 t6
          go_upto_region 10 with fail
          refine wp_flow_lit 11 (fun w' => OpX w' bo (oo + j * 10) (.slice Ao os.length co) ⟨wh, ad_, os, t, cb', cp, ca, cq, cy, cn⟩ ∧ Two w a aP b bP (scD P.length D ad_ t cb' cp ca cq cy) (scT P.length T ad_ t cb' cp ca cq cy) (scP P ad_ t cb' cp ca cq cy) D T P w') [none, none, none, none, none, none, none, none, none, none, none]
            (by kernel_rfl) (by kernel_rfl) ⟨X6.below (Below.drew (Below.refl _ _)), S6.out.grow (Below.drew (Below.refl _ _))⟩ (fun w1 w2 h hb => ⟨h.1.below hb, h.2.grow hb⟩) trivial ?_
          try simp (config := { maxSteps := 10000000 }) only [specV, addF, Act.put, List.setIfInBounds_toArray, List.set_cons_zero, List.set_cons_succ, List.take_succ_cons, List.take_zero, List.drop_succ_cons, List.drop_zero]
          (apply Exists.intro; refine ⟨fun vs w1 hS hB hf => ?_, ?_⟩; (focus (obtain ⟨hbo, k0, k1, k2, k3, k4, k5, k6, k7, k8, k9⟩ := hS.1; clear hS hB hf; go_simp; first | exact ⟨Below.refl _ _, rfl⟩ | exact rfl)); try simp (config := { maxSteps := 10000000 }) only [specV, addF, Act.put, List.setIfInBounds_toArray, List.set_cons_zero, List.set_cons_succ, List.take_succ_cons, List.take_zero, List.drop_succ_cons, List.drop_zero]); (apply Exists.intro; refine ⟨fun vs w1 hS hB hf => ?_, ?_⟩; (focus (obtain ⟨hbo, k0, k1, k2, k3, k4, k5, k6, k7, k8, k9⟩ := hS.1; clear hS hB hf; go_simp; first | exact ⟨Below.refl _ _, rfl⟩ | exact rfl)); try simp (config := { maxSteps := 10000000 }) only [specV, addF, Act.put, List.setIfInBounds_toArray, List.set_cons_zero, List.set_cons_succ, List.take_succ_cons, List.take_zero, List.drop_succ_cons, List.drop_zero]); (apply Exists.intro; refine ⟨fun vs w1 hS hB hf => ?_, ?_⟩; (focus (obtain ⟨hbo, k0, k1, k2, k3, k4, k5, k6, k7, k8, k9⟩ := hS.1; clear hS hB hf; go_simp; first | exact ⟨Below.refl _ _, rfl⟩ | exact rfl)); try simp (config := { maxSteps := 10000000 }) only [specV, addF, Act.put, List.setIfInBounds_toArray, List.set_cons_zero, List.set_cons_succ, List.take_succ_cons, List.take_zero, List.drop_succ_cons, List.drop_zero]); (apply Exists.intro; refine ⟨fun vs w1 hS hB hf => ?_, ?_⟩; (focus (obtain ⟨hbo, k0, k1, k2, k3, k4, k5, k6, k7, k8, k9⟩ := hS.1; clear hS hB hf; go_simp; first | exact ⟨Below.refl _ _, rfl⟩ | exact rfl)); try simp (config := { maxSteps := 10000000 }) only [specV, addF, Act.put, List.setIfInBounds_toArray, List.set_cons_zero, List.set_cons_succ, List.take_succ_cons, List.take_zero, List.drop_succ_cons, List.drop_zero]); (apply Exists.intro; refine ⟨fun vs w1 hS hB hf => ?_, ?_⟩; (focus (obtain ⟨hbo, k0, k1, k2, k3, k4, k5, k6, k7, k8, k9⟩ := hS.1; clear hS hB hf; go_simp; first | exact ⟨Below.refl _ _, rfl⟩ | exact rfl)); try simp (config := { maxSteps := 10000000 }) only [specV, addF, Act.put, List.setIfInBounds_toArray, List.set_cons_zero, List.set_cons_succ, List.take_succ_cons, List.take_zero, List.drop_succ_cons, List.drop_zero]); (apply Exists.intro; refine ⟨fun vs w1 hS hB hf => ?_, ?_⟩; (focus (obtain ⟨hbo, k0, k1, k2, k3, k4, k5, k6, k7, k8, k9⟩ := hS.1; clear hS hB hf; go_simp; first | exact ⟨Below.refl _ _, rfl⟩ | exact rfl)); try simp (config := { maxSteps := 10000000 }) only [specV, addF, Act.put, List.setIfInBounds_toArray, List.set_cons_zero, List.set_cons_succ, List.take_succ_cons, List.take_zero, List.drop_succ_cons, List.drop_zero]); (apply Exists.intro; refine ⟨fun vs w1 hS hB hf => ?_, ?_⟩; (focus (obtain ⟨hbo, k0, k1, k2, k3, k4, k5, k6, k7, k8, k9⟩ := hS.1; clear hS hB hf; go_simp; first | exact ⟨Below.refl _ _, rfl⟩ | exact rfl)); try simp (config := { maxSteps := 10000000 }) only [specV, addF, Act.put, List.setIfInBounds_toArray, List.set_cons_zero, List.set_cons_succ, List.take_succ_cons, List.take_zero, List.drop_succ_cons, List.drop_zero]); (apply Exists.intro; refine ⟨fun vs w1 hS hB hf => ?_, ?_⟩; (focus (obtain ⟨hbo, k0, k1, k2, k3, k4, k5, k6, k7, k8, k9⟩ := hS.1; clear hS hB hf; go_simp; first | exact ⟨Below.refl _ _, rfl⟩ | exact rfl)); try simp (config := { maxSteps := 10000000 }) only [specV, addF, Act.put, List.setIfInBounds_toArray, List.set_cons_zero, List.set_cons_succ, List.take_succ_cons, List.take_zero, List.drop_succ_cons, List.drop_zero]); (apply Exists.intro; refine ⟨fun vs w1 hS hB hf => ?_, ?_⟩; (focus (obtain ⟨hbo, k0, k1, k2, k3, k4, k5, k6, k7, k8, k9⟩ := hS.1; clear hS hB hf; go_simp; first | exact ⟨Below.refl _ _, rfl⟩ | exact rfl)); try simp (config := { maxSteps := 10000000 }) only [specV, addF, Act.put, List.setIfInBounds_toArray, List.set_cons_zero, List.set_cons_succ, List.take_succ_cons, List.take_zero, List.drop_succ_cons, List.drop_zero]); (apply Exists.intro; refine ⟨fun vs w1 hS hB hf => ?_, ?_⟩; (focus (obtain ⟨hbo, k0, k1, k2, k3, k4, k5, k6, k7, k8, k9⟩ := hS.1; clear hS hB hf; go_simp; first | exact ⟨Below.refl _ _, rfl⟩ | exact rfl)); try simp (config := { maxSteps := 10000000 }) only [specV, addF, Act.put, List.setIfInBounds_toArray, List.set_cons_zero, List.set_cons_succ, List.take_succ_cons, List.take_zero, List.drop_succ_cons, List.drop_zero]); (apply Exists.intro; refine ⟨fun vs w1 hS hB hf => ?_, ?_⟩; (focus (obtain ⟨hbo, k0, k1, k2, k3, k4, k5, k6, k7, k8, k9⟩ := hS.1; clear hS hB hf; go_simp; first | exact ⟨Below.refl _ _, rfl⟩ | exact rfl)); try simp (config := { maxSteps := 10000000 }) only [specV, addF, Act.put, List.setIfInBounds_toArray, List.set_cons_zero, List.set_cons_succ, List.take_succ_cons, List.take_zero, List.drop_succ_cons, List.drop_zero])
          intro vs w7 hS hB7 _
          have S7 := Lib.hid hS.2
          clear hS hB7 X6
          dsimp only
          go_wp2_with fail
          refine (tm_storecapU b bP D T P ad_ t cb' cp ca cq cy _ S7.out.2.1 HV.out.2.1 HV.out.2.2.2.2.2.1).mono ?_
          rintro e w8 ⟨rfl, m8, t8⟩
          have S8 := Lib.hid (S7.out.two AP.out m8 t8)
          clear S7 m8 t8
          go_wp2
          go_roundg (gk - 1)
          case measure => have := HJ.out; have := HLT.out; omega
          case rel => exact ⟨j + 1, _, _, _, by have := HJ.out; have := HLT.out; omega, by go_num, (scP_length _ _ _ _ _ _ _ _).trans HP.out, S8.out⟩
        · have i1 : ¬ (j : Int) < n := by omega
          clear hge
          obtain ⟨ar, har⟩ : ∃ ar : Nat, am % 1025 = ar := ⟨_, rfl⟩
          obtain ⟨jr, hjr⟩ : ∃ jr : Nat, km % (bs.length + 1) = jr := ⟨_, rfl⟩
          have q1 : (am : Int) % 1025 = (ar : Int) := by omega
          have q2 : (km : Int) % ((bs.length : Int) + 1) = (jr : Int) := by rw [← hjr]; simp
          have hjl : jr ≤ bs.length := by rw [← hjr]; have := Nat.mod_lt km (show 0 < bs.length + 1 by omega); omega
          have har2 : ar ≤ 1024 := by omega
          have HJL := Lib.hid hjl
          clear har hjr
          rcases Nat.lt_or_ge 1024 (ar + bs.length) with hbig | hfit
          · have i2 : (1024 : Int) < (ar : Int) + bs.length := by omega
            go_wp2_with fail
            refine (tm_storeU a aP D T P (ar : Int) Ab cb bs _ HS2.out.1 ⟨by omega, by omega⟩ (HRB.out.below HS2.out.2.2) HBB.out (by omega) (HRA.out aP AP.out.1)).mono ?_
            rintro e w5 ⟨rfl, m5, t5⟩
            rw [show inB P.length ar bs.length = false by rw [HP.out, inB, decide_eq_false_iff_not]; omega]
            have S5 := Lib.hid ((HS2.out.one AP.out m5 t5).2.2)
            clear m5 t5
            go_wp2
            go_ret
            exact ⟨rfl, S5.out⟩
          · have i2 : ¬ (1024 : Int) < (ar : Int) + bs.length := by omega
            have HFIT := Lib.hid (show ar + bs.length ≤ 256 * P.length by rw [HP.out]; omega)
            have HLD := Lib.hid HS2.out.1.1.1
            have HLT := Lib.hid HS2.out.1.1.2.1
            have hjli : (jr : Int) ≤ bs.length := by omega
            have hjlc : (jr : Int) ≤ cb := by omega
            have hlcb : (bs.length : Int) ≤ cb := by omega
            clear hfit
            go_wp2_with fail
            refine (tm_store a aP D T P ar Ab cb bs _ HS2.out.1 (HRB.out.below HS2.out.2.2) HBB.out HFIT.out (HRA.out aP AP.out.1)).mono ?_
            rintro e w5 ⟨rfl, m5, t5⟩
            have S5 := Lib.hid (HS2.out.one AP.out m5 t5)
            clear m5 t5
            go_wp2_with fail
            have htk : (bs.take jr).length = jr := by rw [List.length_take]; exact Nat.min_eq_left HJL.out
            have g6 := tm_store b bP D T P ar Ab cb (bs.take jr) w5 S5.out.2.1 (by rw [htk]; exact (HRB.out.below S5.out.2.2).take jr HJL.out) (fun x hx => HBB.out x (List.mem_of_mem_take hx)) (by rw [htk]; have := HFIT.out; have := HJL.out; omega) (fun h0 => HRA.out bP AP.out.2.1 (by rw [htk] at h0; have := HJL.out; omega))
            rw [htk] at g6
            refine g6.mono ?_
            rintro e w6 ⟨rfl, m6, t6⟩
            have S6 := Lib.hid (S5.out.two AP.out m6 t6)
            have hdk : (bs.drop jr).length = bs.length - jr := List.length_drop
            have HDK := Lib.hid hdk
            have hw1 := writeL_writeL D ar (bs.take jr) (bs.drop jr) (by rw [htk, hdk]; have := HFIT.out; have := HJL.out; have := HLD.out; omega)
            rw [List.take_append_drop, htk] at hw1
            have g7 := tm_store b bP (writeL D ar (bs.take jr)) (storeT T ar jr) P (ar + jr) (subA Ab cb jr) (cb - jr) (bs.drop jr) w6 S6.out.2.1 (by rw [hdk]; exact (HRB.out.below S6.out.2.2).sub jr HJL.out)
              (fun x hx => HBB.out x (List.mem_of_mem_drop hx)) (by rw [hdk]; have := HFIT.out; have := HJL.out; omega) (fun h0 => subA_block (HRA.out bP AP.out.2.1 (by rw [hdk] at h0; omega)))
            rw [hdk, Int.natCast_add, hw1, storeT_parts T ar jr bs.length HJL.out] at g7
            clear m6 t6 g6 htk hw1 hdk S5
            by_cases hcj : cb = jr
            · rw [subA, if_pos hcj] at g7
              have G7 := Lib.hid g7
              subst hcj
              clear g7
              go_wp2_with fail
              have g7 := G7.out
              rw [Nat.sub_self, show bs.length - cb = 0 by omega] at g7
              clear G7
              (refine g7.mono ?_; rintro e w7 ⟨rfl, m7, t7⟩; have S7 := Lib.hid (S6.out.two AP.out m7 t7); clear m7 t7 g7 S6 HDK; have HB7 := Lib.hid S7.out.1.1.2.2.2; have HPL := Lib.hid (show 0 + 1024 ≤ 256 * P.length by rw [HP.out]; decide); have HTL := Lib.hid (show (tagsL (storeT T ar bs.length)).length ≤ 1048576 by have h1 := posL_len 16 (storeT T ar bs.length) (storeT T ar bs.length).length; have h2 := storeT_length T ar bs.length; have h3 := HP.out; have h4 := HLT.out; show (posL 16 _ _).length ≤ _; omega); have HDL := Lib.hid (show (dirtyL P).length ≤ 1048576 by have h1 := posL_len 1 P P.length; have h3 := HP.out; show (posL 1 _ _).length ≤ _; omega); generalize writeL D ar bs = D1 at *; generalize storeT T ar bs.length = T1 at *; go_wp2_with fail; refine (tm_load a aP D1 T1 P 0 1024 _ S7.out.1 HPL.out).mono ?_; rintro e w8 ⟨v8, rfl, o8, b8⟩; obtain ⟨A8, c8, rfl⟩ := own_form o8; have S8 := Lib.hid (S7.out.grow b8); have R8 := Lib.hid (RdL.own o8); clear o8 b8 S7; go_wp2_with fail; refine (tm_load b bP D1 T1 P 0 1024 _ S8.out.2.1 HPL.out).mono ?_; rintro e w9 ⟨v9, rfl, o9, b9⟩; obtain ⟨A9, c9, rfl⟩ := own_form o9; have S9 := Lib.hid (S8.out.grow b9); have k1 := run_str (P := Try.prog) Try.underlying24 Try.underlying5 Try.underlying9 c8 (partL_len D1 0 1024 (by rw [S9.out.1.1.1, HP.out]; decide)) (R8.out.below b9); have k2 := run_str (P := Try.prog) Try.underlying24 Try.underlying5 Try.underlying9 c9 (partL_len D1 0 1024 (by rw [S9.out.1.1.1, HP.out]; decide)) (RdL.own o9); generalize strOfNums (partL D1 0 1024) = sx at *; clear o9 b9 S8 R8; go_wp2_with fail; clear k1 k2; refine (tm_tags a aP D1 T1 P _ S9.out.1).mono ?_; rintro e w10 ⟨v10, rfl, o10, b10⟩; have S10 := Lib.hid (S9.out.grow b10); have R10 := Lib.hid (RowI.own o10); clear o10 b10 S9; go_wp2_with fail; refine (tm_tags b bP D1 T1 P _ S10.out.2.1).mono ?_; rintro e w11 ⟨v11, rfl, o11, b11⟩; have S11 := Lib.hid (S10.out.grow b11); have R11 := Lib.hid (R10.out.below b11); have R11b := Lib.hid (RowI.own o11); clear o11 b11 S10 R10; go_wp2_with fail; refine (same_ints v10 v11 (tagsL T1) (tagsL T1) _ R11.out R11b.out HTL.out).mono ?_; rintro e w12 ⟨rfl, n12, rfl⟩; rw [decide_eq_true rfl]; have S12 := Lib.hid (S11.out.grow (below_drewN (Below.refl _ _) n12)); clear S11 R11 R11b; generalize World.drewN _ n12 = w12 at *; go_wp2_with fail; refine (tm_dirty a aP D1 T1 P _ S12.out.1).mono ?_; rintro e w13 ⟨v13, rfl, o13, b13⟩; have S13 := Lib.hid (S12.out.grow b13); have R13 := Lib.hid (RowI.own o13); clear o13 b13 S12; go_wp2_with fail; refine (tm_dirty b bP D1 T1 P _ S13.out.2.1).mono ?_; rintro e w14 ⟨v14, rfl, o14, b14⟩; have S14 := Lib.hid (S13.out.grow b14); have R14 := Lib.hid (R13.out.below b14); have R14b := Lib.hid (RowI.own o14); clear o14 b14 S13 R13; go_wp2_with fail; refine (same_ints v13 v14 (dirtyL P) (dirtyL P) _ R14.out R14b.out HDL.out).mono ?_; rintro e w15 ⟨rfl, n15, rfl⟩; rw [decide_eq_true rfl]; have S15 := Lib.hid (S14.out.grow (below_drewN (Below.refl _ _) n15)); clear S14 R14 R14b; generalize World.drewN _ n15 = w15 at *; go_wp2; go_ret; exact ⟨rfl, S15.out.2.2⟩)
            · rw [subA, if_neg hcj] at g7
              have G7 := Lib.hid g7
              clear g7
              go_wp2_with fail
              have g7 := G7.out
              clear G7
              (refine g7.mono ?_; rintro e w7 ⟨rfl, m7, t7⟩; have S7 := Lib.hid (S6.out.two AP.out m7 t7); clear m7 t7 g7 S6 HDK; have HB7 := Lib.hid S7.out.1.1.2.2.2; have HPL := Lib.hid (show 0 + 1024 ≤ 256 * P.length by rw [HP.out]; decide); have HTL := Lib.hid (show (tagsL (storeT T ar bs.length)).length ≤ 1048576 by have h1 := posL_len 16 (storeT T ar bs.length) (storeT T ar bs.length).length; have h2 := storeT_length T ar bs.length; have h3 := HP.out; have h4 := HLT.out; show (posL 16 _ _).length ≤ _; omega); have HDL := Lib.hid (show (dirtyL P).length ≤ 1048576 by have h1 := posL_len 1 P P.length; have h3 := HP.out; show (posL 1 _ _).length ≤ _; omega); generalize writeL D ar bs = D1 at *; generalize storeT T ar bs.length = T1 at *; go_wp2_with fail; refine (tm_load a aP D1 T1 P 0 1024 _ S7.out.1 HPL.out).mono ?_; rintro e w8 ⟨v8, rfl, o8, b8⟩; obtain ⟨A8, c8, rfl⟩ := own_form o8; have S8 := Lib.hid (S7.out.grow b8); have R8 := Lib.hid (RdL.own o8); clear o8 b8 S7; go_wp2_with fail; refine (tm_load b bP D1 T1 P 0 1024 _ S8.out.2.1 HPL.out).mono ?_; rintro e w9 ⟨v9, rfl, o9, b9⟩; obtain ⟨A9, c9, rfl⟩ := own_form o9; have S9 := Lib.hid (S8.out.grow b9); have k1 := run_str (P := Try.prog) Try.underlying24 Try.underlying5 Try.underlying9 c8 (partL_len D1 0 1024 (by rw [S9.out.1.1.1, HP.out]; decide)) (R8.out.below b9); have k2 := run_str (P := Try.prog) Try.underlying24 Try.underlying5 Try.underlying9 c9 (partL_len D1 0 1024 (by rw [S9.out.1.1.1, HP.out]; decide)) (RdL.own o9); generalize strOfNums (partL D1 0 1024) = sx at *; clear o9 b9 S8 R8; go_wp2_with fail; clear k1 k2; refine (tm_tags a aP D1 T1 P _ S9.out.1).mono ?_; rintro e w10 ⟨v10, rfl, o10, b10⟩; have S10 := Lib.hid (S9.out.grow b10); have R10 := Lib.hid (RowI.own o10); clear o10 b10 S9; go_wp2_with fail; refine (tm_tags b bP D1 T1 P _ S10.out.2.1).mono ?_; rintro e w11 ⟨v11, rfl, o11, b11⟩; have S11 := Lib.hid (S10.out.grow b11); have R11 := Lib.hid (R10.out.below b11); have R11b := Lib.hid (RowI.own o11); clear o11 b11 S10 R10; go_wp2_with fail; refine (same_ints v10 v11 (tagsL T1) (tagsL T1) _ R11.out R11b.out HTL.out).mono ?_; rintro e w12 ⟨rfl, n12, rfl⟩; rw [decide_eq_true rfl]; have S12 := Lib.hid (S11.out.grow (below_drewN (Below.refl _ _) n12)); clear S11 R11 R11b; generalize World.drewN _ n12 = w12 at *; go_wp2_with fail; refine (tm_dirty a aP D1 T1 P _ S12.out.1).mono ?_; rintro e w13 ⟨v13, rfl, o13, b13⟩; have S13 := Lib.hid (S12.out.grow b13); have R13 := Lib.hid (RowI.own o13); clear o13 b13 S12; go_wp2_with fail; refine (tm_dirty b bP D1 T1 P _ S13.out.2.1).mono ?_; rintro e w14 ⟨v14, rfl, o14, b14⟩; have S14 := Lib.hid (S13.out.grow b14); have R14 := Lib.hid (R13.out.below b14); have R14b := Lib.hid (RowI.own o14); clear o14 b14 S13 R13; go_wp2_with fail; refine (same_ints v13 v14 (dirtyL P) (dirtyL P) _ R14.out R14b.out HDL.out).mono ?_; rintro e w15 ⟨rfl, n15, rfl⟩; rw [decide_eq_true rfl]; have S15 := Lib.hid (S14.out.grow (below_drewN (Below.refl _ _) n15)); clear S14 R14 R14b; generalize World.drewN _ n15 = w15 at *; go_wp2; go_ret; exact ⟨rfl, S15.out.2.2⟩)

set_option maxRecDepth 100000 in
theorem lifted (os : Os) (started : os.Started) (H : Type) (enc : TypeId × Value → H) :
    ReturnsInHanded {} Try.checked os 17 .any (Rows.tagmemPartsSpec.pre6 enc Try.prog Try.f17 Rows.tagmemPartsRow.domain false) (Rows.tagmemPartsSpec.post enc Try.prog Try.f17 false true false false) := by
  refine returnsInHanded_of_change (C := Try.checked) own started (by kernel_rfl) Try.func17
    (ChangeSpec.witness6 (enc := enc) (C := Try.checked) false ⟨#[], #[.slice none 0 0, .int .u16 0, .slice none 0 0, .int .u8 0], []⟩ 8 (by kernel_rfl) (by kernel_rfl) (by kernel_rfl) (by kernel_rfl)) ?_
  intro W base args ds gs before hval0 hW hcnd _
  have hval : ∀ (j : Nat) t v, Try.f17.params[j]? = some t → args[j]? = some v → Value.okWide Try.prog W .any base t v := hval0
  have hW' := hW
  obtain ⟨p, q, hA0, hV, rfl, hfz, hnd⟩ := hW
  have hA : DataW.TrodAll enc Try.prog W 0 (fun _ => true) true Try.f17.params.toList args.toList ds p := hA0
  rw [Try.params17] at hA hval
  obtain ⟨v0, vs0, d0, ds0, p0, q0, hargs, rfl, rfl, h0, r0⟩ := trodAll_cons hA
  obtain ⟨v1, vs1, d1, ds1, p1, q1, rfl, rfl, rfl, h1, r1⟩ := trodAll_cons r0
  obtain ⟨v2, vs2, d2, ds2, p2, q2, rfl, rfl, rfl, h2, r2⟩ := trodAll_cons r1
  obtain ⟨v3, vs3, d3, ds3, p3, q3, rfl, rfl, rfl, h3, r3⟩ := trodAll_cons r2
  obtain ⟨rfl, rfl, rfl⟩ := trodAll_nil r3
  obtain rfl : args = #[v0, v1, v2, v3] := by cases args; simp_all
  obtain ⟨rfl, rfl⟩ := trodVars_none hV
  have k0 := h0
  have lt0 : ∀ x ∈ p0, x.block < W.heap.size := by obtain ⟨m, hm⟩ := k0; exact DataW.trod_lt m _ _ _ hm
  obtain ⟨L0, hL0⟩ := open_opsM (hval 0 54 v0 rfl rfl) h0
  have k1 := h1
  have lt1 : ∀ x ∈ p1, x.block < W.heap.size := by obtain ⟨m, hm⟩ := k1; exact DataW.trod_lt m _ _ _ hm
  obtain ⟨x1, rfl, _, _, w1⟩ := open_int Try.underlying48 (hval 1 48 v1 rfl rfl) h1
  have k2 := h2
  have lt2 : ∀ x ∈ p2, x.block < W.heap.size := by obtain ⟨m, hm⟩ := k2; exact DataW.trod_lt m _ _ _ hm
  obtain ⟨x2, hx2, hb2, hm2⟩ := open_bytes (hval 2 24 v2 rfl rfl) h2
  have k3 := h3
  have lt3 : ∀ x ∈ p3, x.block < W.heap.size := by obtain ⟨m, hm⟩ := k3; exact DataW.trod_lt m _ _ _ hm
  obtain ⟨x3, rfl, _, _, w3⟩ := open_int Try.underlying5 (hval 3 5 v3 rfl rfl) h3
  clear hA0 hval0
  refine (walk v0 L0 x1 v2 x2 x3 W hL0 w1 hx2 hb2 hm2 w3).mono fun e W' ⟨he, bel⟩ => ?_
  subst he
  exact ⟨_, rfl, _, _, _, [], _, [], hW', trodAll_mk1 (shut_bool Try.underlying4 _), (trodAll_cons_mk (Below.trod laidOut (by kernel_rfl) (of_decide_eq_true (by kernel_rfl)) k0 bel lt0) (trodAll_cons_mk (Below.trod laidOut (by kernel_rfl) (of_decide_eq_true (by kernel_rfl)) k1 bel lt1) (trodAll_cons_mk (Below.trod laidOut (by kernel_rfl) (of_decide_eq_true (by kernel_rfl)) k2 bel lt2) (trodAll_cons_mk (Below.trod laidOut (by kernel_rfl) (of_decide_eq_true (by kernel_rfl)) k3 bel lt3) trodAll_mk0)))), rfl, bel.frame _, fun h => by cases h⟩

theorem over : Rows.tagmemPartsRow.holds Try.pinned (OpenSpec.ofChange Rows.tagmemPartsSpec) :=
  OpenClaim.holds_of_wide 17 Try.f17 rfl rfl rfl rfl rfl rfl rfl ⟨rfl, rfl, rfl, rfl, rfl⟩ rfl rfl rfl rfl rfl (by kernel_rfl) Try.func17 (by kernel_rfl)
    (of_decide_eq_true (by kernel_rfl)) (by unfold Func.isWrapper; rw [if_neg (of_decide_eq_false (by kernel_rfl))]; exact ⟨rfl, rfl⟩)
    (fun os started H enc _ => lifted os started H enc)

/-- The statement. -/
theorem proved : Rows.TagmemPartsSaid := over

#print axioms proved
end Go.Proofs.Ytjimkkkiilcpoaa.TagmemParts
