/-
  TagmemTags: for every slice of calls and every place the law returns true, and each argument reads as it did. Condition: none.
-/
import Derived.Test.YtjimkkkiilcpoaaRows
import Derived.Test.YtjimkkkiilcpoaaTmU
import Derived.ChangeOld
import Derived.Deep.DeepCutAuto
import Derived.Deep.CutBlock
set_option linter.unusedVariables false
set_option linter.unusedSimpArgs false
namespace Go.Proofs.Ytjimkkkiilcpoaa.TagmemTags
open Go.ChangeShapes Go.WideShapes Go.ChangeAt Go.RowKit Go.Proofs.Ytjimkkkiilcpoaa

theorem own : ownKnob Try.prog.godebug = none := by kernel_rfl
theorem laidOut : laidOutB Try.prog = true := by kernel_rfl

/-- What is known of the place's tag and its page. -/
def Inv (kk : Nat) (T P : List Bool) : Prop := P.length = 4 ∧ T.length = 64 ∧ (T.getD kk false = true → P.getD (kk / 16) false = true)
theorem inv_cap {kk : Nat} {T P : List Bool} (h : Inv kk T P) (hk : kk < 64) (at_ : Int) (t : Bool) (b p a q y : Int) (hs : scB 4 at_ t b p a q y = true) :
    Inv kk (scT 4 T at_ t b p a q y) (scP P at_ t b p a q y) ∧ (scT 4 T at_ t b p a q y).getD kk false = (if at_ = ((16 * kk : Nat) : Int) then t else T.getD kk false) := by
  obtain ⟨h1, h2, h3⟩ := h
  rw [scT, scP, h1, hs, if_pos rfl, Bool.true_and]
  rw [scB, Bool.and_eq_true] at hs
  obtain ⟨i, k, hi, hk', rfl⟩ := pl_split hs.1
  rw [(pl_div i k).1, (pl_div i k).2.1 hk']
  have e : (T.set (i * 16 + k) t).getD kk false = if i * 16 + k = kk then t else T.getD kk false := getD_setL _ _ _ _ _ (by omega)
  rw [e]
  refine ⟨⟨by split <;> simp [h1], by simp [h2], ?_⟩, by congr 1; simp only [eq_iff_iff]; omega⟩
  rw [e]
  intro h
  cases t with
  | false =>
    rw [if_neg (by decide)]
    split at h
    · cases h
    · exact h3 h
  | true =>
    rw [if_pos rfl, getD_setL _ _ _ _ _ (by omega)]
    split
    · rfl
    · rename_i hne
      rw [if_neg (by omega)] at h
      exact h3 h
theorem inv_same {kk : Nat} {T P : List Bool} (h : Inv kk T P) (at_ : Int) (t : Bool) (b p a q y : Int) (hs : scB 4 at_ t b p a q y = false) :
    Inv kk (scT 4 T at_ t b p a q y) (scP P at_ t b p a q y) ∧ (scT 4 T at_ t b p a q y).getD kk false = T.getD kk false := by
  rw [scT, scP, h.1, hs, if_neg (by decide), Bool.false_and, if_neg (by decide)]
  exact ⟨h, rfl⟩
theorem inv_strip {kk : Nat} {T P : List Bool} (h : Inv kk T P) (hk : kk < 64) (at_ : Int) :
    Inv kk (if plB 4 at_ then T.set (at_ / 16).toNat false else T) P ∧ (if plB 4 at_ then T.set (at_ / 16).toNat false else T).getD kk false = (T.getD kk false && decide (¬ at_ = ((16 * kk : Nat) : Int))) := by
  obtain ⟨h1, h2, h3⟩ := h
  cases hp : plB 4 at_ with
  | false =>
    rw [if_neg (by decide)]
    refine ⟨⟨h1, h2, h3⟩, ?_⟩
    rw [decide_eq_true (show ¬ at_ = ((16 * kk : Nat) : Int) by simp only [plB, decide_eq_false_iff_not] at hp; omega), Bool.and_true]
  | true =>
    rw [if_pos rfl]
    obtain ⟨i, k, hi, hk', rfl⟩ := pl_split hp
    rw [(pl_div i k).1]
    have e : (T.set (i * 16 + k) false).getD kk false = if i * 16 + k = kk then false else T.getD kk false := getD_setL _ _ _ _ _ (by omega)
    rw [e]
    refine ⟨⟨h1, by simp [h2], ?_⟩, ?_⟩
    · rw [e]
      intro h
      split at h
      · cases h
      · exact h3 h
    · split
      · rw [decide_eq_false (by omega), Bool.and_false]
      · rw [decide_eq_true (by omega), Bool.and_true]
theorem inv_clean {kk : Nat} {T P : List Bool} (h : Inv kk T P) (hk : kk < 64) (i : Int) : Inv kk T (if cleanB T P i then P.set i.toNat false else P) := by
  obtain ⟨h1, h2, h3⟩ := h
  cases hc : cleanB T P i with
  | false => exact ⟨h1, h2, h3⟩
  | true =>
    rw [if_pos rfl]
    refine ⟨by simp [h1], h2, fun ht => ?_⟩
    simp only [cleanB, Bool.and_eq_true, decide_eq_true_eq, Bool.not_eq_true'] at hc
    rw [getD_setL _ _ _ _ _ (by omega)]
    split
    · rename_i e
      have h5 : (pageT T i.toNat).any id = true := by
        rw [List.any_eq_true]
        have hg := pageT_getD T i.toNat (kk % 16) (by omega)
        rw [show i.toNat * 16 + kk % 16 = kk by omega, ht] at hg
        refine ⟨true, ?_, rfl⟩
        rw [List.getD_eq_getElem?_getD] at hg
        cases hx : (pageT T i.toNat)[kk % 16]? with
        | none => rw [hx] at hg; cases hg
        | some x => rw [hx] at hg; simp only [Option.getD_some] at hg; rw [← hg]; exact List.mem_of_getElem? hx
      rw [hc.2] at h5
      cases h5
    · exact h3 ht
theorem inv_store {kk : Nat} {T P : List Bool} (h : Inv kk T P) (a : Int) (k : Nat) :
    Inv kk (stT 4 T a k) P ∧ (stT 4 T a k).getD kk false = (T.getD kk false && !(inB 4 a k && decide (a < ((16 * kk : Nat) : Int) + 16 ∧ ((16 * kk : Nat) : Int) < a + k ∧ 0 < k))) := by
  obtain ⟨h1, h2, h3⟩ := h
  cases hi : inB 4 a k with
  | false =>
    rw [stT, hi, if_neg (by decide)]
    exact ⟨⟨h1, h2, h3⟩, by simp⟩
  | true =>
    rw [stT, hi, if_pos rfl]
    obtain ⟨i, rfl, hle⟩ := inB_split hi
    rw [Int.toNat_natCast]
    have e := storeT_getD T i k kk
    have e2 : decide (i < kk * 16 + 16 ∧ kk * 16 < i + k ∧ 0 < k) = decide ((i : Int) < ((16 * kk : Nat) : Int) + 16 ∧ ((16 * kk : Nat) : Int) < (i : Int) + k ∧ 0 < k) := by
      rw [Bool.eq_iff_iff]; simp only [decide_eq_true_eq]; omega
    refine ⟨⟨h1, by rw [storeT_length]; exact h2, fun h => ?_⟩, by rw [e, e2, Bool.true_and]⟩
    rw [e, Bool.and_eq_true] at h
    exact h3 h.1
theorem dirty_any (P : List Bool) (g : Nat) (hg : g < P.length) : (dirtyL P).any (fun x => x == (g : Int)) = P.getD g false := by
  rw [Bool.eq_iff_iff, List.any_eq_true]
  simp only [dirtyL, posL, List.mem_map, List.mem_filter, List.mem_range, beq_iff_eq]
  constructor
  · rintro ⟨x, ⟨i, ⟨hi, hp⟩, rfl⟩, e⟩
    have : i = g := by omega
    rw [← this]; exact hp
  · intro h
    exact ⟨_, ⟨g, ⟨hg, h⟩, rfl⟩, by omega⟩

set_option maxRecDepth 100000 in
set_option maxHeartbeats 3200000 in
theorem walk (v : Value) (L : List Op7) (at_ : Int) (w : World) (ho : OpsM w v L) (hat : (Lit.int .u16 at_).wf = true) :
    Calls Try.prog 14 #[v, .int .u16 at_] w fun e w' => e = .returned (.bool true) ∧ Below w.heap.size w w' := by
  obtain ⟨x0, x1⟩ : 0 ≤ at_ ∧ at_ ≤ 65535 := by simpa [Lit.wf, IntKind.min, IntKind.max, IntKind.bits, IntKind.signed] using hat
  clear hat
  obtain ⟨am, rfl⟩ := Int.eq_ofNat_of_zero_le x0
  obtain ⟨A, c, rfl⟩ : ∃ A c, v = .slice A L.length c := ho.form
  have HO := Lib.hid ho
  clear ho
  generalize hn : L.length = n at *
  have Hn := Lib.hid hn
  clear hn
  obtain ⟨kk, hkk⟩ : ∃ kk : Nat, am % 64 = kk := ⟨_, rfl⟩
  have q1 : (am : Int) % 64 = (kk : Int) := by omega
  have HK := Lib.hid (show kk < 64 by omega)
  obtain ⟨kz, hkz⟩ : ∃ kz : Nat, 16 * kk = kz := ⟨_, rfl⟩
  have q2 : 16 * (kk : Int) = (kz : Int) := by omega
  have q3 : (kz : Int) ≤ 1008 := by omega
  have HKZ := Lib.hid hkz
  clear hkk hkz
  go_enter Try.func14, Try.ntmps14
  go_wp2_with fail
  refine (head7_true _).mono ?_
  rintro e w1 ⟨rfl, B1⟩
  go_wp2_with fail
  refine (tm_new 4 _ (by decide) (by decide)).mono ?_
  rintro e w2 ⟨b, bP, rfl, m2, gP, gb, B2⟩
  have B2 := below_then B1 B1.size B2
  have HB2 := Lib.hid B2
  have HM2 := Lib.hid m2
  have HG := Lib.hid (show w.heap.size ≤ bP ∧ w.heap.size ≤ b from ⟨Nat.le_trans B1.size gP, Nat.le_trans B1.size gb⟩)
  have hgr := great_any (.slice A n c) L w2 (HO.out.below B2)
  have HGR := Lib.hid (great_no (L := L))
  clear B1 B2 m2 gP gb
  go_wp2_with fail
  refine hgr.mono ?_
  rintro e w3 ⟨rfl, rfl⟩
  clear hgr
  cases hgb : greatB L with
  | true =>
    clear hgb
    go_wp2
    go_ret
    exact ⟨rfl, HB2.out⟩
  | false =>
    obtain ⟨hn200, hbs⟩ := HGR.out hgb
    have HBS := Lib.hid hbs
    rw [Hn.out] at hn200
    have HN200 : (n : Int) ≤ 200 := by omega
    clear hgb hbs HGR hn200
    go_wp2
    go_loopg [8, 9] n (fun gk vw i wr => ∃ (j : Nat) (D : List Int) (T P : List Bool), j + gk = n ∧ i = .int .i64 j ∧ vw = .bool (T.getD kk false) ∧ Inv kk T P ∧ TmM wr b bP D T P ∧ Below w.heap.size w wr)
    case atStart =>
      have hz : (List.replicate (16 * 4) false).getD kk false = false := by rw [List.getD_eq_getElem?_getD, List.getElem?_replicate]; split <;> rfl
      exact ⟨0, _, _, _, by omega, rfl, by rw [hz], ⟨by simp, by simp, fun h => by rw [hz] at h; cases h⟩, HM2.out, HB2.out⟩
    case round =>
      obtain ⟨j, D, T, P, hjk, rfl, rfl, hI, hT, hB⟩ := hrel
      clear q1 q2
      have HJ := Lib.hid hjk
      have HT := Lib.hid hT
      have HI := Lib.hid hI
      have HB := Lib.hid hB
      clear hjk hT hI hB
      rcases Nat.lt_or_ge j n with hlt | hge
      · have i1 : (j : Int) < n := by omega
        obtain ⟨op, hop⟩ : ∃ op, L[j]? = some op := ⟨_, List.getElem?_eq_getElem (by rw [Hn.out]; exact hlt)⟩
        have hb9 := HBS.out op (List.mem_of_getElem? hop)
        (obtain ⟨bo, oo, Ab, c9, rfl, hq, hbo, hopv, hrb, hna, k0, k1, k2, k3, k4, k5, k6, k7, k8, k9⟩ := OpsM.get HO.out HB.out hop; have HQ := Lib.hid hq; have HV := Lib.hid hopv; have HNA := Lib.hid hna; have HRB0 := Lib.hid hrb; obtain ⟨wh, at_, bs, t, cb, cp, ca, cq, cy, cn⟩ := op; dsimp only at *; clear hopv hna hrb)
        have HLT := Lib.hid hlt
        clear hlt hop
        obtain ⟨tw, htw⟩ : ∃ tw, T.getD kk false = tw := ⟨_, rfl⟩
        have HTW := Lib.hid htw
        rw [htw]
        clear htw
        go_upto_block 2 with fail
        obtain ⟨W1, hW1⟩ : ∃ W1, wr.alloc (.cells #[.int .i64 wh, .int .i64 at_, .slice Ab bs.length c9, .bool t, .int .i64 cb, .int .i64 cp, .int .i64 ca, .int .i64 cq, .int .i64 cy, .int .i64 cn] 61) = W1 := ⟨_, rfl⟩
        have hbl1 : Below wr.heap.size wr W1 := by rw [← hW1]; exact (Below.refl _ _).alloc (Nat.le_refl _) _
        have S1 := Lib.hid (show Sc w b bP wr.heap.size (.slice Ab bs.length c9) bs #[.int .i64 wh, .int .i64 at_, .slice Ab bs.length c9, .bool t, .int .i64 cb, .int .i64 cp, .int .i64 ca, .int .i64 cq, .int .i64 cy, .int .i64 cn] D T P W1 from ⟨HT.out.grow hbl1, below_then HB.out HB.out.size hbl1, HRB0.out.below hbl1, by rw [← hW1]; exact Blk.new _ _ _⟩)
        have HNP := Lib.hid (show wr.heap.size ≠ bP by have := HT.out.lt.2; omega)
        clear k0 k1 k2 k3 k4 k5 k6 k7 k8 k9 hbo hbl1 HT HB HRB0
        rw [hW1]
        clear hW1
        generalize hlo : wr.heap.size = lo at *
        clear hlo
        have c5 := S1.out.2.2.2.cell
        have l5 := S1.out.2.2.2.lt
        go_cut [8] from 31 to 141 (fun s8 wx => ∃ (D' : List Int) (T' P' : List Bool), s8 = .bool (T'.getD kk false) ∧ Inv kk T' P' ∧ TmM wx b bP D' T' P' ∧ Below w.heap.size w wx)
        case first =>
          obtain ⟨va1, va2, va3, va4, va5, va6, va7, va8, va9, va10⟩ := HV.out
          rcases (show wh = 2 ∨ wh = 3 ∨ wh = 4 ∨ wh = 5 ∨ wh = 0 ∨ wh = 1 ∨ (¬ wh = 2 ∧ ¬ wh = 3 ∧ ¬ wh = 4 ∧ ¬ wh = 5 ∧ ¬ wh = 0 ∧ ¬ wh = 1) by omega) with hw | hw | hw | hw | hw | hw | ⟨h2, h3, h4, h5, h0, h1⟩
          · subst hw
            (go_wp2_with fail; refine (tm_storecapU b bP D T P at_ t cb cp ca cq cy _ S1.out.1 va2 va6).mono ?_; rintro e w6 ⟨rfl, m6, t6⟩; have S6 := Lib.hid (S1.out.turns m6 t6 HG.out.1 HNP.out (HNA.out bP HG.out.1)); rw [HI.out.1] at S6 ⊢; have c6 := S6.out.2.2.2.cell; have l6 := S6.out.2.2.2.lt; clear m6 t6 c5 l5; cases hs : scB 4 at_ t cb cp ca cq cy with | false => (have GI := inv_same HI.out at_ t cb cp ca cq cy hs; rw [HTW.out] at GI; have GI := Lib.hid GI; clear hs; (go_wp2_with fail; go_meet; exact ⟨_, _, _, by rw [GI.out.2], GI.out.1, S6.out.1, S6.out.2.1⟩)) | true => (have GI := inv_cap HI.out HK.out at_ t cb cp ca cq cy hs; rw [HTW.out, HKZ.out] at GI; clear hs; by_cases he : at_ = (kz : Int); (· rw [if_pos he] at GI; have hb : (at_ == (kz : Int)) = true := (by simpa using he); have GI := Lib.hid GI; clear he; (go_wp2_with fail; go_meet; exact ⟨_, _, _, by rw [GI.out.2], GI.out.1, S6.out.1, S6.out.2.1⟩)); (· rw [if_neg he] at GI; have hb : (at_ == (kz : Int)) = false := (by simpa using he); have GI := Lib.hid GI; clear he; (go_wp2_with fail; go_meet; exact ⟨_, _, _, by rw [GI.out.2], GI.out.1, S6.out.1, S6.out.2.1⟩))))
          · subst hw
            (go_wp2_with fail; refine (tm_storecapU b bP D T P at_ t cb cp ca cq cy _ S1.out.1 va2 va6).mono ?_; rintro e w6 ⟨rfl, m6, t6⟩; have S6 := Lib.hid (S1.out.turns m6 t6 HG.out.1 HNP.out (HNA.out bP HG.out.1)); rw [HI.out.1] at S6 ⊢; have c6 := S6.out.2.2.2.cell; have l6 := S6.out.2.2.2.lt; clear m6 t6 c5 l5; cases hs : scB 4 at_ t cb cp ca cq cy with | false => (have GI := inv_same HI.out at_ t cb cp ca cq cy hs; rw [HTW.out] at GI; have GI := Lib.hid GI; clear hs; (go_wp2_with fail; go_meet; exact ⟨_, _, _, by rw [GI.out.2], GI.out.1, S6.out.1, S6.out.2.1⟩)) | true => (have GI := inv_cap HI.out HK.out at_ t cb cp ca cq cy hs; rw [HTW.out, HKZ.out] at GI; clear hs; by_cases he : at_ = (kz : Int); (· rw [if_pos he] at GI; have hb : (at_ == (kz : Int)) = true := (by simpa using he); have GI := Lib.hid GI; clear he; (go_wp2_with fail; go_meet; exact ⟨_, _, _, by rw [GI.out.2], GI.out.1, S6.out.1, S6.out.2.1⟩)); (· rw [if_neg he] at GI; have hb : (at_ == (kz : Int)) = false := (by simpa using he); have GI := Lib.hid GI; clear he; (go_wp2_with fail; go_meet; exact ⟨_, _, _, by rw [GI.out.2], GI.out.1, S6.out.1, S6.out.2.1⟩))))
          · subst hw
            go_wp2_with fail
            refine (tm_strip b bP D T P at_ _ S1.out.1 va2).mono ?_
            rintro e w6 ⟨rfl, m6, t6⟩
            have S6 := Lib.hid (S1.out.turns m6 t6 HG.out.1 HNP.out (HNA.out bP HG.out.1))
            have GI := inv_strip HI.out HK.out at_
            rw [HI.out.1] at S6 ⊢
            rw [HTW.out, HKZ.out] at GI
            have c6 := S6.out.2.2.2.cell
            have l6 := S6.out.2.2.2.lt
            clear m6 t6 c5 l5
            generalize (plB 4 at_ && tagL T at_) = zz at *
            by_cases he : at_ = (kz : Int)
            · rw [decide_eq_false (by simpa using he), Bool.and_false] at GI
              have hb : (at_ != (kz : Int)) = false := by simpa using he
              have GI := Lib.hid GI
              clear he
              cases tw
              · (go_wp2_with fail; go_meet; exact ⟨_, _, _, by rw [GI.out.2], GI.out.1, S6.out.1, S6.out.2.1⟩)
              · (go_wp2_with fail; go_meet; exact ⟨_, _, _, by rw [GI.out.2], GI.out.1, S6.out.1, S6.out.2.1⟩)
            · rw [decide_eq_true he, Bool.and_true] at GI
              have hb : (at_ != (kz : Int)) = true := by simpa using he
              have GI := Lib.hid GI
              clear he
              cases tw
              · (go_wp2_with fail; go_meet; exact ⟨_, _, _, by rw [GI.out.2], GI.out.1, S6.out.1, S6.out.2.1⟩)
              · (go_wp2_with fail; go_meet; exact ⟨_, _, _, by rw [GI.out.2], GI.out.1, S6.out.1, S6.out.2.1⟩)
          · subst hw
            go_wp2_with fail
            refine (tm_clean b bP D T P at_ _ S1.out.1 va2).mono ?_
            rintro e w6 ⟨rfl, m6, t6⟩
            have S6 := Lib.hid (S1.out.turns m6 t6 HG.out.1 HNP.out (HNA.out bP HG.out.1))
            have GI := Lib.hid (And.intro (inv_clean HI.out HK.out at_) HTW.out)
            have c6 := S6.out.2.2.2.cell
            have l6 := S6.out.2.2.2.lt
            clear m6 t6 c5 l5
            generalize cleanB T P at_ = zz at *
            (go_wp2_with fail; go_meet; exact ⟨_, _, _, by rw [GI.out.2], GI.out.1, S6.out.1, S6.out.2.1⟩)
          · subst hw
            (go_wp2_with fail; refine (tm_storeU b bP D T P at_ Ab c9 bs _ S1.out.1 va2 S1.out.2.2.1 va9 (by omega) (HNA.out bP HG.out.1)).mono ?_; rintro e w6 ⟨rfl, m6, t6⟩; have S6 := Lib.hid (S1.out.turns m6 t6 HG.out.1 HNP.out (HNA.out bP HG.out.1)); have GI := inv_store HI.out at_ bs.length; rw [HTW.out, HKZ.out] at GI; rw [HI.out.1] at S6 ⊢; have c6 := S6.out.2.2.2.cell; have l6 := S6.out.2.2.2.lt; clear m6 t6 c5 l5; cases hz : inB 4 at_ bs.length with | false => (rw [hz, Bool.false_and, Bool.not_false, Bool.and_true] at GI; have GI := Lib.hid GI; clear hz; (go_wp2_with fail; go_meet; exact ⟨_, _, _, by rw [GI.out.2], GI.out.1, S6.out.1, S6.out.2.1⟩)) | true => (rw [hz, Bool.true_and] at GI; simp only [inB, decide_eq_true_eq] at hz; have z1 : 0 ≤ at_ ∧ at_ ≤ 1024 := (by omega); obtain ⟨z1, z2⟩ := z1; clear hz; rcases (show (0 < bs.length ∧ at_ < (kz : Int) + 16 ∧ (kz : Int) < at_ + bs.length) ∨ (¬ 0 < bs.length) ∨ (0 < bs.length ∧ (kz : Int) + 16 ≤ at_) ∨ (0 < bs.length ∧ at_ < (kz : Int) + 16 ∧ at_ + bs.length ≤ (kz : Int)) by omega) with ⟨y1, y2, y3⟩ | y1 | ⟨y1, y2⟩ | ⟨y1, y2, y3⟩; (· rw [decide_eq_true ⟨y2, y3, y1⟩, Bool.not_true, Bool.and_false] at GI; have GI := Lib.hid GI; have y1' : (0 : Int) < bs.length := (by omega); (go_wp2_with fail; go_meet; exact ⟨_, _, _, by rw [GI.out.2], GI.out.1, S6.out.1, S6.out.2.1⟩)); (· rw [decide_eq_false (by omega), Bool.not_false, Bool.and_true] at GI; have GI := Lib.hid GI; have y1' : ¬ (0 : Int) < bs.length := (by omega); (go_wp2_with fail; go_meet; exact ⟨_, _, _, by rw [GI.out.2], GI.out.1, S6.out.1, S6.out.2.1⟩)); (· rw [decide_eq_false (by omega), Bool.not_false, Bool.and_true] at GI; have GI := Lib.hid GI; have y1' : (0 : Int) < bs.length := (by omega); (go_wp2_with fail; go_meet; exact ⟨_, _, _, by rw [GI.out.2], GI.out.1, S6.out.1, S6.out.2.1⟩)); (· rw [decide_eq_false (by omega), Bool.not_false, Bool.and_true] at GI; have GI := Lib.hid GI; have y1' : (0 : Int) < bs.length := (by omega); (go_wp2_with fail; go_meet; exact ⟨_, _, _, by rw [GI.out.2], GI.out.1, S6.out.1, S6.out.2.1⟩))))
          · subst hw
            (go_wp2_with fail; refine (tm_storeU b bP D T P at_ Ab c9 bs _ S1.out.1 va2 S1.out.2.2.1 va9 (by omega) (HNA.out bP HG.out.1)).mono ?_; rintro e w6 ⟨rfl, m6, t6⟩; have S6 := Lib.hid (S1.out.turns m6 t6 HG.out.1 HNP.out (HNA.out bP HG.out.1)); have GI := inv_store HI.out at_ bs.length; rw [HTW.out, HKZ.out] at GI; rw [HI.out.1] at S6 ⊢; have c6 := S6.out.2.2.2.cell; have l6 := S6.out.2.2.2.lt; clear m6 t6 c5 l5; cases hz : inB 4 at_ bs.length with | false => (rw [hz, Bool.false_and, Bool.not_false, Bool.and_true] at GI; have GI := Lib.hid GI; clear hz; (go_wp2_with fail; go_meet; exact ⟨_, _, _, by rw [GI.out.2], GI.out.1, S6.out.1, S6.out.2.1⟩)) | true => (rw [hz, Bool.true_and] at GI; simp only [inB, decide_eq_true_eq] at hz; have z1 : 0 ≤ at_ ∧ at_ ≤ 1024 := (by omega); obtain ⟨z1, z2⟩ := z1; clear hz; rcases (show (0 < bs.length ∧ at_ < (kz : Int) + 16 ∧ (kz : Int) < at_ + bs.length) ∨ (¬ 0 < bs.length) ∨ (0 < bs.length ∧ (kz : Int) + 16 ≤ at_) ∨ (0 < bs.length ∧ at_ < (kz : Int) + 16 ∧ at_ + bs.length ≤ (kz : Int)) by omega) with ⟨y1, y2, y3⟩ | y1 | ⟨y1, y2⟩ | ⟨y1, y2, y3⟩; (· rw [decide_eq_true ⟨y2, y3, y1⟩, Bool.not_true, Bool.and_false] at GI; have GI := Lib.hid GI; have y1' : (0 : Int) < bs.length := (by omega); (go_wp2_with fail; go_meet; exact ⟨_, _, _, by rw [GI.out.2], GI.out.1, S6.out.1, S6.out.2.1⟩)); (· rw [decide_eq_false (by omega), Bool.not_false, Bool.and_true] at GI; have GI := Lib.hid GI; have y1' : ¬ (0 : Int) < bs.length := (by omega); (go_wp2_with fail; go_meet; exact ⟨_, _, _, by rw [GI.out.2], GI.out.1, S6.out.1, S6.out.2.1⟩)); (· rw [decide_eq_false (by omega), Bool.not_false, Bool.and_true] at GI; have GI := Lib.hid GI; have y1' : (0 : Int) < bs.length := (by omega); (go_wp2_with fail; go_meet; exact ⟨_, _, _, by rw [GI.out.2], GI.out.1, S6.out.1, S6.out.2.1⟩)); (· rw [decide_eq_false (by omega), Bool.not_false, Bool.and_true] at GI; have GI := Lib.hid GI; have y1' : (0 : Int) < bs.length := (by omega); (go_wp2_with fail; go_meet; exact ⟨_, _, _, by rw [GI.out.2], GI.out.1, S6.out.1, S6.out.2.1⟩))))
          · have b2 : (wh == 2) = false := by simpa using h2
            have b3 : (wh == 3) = false := by simpa using h3
            have b4 : (wh == 4) = false := by simpa using h4
            have b5 : (wh == 5) = false := by simpa using h5
            have b0 : (wh == 0) = false := by simpa using h0
            have b1 : (wh == 1) = false := by simpa using h1
            have S6 := Lib.hid S1.out
            have GI := Lib.hid (And.intro HI.out HTW.out)
            clear h2 h3 h4 h5 h0 h1
            (go_wp2_with fail; go_meet; exact ⟨_, _, _, by rw [GI.out.2], GI.out.1, S6.out.1, S6.out.2.1⟩)
        case rest =>
          obtain ⟨D', T', P', hu8, hI', hT', hB'⟩ := hcut
          obtain ⟨tv, htv⟩ : ∃ tv, T'.getD kk false = tv := ⟨_, rfl⟩
          rw [htv] at hu8
          subst hu8
          have HTV := Lib.hid htv
          clear htv
          have HI' := Lib.hid hI'
          have HT' := Lib.hid hT'
          have HB' := Lib.hid hB'
          clear hI' hT' hB' S1 c5 l5 HI HTW
          go_wp2_with fail
          refine (tm_dirty b bP D' T' P' _ HT'.out).mono ?_
          rintro e w6 ⟨vd, rfl, o6, b6⟩
          have HT6 := Lib.hid (HT'.out.grow b6)
          have HB6 := Lib.hid (below_then HB'.out HB'.out.size b6)
          have R6 := Lib.hid (RowI.own o6)
          clear o6 b6 HT' HB'
          obtain ⟨Ad, cd, rfl, _⟩ := id R6.out
          have HDA := Lib.hid (dirty_any P' (kk / 16) (by have := HI'.out.1; have := HK.out; omega))
          have HDL := Lib.hid (show (dirtyL P').length ≤ 4 by have h1 := posL_len 1 P' P'.length; have := HI'.out.1; show (posL 1 P' P'.length).length ≤ _; omega)
          have hpg : (kz : Int) / 256 = ((kk / 16 : Nat) : Int) := by have := HKZ.out; omega
          generalize hpgg : kk / 16 = pg at *
          have HPG := Lib.hid hpgg
          clear hpgg
          generalize hxs : dirtyL P' = xs at *
          clear hxs
          obtain ⟨m, hm⟩ : ∃ m, xs.length = m := ⟨_, rfl⟩
          have HM := Lib.hid hm
          rw [hm]
          rw [hm] at R6 HDL
          have hm4 : (m : Int) ≤ 4 := by have := HDL.out; omega
          clear hm
          obtain ⟨gq, rfl⟩ : ∃ gq : Nat, gq = gk := ⟨_, rfl⟩
          go_wp2
          go_loopg [11, 13] m (fun gi u v wi => ∃ r : Nat, r + gi = m ∧ v = .int .i64 r ∧ u = .bool ((xs.take r).any fun x => x == (pg : Int)) ∧ w6 = wi)
          case atStart => exact ⟨0, by omega, rfl, by rw [List.take_zero]; rfl, rfl⟩
          case round =>
            obtain ⟨r, hr, rfl, rfl, rfl⟩ := hrel
            have HR := Lib.hid hr
            clear hr
            rcases Nat.lt_or_ge r m with h1 | h1
            · have i2 : (r : Int) < m := by omega
              obtain ⟨gd, od, rfl, hcd⟩ := R6.out.cellsA (by rw [HM.out]; omega)
              have cd0 := hcd r (by rw [HM.out]; exact h1)
              have hbd := World.block_lt_of_cell? _ _ cd0
              dsimp only at hbd
              have HT := Lib.hid (show ((xs.take (r + 1)).any fun x => x == (pg : Int)) = (((xs.take r).any fun x => x == (pg : Int)) || (rdi xs r == (pg : Int))) by rw [take_snoc_i xs r (by rw [HM.out]; exact h1)]; simp)
              generalize rdi xs r = x at *
              generalize ((xs.take r).any fun x => x == (pg : Int)) = dd at *
              have H1 := Lib.hid h1
              clear h1 hcd
              cases dd
              · go_wp2
                go_roundg (gk - 1)
                case measure => have := HR.out; have := H1.out; omega
                case rel => exact ⟨r + 1, by have := HR.out; have := H1.out; omega, by go_num, by rw [HT.out, Bool.false_or], rfl⟩
              · go_wp2
                go_roundg (gk - 1)
                case measure => have := HR.out; have := H1.out; omega
                case rel => exact ⟨r + 1, by have := HR.out; have := H1.out; omega, by go_num, by rw [HT.out, Bool.true_or], rfl⟩
            · have i2 : ¬ (r : Int) < m := by omega
              have e1 : ((xs.take r).any fun x => x == (pg : Int)) = P'.getD pg false := by rw [List.take_of_length_le (by rw [HM.out]; exact h1)]; exact HDA.out
              rw [e1]
              have hti := HI'.out.2.2
              rw [HPG.out] at hti
              have HTI := Lib.hid hti
              have hpl : plB P'.length (kz : Int) = true := by rw [HI'.out.1, plB, decide_eq_true_eq]; have := HKZ.out; have := HK.out; omega
              have htl : tagL T' (kz : Int) = T'.getD kk false := by unfold tagL; congr 1; have := HKZ.out; omega
              have gt := tm_tag b bP D' T' P' (kz : Int) _ HT6.out ⟨by omega, by omega⟩
              rw [hpl, htl, Bool.true_and] at gt
              clear h1 e1 hti hpl htl
              obtain ⟨dv, hdv⟩ : ∃ dv, P'.getD pg false = dv := ⟨_, rfl⟩
              have HDV := Lib.hid hdv
              rw [hdv]
              rw [HTV.out] at gt
              clear hdv
              cases tv with
              | false =>
                go_wp2_with fail
                refine gt.mono ?_
                rintro e w8 ⟨rfl, rfl⟩
                go_wp2
                go_roundg (gq - 1)
                case measure => have := HJ.out; have := HLT.out; omega
                case rel => exact ⟨j + 1, D', T', P', by have := HJ.out; have := HLT.out; omega, by go_num, by rw [HTV.out], HI'.out, HT6.out, HB6.out⟩
              | true =>
                obtain rfl : dv = true := by rw [← HDV.out]; exact HTI.out HTV.out
                go_wp2_with fail
                refine gt.mono ?_
                rintro e w8 ⟨rfl, rfl⟩
                go_wp2
                go_roundg (gq - 1)
                case measure => have := HJ.out; have := HLT.out; omega
                case rel => exact ⟨j + 1, D', T', P', by have := HJ.out; have := HLT.out; omega, by go_num, by rw [HTV.out], HI'.out, HT6.out, HB6.out⟩
      · have i1 : ¬ (j : Int) < n := by omega
        clear hge
        go_wp2
        go_ret
        exact ⟨rfl, HB.out⟩
end Go.Proofs.Ytjimkkkiilcpoaa.TagmemTags
