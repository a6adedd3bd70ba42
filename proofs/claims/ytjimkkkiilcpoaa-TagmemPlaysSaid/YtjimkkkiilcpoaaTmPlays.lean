/-
  TagmemPlays: for every number of pages and every slice of calls the law returns true, and each argument reads as it did. Condition: none.
-/
import Derived.Test.YtjimkkkiilcpoaaRows
import Derived.Test.YtjimkkkiilcpoaaTmV
import Derived.Test.YtjimkkkiilcpoaaCapEq
import Derived.ChangeOld
import Derived.Deep.DeepCutAuto
import Derived.Deep.CutBlock
set_option linter.unusedVariables false
set_option linter.unusedSimpArgs false
namespace Go.Proofs.Ytjimkkkiilcpoaa.TagmemPlays
open Go.ChangeShapes Go.WideShapes Go.ChangeAt Go.RowKit Go.Proofs.Ytjimkkkiilcpoaa

theorem own : ownKnob Try.prog.godebug = none := by kernel_rfl
theorem laidOut : laidOutB Try.prog = true := by kernel_rfl

/-- A Bool by a number. -/
def bz (b : Bool) : Nat := if b then 0 else 1
theorem bz_eq (b : Bool) : (bz b == 0) = b := by cases b <;> rfl
theorem loads_str {w : World} {v : Value} {xs : List Int} (h : RowU w v xs) : (convert 24 9 v).run Try.prog w = .ok (.string (strOfNums xs)) w := by
  obtain ⟨A, c, rfl, hr, _⟩ := h
  exact run_str (P := Try.prog) Try.underlying24 Try.underlying5 Try.underlying9 c rfl hr

def RowT (xs : List Int) : Value → World → Prop := fun v w => RowI w v xs
theorem rowT_stab (xs : List Int) : ∀ v w w', RowT xs v w → Below w.heap.size w w' → RowT xs v w' := fun v w w' h hb => RowI.below h hb

set_option maxRecDepth 100000 in
set_option maxHeartbeats 3200000 in
theorem walk (x : Int) (v : Value) (L : List Op7) (w : World) (hx : (Lit.int .i64 x).wf = true) (ho : OpsM w v L) :
    Calls Try.prog 13 #[.int .i64 x, v] w fun e w' => e = .returned (.bool true) ∧ Below w.heap.size w w' := by
  obtain ⟨x0, x1⟩ := inI_of_wf hx
  clear hx
  obtain ⟨A, c, rfl⟩ : ∃ A c, v = .slice A L.length c := ho.form
  have HO := Lib.hid ho
  clear ho
  generalize hn : L.length = n at *
  have Hn := Lib.hid hn
  clear hn
  go_enter Try.func13, Try.ntmps13
  go_wp2_with fail
  refine (head7_true _).mono ?_
  rintro e w1 ⟨rfl, B1⟩
  have HB1 := Lib.hid B1
  clear B1
  rcases (show 40 < x ∨ x ≤ 40 by omega) with hx40 | hx40
  · go_wp2
    go_ret
    exact ⟨rfl, HB1.out⟩
  · have hx40' : ¬ 40 < x := by omega
    have hgr := great_any (.slice A n c) L w1 (HO.out.below HB1.out)
    have HGR := Lib.hid (great_no (L := L))
    go_wp2_with fail
    refine hgr.mono ?_
    rintro e w3 ⟨rfl, rfl⟩
    clear hgr
    cases hgb : greatB L with
    | true =>
      clear hgb
      go_wp2
      go_ret
      exact ⟨rfl, HB1.out⟩
    | false =>
      obtain ⟨hn200, hbs⟩ := HGR.out hgb
      have HBS := Lib.hid hbs
      rw [Hn.out] at hn200
      have HN200 : (n : Int) ≤ 200 := by omega
      clear hgb hbs HGR hn200
      rcases (show x < 1 ∨ 1 ≤ x by omega) with h1 | h1
      · have t1 := fun W => tm_new_nil x W (.inl h1)
        have t2 := fun W => tr_new_nil x W (.inl h1)
        have T1 := Lib.hid t1
        have T2 := Lib.hid t2
        clear t1 t2
        go_wp2_with fail
        refine (T1.out _).mono ?_
        rintro e w4 ⟨rfl, rfl⟩
        go_wp2_with fail
        refine (T2.out _).mono ?_
        rintro e w5 ⟨rfl, rfl⟩
        go_wp2
        go_ret
        exact ⟨rfl, HB1.out⟩
      · obtain ⟨m, rfl⟩ := Int.eq_ofNat_of_zero_le (show 0 ≤ x by omega)
        go_wp2_with fail
        refine (tm_new m _ h1 (by omega)).mono ?_
        rintro e w2 ⟨b, bP, rfl, m2, gP, gb, B2⟩
        have B2 := below_then HB1.out HB1.out.size B2
        have hlt2 := m2.lt
        have M2 := Lib.hid m2
        have HB2 := Lib.hid B2
        have HG0 := Lib.hid (show w.heap.size ≤ bP ∧ b < w2.heap.size ∧ bP < w2.heap.size from ⟨Nat.le_trans HB1.out.size gP, hlt2⟩)
        clear B2 m2 gP gb hlt2
        go_wp2_with fail
        refine (tr_new m _ h1 (by omega)).mono ?_
        rintro e w3 ⟨r, rB, rT, rP, rfl, m3, g1, g2, g3, g4, B3⟩
        have HS := Lib.hid (show Al w b bP r rB rT rP _ _ _ _ _ _ w3 from ⟨M2.out.grow B3, m3, below_then HB2.out HB2.out.size B3⟩)
        have AP := Lib.hid (show ApR w b bP r rB rT rP from by have := HG0.out; have := HB2.out.size; exact ⟨by omega, ⟨by omega, by omega, by omega⟩, ⟨by omega, by omega, by omega, by omega⟩, by omega, by omega, by omega⟩)
        clear g1 g2 g3 g4 B3 m3 M2 HB2 HG0
        go_wp2
        go_loopg [8] n (fun gk v8 wr => ∃ (j : Nat) (D : List Int) (T P : List Bool), j + gk = n ∧ v8 = .int .i64 j ∧ P.length = m ∧ Al w b bP r rB rT rP D T P D T P wr)
        case atStart => exact ⟨0, _, _, _, by omega, rfl, by simp, HS.out⟩
        case round =>
          obtain ⟨j, D, T, P, hjk, rfl, hP, hS⟩ := hrel
          have HJ := Lib.hid hjk
          have HP := Lib.hid hP
          have HS2 := Lib.hid hS
          clear hjk hP hS HS
          rcases Nat.lt_or_ge j n with hlt | hge
          · have i1 : (j : Int) < n := by omega
            obtain ⟨op, hop⟩ : ∃ op, L[j]? = some op := ⟨_, List.getElem?_eq_getElem (by rw [Hn.out]; exact hlt)⟩
            have hb9 := HBS.out op (List.mem_of_getElem? hop)
            (obtain ⟨bo, oo, Ab, c9, rfl, hq, hbo, hopv, hrb, hna, k0, k1, k2, k3, k4, k5, k6, k7, k8, k9⟩ := OpsM.get HO.out HS2.out.2.2 hop; have HQ := Lib.hid hq; have HV := Lib.hid hopv; have HNA := Lib.hid hna; have HRB0 := Lib.hid hrb; obtain ⟨wh, at_, bs, t, cb, cp, ca, cq, cy, cn⟩ := op; dsimp only at *; clear hopv hna hrb)
            have HLT := Lib.hid hlt
            clear hlt hop
            go_upto_block 2 with fail
            obtain ⟨W1, hW1⟩ : ∃ W1, wr.alloc (.cells #[.int .i64 wh, .int .i64 at_, .slice Ab bs.length c9, .bool t, .int .i64 cb, .int .i64 cp, .int .i64 ca, .int .i64 cq, .int .i64 cy, .int .i64 cn] 61) = W1 := ⟨_, rfl⟩
            have hbl1 : Below wr.heap.size wr W1 := by rw [← hW1]; exact (Below.refl _ _).alloc (Nat.le_refl _) _
            have S1 := Lib.hid (HS2.out.grow hbl1)
            have K1 := Lib.hid (show Blk W1 wr.heap.size #[.int .i64 wh, .int .i64 at_, .slice Ab bs.length c9, .bool t, .int .i64 cb, .int .i64 cp, .int .i64 ca, .int .i64 cq, .int .i64 cy, .int .i64 cn] 61 by rw [← hW1]; exact Blk.new _ _ _)
            have R1 := Lib.hid (HRB0.out.below hbl1)
            have NL := Lib.hid (show wr.heap.size ≠ bP ∧ wr.heap.size ≠ rB ∧ wr.heap.size ≠ rT ∧ wr.heap.size ≠ rP by have := HS2.out.1.lt; have := HS2.out.2.1.lt; omega)
            clear k0 k1 k2 k3 k4 k5 k6 k7 k8 k9 hbo hbl1 HRB0 HS2
            rw [hW1]
            clear hW1
            generalize hlo : wr.heap.size = lo at *
            clear hlo
            have c5 := K1.out.cell
            have l5 := K1.out.lt
            go_cut [10, 11, 12, 13, 14, 15, 16, 17, 18, 19] from 50 to 192 (fun s10 s11 s12 s13 s14 s15 s16 s17 s18 s19 wx => ∃ (z : Nat) (D' : List Int) (T' P' : List Bool), s10 = .bool (z == 0) ∧ s11 = .bool (z == 0) ∧ P'.length = m ∧ Al w b bP r rB rT rP D' T' P' D' T' P' wx ∧ Blk wx lo #[.int .i64 wh, .int .i64 at_, .slice Ab bs.length c9, .bool t, .int .i64 cb, .int .i64 cp, .int .i64 ca, .int .i64 cq, .int .i64 cy, .int .i64 cn] 61)
            case first =>
              obtain ⟨va1, va2, va3, va4, va5, va6, va7, va8, va9, va10⟩ := HV.out
              rcases (show wh = 2 ∨ wh = 3 ∨ wh = 4 ∨ wh = 5 ∨ wh = 6 ∨ wh = 7 ∨ (¬ wh = 2 ∧ ¬ wh = 3 ∧ ¬ wh = 4 ∧ ¬ wh = 5 ∧ ¬ wh = 6 ∧ ¬ wh = 7) by omega) with hw | hw | hw | hw | hw | hw | ⟨h2, h3, h4, h5, h6, h7⟩
              · subst hw
                (go_wp2_with fail; refine (tm_storecapU b bP D T P at_ t cb cp ca cq cy _ S1.out.1 va2 va6).mono ?_; rintro e w6 ⟨rfl, m6, t6⟩; (have S6 := Lib.hid (S1.out.one AP.out m6 t6); have K6 := Lib.hid (K1.out.turns t6 (by simpa using NL.out.1)); have c6 := K6.out.cell; have l6 := K6.out.lt; clear c5 l5 m6 t6); go_wp2_with fail; refine (tr_storecapU r rB rT rP D T P at_ t cb cp ca cq cy _ S6.out.2.1 va2).mono ?_; rintro e w7 ⟨rfl, m7, t7⟩; (have S8 := Lib.hid (S6.out.two AP.out m7 t7); have K8 := Lib.hid (K6.out.turns t7 (by have := NL.out.2; simp; omega)); clear c6 l6 m7 t7); go_wp2_with fail; go_meet; exact ⟨bz (scB P.length at_ t cb cp ca cq cy), _, _, _, by rw [bz_eq], by rw [bz_eq], (scP_length _ _ _ _ _ _ _ _).trans HP.out, S8.out, K8.out⟩)
              · subst hw
                (go_wp2_with fail; refine (tm_storecapU b bP D T P at_ t cb cp ca cq cy _ S1.out.1 va2 va6).mono ?_; rintro e w6 ⟨rfl, m6, t6⟩; (have S6 := Lib.hid (S1.out.one AP.out m6 t6); have K6 := Lib.hid (K1.out.turns t6 (by simpa using NL.out.1)); have c6 := K6.out.cell; have l6 := K6.out.lt; clear c5 l5 m6 t6); go_wp2_with fail; refine (tr_storecapU r rB rT rP D T P at_ t cb cp ca cq cy _ S6.out.2.1 va2).mono ?_; rintro e w7 ⟨rfl, m7, t7⟩; (have S8 := Lib.hid (S6.out.two AP.out m7 t7); have K8 := Lib.hid (K6.out.turns t7 (by have := NL.out.2; simp; omega)); clear c6 l6 m7 t7); go_wp2_with fail; go_meet; exact ⟨bz (scB P.length at_ t cb cp ca cq cy), _, _, _, by rw [bz_eq], by rw [bz_eq], (scP_length _ _ _ _ _ _ _ _).trans HP.out, S8.out, K8.out⟩)
              · subst hw
                go_wp2_with fail
                refine (tm_strip b bP D T P at_ _ S1.out.1 va2).mono ?_
                rintro e w6 ⟨rfl, m6, t6⟩
                (have S6 := Lib.hid (S1.out.one AP.out m6 t6); have K6 := Lib.hid (K1.out.turns t6 (by simpa using NL.out.1)); have c6 := K6.out.cell; have l6 := K6.out.lt; clear c5 l5 m6 t6)
                go_wp2_with fail
                refine (tr_strip r rB rT rP D T P at_ _ S6.out.2.1 va2).mono ?_
                rintro e w7 ⟨rfl, m7, t7⟩
                (have S8 := Lib.hid (S6.out.two AP.out m7 t7); have K8 := Lib.hid (K6.out.turns t7 (by have := NL.out.2; simp; omega)); clear c6 l6 m7 t7)
                go_wp2_with fail
                go_meet
                exact ⟨bz (plB P.length at_ && tagL T at_), _, _, _, by rw [bz_eq], by rw [bz_eq], HP.out, S8.out, K8.out⟩
              · subst hw
                go_wp2_with fail
                refine (tm_clean b bP D T P at_ _ S1.out.1 va2).mono ?_
                rintro e w6 ⟨rfl, m6, t6⟩
                (have S6 := Lib.hid (S1.out.one AP.out m6 t6); have K6 := Lib.hid (K1.out.turns t6 (by simpa using NL.out.1)); have c6 := K6.out.cell; have l6 := K6.out.lt; clear c5 l5 m6 t6)
                go_wp2_with fail
                refine (tr_clean r rB rT rP D T P at_ _ S6.out.2.1 va2).mono ?_
                rintro e w7 ⟨rfl, m7, t7⟩
                (have S8 := Lib.hid (S6.out.two AP.out m7 t7); have K8 := Lib.hid (K6.out.turns t7 (by have := NL.out.2; simp; omega)); clear c6 l6 m7 t7)
                go_wp2_with fail
                go_meet
                exact ⟨bz (cleanB T P at_), _, _, _, by rw [bz_eq], by rw [bz_eq], by split <;> simp [HP.out], S8.out, K8.out⟩
              · subst hw
                go_wp2_with fail
                refine (tm_loadA b bP D T P at_ cn _ S1.out.1 va2 va8).mono ?_
                rintro e w6 ⟨v6, rfl, r6, b6⟩
                have S6 := Lib.hid (S1.out.grow b6)
                have K6 := Lib.hid (K1.out.below b6 K1.out.lt)
                have R6 := Lib.hid r6
                clear c5 l5 r6 b6
                have c6 := K6.out.cell
                have l6 := K6.out.lt
                go_wp2_with fail
                refine (tr_loadA r rB rT rP D T P at_ cn _ S6.out.2.1 va2 va8).mono ?_
                rintro e w7 ⟨v7, rfl, r7, b7⟩
                have S8 := Lib.hid (S6.out.grow b7)
                have K8 := Lib.hid (K6.out.below b7 K6.out.lt)
                have k1 := loads_str (R6.out.below b7)
                have k2 := loads_str r7
                generalize strOfNums (ldL P.length D at_ cn) = sx at *
                generalize inB P.length at_ cn = ib at *
                clear c6 l6 r7 b7 R6
                go_wp2_with fail
                go_meet
                exact ⟨0, _, _, _, rfl, rfl, HP.out, S8.out, K8.out⟩
              · subst hw
                go_wp2_with fail
                refine (tm_loadcapA b bP D T P at_ _ S1.out.1 va2).mono ?_
                rintro e w6 ⟨rfl, b6⟩
                have S6 := Lib.hid (S1.out.grow b6)
                have K6 := Lib.hid (K1.out.below b6 K1.out.lt)
                clear c5 l5 b6
                have gr := tr_loadcapA r rB rT rP D T P at_
                obtain ⟨lc, hlc⟩ : ∃ lc, capL P.length D T at_ = lc := ⟨_, rfl⟩
                rw [hlc] at gr ⊢
                obtain ⟨g0, g1, g2, g3, g4, g5⟩ := lc
                simp only [capV] at gr ⊢
                have GR := Lib.hid gr
                clear hlc gr
                generalize plB P.length at_ = pb at *
                have c6 := K6.out.cell
                have l6 := K6.out.lt
                go_wp2_with fail
                obtain ⟨W7, hW7⟩ : ∃ W7, w6.alloc (.cells #[.bool (g0), .int .i64 (g1), .int .i64 (g2), .int .i64 (g3), .int .i64 (g4), .int .i64 (g5)] 23) = W7 := ⟨_, rfl⟩
                have hb7 : Below w6.heap.size w6 W7 := by rw [← hW7]; exact (Below.refl _ _).alloc (Nat.le_refl _) _
                have S7 := Lib.hid (S6.out.grow hb7)
                have K7 := Lib.hid (K6.out.below hb7 K6.out.lt)
                have X7 := Lib.hid (show Blk W7 w6.heap.size #[.bool (g0), .int .i64 (g1), .int .i64 (g2), .int .i64 (g3), .int .i64 (g4), .int .i64 (g5)] 23 by rw [← hW7]; exact Blk.new _ _ _)
                rw [hW7]
                clear hW7 hb7 c6 l6
                generalize w6.heap.size = kx at *
                refine (GR.out _ S7.out.2.1 va2).mono ?_
                rintro e w8 ⟨rfl, b8⟩
                have S8 := Lib.hid (S7.out.grow b8)
                have K8 := Lib.hid (K7.out.below b8 K7.out.lt)
                have x8 := X7.out.below b8 X7.out.lt
                have cx := x8.cell
                have lx := x8.lt
                clear b8 S7 K7 X7 S6 K6 GR
                have hb9 : Below w8.heap.size w8 (w8.alloc (.cells #[.bool (g0), .int .i64 (g1), .int .i64 (g2), .int .i64 (g3), .int .i64 (g4), .int .i64 (g5)] 23)) := (Below.refl _ _).alloc (Nat.le_refl _) _
                have S9 := Lib.hid (S8.out.grow hb9)
                have K9 := Lib.hid (K8.out.below hb9 K8.out.lt)
                clear hb9 x8
                go_wp2_with fail
                go_meet
                exact ⟨0, _, _, _, rfl, rfl, HP.out, S9.out, K9.out⟩
              · have b2 : (wh == 2) = false := by simpa using h2
                have b3 : (wh == 3) = false := by simpa using h3
                have b4 : (wh == 4) = false := by simpa using h4
                have b5 : (wh == 5) = false := by simpa using h5
                have b6 : (wh == 6) = false := by simpa using h6
                have b7 : (wh == 7) = false := by simpa using h7
                clear h2 h3 h4 h5 h6 h7
                go_wp2_with fail
                refine (tm_storeU b bP D T P at_ Ab c9 bs _ S1.out.1 va2 R1.out va9 (by omega) (HNA.out bP AP.out.1)).mono ?_
                rintro e w6 ⟨rfl, m6, t6⟩
                have R6 := Lib.hid (R1.out.turns t6 (fun h0 ad e => by simpa using HNA.out bP AP.out.1 h0 ad e))
                (have S6 := Lib.hid (S1.out.one AP.out m6 t6); have K6 := Lib.hid (K1.out.turns t6 (by simpa using NL.out.1)); have c6 := K6.out.cell; have l6 := K6.out.lt; clear c5 l5 m6 t6)
                go_wp2_with fail
                refine (tr_storeU r rB rT rP D T P at_ Ab c9 bs _ S6.out.2.1 va2 R6.out va9 (by omega) (fun h0 ad e => by have := HNA.out rB AP.out.2.1.1 h0 ad e; have := HNA.out rT AP.out.2.1.2.1 h0 ad e; have := HNA.out rP AP.out.2.1.2.2 h0 ad e; simp; omega)).mono ?_
                rintro e w7 ⟨rfl, m7, t7⟩
                (have S8 := Lib.hid (S6.out.two AP.out m7 t7); have K8 := Lib.hid (K6.out.turns t7 (by have := NL.out.2; simp; omega)); clear c6 l6 m7 t7)
                go_wp2_with fail
                go_meet
                exact ⟨bz (inB P.length at_ bs.length), _, _, _, by rw [bz_eq], by rw [bz_eq], HP.out, S8.out, K8.out⟩
            case rest =>
              obtain ⟨z, D', T', P', rfl, rfl, hP', hS', hk'⟩ := hcut
              have HP' := Lib.hid hP'
              have S2 := Lib.hid hS'
              have K2 := Lib.hid hk'
              have HAT := Lib.hid HV.out.2.1
              have HTL := Lib.hid (show (tagsL T').length ≤ 1048576 by have h1 := posL_len 16 T' T'.length; have h2 := hS'.1.1.2.1; show (posL 16 T' T'.length).length ≤ _; omega)
              have HDL := Lib.hid (show (dirtyL P').length ≤ 1048576 by have h1 := posL_len 1 P' P'.length; show (posL 1 P' P'.length).length ≤ _; omega)
              generalize (z == 0) = zb at *
              clear hP' hS' hk' S1 K1 R1 c5 l5
              go_upto_region 35 with fail
              refine wp_flow_lit 29 (fun w' => Al w b bP r rB rT rP D' T' P' D' T' P' w' ∧ Blk w' lo #[.int .i64 wh, .int .i64 at_, .slice Ab bs.length c9, .bool t, .int .i64 cb, .int .i64 cp, .int .i64 ca, .int .i64 cq, .int .i64 cy, .int .i64 cn] 61)
                [none, none, none, none, none, some (RowT (tagsL T')), none, some (RowT (tagsL T')), none, none, none, none, none, some (RowT (dirtyL P')), none, some (RowT (dirtyL P')), none, none, none, none, none, none, none, none, none, none, none, none, none] (by kernel_rfl) (by kernel_rfl)
                ⟨S2.out.grow (Below.drew (Below.refl _ _)), K2.out.drew⟩ (fun w1 w2 h hb => ⟨h.1.grow hb, h.2.below hb h.2.lt⟩) ⟨rowT_stab _, rowT_stab _, rowT_stab _, rowT_stab _, trivial⟩ ?_
              try simp (config := { maxSteps := 10000000 }) only [specV, addF, Act.put, List.setIfInBounds_toArray, List.set_cons_zero, List.set_cons_succ, List.take_succ_cons, List.take_zero, List.drop_succ_cons, List.drop_zero]
              (apply Exists.intro; refine ⟨fun vs w1 hS hB hf => ?_, ?_⟩; (focus (clear hS hB hf; go_simp; first | exact ⟨Below.refl _ _, rfl⟩ | exact rfl)); try simp (config := { maxSteps := 10000000 }) only [specV, addF, Act.put, List.setIfInBounds_toArray, List.set_cons_zero, List.set_cons_succ, List.take_succ_cons, List.take_zero, List.drop_succ_cons, List.drop_zero])
              (apply Exists.intro; refine ⟨fun vs w1 hS hB hf => ?_, ?_⟩; (focus (clear hS hB hf; go_simp; first | exact ⟨Below.refl _ _, rfl⟩ | exact rfl)); try simp (config := { maxSteps := 10000000 }) only [specV, addF, Act.put, List.setIfInBounds_toArray, List.set_cons_zero, List.set_cons_succ, List.take_succ_cons, List.take_zero, List.drop_succ_cons, List.drop_zero])
              (apply Exists.intro; refine ⟨fun vs w1 hS hB hf => ?_, ?_⟩; (focus (clear hS hB hf; go_simp; first | exact ⟨Below.refl _ _, rfl⟩ | exact rfl)); try simp (config := { maxSteps := 10000000 }) only [specV, addF, Act.put, List.setIfInBounds_toArray, List.set_cons_zero, List.set_cons_succ, List.take_succ_cons, List.take_zero, List.drop_succ_cons, List.drop_zero])
              (apply Exists.intro; refine ⟨fun vs w1 hS hB hf => ?_, ?_⟩; (focus (clear hS hB hf; go_simp; first | exact ⟨Below.refl _ _, rfl⟩ | exact rfl)); try simp (config := { maxSteps := 10000000 }) only [specV, addF, Act.put, List.setIfInBounds_toArray, List.set_cons_zero, List.set_cons_succ, List.take_succ_cons, List.take_zero, List.drop_succ_cons, List.drop_zero])
              (apply Exists.intro; refine ⟨fun vs w1 hS hB hf => ?_, ?_⟩; (focus (clear hS hB hf; go_simp; first | exact ⟨Below.refl _ _, rfl⟩ | exact rfl)); try simp (config := { maxSteps := 10000000 }) only [specV, addF, Act.put, List.setIfInBounds_toArray, List.set_cons_zero, List.set_cons_succ, List.take_succ_cons, List.take_zero, List.drop_succ_cons, List.drop_zero])
              (refine ⟨fun vs w1 hS hB hf => ?_, ?_⟩; (focus (go_simp; exact (tm_tags b bP D' T' P' w1 hS.1.1).mono fun e w2 ⟨v, he, ho, hb⟩ => callPost.of he hb (RowI.own ho))); try simp (config := { maxSteps := 10000000 }) only [specV, addF, Act.put, List.setIfInBounds_toArray, List.set_cons_zero, List.set_cons_succ, List.take_succ_cons, List.take_zero, List.drop_succ_cons, List.drop_zero])
              (apply Exists.intro; refine ⟨fun vs w1 hS hB hf => ?_, ?_⟩; (focus (clear hS hB hf; go_simp; first | exact ⟨Below.refl _ _, rfl⟩ | exact rfl)); try simp (config := { maxSteps := 10000000 }) only [specV, addF, Act.put, List.setIfInBounds_toArray, List.set_cons_zero, List.set_cons_succ, List.take_succ_cons, List.take_zero, List.drop_succ_cons, List.drop_zero])
              (refine ⟨fun vs w1 hS hB hf => ?_, ?_⟩; (focus (go_simp; exact (tr_tags r rB rT rP D' T' P' w1 hS.1.2.1).mono fun e w2 ⟨v, he, ho, hb⟩ => callPost.of he hb (RowI.own ho))); try simp (config := { maxSteps := 10000000 }) only [specV, addF, Act.put, List.setIfInBounds_toArray, List.set_cons_zero, List.set_cons_succ, List.take_succ_cons, List.take_zero, List.drop_succ_cons, List.drop_zero])
              (apply Exists.intro; refine ⟨fun vs w1 hS hB hf => ?_, ?_⟩; (focus (obtain ⟨h7, h5, _⟩ := hf; have r5 : RowI w1 (vs 5) (tagsL T') := h5 rfl; have r7 : RowI w1 (vs 7) (tagsL T') := h7 rfl; go_simp; exact (same_ints (vs 5) (vs 7) (tagsL T') (tagsL T') w1 r5 r7 HTL.out).mono fun e w2 ⟨he, n, hw⟩ => callPost.of (v := .bool true) (by rw [he, decide_eq_true rfl]) (by subst hw; exact below_drewN (Below.refl _ _) n) rfl)); try simp (config := { maxSteps := 10000000 }) only [specV, addF, Act.put, List.setIfInBounds_toArray, List.set_cons_zero, List.set_cons_succ, List.take_succ_cons, List.take_zero, List.drop_succ_cons, List.drop_zero])
              (apply Exists.intro; refine ⟨fun vs w1 hS hB hf => ?_, ?_⟩; (focus (clear hS hB hf; go_simp; first | exact ⟨Below.refl _ _, rfl⟩ | exact rfl)); try simp (config := { maxSteps := 10000000 }) only [specV, addF, Act.put, List.setIfInBounds_toArray, List.set_cons_zero, List.set_cons_succ, List.take_succ_cons, List.take_zero, List.drop_succ_cons, List.drop_zero])
              (apply Exists.intro; refine ⟨fun vs w1 hS hB hf => ?_, ?_⟩; (focus (clear hS hB hf; go_simp; first | exact ⟨Below.refl _ _, rfl⟩ | exact rfl)); try simp (config := { maxSteps := 10000000 }) only [specV, addF, Act.put, List.setIfInBounds_toArray, List.set_cons_zero, List.set_cons_succ, List.take_succ_cons, List.take_zero, List.drop_succ_cons, List.drop_zero])
              (apply Exists.intro; refine ⟨fun vs w1 hS hB hf => ?_, ?_⟩; (focus (clear hS hB hf; go_simp; first | exact ⟨Below.refl _ _, rfl⟩ | exact rfl)); try simp (config := { maxSteps := 10000000 }) only [specV, addF, Act.put, List.setIfInBounds_toArray, List.set_cons_zero, List.set_cons_succ, List.take_succ_cons, List.take_zero, List.drop_succ_cons, List.drop_zero])
              (apply Exists.intro; refine ⟨fun vs w1 hS hB hf => ?_, ?_⟩; (focus (clear hS hB hf; go_simp; first | exact ⟨Below.refl _ _, rfl⟩ | exact rfl)); try simp (config := { maxSteps := 10000000 }) only [specV, addF, Act.put, List.setIfInBounds_toArray, List.set_cons_zero, List.set_cons_succ, List.take_succ_cons, List.take_zero, List.drop_succ_cons, List.drop_zero])
              (refine ⟨fun vs w1 hS hB hf => ?_, ?_⟩; (focus (go_simp; exact (tm_dirty b bP D' T' P' w1 hS.1.1).mono fun e w2 ⟨v, he, ho, hb⟩ => callPost.of he hb (RowI.own ho))); try simp (config := { maxSteps := 10000000 }) only [specV, addF, Act.put, List.setIfInBounds_toArray, List.set_cons_zero, List.set_cons_succ, List.take_succ_cons, List.take_zero, List.drop_succ_cons, List.drop_zero])
              (apply Exists.intro; refine ⟨fun vs w1 hS hB hf => ?_, ?_⟩; (focus (clear hS hB hf; go_simp; first | exact ⟨Below.refl _ _, rfl⟩ | exact rfl)); try simp (config := { maxSteps := 10000000 }) only [specV, addF, Act.put, List.setIfInBounds_toArray, List.set_cons_zero, List.set_cons_succ, List.take_succ_cons, List.take_zero, List.drop_succ_cons, List.drop_zero])
              (refine ⟨fun vs w1 hS hB hf => ?_, ?_⟩; (focus (go_simp; exact (tr_dirty r rB rT rP D' T' P' w1 hS.1.2.1).mono fun e w2 ⟨v, he, ho, hb⟩ => callPost.of he hb (RowI.own ho))); try simp (config := { maxSteps := 10000000 }) only [specV, addF, Act.put, List.setIfInBounds_toArray, List.set_cons_zero, List.set_cons_succ, List.take_succ_cons, List.take_zero, List.drop_succ_cons, List.drop_zero])
              (apply Exists.intro; refine ⟨fun vs w1 hS hB hf => ?_, ?_⟩; (focus (obtain ⟨h7, h5, _⟩ := hf; have r5 : RowI w1 (vs 13) (dirtyL P') := h5 rfl; have r7 : RowI w1 (vs 15) (dirtyL P') := h7 rfl; go_simp; exact (same_ints (vs 13) (vs 15) (dirtyL P') (dirtyL P') w1 r5 r7 HDL.out).mono fun e w2 ⟨he, n, hw⟩ => callPost.of (v := .bool true) (by rw [he, decide_eq_true rfl]) (by subst hw; exact below_drewN (Below.refl _ _) n) rfl)); try simp (config := { maxSteps := 10000000 }) only [specV, addF, Act.put, List.setIfInBounds_toArray, List.set_cons_zero, List.set_cons_succ, List.take_succ_cons, List.take_zero, List.drop_succ_cons, List.drop_zero])
              (apply Exists.intro; refine ⟨fun vs w1 hS hB hf => ?_, ?_⟩; (focus (clear hS hB hf; go_simp; first | exact ⟨Below.refl _ _, rfl⟩ | exact rfl)); try simp (config := { maxSteps := 10000000 }) only [specV, addF, Act.put, List.setIfInBounds_toArray, List.set_cons_zero, List.set_cons_succ, List.take_succ_cons, List.take_zero, List.drop_succ_cons, List.drop_zero])
              (apply Exists.intro; refine ⟨fun vs w1 hS hB hf => ?_, ?_⟩; (focus (clear hS hB hf; go_simp; first | exact ⟨Below.refl _ _, rfl⟩ | exact rfl)); try simp (config := { maxSteps := 10000000 }) only [specV, addF, Act.put, List.setIfInBounds_toArray, List.set_cons_zero, List.set_cons_succ, List.take_succ_cons, List.take_zero, List.drop_succ_cons, List.drop_zero])
              (apply Exists.intro; refine ⟨fun vs w1 hS hB hf => ?_, ?_⟩; (focus (clear hS hB hf; go_simp; first | exact ⟨Below.refl _ _, rfl⟩ | exact rfl)); try simp (config := { maxSteps := 10000000 }) only [specV, addF, Act.put, List.setIfInBounds_toArray, List.set_cons_zero, List.set_cons_succ, List.take_succ_cons, List.take_zero, List.drop_succ_cons, List.drop_zero])
              (apply Exists.intro; refine ⟨fun vs w1 hS hB hf => ?_, ?_⟩; (focus (clear hS hB hf; go_simp; first | exact ⟨Below.refl _ _, rfl⟩ | exact rfl)); try simp (config := { maxSteps := 10000000 }) only [specV, addF, Act.put, List.setIfInBounds_toArray, List.set_cons_zero, List.set_cons_succ, List.take_succ_cons, List.take_zero, List.drop_succ_cons, List.drop_zero])
              (apply Exists.intro; refine ⟨fun vs w1 hS hB hf => ?_, ?_⟩; (focus (clear hS hB hf; go_simp; first | exact ⟨Below.refl _ _, rfl⟩ | exact rfl)); try simp (config := { maxSteps := 10000000 }) only [specV, addF, Act.put, List.setIfInBounds_toArray, List.set_cons_zero, List.set_cons_succ, List.take_succ_cons, List.take_zero, List.drop_succ_cons, List.drop_zero])
              (apply Exists.intro; refine ⟨fun vs w1 hS hB hf => ?_, ?_⟩; (focus (have L1 := hS.2.cell; have l1 := hS.2.lt; clear hS hB hf; go_simp; first | exact ⟨Below.refl _ _, rfl⟩ | exact rfl)); try simp (config := { maxSteps := 10000000 }) only [specV, addF, Act.put, List.setIfInBounds_toArray, List.set_cons_zero, List.set_cons_succ, List.take_succ_cons, List.take_zero, List.drop_succ_cons, List.drop_zero])
              (apply Exists.intro; refine ⟨fun vs w1 hS hB hf => ?_, ?_⟩; (focus (go_simp; exact (tm_tag b bP D' T' P' at_ w1 hS.1.1 HAT.out).mono fun e w2 ⟨he, hw⟩ => callPost.of he (by subst hw; exact Below.refl _ _) rfl)); try simp (config := { maxSteps := 10000000 }) only [specV, addF, Act.put, List.setIfInBounds_toArray, List.set_cons_zero, List.set_cons_succ, List.take_succ_cons, List.take_zero, List.drop_succ_cons, List.drop_zero])
              (apply Exists.intro; refine ⟨fun vs w1 hS hB hf => ?_, ?_⟩; (focus (clear hS hB hf; go_simp; first | exact ⟨Below.refl _ _, rfl⟩ | exact rfl)); try simp (config := { maxSteps := 10000000 }) only [specV, addF, Act.put, List.setIfInBounds_toArray, List.set_cons_zero, List.set_cons_succ, List.take_succ_cons, List.take_zero, List.drop_succ_cons, List.drop_zero])
              (apply Exists.intro; refine ⟨fun vs w1 hS hB hf => ?_, ?_⟩; (focus (clear hS hB hf; go_simp; first | exact ⟨Below.refl _ _, rfl⟩ | exact rfl)); try simp (config := { maxSteps := 10000000 }) only [specV, addF, Act.put, List.setIfInBounds_toArray, List.set_cons_zero, List.set_cons_succ, List.take_succ_cons, List.take_zero, List.drop_succ_cons, List.drop_zero])
              (apply Exists.intro; refine ⟨fun vs w1 hS hB hf => ?_, ?_⟩; (focus (have L1 := hS.2.cell; have l1 := hS.2.lt; clear hS hB hf; go_simp; first | exact ⟨Below.refl _ _, rfl⟩ | exact rfl)); try simp (config := { maxSteps := 10000000 }) only [specV, addF, Act.put, List.setIfInBounds_toArray, List.set_cons_zero, List.set_cons_succ, List.take_succ_cons, List.take_zero, List.drop_succ_cons, List.drop_zero])
              (apply Exists.intro; refine ⟨fun vs w1 hS hB hf => ?_, ?_⟩; (focus (go_simp; exact (tr_tag r rB rT rP D' T' P' at_ w1 hS.1.2.1 HAT.out).mono fun e w2 ⟨he, hw⟩ => callPost.of he (by subst hw; exact Below.refl _ _) rfl)); try simp (config := { maxSteps := 10000000 }) only [specV, addF, Act.put, List.setIfInBounds_toArray, List.set_cons_zero, List.set_cons_succ, List.take_succ_cons, List.take_zero, List.drop_succ_cons, List.drop_zero])
              (apply Exists.intro; refine ⟨fun vs w1 hS hB hf => ?_, ?_⟩; (focus (clear hS hB hf; go_simp; first | exact ⟨Below.refl _ _, rfl⟩ | exact rfl)); try simp (config := { maxSteps := 10000000 }) only [specV, addF, Act.put, List.setIfInBounds_toArray, List.set_cons_zero, List.set_cons_succ, List.take_succ_cons, List.take_zero, List.drop_succ_cons, List.drop_zero])
              intro vs w5 hS hB5 _
              have S5 := Lib.hid hS.1
              clear hS hB5
              dsimp only
              go_wp2
              go_roundg (gk - 1)
              case measure => have := HJ.out; have := HLT.out; omega
              case rel => exact ⟨j + 1, D', T', P', by have := HJ.out; have := HLT.out; omega, by go_num, HP'.out, S5.out⟩
          · have i1 : ¬ (j : Int) < n := by omega
            clear hge
            have hs1 := fun W h => tm_size b bP D T P W h
            have hs2 := fun W h => tr_size r rB rT rP D T P W h
            have hl1 := fun W h => tm_loadA b bP D T P 0 ((m : Int) * 256) W h ⟨by omega, by omega⟩ ⟨by omega, by omega⟩
            have hl2 := fun W h => tr_loadA r rB rT rP D T P 0 ((m : Int) * 256) W h ⟨by omega, by omega⟩ ⟨by omega, by omega⟩
            rw [HP.out] at hs1 hs2
            have X1 := Lib.hid hs1
            have X2 := Lib.hid hs2
            have X3 := Lib.hid hl1
            have X4 := Lib.hid hl2
            clear hs1 hs2 hl1 hl2
            go_wp2_with fail
            refine (X1.out _ HS2.out.1).mono ?_
            rintro e w4 ⟨rfl, rfl⟩
            go_wp2_with fail
            refine (X3.out _ HS2.out.1).mono ?_
            rintro e w5 ⟨v5, rfl, r5, b5⟩
            have S5 := Lib.hid (HS2.out.grow b5)
            have R5 := Lib.hid r5
            clear r5 b5 HS2
            go_wp2_with fail
            refine (X2.out _ S5.out.2.1).mono ?_
            rintro e w6 ⟨rfl, rfl⟩
            go_wp2_with fail
            refine (X4.out _ S5.out.2.1).mono ?_
            rintro e w7 ⟨v7, rfl, r7, b7⟩
            have S7 := Lib.hid (S5.out.grow b7)
            have k1 := loads_str (R5.out.below b7)
            have k2 := loads_str r7
            generalize strOfNums (ldL P.length D 0 ((m : Int) * 256)) = sx at *
            generalize inB P.length 0 ((m : Int) * 256) = ib at *
            clear r7 b7 R5 S5
            go_wp2_with fail
            refine (X1.out _ S7.out.1).mono ?_
            rintro e w8 ⟨rfl, rfl⟩
            go_wp2_with fail
            refine (X2.out _ S7.out.2.1).mono ?_
            rintro e w9 ⟨rfl, rfl⟩
            go_wp2
            go_ret
            exact ⟨rfl, S7.out.2.2⟩
end Go.Proofs.Ytjimkkkiilcpoaa.TagmemPlays
