/- A page is swept, Step; the document's. -/
import Derived.Test.YtjimkkkiilcpoaaRsA
set_option linter.unusedVariables false
set_option linter.unusedSimpArgs false
namespace Go.Proofs.Ytjimkkkiilcpoaa
open Go.RowKit

theorem hitsF_snoc (D : List Int) (T Q : List Bool) : ∀ (k z0 : Nat), hitsF D T Q (k + 1) z0 = hitsF D T Q k z0 ++ (if hitK D T Q (z0 + k) then [z0 + k] else [])
  | 0, z0 => by
    simp [hitsF]
  | k + 1, z0 => by
    have ih := hitsF_snoc D T Q k (z0 + 1)
    rw [show z0 + 1 + k = z0 + (k + 1) by omega] at ih
    rw [hitsF, ih, hitsF]
    split <;> rfl
/-- What is apart from a document's sweeper. -/
def RsNe (s r rB rT rP q qB : Nat) : Prop := (s ≠ r ∧ s ≠ rB ∧ s ≠ rT ∧ s ≠ rP ∧ s ≠ q ∧ s ≠ qB) ∧ (q ≠ rB ∧ q ≠ rT ∧ q ≠ rP ∧ qB ≠ rB ∧ qB ≠ rT ∧ qB ≠ rP)
theorem nin3 {a b c z : Nat} (h1 : z ≠ a) (h2 : z ≠ b) (h3 : z ≠ c) : z ∉ [a, b, c] := by simp [h1, h2, h3]
theorem nin4 {a b c d z : Nat} (h1 : z ≠ a) (h2 : z ≠ b) (h3 : z ≠ c) (h4 : z ≠ d) : z ∉ [a, b, c, d] := by simp [h1, h2, h3, h4]

set_option maxRecDepth 100000 in
set_option maxHeartbeats 3200000 in
theorem rs_page (s r rB rT rP q qB p : Nat) (D : List Int) (T P Q : List Bool) (run : Bool) (A : Option Addr) (n c : Nat) (g : Nat) (w : World) (hS : Blk w s (rsC r q run (.slice A n c) g) 125) (hM : TrM w r rB rT rP D T P) (hQ : RfM w q qB Q) (hp : p < P.length)
    (hne : RsNe s r rB rT rP q qB) (hg : (g : Int) ≤ 1099511627776) :
    Calls Try.prog 105 #[.pointer (some ⟨s, 0, none⟩), .int .i64 p] w fun e w' => (∃ v, e = .returned v) ∧ TrM w' r rB rT rP D (pageT' D T Q p) (pageP D T P Q p) ∧ Blk w' s (rsC r q run (.slice A n c) ((g + (pageH D T Q p).length : Nat) : Int)) 125 ∧ Turns [rB, rT, rP, s] w w' := by
  have HS := Lib.hid hS
  have HM := Lib.hid hM
  have HQ := Lib.hid hQ
  have HP := Lib.hid hp
  obtain ⟨⟨a1, a2, a3, a4, a5, a6⟩, ⟨q1, q2, q3, q4, q5, q6⟩⟩ := hne
  have NS := Lib.hid (show s ∉ [rB, rT, rP] from nin3 a2 a3 a4)
  have NQ := Lib.hid (show q ∉ [rB, rT, rP] ∧ qB ∉ [rB, rT, rP] from ⟨nin3 q1 q2 q3, nin3 q4 q5 q6⟩)
  have NQ4 := Lib.hid (show q ∉ [s] ∧ qB ∉ [s] from ⟨by simpa using a5.symm, by simpa using a6.symm⟩)
  have NM := Lib.hid (show r ∉ [s] ∧ rB ∉ [s] ∧ rT ∉ [s] ∧ rP ∉ [s] from ⟨by simpa using a1.symm, by simpa using a2.symm, by simpa using a3.symm, by simpa using a4.symm⟩)
  have hp2 : (p : Int) ≤ 65536 := by have := hM.1.2.2.1; omega
  clear hS hM hQ hp a1 a2 a3 a4 a5 a6 q1 q2 q3 q4 q5 q6
  go_enter Try.func105, Try.ntmps105
  go_wp2
  go_loopg [4] 16 (fun gk v4 wr => ∃ k : Nat, k + gk = 16 ∧ v4 = .int .i64 (((p * 16 + k) * 16 : Nat) : Int) ∧ TrM wr r rB rT rP D (clrL T (hitsF D T Q k (p * 16))) P ∧ Blk wr s (rsC r q run (.slice A n c) ((g + (hitsF D T Q k (p * 16)).length : Nat) : Int)) 125 ∧ RfM wr q qB Q ∧ Turns [rB, rT, rP, s] w wr)
  case atStart => exact ⟨0, rfl, by congr 1; omega, HM.out, HS.out, HQ.out, Turns.refl _ _⟩
  case round =>
    obtain ⟨k, hk, rfl, hM, hS, hQ, ht⟩ := hrel
    have HK := Lib.hid hk
    have MR := Lib.hid hM
    have SR := Lib.hid hS
    have QR := Lib.hid hQ
    have TT := Lib.hid ht
    have sS := hS
    unfold rsC at sS
    have cS := sS.cell
    have lS := sS.lt
    clear hM hS hQ ht sS
    rcases Nat.lt_or_ge k 16 with hlt | hge
    · have HLT := Lib.hid hlt
      have hsn := hitsF_snoc D T Q k (p * 16)
      have HSN := Lib.hid hsn
      have hgl := hitsF_len (D := D) (T := T) (Q := Q) k (p * 16)
      have hzl : (p * 16 + k) * 16 + 16 ≤ D.length := by have h1 := MR.out.1.1; have h2 := HP.out; omega
      have glc := tr_loadcap r rB rT rP D (clrL T (hitsF D T Q k (p * 16))) P p k wr MR.out HP.out hlt
      rw [show p * 256 + k * 16 = (p * 16 + k) * 16 by omega] at glc
      have hin := Lib.hid (ldC_in (T := clrL T (hitsF D T Q k (p * 16))) MR.out.1.2.2.2 hzl)
      have htz : (clrL T (hitsF D T Q k (p * 16))).getD (p * 16 + k) false = T.getD (p * 16 + k) false := by
        rw [clrL_getD, decide_eq_true, Bool.and_true]
        rw [hitsF_mem]
        omega
      have hkk : hitK D T Q (p * 16 + k) = hitsB Q (ldC D (clrL T (hitsF D T Q k (p * 16))) ((p * 16 + k) * 16)).1 (ldC D (clrL T (hitsF D T Q k (p * 16))) ((p * 16 + k) * 16)).2.1 (ldC D (clrL T (hitsF D T Q k (p * 16))) ((p * 16 + k) * 16)).2.2.1 :=
        (hitK_tag D T (clrL T (hitsF D T Q k (p * 16))) Q (p * 16 + k) htz).symm
      have HKK := Lib.hid hkk
      have hpb : plB P.length (((p * 16 + k) * 16 : Nat) : Int) = true := by have h2 := HP.out; simp only [plB, decide_eq_true_eq]; omega
      have gst := Lib.hid (fun (W : World) (h : TrM W r rB rT rP D (clrL T (hitsF D T Q k (p * 16))) P) => tr_strip r rB rT rP D (clrL T (hitsF D T Q k (p * 16))) P (((p * 16 + k) * 16 : Nat) : Int) W h ⟨by omega, by omega⟩)
      rw [hpb] at gst
      rw [show ((((p * 16 + k) * 16 : Nat) : Int) / 16).toNat = p * 16 + k by omega] at gst
      have HX := Lib.hid (show (((p * 16 + (k + 1)) * 16 : Nat) : Int) = (((p * 16 + k) * 16 : Nat) : Int) + 16 by omega)
      have HGL := Lib.hid (show ((g + (hitsF D T Q k (p * 16)).length : Nat) : Int) ≤ 1099511628000 by omega)
      have i1 : (((p * 16 + k) * 16 : Nat) : Int) < 256 * (p : Int) + 256 := by omega
      have i3 : (((p * 16 + k) * 16 : Nat) : Int) ≤ 16777472 := by omega
      have i4 : 0 ≤ (((p * 16 + k) * 16 : Nat) : Int) := by omega
      have HE := Lib.hid (show clrL T (hitsF D T Q (k + 1) (p * 16)) = if hitK D T Q (p * 16 + k) then (clrL T (hitsF D T Q k (p * 16))).set (p * 16 + k) false else clrL T (hitsF D T Q k (p * 16)) by
        rw [hsn]
        split
        · rw [clrL_snoc]
        · rw [List.append_nil])
      have HGE := Lib.hid (show g + (hitsF D T Q (k + 1) (p * 16)).length = if hitK D T Q (p * 16 + k) then g + (hitsF D T Q k (p * 16)).length + 1 else g + (hitsF D T Q k (p * 16)).length by
        rw [hsn]
        split
        · rw [List.length_append]; rfl
        · rw [List.append_nil])
      generalize hT1 : clrL T (hitsF D T Q k (p * 16)) = T1 at *
      generalize hgg : g + (hitsF D T Q k (p * 16)).length = gg at *
      generalize hx : (((p * 16 + k) * 16 : Nat) : Int) = x at *
      generalize ldC D T1 ((p * 16 + k) * 16) = ld at *
      obtain ⟨tc, bc, pc, ac, qc, yc⟩ := ld
      dsimp only [capV] at *
      have hgi : (gg : Int) ≤ 1099511628000 := HGL.out
      clear hlt hsn hgl hzl htz hkk hpb hT1 hgg hx
      go_wp2_with fail
      refine glc.mono ?_
      rintro e wa ⟨rfl, ba⟩
      have MA := Lib.hid (MR.out.grow ba)
      have SA := Lib.hid (SR.out.below ba SR.out.lt)
      have QA := Lib.hid (QR.out.grow ba)
      have TA := Lib.hid (TT.out.trans (Turns.below ba))
      clear glc ba MR SR QR TT cS lS
      have sS := SA.out
      unfold rsC at sS
      have cS := sS.cell
      have lS := sS.lt
      clear sS
      go_upto_region 4 with fail
      clear cS lS
      obtain ⟨W1, hW1⟩ : ∃ W1, wa.alloc (.cells #[.bool (tc), .int .i64 (bc), .int .i64 (pc), .int .i64 (ac), .int .i64 (qc), .int .i64 (yc)] 23) = W1 := ⟨_, rfl⟩
      have hb1 : Below wa.heap.size wa W1 := by rw [← hW1]; go_grown
      have KX := Lib.hid (show Blk W1 wa.heap.size #[.bool (tc), .int .i64 (bc), .int .i64 (pc), .int .i64 (ac), .int .i64 (qc), .int .i64 (yc)] 23 by rw [← hW1]; exact Blk.new _ _ _)
      have MB := Lib.hid (MA.out.grow hb1)
      have SB := Lib.hid (SA.out.below hb1 SA.out.lt)
      have QB := Lib.hid (QA.out.grow hb1)
      have TB := Lib.hid (TA.out.trans (Turns.below hb1))
      rw [hW1]
      generalize wa.heap.size = kx at *
      clear hb1 hW1 MA SA QA TA
      refine wp_flow_lit 5 (fun w' => Blk w' s (rsC r q run (.slice A n c) gg) 125 ∧ Blk w' kx #[.bool (tc), .int .i64 (bc), .int .i64 (pc), .int .i64 (ac), .int .i64 (qc), .int .i64 (yc)] 23 ∧ RfM w' q qB Q ∧ TrM w' r rB rT rP D T1 P)
        [none, none, none, none, none] (by kernel_rfl) (by kernel_rfl) ⟨SB.out.drew, KX.out.drew, QB.out.grow (Below.drew (Below.refl _ _)), MB.out.drew⟩
        (fun w1 w2 h hb => ⟨h.1.below hb h.1.lt, h.2.1.below hb h.2.1.lt, h.2.2.1.grow hb, h.2.2.2.grow hb⟩) trivial ?_
      try simp (config := { maxSteps := 10000000 }) only [specV, addF, Act.put, List.setIfInBounds_toArray, List.set_cons_zero, List.set_cons_succ, List.take_succ_cons, List.take_zero, List.drop_succ_cons, List.drop_zero]
      (apply Exists.intro; refine ⟨fun vs w1 hS hB hf => ?_, ?_⟩; (focus (clear hS hB hf; go_simp; first | exact ⟨Below.refl _ _, rfl⟩ | exact rfl)); try simp (config := { maxSteps := 10000000 }) only [specV, addF, Act.put, List.setIfInBounds_toArray, List.set_cons_zero, List.set_cons_succ, List.take_succ_cons, List.take_zero, List.drop_succ_cons, List.drop_zero])
      (apply Exists.intro; refine ⟨fun vs w1 hS hB hf => ?_, ?_⟩; (focus (have L2 := hS.1; unfold rsC at L2; have L1 := L2.cell; have l1 := L2.lt; clear hS hB hf L2; go_simp; first | exact ⟨Below.refl _ _, rfl⟩ | exact rfl)); try simp (config := { maxSteps := 10000000 }) only [specV, addF, Act.put, List.setIfInBounds_toArray, List.set_cons_zero, List.set_cons_succ, List.take_succ_cons, List.take_zero, List.drop_succ_cons, List.drop_zero])
      (apply Exists.intro; refine ⟨fun vs w1 hS hB hf => ?_, ?_⟩; (focus (have L2 := hS.1; unfold rsC at L2; have L1 := L2.cell; have l1 := L2.lt; clear hS hB hf L2; go_simp; first | exact ⟨Below.refl _ _, rfl⟩ | exact rfl)); try simp (config := { maxSteps := 10000000 }) only [specV, addF, Act.put, List.setIfInBounds_toArray, List.set_cons_zero, List.set_cons_succ, List.take_succ_cons, List.take_zero, List.drop_succ_cons, List.drop_zero])
      (apply Exists.intro; refine ⟨fun vs w1 hS hB hf => ?_, ?_⟩; (focus (have L2 := hS.1; unfold rsC at L2; have L1 := L2.cell; have l1 := L2.lt; clear hS hB hf L2; go_simp; first | exact ⟨Below.refl _ _, rfl⟩ | exact rfl)); try simp (config := { maxSteps := 10000000 }) only [specV, addF, Act.put, List.setIfInBounds_toArray, List.set_cons_zero, List.set_cons_succ, List.take_succ_cons, List.take_zero, List.drop_succ_cons, List.drop_zero])
      (apply Exists.intro; refine ⟨fun vs w1 hS hB hf => ?_, ?_⟩; (focus (have L1 := hS.2.1.cell; have l1 := hS.2.1.lt; clear hS hB hf; go_simp; first | exact ⟨Below.refl _ _, rfl⟩ | exact rfl)); try simp (config := { maxSteps := 10000000 }) only [specV, addF, Act.put, List.setIfInBounds_toArray, List.set_cons_zero, List.set_cons_succ, List.take_succ_cons, List.take_zero, List.drop_succ_cons, List.drop_zero])
      intro vs w5 hS hB5 _
      dsimp only
      have S5 := Lib.hid hS
      have T5 := Lib.hid (TB.out.trans (Turns.below hB5))
      clear hS hB5 KX MB SB QB TB
      go_wp2_with fail
      refine (ref_hits_any q qB Q tc bc pc ac qc yc w5 hin.out.1 hin.out.2 S5.out.2.2.1).mono ?_
      rintro e w6 ⟨rfl, b6⟩
      rw [← HKK.out]
      have S6 := Lib.hid (S5.out.1.below b6 S5.out.1.lt)
      have M6 := Lib.hid (S5.out.2.2.2.grow b6)
      have Q6 := Lib.hid (S5.out.2.2.1.grow b6)
      have T6 := Lib.hid (T5.out.trans (Turns.below b6))
      clear b6 S5 T5 HKK
      have sS := S6.out
      unfold rsC at sS
      have cS := sS.cell
      have lS := sS.lt
      clear sS
      cases hh : hitK D T Q (p * 16 + k) with
      | true =>
        rw [hh, if_pos rfl] at HE HGE
        clear hh
        go_wp2_with fail
        refine (gst.out w6 M6.out).mono ?_
        rintro e w7 ⟨rfl, m7, t7⟩
        rw [if_pos trivial] at m7
        have M7 := Lib.hid m7
        have S7 := Lib.hid (S6.out.turns t7 NS.out)
        have Q7 := Lib.hid (Q6.out.turns t7 NQ.out.1 NQ.out.2)
        have T7 := Lib.hid (T6.out.trans (t7.sub (cs := [rB, rT, rP, s]) (by simp)))
        clear m7 t7 S6 M6 Q6 T6 cS lS gst
        have sS := S7.out
        unfold rsC at sS
        have cS := sS.cell
        have fS := sS.frozen
        have lS := sS.lt
        clear sS
        go_wp2
        go_roundg (gk - 1)
        case measure => have := HK.out; have := HLT.out; omega
        case rel => exact ⟨k + 1, by have := HK.out; have := HLT.out; omega, by rw [HX.out], by
          rw [HE.out]
          exact M7.out.turns (Turns.set w7 (List.mem_singleton.2 rfl) 4 _) NM.out.1 NM.out.2.1 NM.out.2.2.1 NM.out.2.2.2, by
          rw [HGE.out]
          exact S7.out.set 4 _, Q7.out.turns (Turns.set w7 (List.mem_singleton.2 rfl) 4 _) NQ4.out.1 NQ4.out.2, T7.out.trans (Turns.set w7 (by simp) 4 _)⟩
      | false =>
        rw [hh, if_neg (by decide)] at HE HGE
        clear hh
        go_wp2
        go_roundg (gk - 1)
        case measure => have := HK.out; have := HLT.out; omega
        case rel => exact ⟨k + 1, by have := HK.out; have := HLT.out; omega, by rw [HX.out], by rw [HE.out]; exact M6.out, by rw [HGE.out]; exact S6.out, Q6.out, T6.out⟩
    · have hk16 : k = 16 := by have := HK.out; omega
      subst hk16
      have i1 : ¬ (((p * 16 + 16) * 16 : Nat) : Int) < 256 * (p : Int) + 256 := by omega
      have i3 : (((p * 16 + 16) * 16 : Nat) : Int) ≤ 16777472 := by omega
      generalize (((p * 16 + 16) * 16 : Nat) : Int) = x at *
      clear hge
      go_wp2_with fail
      refine (tr_clean r rB rT rP D (pageT' D T Q p) P p _ MR.out ⟨by omega, by omega⟩).mono ?_
      rintro e w7 ⟨rfl, m7, t7⟩
      rw [Int.toNat_natCast] at m7
      have M7 := Lib.hid (show TrM w7 r rB rT rP D (pageT' D T Q p) (pageP D T P Q p) from m7)
      have S7 := Lib.hid (SR.out.turns t7 NS.out)
      have T7 := Lib.hid (TT.out.trans (t7.sub (cs := [rB, rT, rP, s]) (by simp)))
      clear m7 t7 cS lS MR SR QR TT
      go_wp2
      exact bodyPost_end (results_none rfl _ _ _) rfl ⟨⟨_, rfl⟩, M7.out, S7.out, T7.out⟩
end Go.Proofs.Ytjimkkkiilcpoaa
