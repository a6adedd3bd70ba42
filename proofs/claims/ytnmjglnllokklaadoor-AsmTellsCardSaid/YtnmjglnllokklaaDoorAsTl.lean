/-
  AsmTells: for every instruction, every string and every number the law returns true, and each argument reads as it did. Condition: none.
-/
import Derived.Test.YtnmjglnllokklaaDoorAsUn
import Derived.Test.YtnmjglnllokklaaDoorAsX
set_option linter.unusedVariables false
set_option linter.unusedSimpArgs false
namespace Go.Proofs.YtnmjglnllokklaaDoor.AsmTells
open Go.RowKit Go.Proofs.YtnmjglnllokklaaDoor

set_option maxRecDepth 100000 in
set_option maxHeartbeats 3200000 in
theorem walk (w : World) (o a b c : Int) (s : ByteArray) (op : Int) (hE : Env w) (io : inI o) (ia : inI a) (ib : inI b) (ic : inI c) (hs : s.size ≤ maxLen) (wp : (Lit.int .i64 op).wf = true) :
    Calls Tryd.prog 3 #[.agg #[.int .i64 (o), .int .i64 (a), .int .i64 (b), .int .i64 (c)], .string s, .int .i64 op] w fun e w' => e = .returned (.bool true) ∧ Below w.heap.size w w' := by
  have HE := Lib.hid hE
  have HA := Lib.hid (And.intro io (And.intro ia (And.intro ib ic)))
  have HP := Lib.hid (inI_of_wf wp)
  clear hE io ia ib ic wp
  have hs2 : (s.size : Int) ≤ 9223372036854775807 := by simp only [maxLen] at hs; omega
  clear hs
  go_enter Tryd.func3, Tryd.ntmps3
  go_wp2_with fail
  obtain ⟨W0, hW0⟩ : ∃ W0, w.alloc (.cells #[.int .i64 (o), .int .i64 (a), .int .i64 (b), .int .i64 (c)] 23) = W0 := ⟨_, rfl⟩
  have K1 := Lib.hid (show Blk W0 w.heap.size #[.int .i64 (o), .int .i64 (a), .int .i64 (b), .int .i64 (c)] 23 by rw [← hW0]; exact Blk.new w _ _)
  have B0 := Lib.hid (show Below w.heap.size w W0 by rw [← hW0]; go_grown)
  rw [hW0]
  obtain ⟨k1, hk1⟩ : ∃ k1, w.heap.size = k1 := ⟨_, rfl⟩
  rw [hk1] at K1 ⊢
  clear hW0
  refine (Head.head_any W0 (HE.out.grow B0.out)).mono ?_
  rintro e' w1 ⟨rfl, b1⟩
  have M1 := Lib.hid (K1.out.below b1 K1.out.lt)
  have B1 := Lib.hid (below_then B0.out B0.out.size b1)
  clear b1 K1 B0
  by_cases h9 : s.size ≤ 900
  · have h9' : ¬ 900 < (s.size : Int) := by omega
    have h92 := Lib.hid (show s.size ≤ 100000 by omega)
    clear h9
    go_wp2_with fail
    refine (parse_any s _ (HE.out.grow B1.out) h92.out).mono ?_
    obtain ⟨y, hy, _⟩ := parseV_form s
    have GP := Lib.hid (fun W hW => rparse_any s W hW h92.out)
    rw [hy] at GP ⊢
    clear hy
    obtain ⟨y0, y1, y2, y3⟩ := y
    dsimp only at GP ⊢
    generalize parseB s = pb at *
    rintro e' w2 ⟨rfl, b2⟩
    have N1 := Lib.hid (M1.out.below b2 M1.out.lt)
    have B2 := Lib.hid (below_then B1.out B1.out.size b2)
    clear b2 M1 B1
    go_wp2_with fail
    obtain ⟨W3, hW3⟩ : ∃ W3, w2.alloc (.cells #[.int .i64 (y0), .int .i64 (y1), .int .i64 (y2), .int .i64 (y3)] 23) = W3 := ⟨_, rfl⟩
    have b3 : Below w2.heap.size w2 W3 := by rw [← hW3]; go_grown
    have O1 := Lib.hid (N1.out.below b3 N1.out.lt)
    have B3 := Lib.hid (below_then B2.out B2.out.size b3)
    have Y3 := Lib.hid (show Blk W3 w2.heap.size #[.int .i64 (y0), .int .i64 (y1), .int .i64 (y2), .int .i64 (y3)] 23 by rw [← hW3]; exact Blk.new w2 _ _)
    rw [hW3]
    obtain ⟨ky, hky⟩ : ∃ ky, w2.heap.size = ky := ⟨_, rfl⟩
    rw [hky] at Y3 ⊢
    clear hW3 b3 hky N1 B2
    refine (GP.out _ (HE.out.grow B3.out)).mono ?_
    rintro e' w4 ⟨rfl, b4⟩
    have P1 := Lib.hid (O1.out.below b4 O1.out.lt)
    have Y4 := Lib.hid (Y3.out.below b4 Y3.out.lt)
    have B4 := Lib.hid (below_then B3.out B3.out.size b4)
    clear b4 O1 Y3 B3
    go_upto_region 6 with fail
    obtain ⟨W5, hW5⟩ : ∃ W5, w4.alloc (.cells #[.int .i64 (y0), .int .i64 (y1), .int .i64 (y2), .int .i64 (y3)] 23) = W5 := ⟨_, rfl⟩
    have b5 : Below w4.heap.size w4 W5 := by rw [← hW5]; go_grown
    have Q1 := Lib.hid (P1.out.below b5 P1.out.lt)
    have Y5 := Lib.hid (Y4.out.below b5 Y4.out.lt)
    have B5 := Lib.hid (below_then B4.out B4.out.size b5)
    have Z5 := Lib.hid (show Blk W5 w4.heap.size #[.int .i64 (y0), .int .i64 (y1), .int .i64 (y2), .int .i64 (y3)] 23 by rw [← hW5]; exact Blk.new w4 _ _)
    rw [hW5]
    obtain ⟨kz, hkz⟩ : ∃ kz, w4.heap.size = kz := ⟨_, rfl⟩
    rw [hkz] at Z5 ⊢
    clear hW5 b5 hkz P1 Y4 B4
    have GT := Lib.hid (fun W hW => text_any o a b c W hW HA.out.1 HA.out.2.1 HA.out.2.2.1 HA.out.2.2.2)
    have GR := Lib.hid (fun W hW => rtext_any o a b c W hW HA.out.1 HA.out.2.1 HA.out.2.2.1 HA.out.2.2.2)
    have GN := Lib.hid (fun W hW => name_any op W hW HP.out)
    have GM := Lib.hid (fun W => rname_any op W HP.out)
    obtain ⟨sx, hsx⟩ : ∃ sx, textS o a b c = sx := ⟨_, rfl⟩
    obtain ⟨nx, hnx⟩ : ∃ nx, nameS op = nx := ⟨_, rfl⟩
    rw [hsx] at GT GR
    rw [hnx] at GN GM
    clear hsx hnx
    have q1 : (sx.toList == sx.toList) = true := (Lib.bytes_beq_iff _ _).2 rfl
    have q2 : (nx.toList == nx.toList) = true := (Lib.bytes_beq_iff _ _).2 rfl
    have HYZ := Lib.hid (show decide (y0 = y0 ∧ y1 = y1 ∧ y2 = y2 ∧ y3 = y3) = true by simp)
    have HEW := Lib.hid (HE.out.grow B5.out)
    refine wp_flow_lit 25 (fun w' => Env w' ∧ Blk w' k1 #[.int .i64 (o), .int .i64 (a), .int .i64 (b), .int .i64 (c)] 23 ∧ Blk w' ky #[.int .i64 (y0), .int .i64 (y1), .int .i64 (y2), .int .i64 (y3)] 23 ∧ Blk w' kz #[.int .i64 (y0), .int .i64 (y1), .int .i64 (y2), .int .i64 (y3)] 23 ∧ Below W5.heap.size W5 w') [none, none, none, none, none, none, none, none, none, none, none, none, none, none, none, none, none, none, none, none, none, none, none, none, none] (by kernel_rfl) (by kernel_rfl)
      ⟨HEW.out.grow (Below.drew (Below.refl _ _)), Q1.out.drew, Y5.out.drew, Z5.out.drew, (Below.drew (Below.refl _ _))⟩ (fun w1 w2 h hb => ⟨h.1.grow hb, h.2.1.below hb h.2.1.lt, h.2.2.1.below hb h.2.2.1.lt, h.2.2.2.1.below hb h.2.2.2.1.lt, below_then h.2.2.2.2 h.2.2.2.2.size hb⟩) trivial ?_
    (try simp (config := { maxSteps := 10000000 }) only [specV, addF, Act.put, List.setIfInBounds_toArray, List.set_cons_zero, List.set_cons_succ, List.take_succ_cons, List.take_zero, List.drop_succ_cons, List.drop_zero])
    (apply Exists.intro; refine ⟨fun vs w1 hS hB hf => ?_, ?_⟩; (focus (clear hS hB hf; go_simp; first | exact ⟨Below.refl _ _, rfl⟩ | exact rfl)); (try simp (config := { maxSteps := 10000000 }) only [specV, addF, Act.put, List.setIfInBounds_toArray, List.set_cons_zero, List.set_cons_succ, List.take_succ_cons, List.take_zero, List.drop_succ_cons, List.drop_zero]))
    (apply Exists.intro; refine ⟨fun vs w1 hS hB hf => ?_, ?_⟩; (focus (clear hS hB hf; go_simp; first | exact ⟨Below.refl _ _, rfl⟩ | exact rfl)); (try simp (config := { maxSteps := 10000000 }) only [specV, addF, Act.put, List.setIfInBounds_toArray, List.set_cons_zero, List.set_cons_succ, List.take_succ_cons, List.take_zero, List.drop_succ_cons, List.drop_zero]))
    (apply Exists.intro; refine ⟨fun vs w1 hS hB hf => ?_, ?_⟩; (focus (clear hS hB hf; go_simp; first | exact ⟨Below.refl _ _, rfl⟩ | exact rfl)); (try simp (config := { maxSteps := 10000000 }) only [specV, addF, Act.put, List.setIfInBounds_toArray, List.set_cons_zero, List.set_cons_succ, List.take_succ_cons, List.take_zero, List.drop_succ_cons, List.drop_zero]))
    (apply Exists.intro; refine ⟨fun vs w1 hS hB hf => ?_, ?_⟩; (focus (go_simp; exact (GN.out _ hS.1).mono fun e w2 ⟨he, hb⟩ => callPost.of he hb rfl)); (try simp (config := { maxSteps := 10000000 }) only [specV, addF, Act.put, List.setIfInBounds_toArray, List.set_cons_zero, List.set_cons_succ, List.take_succ_cons, List.take_zero, List.drop_succ_cons, List.drop_zero]))
    (apply Exists.intro; refine ⟨fun vs w1 hS hB hf => ?_, ?_⟩; (focus (clear hS hB hf; go_simp; first | exact ⟨Below.refl _ _, rfl⟩ | exact rfl)); (try simp (config := { maxSteps := 10000000 }) only [specV, addF, Act.put, List.setIfInBounds_toArray, List.set_cons_zero, List.set_cons_succ, List.take_succ_cons, List.take_zero, List.drop_succ_cons, List.drop_zero]))
    (apply Exists.intro; refine ⟨fun vs w1 hS hB hf => ?_, ?_⟩; (focus (go_simp; exact (GM.out _).mono fun e w2 ⟨he, hb⟩ => callPost.of he (by subst hb; exact Below.refl _ _) rfl)); (try simp (config := { maxSteps := 10000000 }) only [specV, addF, Act.put, List.setIfInBounds_toArray, List.set_cons_zero, List.set_cons_succ, List.take_succ_cons, List.take_zero, List.drop_succ_cons, List.drop_zero]))
    (apply Exists.intro; refine ⟨fun vs w1 hS hB hf => ?_, ?_⟩; (focus (clear hS hB hf; go_simp; first | exact ⟨Below.refl _ _, rfl⟩ | exact rfl)); (try simp (config := { maxSteps := 10000000 }) only [specV, addF, Act.put, List.setIfInBounds_toArray, List.set_cons_zero, List.set_cons_succ, List.take_succ_cons, List.take_zero, List.drop_succ_cons, List.drop_zero]))
    (apply Exists.intro; refine ⟨fun vs w1 hS hB hf => ?_, ?_⟩; (focus (clear hS hB hf; go_simp; first | exact ⟨Below.refl _ _, rfl⟩ | exact rfl)); (try simp (config := { maxSteps := 10000000 }) only [specV, addF, Act.put, List.setIfInBounds_toArray, List.set_cons_zero, List.set_cons_succ, List.take_succ_cons, List.take_zero, List.drop_succ_cons, List.drop_zero]))
    (apply Exists.intro; refine ⟨fun vs w1 hS hB hf => ?_, ?_⟩; (focus (clear hS hB hf; go_simp; first | exact ⟨Below.refl _ _, rfl⟩ | exact rfl)); (try simp (config := { maxSteps := 10000000 }) only [specV, addF, Act.put, List.setIfInBounds_toArray, List.set_cons_zero, List.set_cons_succ, List.take_succ_cons, List.take_zero, List.drop_succ_cons, List.drop_zero]))
    (apply Exists.intro; refine ⟨fun vs w1 hS hB hf => ?_, ?_⟩; (focus (have L1 := hS.2.1.cell; have l1 := hS.2.1.lt; clear hS hB hf; go_simp; first | exact ⟨Below.refl _ _, rfl⟩ | exact rfl)); (try simp (config := { maxSteps := 10000000 }) only [specV, addF, Act.put, List.setIfInBounds_toArray, List.set_cons_zero, List.set_cons_succ, List.take_succ_cons, List.take_zero, List.drop_succ_cons, List.drop_zero]))
    (apply Exists.intro; refine ⟨fun vs w1 hS hB hf => ?_, ?_⟩; (focus (go_simp; exact (GT.out _ hS.1).mono fun e w2 ⟨he, hb⟩ => callPost.of he hb rfl)); (try simp (config := { maxSteps := 10000000 }) only [specV, addF, Act.put, List.setIfInBounds_toArray, List.set_cons_zero, List.set_cons_succ, List.take_succ_cons, List.take_zero, List.drop_succ_cons, List.drop_zero]))
    (apply Exists.intro; refine ⟨fun vs w1 hS hB hf => ?_, ?_⟩; (focus (have L1 := hS.2.1.cell; have l1 := hS.2.1.lt; clear hS hB hf; go_simp; first | exact ⟨Below.refl _ _, rfl⟩ | exact rfl)); (try simp (config := { maxSteps := 10000000 }) only [specV, addF, Act.put, List.setIfInBounds_toArray, List.set_cons_zero, List.set_cons_succ, List.take_succ_cons, List.take_zero, List.drop_succ_cons, List.drop_zero]))
    (apply Exists.intro; refine ⟨fun vs w1 hS hB hf => ?_, ?_⟩; (focus (go_simp; exact (GR.out _ hS.1).mono fun e w2 ⟨he, hb⟩ => callPost.of he hb rfl)); (try simp (config := { maxSteps := 10000000 }) only [specV, addF, Act.put, List.setIfInBounds_toArray, List.set_cons_zero, List.set_cons_succ, List.take_succ_cons, List.take_zero, List.drop_succ_cons, List.drop_zero]))
    (apply Exists.intro; refine ⟨fun vs w1 hS hB hf => ?_, ?_⟩; (focus (clear hS hB hf; go_simp; first | exact ⟨Below.refl _ _, rfl⟩ | exact rfl)); (try simp (config := { maxSteps := 10000000 }) only [specV, addF, Act.put, List.setIfInBounds_toArray, List.set_cons_zero, List.set_cons_succ, List.take_succ_cons, List.take_zero, List.drop_succ_cons, List.drop_zero]))
    (apply Exists.intro; refine ⟨fun vs w1 hS hB hf => ?_, ?_⟩; (focus (clear hS hB hf; go_simp; first | exact ⟨Below.refl _ _, rfl⟩ | exact rfl)); (try simp (config := { maxSteps := 10000000 }) only [specV, addF, Act.put, List.setIfInBounds_toArray, List.set_cons_zero, List.set_cons_succ, List.take_succ_cons, List.take_zero, List.drop_succ_cons, List.drop_zero]))
    (apply Exists.intro; refine ⟨fun vs w1 hS hB hf => ?_, ?_⟩; (focus (clear hS hB hf; go_simp; first | exact ⟨Below.refl _ _, rfl⟩ | exact rfl)); (try simp (config := { maxSteps := 10000000 }) only [specV, addF, Act.put, List.setIfInBounds_toArray, List.set_cons_zero, List.set_cons_succ, List.take_succ_cons, List.take_zero, List.drop_succ_cons, List.drop_zero]))
    (apply Exists.intro; refine ⟨fun vs w1 hS hB hf => ?_, ?_⟩; (focus (have L1 := hS.2.2.1.cell; have l1 := hS.2.2.1.lt; clear hS hB hf; go_simp; first | exact ⟨Below.refl _ _, rfl⟩ | exact rfl)); (try simp (config := { maxSteps := 10000000 }) only [specV, addF, Act.put, List.setIfInBounds_toArray, List.set_cons_zero, List.set_cons_succ, List.take_succ_cons, List.take_zero, List.drop_succ_cons, List.drop_zero]))
    (apply Exists.intro; refine ⟨fun vs w1 hS hB hf => ?_, ?_⟩; (focus (have L1 := hS.2.2.2.1.cell; have l1 := hS.2.2.2.1.lt; clear hS hB hf; go_simp; first | exact ⟨Below.refl _ _, rfl⟩ | exact rfl)); (try simp (config := { maxSteps := 10000000 }) only [specV, addF, Act.put, List.setIfInBounds_toArray, List.set_cons_zero, List.set_cons_succ, List.take_succ_cons, List.take_zero, List.drop_succ_cons, List.drop_zero]))
    (apply Exists.intro; refine ⟨fun vs w1 hS hB hf => ?_, ?_⟩; (focus (clear hS hB hf; exact AsmUnlike.opOk_inseql HYZ.out rfl rfl rfl rfl)); (try simp (config := { maxSteps := 10000000 }) only [specV, addF, Act.put, List.setIfInBounds_toArray, List.set_cons_zero, List.set_cons_succ, List.take_succ_cons, List.take_zero, List.drop_succ_cons, List.drop_zero]))
    (apply Exists.intro; refine ⟨fun vs w1 hS hB hf => ?_, ?_⟩; (focus (clear hS hB hf; go_simp; first | exact ⟨Below.refl _ _, rfl⟩ | exact rfl)); (try simp (config := { maxSteps := 10000000 }) only [specV, addF, Act.put, List.setIfInBounds_toArray, List.set_cons_zero, List.set_cons_succ, List.take_succ_cons, List.take_zero, List.drop_succ_cons, List.drop_zero]))
    (apply Exists.intro; refine ⟨fun vs w1 hS hB hf => ?_, ?_⟩; (focus (clear hS hB hf; go_simp; first | exact ⟨Below.refl _ _, rfl⟩ | exact rfl)); (try simp (config := { maxSteps := 10000000 }) only [specV, addF, Act.put, List.setIfInBounds_toArray, List.set_cons_zero, List.set_cons_succ, List.take_succ_cons, List.take_zero, List.drop_succ_cons, List.drop_zero]))
    (apply Exists.intro; refine ⟨fun vs w1 hS hB hf => ?_, ?_⟩; (focus (clear hS hB hf; go_simp; first | exact ⟨Below.refl _ _, rfl⟩ | exact rfl)); (try simp (config := { maxSteps := 10000000 }) only [specV, addF, Act.put, List.setIfInBounds_toArray, List.set_cons_zero, List.set_cons_succ, List.take_succ_cons, List.take_zero, List.drop_succ_cons, List.drop_zero]))
    (apply Exists.intro; refine ⟨fun vs w1 hS hB hf => ?_, ?_⟩; (focus (clear hS hB hf; go_simp; first | exact ⟨Below.refl _ _, rfl⟩ | exact rfl)); (try simp (config := { maxSteps := 10000000 }) only [specV, addF, Act.put, List.setIfInBounds_toArray, List.set_cons_zero, List.set_cons_succ, List.take_succ_cons, List.take_zero, List.drop_succ_cons, List.drop_zero]))
    (apply Exists.intro; refine ⟨fun vs w1 hS hB hf => ?_, ?_⟩; (focus (clear hS hB hf; go_simp; first | exact ⟨Below.refl _ _, rfl⟩ | exact rfl)); (try simp (config := { maxSteps := 10000000 }) only [specV, addF, Act.put, List.setIfInBounds_toArray, List.set_cons_zero, List.set_cons_succ, List.take_succ_cons, List.take_zero, List.drop_succ_cons, List.drop_zero]))
    (apply Exists.intro; refine ⟨fun vs w1 hS hB hf => ?_, ?_⟩; (focus (clear hS hB hf; go_simp; first | exact ⟨Below.refl _ _, rfl⟩ | exact rfl)); (try simp (config := { maxSteps := 10000000 }) only [specV, addF, Act.put, List.setIfInBounds_toArray, List.set_cons_zero, List.set_cons_succ, List.take_succ_cons, List.take_zero, List.drop_succ_cons, List.drop_zero]))
    intro vs w6 hS hB6 _
    dsimp only
    have B6 := Lib.hid (below_then B5.out B5.out.size hS.2.2.2.2)
    clear hS hB6
    go_wp2
    go_ret
    first | exact ⟨rfl, B6.out⟩ | exact ⟨rfl, by rw [← hk1]; exact B6.out⟩
  · have h9' : 900 < (s.size : Int) := by omega
    clear h9
    go_wp2
    go_ret
    first | exact ⟨rfl, B1.out⟩ | exact ⟨rfl, by rw [← hk1]; exact B1.out⟩
end Go.Proofs.YtnmjglnllokklaaDoor.AsmTells
