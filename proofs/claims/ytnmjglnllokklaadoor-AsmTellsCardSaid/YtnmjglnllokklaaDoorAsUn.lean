/-
  AsmUnlike: for every two instructions the law returns true, and each argument reads as it did. Condition: none.
-/
import Derived.Test.YtnmjglnllokklaaDoorAsL
import Derived.Test.YtnmjglnllokklaaDoorAsP
set_option linter.unusedVariables false
set_option linter.unusedSimpArgs false
namespace Go.Proofs.YtnmjglnllokklaaDoor.AsmUnlike
open Go.RowKit Go.Proofs.YtnmjglnllokklaaDoor

set_option maxRecDepth 100000 in
set_option maxHeartbeats 1600000 in
theorem run_eql_ins (X Y : Operand) (x0 x1 x2 x3 y0 y1 y2 y3 : Int) (w : World) (e : Bool) (he : decide (x0 = y0 ∧ x1 = y1 ∧ x2 = y2 ∧ x3 = y3) = e) :
    (do eqGuard .eql 23 X Y (.agg #[.int .i64 (x0), .int .i64 (x1), .int .i64 (x2), .int .i64 (x3)]) (.agg #[.int .i64 (y0), .int .i64 (y1), .int .i64 (y2), .int .i64 (y3)]); binOp .eql 23 (.agg #[.int .i64 (x0), .int .i64 (x1), .int .i64 (x2), .int .i64 (x3)]) (.agg #[.int .i64 (y0), .int .i64 (y1), .int .i64 (y2), .int .i64 (y3)]) : Sem Value).run Tryd.prog w = .ok (.bool e) w := by
  by_cases h0 : x0 = y0 <;> by_cases h1 : x1 = y1 <;> by_cases h2 : x2 = y2 <;> by_cases h3 : x3 = y3 <;> (simp [h0, h1, h2, h3] at he; subst he; simp [go_sem, h0, h1, h2, h3])
theorem opOk_inseql {ops : Array Oper} {o : Oper} {A : Act} {w : World} {X Y : Operand} {T : TypeId} {x0 x1 x2 x3 y0 y1 y2 y3 : Int} {e : Bool} (he : decide (x0 = y0 ∧ x1 = y1 ∧ x2 = y2 ∧ x3 = y3) = e) (hg : Region.wanted o (yielded ops A.tmps) = true) (ho : o.op = .binOp .eql 23 X Y T)
    (hX : A.eval X = .agg #[.int .i64 (x0), .int .i64 (x1), .int .i64 (x2), .int .i64 (x3)]) (hY : A.eval Y = .agg #[.int .i64 (y0), .int .i64 (y1), .int .i64 (y2), .int .i64 (y3)]) : opOk Tryd.prog ops o A w (fun u _ => u = .bool e) := by
  unfold opOk
  rw [if_pos hg]
  have hr := run_eql_ins X Y x0 x1 x2 x3 y0 y1 y2 y3 w e he
  have e : (execOp A.eval o).run Tryd.prog w = .ok (.value (.bool e)) w := by
    unfold execOp
    simp only [ho, hX, hY]
    rw [Sem.run_bind, hr]
    rfl
  rw [e]
  exact ⟨Below.refl _ _, rfl⟩

theorem text_inj {o a b c p d e f : Int} (h : rightI o a b c = true) (k : rightI p d e f = true) : ((textS o a b c).toList == (textS p d e f).toList) = decide (o = p ∧ a = d ∧ b = e ∧ c = f) := by
  rw [Bool.eq_iff_iff, Lib.bytes_beq_iff, decide_eq_true_eq]
  constructor
  · intro he
    have h1 := (parse_text h).2
    rw [he, (parse_text k).2] at h1
    simp only [Value.agg.injEq, Array.mk.injEq, List.cons.injEq, Value.int.injEq, true_and, and_true] at h1
    exact ⟨h1.1.symm, h1.2.1.symm, h1.2.2.1.symm, h1.2.2.2.symm⟩
  · rintro ⟨rfl, rfl, rfl, rfl⟩
    rfl
theorem name_inj : ∀ i, i < 30 → ∀ k, k < 30 → ((nameS (i : Nat)).toList == (nameS (k : Nat)).toList) = decide (i = k) := by decide +kernel
theorem name_inj' {o p : Int} (h : 0 ≤ o ∧ o ≤ 29) (k : 0 ≤ p ∧ p ≤ 29) : ((nameS o).toList == (nameS p).toList) = decide (o = p) := by
  obtain ⟨i, rfl⟩ : ∃ i : Nat, o = i := ⟨o.toNat, by omega⟩
  obtain ⟨j, rfl⟩ : ∃ j : Nat, p = j := ⟨p.toNat, by omega⟩
  rw [name_inj i (by omega) j (by omega), Bool.eq_iff_iff, decide_eq_true_eq, decide_eq_true_eq]
  omega
theorem text_head {o a b c : Int} (h : rightI o a b c = true) : (nameS o).size ≤ (textS o a b c).size ∧ (((textS o a b c).extract 0 (nameS o).size).toList == (nameS o).toList) = true := by
  have e : textL o a b c = nameN o ++ Lib.joinTail [32] (partsT o a b c 3) := by unfold textL; rw [if_pos h, Lib.join_cons]
  have h1 : (nameS o).size = (nameN o).length := by unfold nameS; rw [← ByteArray.size_data, List.size_toArray]
  have h2 : (textS o a b c).size = (textL o a b c).length := by unfold textS; rw [← ByteArray.size_data, List.size_toArray]
  refine ⟨by rw [h1, h2, e, List.length_append]; omega, ?_⟩
  rw [Lib.bytes_beq_iff, Lib.extract_eq, h1]
  unfold textS nameS
  rw [List.toList_toArray, e, List.drop_zero, Nat.sub_zero, List.take_left]

set_option maxRecDepth 100000 in
set_option maxHeartbeats 3200000 in
theorem walk (w : World) (o a b c p d e f : Int) (hE : Env w) (io : inI o) (ia : inI a) (ib : inI b) (ic : inI c) (ip : inI p) (id : inI d) (ie : inI e) (if_ : inI f) :
    Calls Tryd.prog 5 #[.agg #[.int .i64 (o), .int .i64 (a), .int .i64 (b), .int .i64 (c)], .agg #[.int .i64 (p), .int .i64 (d), .int .i64 (e), .int .i64 (f)]] w fun e w' => e = .returned (.bool true) ∧ Below w.heap.size w w' := by
  have HE := Lib.hid hE
  have HA := Lib.hid (And.intro io (And.intro ia (And.intro ib ic)))
  have HB := Lib.hid (And.intro ip (And.intro id (And.intro ie if_)))
  clear hE io ia ib ic ip id ie if_
  go_enter Tryd.func5, Tryd.ntmps5
  go_wp2_with fail
  obtain ⟨W0, hW0⟩ : ∃ W0, (w.alloc (.cells #[.int .i64 (o), .int .i64 (a), .int .i64 (b), .int .i64 (c)] 23)).alloc (.cells #[.int .i64 (p), .int .i64 (d), .int .i64 (e), .int .i64 (f)] 23) = W0 := ⟨_, rfl⟩
  have K1 := Lib.hid (show Blk W0 w.heap.size #[.int .i64 (o), .int .i64 (a), .int .i64 (b), .int .i64 (c)] 23 by rw [← hW0]; exact (Blk.new w _ _).alloc _)
  have K2 := Lib.hid (show Blk W0 (w.heap.size + 1) #[.int .i64 (p), .int .i64 (d), .int .i64 (e), .int .i64 (f)] 23 by rw [← hW0]; have := Blk.new (w.alloc (.cells #[.int .i64 (o), .int .i64 (a), .int .i64 (b), .int .i64 (c)] 23)) #[.int .i64 (p), .int .i64 (d), .int .i64 (e), .int .i64 (f)] 23; rwa [World.size_alloc] at this)
  have B0 := Lib.hid (show Below w.heap.size w W0 by rw [← hW0]; go_grown)
  rw [hW0]
  obtain ⟨k1, hk1⟩ : ∃ k1, w.heap.size = k1 := ⟨_, rfl⟩
  obtain ⟨k2, hk2⟩ : ∃ k2, k1 + 1 = k2 := ⟨_, rfl⟩
  rw [hk1] at K1 K2 ⊢
  rw [hk2] at K2 ⊢
  clear hW0 hk2
  refine (Head.head_any W0 (HE.out.grow B0.out)).mono ?_
  rintro e' w1 ⟨rfl, b1⟩
  have M1 := Lib.hid (K1.out.below b1 K1.out.lt)
  have M2 := Lib.hid (K2.out.below b1 K2.out.lt)
  have B1 := Lib.hid (below_then B0.out B0.out.size b1)
  clear b1 K1 K2 B0
  have c1 := M1.out.cell
  have l1 := M1.out.lt
  have c2 := M2.out.cell
  have l2 := M2.out.lt
  go_wp2_with fail
  refine (rright_any o a b c w1 HA.out.1 HA.out.2.1 HA.out.2.2.1 HA.out.2.2.2).mono ?_
  rintro e' w2 ⟨rfl, b2⟩
  have N1 := Lib.hid (M1.out.below b2 M1.out.lt)
  have N2 := Lib.hid (M2.out.below b2 M2.out.lt)
  have B2 := Lib.hid (below_then B1.out B1.out.size b2)
  clear b2 M1 M2 B1 c1 l1 c2 l2
  have c1 := N1.out.cell
  have l1 := N1.out.lt
  have c2 := N2.out.cell
  have l2 := N2.out.lt
  cases hx : rightI o a b c with
  | false =>
    go_wp2_with fail
    go_ret
    exact ⟨rfl, B2.out⟩
  | true =>
    go_wp2_with fail
    refine (rright_any p d e f w2 HB.out.1 HB.out.2.1 HB.out.2.2.1 HB.out.2.2.2).mono ?_
    rintro e' w3 ⟨rfl, b3⟩
    have O1 := Lib.hid (N1.out.below b3 N1.out.lt)
    have O2 := Lib.hid (N2.out.below b3 N2.out.lt)
    have B3 := Lib.hid (below_then B2.out B2.out.size b3)
    clear b3 N1 N2 B2 c1 l1 c2 l2
    have c1 := O1.out.cell
    have l1 := O1.out.lt
    have c2 := O2.out.cell
    have l2 := O2.out.lt
    cases hy : rightI p d e f with
    | false =>
      go_wp2_with fail
      go_ret
      exact ⟨rfl, B3.out⟩
    | true =>
      have HTI := Lib.hid (text_inj hx hy)
      have HNI := Lib.hid (name_inj' (right_parts hx).1 (right_parts hy).1)
      have HTH := Lib.hid (text_head hx)
      clear hx hy
      go_wp2_with fail
      refine (text_any o a b c w3 (HE.out.grow B3.out) HA.out.1 HA.out.2.1 HA.out.2.2.1 HA.out.2.2.2).mono ?_
      rintro e' w4 ⟨rfl, b4⟩
      have P1 := Lib.hid (O1.out.below b4 O1.out.lt)
      have P2 := Lib.hid (O2.out.below b4 O2.out.lt)
      have B4 := Lib.hid (below_then B3.out B3.out.size b4)
      clear b4 O1 O2 B3 c1 l1 c2 l2
      have c1 := P1.out.cell
      have l1 := P1.out.lt
      have c2 := P2.out.cell
      have l2 := P2.out.lt
      go_wp2_with fail
      refine (name_any o w4 (HE.out.grow B4.out) HA.out.1).mono ?_
      rintro e' w5 ⟨rfl, b5⟩
      have Q1 := Lib.hid (P1.out.below b5 P1.out.lt)
      have Q2 := Lib.hid (P2.out.below b5 P2.out.lt)
      have B5 := Lib.hid (below_then B4.out B4.out.size b5)
      clear b5 P1 P2 B4 c1 l1 c2 l2
      have GT := Lib.hid (fun W hW => text_any p d e f W hW HB.out.1 HB.out.2.1 HB.out.2.2.1 HB.out.2.2.2)
      have GN := Lib.hid (fun W hW => name_any p W hW HB.out.1)
      obtain ⟨sx, hsx⟩ : ∃ sx, textS o a b c = sx := ⟨_, rfl⟩
      obtain ⟨sy, hsy⟩ : ∃ sy, textS p d e f = sy := ⟨_, rfl⟩
      obtain ⟨nx, hnx⟩ : ∃ nx, nameS o = nx := ⟨_, rfl⟩
      obtain ⟨ny, hny⟩ : ∃ ny, nameS p = ny := ⟨_, rfl⟩
      rw [hsx] at HTI HTH ⊢
      rw [hsy] at HTI GT
      rw [hnx] at HTH HNI ⊢
      rw [hny] at HNI GN
      clear hsx hsy hnx hny
      obtain ⟨B, hB⟩ : ∃ B, decide (o = p ∧ a = d ∧ b = e ∧ c = f) = B := ⟨_, rfl⟩
      have HBB := Lib.hid hB
      obtain ⟨C, hC⟩ : ∃ C, decide (o = p) = C := ⟨_, rfl⟩
      rw [hB] at HTI
      rw [hC] at HNI
      have HOP := Lib.hid (show (o == p) = C by rw [← hC]; exact Bool.eq_iff_iff.2 (by simp))
      have HEW := Lib.hid (HE.out.grow B5.out)
      clear hB hC
      go_upto_region 6 with fail
      have hti := HTI.out
      have hni := HNI.out
      have hop := HOP.out
      have hth1 : (nx.size : Int) ≤ sx.size := by have := HTH.out.1; omega
      have hth2 := HTH.out.2
      refine wp_flow_lit 39 (fun w' => Env w' ∧ Blk w' k1 #[.int .i64 (o), .int .i64 (a), .int .i64 (b), .int .i64 (c)] 23 ∧ Blk w' k2 #[.int .i64 (p), .int .i64 (d), .int .i64 (e), .int .i64 (f)] 23 ∧ Below w5.heap.size w5 w') [none, none, none, none, none, none, none, none, none, none, none, none, none, none, none, none, none, none, none, none, none, none, none, none, none, none, none, none, none, none, none, none, none, none, none, none, none, none, none] (by kernel_rfl) (by kernel_rfl)
        ⟨HEW.out.grow (Below.drew (Below.refl _ _)), Q1.out.drew, Q2.out.drew, (Below.drew (Below.refl _ _))⟩ (fun w1 w2 h hb => ⟨h.1.grow hb, h.2.1.below hb h.2.1.lt, h.2.2.1.below hb h.2.2.1.lt, below_then h.2.2.2 h.2.2.2.size hb⟩) trivial ?_
      (try simp (config := { maxSteps := 10000000 }) only [specV, addF, Act.put, List.setIfInBounds_toArray, List.set_cons_zero, List.set_cons_succ, List.take_succ_cons, List.take_zero, List.drop_succ_cons, List.drop_zero])
      (apply Exists.intro; refine ⟨fun vs w1 hS hB hf => ?_, ?_⟩; (focus (clear hS hB hf; go_simp; first | exact ⟨Below.refl _ _, rfl⟩ | exact rfl)); (try simp (config := { maxSteps := 10000000 }) only [specV, addF, Act.put, List.setIfInBounds_toArray, List.set_cons_zero, List.set_cons_succ, List.take_succ_cons, List.take_zero, List.drop_succ_cons, List.drop_zero]))
      (apply Exists.intro; refine ⟨fun vs w1 hS hB hf => ?_, ?_⟩; (focus (clear hS hB hf; go_simp; first | exact ⟨Below.refl _ _, rfl⟩ | exact rfl)); (try simp (config := { maxSteps := 10000000 }) only [specV, addF, Act.put, List.setIfInBounds_toArray, List.set_cons_zero, List.set_cons_succ, List.take_succ_cons, List.take_zero, List.drop_succ_cons, List.drop_zero]))
      (apply Exists.intro; refine ⟨fun vs w1 hS hB hf => ?_, ?_⟩; (focus (clear hS hB hf; go_simp; first | exact ⟨Below.refl _ _, rfl⟩ | exact rfl)); (try simp (config := { maxSteps := 10000000 }) only [specV, addF, Act.put, List.setIfInBounds_toArray, List.set_cons_zero, List.set_cons_succ, List.take_succ_cons, List.take_zero, List.drop_succ_cons, List.drop_zero]))
      (apply Exists.intro; refine ⟨fun vs w1 hS hB hf => ?_, ?_⟩; (focus (have L1 := hS.2.2.1.cell; have l1 := hS.2.2.1.lt; clear hS hB hf; go_simp; first | exact ⟨Below.refl _ _, rfl⟩ | exact rfl)); (try simp (config := { maxSteps := 10000000 }) only [specV, addF, Act.put, List.setIfInBounds_toArray, List.set_cons_zero, List.set_cons_succ, List.take_succ_cons, List.take_zero, List.drop_succ_cons, List.drop_zero]))
      (apply Exists.intro; refine ⟨fun vs w1 hS hB hf => ?_, ?_⟩; (focus (go_simp; exact (GT.out _ hS.1).mono fun e w2 ⟨he, hb⟩ => callPost.of he hb rfl)); (try simp (config := { maxSteps := 10000000 }) only [specV, addF, Act.put, List.setIfInBounds_toArray, List.set_cons_zero, List.set_cons_succ, List.take_succ_cons, List.take_zero, List.drop_succ_cons, List.drop_zero]))
      (apply Exists.intro; refine ⟨fun vs w1 hS hB hf => ?_, ?_⟩; (focus (clear hS hB hf; go_simp; first | exact ⟨Below.refl _ _, rfl⟩ | exact rfl)); (try simp (config := { maxSteps := 10000000 }) only [specV, addF, Act.put, List.setIfInBounds_toArray, List.set_cons_zero, List.set_cons_succ, List.take_succ_cons, List.take_zero, List.drop_succ_cons, List.drop_zero]))
      (apply Exists.intro; refine ⟨fun vs w1 hS hB hf => ?_, ?_⟩; (focus (have L1 := hS.2.1.cell; have l1 := hS.2.1.lt; clear hS hB hf; go_simp; first | exact ⟨Below.refl _ _, rfl⟩ | exact rfl)); (try simp (config := { maxSteps := 10000000 }) only [specV, addF, Act.put, List.setIfInBounds_toArray, List.set_cons_zero, List.set_cons_succ, List.take_succ_cons, List.take_zero, List.drop_succ_cons, List.drop_zero]))
      (apply Exists.intro; refine ⟨fun vs w1 hS hB hf => ?_, ?_⟩; (focus (have L1 := hS.2.2.1.cell; have l1 := hS.2.2.1.lt; clear hS hB hf; go_simp; first | exact ⟨Below.refl _ _, rfl⟩ | exact rfl)); (try simp (config := { maxSteps := 10000000 }) only [specV, addF, Act.put, List.setIfInBounds_toArray, List.set_cons_zero, List.set_cons_succ, List.take_succ_cons, List.take_zero, List.drop_succ_cons, List.drop_zero]))
      (apply Exists.intro; refine ⟨fun vs w1 hS hB hf => ?_, ?_⟩; (focus (clear hS hB hf; exact opOk_inseql HBB.out rfl rfl rfl rfl)); (try simp (config := { maxSteps := 10000000 }) only [specV, addF, Act.put, List.setIfInBounds_toArray, List.set_cons_zero, List.set_cons_succ, List.take_succ_cons, List.take_zero, List.drop_succ_cons, List.drop_zero]))
      (apply Exists.intro; refine ⟨fun vs w1 hS hB hf => ?_, ?_⟩; (focus (clear hS hB hf; go_simp; first | exact ⟨Below.refl _ _, rfl⟩ | exact rfl)); (try simp (config := { maxSteps := 10000000 }) only [specV, addF, Act.put, List.setIfInBounds_toArray, List.set_cons_zero, List.set_cons_succ, List.take_succ_cons, List.take_zero, List.drop_succ_cons, List.drop_zero]))
      (apply Exists.intro; refine ⟨fun vs w1 hS hB hf => ?_, ?_⟩; (focus (clear hS hB hf; go_simp; first | exact ⟨Below.refl _ _, rfl⟩ | exact rfl)); (try simp (config := { maxSteps := 10000000 }) only [specV, addF, Act.put, List.setIfInBounds_toArray, List.set_cons_zero, List.set_cons_succ, List.take_succ_cons, List.take_zero, List.drop_succ_cons, List.drop_zero]))
      (apply Exists.intro; refine ⟨fun vs w1 hS hB hf => ?_, ?_⟩; (focus (clear hS hB hf; go_simp; first | exact ⟨Below.refl _ _, rfl⟩ | exact rfl)); (try simp (config := { maxSteps := 10000000 }) only [specV, addF, Act.put, List.setIfInBounds_toArray, List.set_cons_zero, List.set_cons_succ, List.take_succ_cons, List.take_zero, List.drop_succ_cons, List.drop_zero]))
      (apply Exists.intro; refine ⟨fun vs w1 hS hB hf => ?_, ?_⟩; (focus (clear hS hB hf; go_simp; first | exact ⟨Below.refl _ _, rfl⟩ | exact rfl)); (try simp (config := { maxSteps := 10000000 }) only [specV, addF, Act.put, List.setIfInBounds_toArray, List.set_cons_zero, List.set_cons_succ, List.take_succ_cons, List.take_zero, List.drop_succ_cons, List.drop_zero]))
      (apply Exists.intro; refine ⟨fun vs w1 hS hB hf => ?_, ?_⟩; (focus (clear hS hB hf; go_simp; first | exact ⟨Below.refl _ _, rfl⟩ | exact rfl)); (try simp (config := { maxSteps := 10000000 }) only [specV, addF, Act.put, List.setIfInBounds_toArray, List.set_cons_zero, List.set_cons_succ, List.take_succ_cons, List.take_zero, List.drop_succ_cons, List.drop_zero]))
      (apply Exists.intro; refine ⟨fun vs w1 hS hB hf => ?_, ?_⟩; (focus (clear hS hB hf; go_simp; first | exact ⟨Below.refl _ _, rfl⟩ | exact rfl)); (try simp (config := { maxSteps := 10000000 }) only [specV, addF, Act.put, List.setIfInBounds_toArray, List.set_cons_zero, List.set_cons_succ, List.take_succ_cons, List.take_zero, List.drop_succ_cons, List.drop_zero]))
      (apply Exists.intro; refine ⟨fun vs w1 hS hB hf => ?_, ?_⟩; (focus (clear hS hB hf; go_simp; first | exact ⟨Below.refl _ _, rfl⟩ | exact rfl)); (try simp (config := { maxSteps := 10000000 }) only [specV, addF, Act.put, List.setIfInBounds_toArray, List.set_cons_zero, List.set_cons_succ, List.take_succ_cons, List.take_zero, List.drop_succ_cons, List.drop_zero]))
      (apply Exists.intro; refine ⟨fun vs w1 hS hB hf => ?_, ?_⟩; (focus (clear hS hB hf; go_simp; first | exact ⟨Below.refl _ _, rfl⟩ | exact rfl)); (try simp (config := { maxSteps := 10000000 }) only [specV, addF, Act.put, List.setIfInBounds_toArray, List.set_cons_zero, List.set_cons_succ, List.take_succ_cons, List.take_zero, List.drop_succ_cons, List.drop_zero]))
      (apply Exists.intro; refine ⟨fun vs w1 hS hB hf => ?_, ?_⟩; (focus (clear hS hB hf; go_simp; first | exact ⟨Below.refl _ _, rfl⟩ | exact rfl)); (try simp (config := { maxSteps := 10000000 }) only [specV, addF, Act.put, List.setIfInBounds_toArray, List.set_cons_zero, List.set_cons_succ, List.take_succ_cons, List.take_zero, List.drop_succ_cons, List.drop_zero]))
      (apply Exists.intro; refine ⟨fun vs w1 hS hB hf => ?_, ?_⟩; (focus (clear hS hB hf; go_simp; first | exact ⟨Below.refl _ _, rfl⟩ | exact rfl)); (try simp (config := { maxSteps := 10000000 }) only [specV, addF, Act.put, List.setIfInBounds_toArray, List.set_cons_zero, List.set_cons_succ, List.take_succ_cons, List.take_zero, List.drop_succ_cons, List.drop_zero]))
      (apply Exists.intro; refine ⟨fun vs w1 hS hB hf => ?_, ?_⟩; (focus (clear hS hB hf; go_simp; first | exact ⟨Below.refl _ _, rfl⟩ | exact rfl)); (try simp (config := { maxSteps := 10000000 }) only [specV, addF, Act.put, List.setIfInBounds_toArray, List.set_cons_zero, List.set_cons_succ, List.take_succ_cons, List.take_zero, List.drop_succ_cons, List.drop_zero]))
      (apply Exists.intro; refine ⟨fun vs w1 hS hB hf => ?_, ?_⟩; (focus (clear hS hB hf; go_simp; first | exact ⟨Below.refl _ _, rfl⟩ | exact rfl)); (try simp (config := { maxSteps := 10000000 }) only [specV, addF, Act.put, List.setIfInBounds_toArray, List.set_cons_zero, List.set_cons_succ, List.take_succ_cons, List.take_zero, List.drop_succ_cons, List.drop_zero]))
      (apply Exists.intro; refine ⟨fun vs w1 hS hB hf => ?_, ?_⟩; (focus (clear hS hB hf; go_simp; first | exact ⟨Below.refl _ _, rfl⟩ | exact rfl)); (try simp (config := { maxSteps := 10000000 }) only [specV, addF, Act.put, List.setIfInBounds_toArray, List.set_cons_zero, List.set_cons_succ, List.take_succ_cons, List.take_zero, List.drop_succ_cons, List.drop_zero]))
      (apply Exists.intro; refine ⟨fun vs w1 hS hB hf => ?_, ?_⟩; (focus (clear hS hB hf; go_simp; first | exact ⟨Below.refl _ _, rfl⟩ | exact rfl)); (try simp (config := { maxSteps := 10000000 }) only [specV, addF, Act.put, List.setIfInBounds_toArray, List.set_cons_zero, List.set_cons_succ, List.take_succ_cons, List.take_zero, List.drop_succ_cons, List.drop_zero]))
      (apply Exists.intro; refine ⟨fun vs w1 hS hB hf => ?_, ?_⟩; (focus (clear hS hB hf; go_simp; first | exact ⟨Below.refl _ _, rfl⟩ | exact rfl)); (try simp (config := { maxSteps := 10000000 }) only [specV, addF, Act.put, List.setIfInBounds_toArray, List.set_cons_zero, List.set_cons_succ, List.take_succ_cons, List.take_zero, List.drop_succ_cons, List.drop_zero]))
      (apply Exists.intro; refine ⟨fun vs w1 hS hB hf => ?_, ?_⟩; (focus (clear hS hB hf; go_simp; first | exact ⟨Below.refl _ _, rfl⟩ | exact rfl)); (try simp (config := { maxSteps := 10000000 }) only [specV, addF, Act.put, List.setIfInBounds_toArray, List.set_cons_zero, List.set_cons_succ, List.take_succ_cons, List.take_zero, List.drop_succ_cons, List.drop_zero]))
      (apply Exists.intro; refine ⟨fun vs w1 hS hB hf => ?_, ?_⟩; (focus (clear hS hB hf; go_simp; first | exact ⟨Below.refl _ _, rfl⟩ | exact rfl)); (try simp (config := { maxSteps := 10000000 }) only [specV, addF, Act.put, List.setIfInBounds_toArray, List.set_cons_zero, List.set_cons_succ, List.take_succ_cons, List.take_zero, List.drop_succ_cons, List.drop_zero]))
      (apply Exists.intro; refine ⟨fun vs w1 hS hB hf => ?_, ?_⟩; (focus (clear hS hB hf; go_simp; first | exact ⟨Below.refl _ _, rfl⟩ | exact rfl)); (try simp (config := { maxSteps := 10000000 }) only [specV, addF, Act.put, List.setIfInBounds_toArray, List.set_cons_zero, List.set_cons_succ, List.take_succ_cons, List.take_zero, List.drop_succ_cons, List.drop_zero]))
      (apply Exists.intro; refine ⟨fun vs w1 hS hB hf => ?_, ?_⟩; (focus (clear hS hB hf; go_simp; first | exact ⟨Below.refl _ _, rfl⟩ | exact rfl)); (try simp (config := { maxSteps := 10000000 }) only [specV, addF, Act.put, List.setIfInBounds_toArray, List.set_cons_zero, List.set_cons_succ, List.take_succ_cons, List.take_zero, List.drop_succ_cons, List.drop_zero]))
      (apply Exists.intro; refine ⟨fun vs w1 hS hB hf => ?_, ?_⟩; (focus (clear hS hB hf; go_simp; first | exact ⟨Below.refl _ _, rfl⟩ | exact rfl)); (try simp (config := { maxSteps := 10000000 }) only [specV, addF, Act.put, List.setIfInBounds_toArray, List.set_cons_zero, List.set_cons_succ, List.take_succ_cons, List.take_zero, List.drop_succ_cons, List.drop_zero]))
      (apply Exists.intro; refine ⟨fun vs w1 hS hB hf => ?_, ?_⟩; (focus (have L1 := hS.2.2.1.cell; have l1 := hS.2.2.1.lt; clear hS hB hf; go_simp; first | exact ⟨Below.refl _ _, rfl⟩ | exact rfl)); (try simp (config := { maxSteps := 10000000 }) only [specV, addF, Act.put, List.setIfInBounds_toArray, List.set_cons_zero, List.set_cons_succ, List.take_succ_cons, List.take_zero, List.drop_succ_cons, List.drop_zero]))
      (apply Exists.intro; refine ⟨fun vs w1 hS hB hf => ?_, ?_⟩; (focus (go_simp; exact (GN.out _ hS.1).mono fun e w2 ⟨he, hb⟩ => callPost.of he hb rfl)); (try simp (config := { maxSteps := 10000000 }) only [specV, addF, Act.put, List.setIfInBounds_toArray, List.set_cons_zero, List.set_cons_succ, List.take_succ_cons, List.take_zero, List.drop_succ_cons, List.drop_zero]))
      (apply Exists.intro; refine ⟨fun vs w1 hS hB hf => ?_, ?_⟩; (focus (clear hS hB hf; go_simp; first | exact ⟨Below.refl _ _, rfl⟩ | exact rfl)); (try simp (config := { maxSteps := 10000000 }) only [specV, addF, Act.put, List.setIfInBounds_toArray, List.set_cons_zero, List.set_cons_succ, List.take_succ_cons, List.take_zero, List.drop_succ_cons, List.drop_zero]))
      (apply Exists.intro; refine ⟨fun vs w1 hS hB hf => ?_, ?_⟩; (focus (clear hS hB hf; go_simp; first | exact ⟨Below.refl _ _, rfl⟩ | exact rfl)); (try simp (config := { maxSteps := 10000000 }) only [specV, addF, Act.put, List.setIfInBounds_toArray, List.set_cons_zero, List.set_cons_succ, List.take_succ_cons, List.take_zero, List.drop_succ_cons, List.drop_zero]))
      (apply Exists.intro; refine ⟨fun vs w1 hS hB hf => ?_, ?_⟩; (focus (have L1 := hS.2.1.cell; have l1 := hS.2.1.lt; clear hS hB hf; go_simp; first | exact ⟨Below.refl _ _, rfl⟩ | exact rfl)); (try simp (config := { maxSteps := 10000000 }) only [specV, addF, Act.put, List.setIfInBounds_toArray, List.set_cons_zero, List.set_cons_succ, List.take_succ_cons, List.take_zero, List.drop_succ_cons, List.drop_zero]))
      (apply Exists.intro; refine ⟨fun vs w1 hS hB hf => ?_, ?_⟩; (focus (clear hS hB hf; go_simp; first | exact ⟨Below.refl _ _, rfl⟩ | exact rfl)); (try simp (config := { maxSteps := 10000000 }) only [specV, addF, Act.put, List.setIfInBounds_toArray, List.set_cons_zero, List.set_cons_succ, List.take_succ_cons, List.take_zero, List.drop_succ_cons, List.drop_zero]))
      (apply Exists.intro; refine ⟨fun vs w1 hS hB hf => ?_, ?_⟩; (focus (have L1 := hS.2.2.1.cell; have l1 := hS.2.2.1.lt; clear hS hB hf; go_simp; first | exact ⟨Below.refl _ _, rfl⟩ | exact rfl)); (try simp (config := { maxSteps := 10000000 }) only [specV, addF, Act.put, List.setIfInBounds_toArray, List.set_cons_zero, List.set_cons_succ, List.take_succ_cons, List.take_zero, List.drop_succ_cons, List.drop_zero]))
      (apply Exists.intro; refine ⟨fun vs w1 hS hB hf => ?_, ?_⟩; (focus (clear hS hB hf; go_simp; first | exact ⟨Below.refl _ _, rfl⟩ | exact rfl)); (try simp (config := { maxSteps := 10000000 }) only [specV, addF, Act.put, List.setIfInBounds_toArray, List.set_cons_zero, List.set_cons_succ, List.take_succ_cons, List.take_zero, List.drop_succ_cons, List.drop_zero]))
      (apply Exists.intro; refine ⟨fun vs w1 hS hB hf => ?_, ?_⟩; (focus (clear hS hB hf; go_simp; first | exact ⟨Below.refl _ _, rfl⟩ | exact rfl)); (try simp (config := { maxSteps := 10000000 }) only [specV, addF, Act.put, List.setIfInBounds_toArray, List.set_cons_zero, List.set_cons_succ, List.take_succ_cons, List.take_zero, List.drop_succ_cons, List.drop_zero]))
      (apply Exists.intro; refine ⟨fun vs w1 hS hB hf => ?_, ?_⟩; (focus (clear hS hB hf; go_simp; first | exact ⟨Below.refl _ _, rfl⟩ | exact rfl)); (try simp (config := { maxSteps := 10000000 }) only [specV, addF, Act.put, List.setIfInBounds_toArray, List.set_cons_zero, List.set_cons_succ, List.take_succ_cons, List.take_zero, List.drop_succ_cons, List.drop_zero]))
      intro vs w6 hS hB6 _
      dsimp only
      have B6 := Lib.hid (below_then B5.out B5.out.size hS.2.2.2)
      clear hS hB6
      go_wp2
      go_ret
      exact ⟨rfl, by rw [← hk1]; exact B6.out⟩
end Go.Proofs.YtnmjglnllokklaaDoor.AsmUnlike
