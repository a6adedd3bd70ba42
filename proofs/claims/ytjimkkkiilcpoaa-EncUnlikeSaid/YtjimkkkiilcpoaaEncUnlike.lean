/-
  EncUnlike: for every two capabilities the law returns true, and each argument reads as it did. Condition: none.
-/
import Derived.Test.YtjimkkkiilcpoaaRows
import Derived.Test.YtjimkkkiilcpoaaEncM
import Derived.Test.YtjimkkkiilcpoaaCapEq
import Derived.Test.YtjimkkkiilcpoaaArg
import Derived.ChangeOld
set_option linter.unusedVariables false
set_option linter.unusedSimpArgs false
namespace Go.Proofs.Ytjimkkkiilcpoaa.EncUnlike
open Go.ChangeShapes Go.WideShapes Go.ChangeAt Go.RowKit Go.Proofs.Ytjimkkkiilcpoaa

theorem own : ownKnob Try.prog.godebug = none := by kernel_rfl
theorem laidOut : laidOutB Try.prog = true := by kernel_rfl

set_option maxRecDepth 100000 in
set_option maxHeartbeats 3200000 in
theorem walk (t : Bool) (b p a q y : Int) (t' : Bool) (b' p' a' q' y' : Int) (w : World) (_ : inI b) (_ : inI p) (_ : inI a) (hq : inI q) (_ : inI y) (_ : inI b') (_ : inI p') (_ : inI a') (hq' : inI q') (_ : inI y') :
    Calls Try.prog 6 #[.agg #[.bool (t), .int .i64 (b), .int .i64 (p), .int .i64 (a), .int .i64 (q), .int .i64 (y)], .agg #[.bool (t'), .int .i64 (b'), .int .i64 (p'), .int .i64 (a'), .int .i64 (q'), .int .i64 (y')]] w fun e w' => e = .returned (.bool true) ∧ Below w.heap.size w w' := by
  go_enter Try.func6, Try.ntmps6
  go_wp2_with fail
  refine (head3_true _).mono ?_
  rintro e w1 ⟨rfl, hb1⟩
  have hb0 : Below w.heap.size w ((w.alloc (.cells #[.bool (t), .int .i64 (b), .int .i64 (p), .int .i64 (a), .int .i64 (q), .int .i64 (y)] 23)).alloc (.cells #[.bool (t'), .int .i64 (b'), .int .i64 (p'), .int .i64 (a'), .int .i64 (q'), .int .i64 (y')] 23)) := by go_grown
  have C1 := ((Blk.new w #[.bool (t), .int .i64 (b), .int .i64 (p), .int .i64 (a), .int .i64 (q), .int .i64 (y)] 23).alloc (.cells #[.bool (t'), .int .i64 (b'), .int .i64 (p'), .int .i64 (a'), .int .i64 (q'), .int .i64 (y')] 23)).below hb1 (by first | omega | (simp only [World.size_alloc, World.size_drew, World.size_setCell]; omega) | (simp; done) | (simp; omega))
  have D1 := (Blk.new (w.alloc (.cells #[.bool (t), .int .i64 (b), .int .i64 (p), .int .i64 (a), .int .i64 (q), .int .i64 (y)] 23)) #[.bool (t'), .int .i64 (b'), .int .i64 (p'), .int .i64 (a'), .int .i64 (q'), .int .i64 (y')] 23).below hb1 (by first | omega | (simp only [World.size_alloc, World.size_drew, World.size_setCell]; omega) | (simp; done) | (simp; omega))
  rw [World.size_alloc] at D1
  have HB1 := below_then hb0 (by first | omega | (simp only [World.size_alloc, World.size_drew, World.size_setCell]; omega) | (simp; done) | (simp; omega)) hb1
  have l1 := D1.lt
  have L1 := C1.cell
  clear hb0 hb1
  go_wp2_with fail
  refine (ref_right t b p a q y _).mono ?_
  rintro e w2 ⟨rfl, hb2⟩
  have C2 := C1.below hb2 C1.lt
  have D2 := D1.below hb2 D1.lt
  have HB2 := below_then HB1 (by omega) hb2
  have l2 := D2.lt
  clear hb2 C1 D1 HB1 l1 L1
  have L2 := C2.cell
  have M2 := D2.cell
  cases hr : rightB t b p a q y with
  | false =>
    have hs : sameB t b p a q y t' b' p' a' q' y' = false := sameB_wrong (.inl hr)
    clear hr
    go_wp2_with fail
    refine (same_any t b p a q y t' b' p' a' q' y' _ hq hq').mono ?_
    rintro e w3 ⟨rfl, hb3⟩
    rw [hs]
    have HB3 := below_then HB2 (by omega) hb3
    clear hb3 HB2 C2 D2 L2 M2 hs
    go_wp2
    go_ret
    exact ⟨rfl, HB3⟩
  | true =>
    go_wp2_with fail
    refine (ref_right t' b' p' a' q' y' _).mono ?_
    rintro e w3 ⟨rfl, hb3⟩
    have C3 := C2.below hb3 C2.lt
    have D3 := D2.below hb3 D2.lt
    have HB3 := below_then HB2 (by omega) hb3
    have l3 := D3.lt
    clear hb3 C2 D2 HB2 l2 L2 M2
    have L3 := C3.cell
    have M3 := D3.cell
    cases hr' : rightB t' b' p' a' q' y' with
    | false =>
      have hs : sameB t b p a q y t' b' p' a' q' y' = false := sameB_wrong (.inr hr')
      clear hr hr'
      go_wp2_with fail
      refine (same_any t b p a q y t' b' p' a' q' y' _ hq hq').mono ?_
      rintro e w4 ⟨rfl, hb4⟩
      rw [hs]
      have HB4 := below_then HB3 (by omega) hb4
      clear hb4 HB3 C3 D3 L3 M3 hs
      go_wp2
      go_ret
      exact ⟨rfl, HB4⟩
    | true =>
      have HR := Lib.hid hr
      have HR' := Lib.hid hr'
      clear hr hr'
      have lC : w.heap.size < w3.heap.size := C3.lt
      obtain ⟨m, em⟩ : ∃ m, m = decide (b = b' ∧ p = p' ∧ a = a' ∧ q = q' ∧ y = y') := ⟨_, rfl⟩
      have es : sameB t b p a q y t' b' p' a' q' y' = m := by rw [em]; exact sameB_right HR.out HR'.out
      have eq' : capEq t b p a q y t b' p' a' q' y' = m := by rw [em]; exact capEq_same ..
      obtain ⟨s1', e1⟩ : ∃ s, s = strOfNums (putL t b p a q y) := ⟨_, rfl⟩
      obtain ⟨s2', e2⟩ : ∃ s, s = strOfNums (putL t' b' p' a' q' y') := ⟨_, rfl⟩
      have hcmp : (s1'.toList == s2'.toList) = m := by
        rw [e1, e2, str_beq (isB_putL _ _ _ _ _ _) (isB_putL _ _ _ _ _ _), em, Bool.eq_iff_iff, decide_eq_true_eq, decide_eq_true_eq]
        exact putL_inj HR.out HR'.out
      have E1 := Lib.hid e1
      have E2 := Lib.hid e2
      have EM := Lib.hid es
      have EQ := Lib.hid eq'
      have HC := Lib.hid hcmp
      clear em es eq' e1 e2 hcmp
      go_upto_region 6 with fail
      obtain ⟨W, hW⟩ : ∃ W : World, W = w3.alloc (.cells #[.bool (t), .int .i64 (b'), .int .i64 (p'), .int .i64 (a'), .int .i64 (q'), .int .i64 (y')] 23) := ⟨_, rfl⟩
      rw [← hW]
      have C4 := C3.alloc (.cells #[.bool (t), .int .i64 (b'), .int .i64 (p'), .int .i64 (a'), .int .i64 (q'), .int .i64 (y')] 23)
      have D4 := D3.alloc (.cells #[.bool (t), .int .i64 (b'), .int .i64 (p'), .int .i64 (a'), .int .i64 (q'), .int .i64 (y')] 23)
      have X4 := Blk.new w3 #[.bool (t), .int .i64 (b'), .int .i64 (p'), .int .i64 (a'), .int .i64 (q'), .int .i64 (y')] 23
      rw [← hW] at C4 D4 X4
      have HB4 : Below w.heap.size w W := by rw [hW]; exact HB3.alloc (by omega) _
      have l4 := C4.lt
      clear hW C3 D3 HB3 L3 M3
      refine wp_flow_lit 23 (fun w' => Blk w' w.heap.size #[.bool (t), .int .i64 (b), .int .i64 (p), .int .i64 (a), .int .i64 (q), .int .i64 (y)] 23 ∧ Blk w' (w.heap.size + 1) #[.bool (t'), .int .i64 (b'), .int .i64 (p'), .int .i64 (a'), .int .i64 (q'), .int .i64 (y')] 23 ∧ Blk w' w3.heap.size #[.bool (t), .int .i64 (b'), .int .i64 (p'), .int .i64 (a'), .int .i64 (q'), .int .i64 (y')] 23)
        [none, none, none, none, none, none, none, none, none, none, none, none, some (RowS (putL t b p a q y)), none, none, some (RowS (putL t' b' p' a' q' y')), none, none, none, none, none, none, none] (by kernel_rfl) (by kernel_rfl) ⟨C4, D4, X4⟩
        (fun w1 w2 h hb => ⟨h.1.below hb h.1.lt, h.2.1.below hb h.2.1.lt, h.2.2.below hb h.2.2.lt⟩) ⟨rowS_stab _, rowS_stab _, trivial⟩ ?_
      try simp only [specV, addF, Act.put, List.setIfInBounds_toArray, List.set_cons_zero, List.set_cons_succ, List.take_succ_cons, List.take_zero, List.drop_succ_cons, List.drop_zero]
      (apply Exists.intro; refine ⟨fun vs w1 hS hB hf => ?_, ?_⟩; (focus (clear hS hB hf; go_simp; first | exact ⟨Below.refl _ _, rfl⟩ | exact rfl)); try simp only [specV, addF, Act.put, List.setIfInBounds_toArray, List.set_cons_zero, List.set_cons_succ, List.take_succ_cons, List.take_zero, List.drop_succ_cons, List.drop_zero])
      (apply Exists.intro; refine ⟨fun vs w1 hS hB hf => ?_, ?_⟩; (focus (clear hS hB hf; go_simp; first | exact ⟨Below.refl _ _, rfl⟩ | exact rfl)); try simp only [specV, addF, Act.put, List.setIfInBounds_toArray, List.set_cons_zero, List.set_cons_succ, List.take_succ_cons, List.take_zero, List.drop_succ_cons, List.drop_zero])
      (apply Exists.intro; refine ⟨fun vs w1 hS hB hf => ?_, ?_⟩; (focus (have L1 := hS.1.cell; clear hS hB hf; go_simp; first | exact ⟨Below.refl _ _, rfl⟩ | exact rfl)); try simp only [specV, addF, Act.put, List.setIfInBounds_toArray, List.set_cons_zero, List.set_cons_succ, List.take_succ_cons, List.take_zero, List.drop_succ_cons, List.drop_zero])
      (apply Exists.intro; refine ⟨fun vs w1 hS hB hf => ?_, ?_⟩; (focus (have L1 := hS.2.1.cell; clear hS hB hf; go_simp; first | exact ⟨Below.refl _ _, rfl⟩ | exact rfl)); try simp only [specV, addF, Act.put, List.setIfInBounds_toArray, List.set_cons_zero, List.set_cons_succ, List.take_succ_cons, List.take_zero, List.drop_succ_cons, List.drop_zero])
      (apply Exists.intro; refine ⟨fun vs w1 hS hB hf => ?_, ?_⟩; (focus (go_simp; exact (same_any t b p a q y t' b' p' a' q' y' w1 hq hq').mono fun e w2 ⟨he, hb⟩ => callPost.of (v := .bool m) (by rw [he, EM.out]) hb rfl)); try simp only [specV, addF, Act.put, List.setIfInBounds_toArray, List.set_cons_zero, List.set_cons_succ, List.take_succ_cons, List.take_zero, List.drop_succ_cons, List.drop_zero])
      (apply Exists.intro; refine ⟨fun vs w1 hS hB hf => ?_, ?_⟩; (focus (have L1 := hS.1.cell; clear hS hB hf; go_simp; first | exact ⟨Below.refl _ _, rfl⟩ | exact rfl)); try simp only [specV, addF, Act.put, List.setIfInBounds_toArray, List.set_cons_zero, List.set_cons_succ, List.take_succ_cons, List.take_zero, List.drop_succ_cons, List.drop_zero])
      (apply Exists.intro; refine ⟨fun vs w1 hS hB hf => ?_, ?_⟩; (focus (have L1 := hS.2.2.cell; clear hS hB hf; go_simp; first | exact ⟨Below.refl _ _, rfl⟩ | exact rfl)); try simp only [specV, addF, Act.put, List.setIfInBounds_toArray, List.set_cons_zero, List.set_cons_succ, List.take_succ_cons, List.take_zero, List.drop_succ_cons, List.drop_zero])
      (apply Exists.intro; refine ⟨fun vs w1 hS hB hf => ?_, ?_⟩; (focus (exact opOk_capeq rfl rfl rfl rfl EQ.out)); try simp only [specV, addF, Act.put, List.setIfInBounds_toArray, List.set_cons_zero, List.set_cons_succ, List.take_succ_cons, List.take_zero, List.drop_succ_cons, List.drop_zero])
      (apply Exists.intro; refine ⟨fun vs w1 hS hB hf => ?_, ?_⟩; (focus (clear hS hB hf; go_simp; first | exact ⟨Below.refl _ _, rfl⟩ | exact rfl)); try simp only [specV, addF, Act.put, List.setIfInBounds_toArray, List.set_cons_zero, List.set_cons_succ, List.take_succ_cons, List.take_zero, List.drop_succ_cons, List.drop_zero])
      (apply Exists.intro; refine ⟨fun vs w1 hS hB hf => ?_, ?_⟩; (focus (clear hS hB hf; go_simp; first | exact ⟨Below.refl _ _, rfl⟩ | exact rfl)); try simp only [specV, addF, Act.put, List.setIfInBounds_toArray, List.set_cons_zero, List.set_cons_succ, List.take_succ_cons, List.take_zero, List.drop_succ_cons, List.drop_zero])
      (apply Exists.intro; refine ⟨fun vs w1 hS hB hf => ?_, ?_⟩; (focus (clear hS hB hf; go_simp; first | exact ⟨Below.refl _ _, rfl⟩ | exact rfl)); try simp only [specV, addF, Act.put, List.setIfInBounds_toArray, List.set_cons_zero, List.set_cons_succ, List.take_succ_cons, List.take_zero, List.drop_succ_cons, List.drop_zero])
      (apply Exists.intro; refine ⟨fun vs w1 hS hB hf => ?_, ?_⟩; (focus (have L1 := hS.1.cell; clear hS hB hf; go_simp; first | exact ⟨Below.refl _ _, rfl⟩ | exact rfl)); try simp only [specV, addF, Act.put, List.setIfInBounds_toArray, List.set_cons_zero, List.set_cons_succ, List.take_succ_cons, List.take_zero, List.drop_succ_cons, List.drop_zero])
      (refine ⟨fun vs w1 hS hB hf => ?_, ?_⟩; (focus (go_simp; exact (put_row t b p a q y w1 hq).mono fun e w2 ⟨v, he, ho, hb⟩ => callPost.of he hb ho)); try simp only [specV, addF, Act.put, List.setIfInBounds_toArray, List.set_cons_zero, List.set_cons_succ, List.take_succ_cons, List.take_zero, List.drop_succ_cons, List.drop_zero])
      (apply Exists.intro; refine ⟨fun vs w1 hS hB hf => ?_, ?_⟩; (focus (obtain ⟨h12, hf⟩ := hf; have r6 : RowU w1 (vs 12) (putL t b p a q y) := h12 rfl; obtain ⟨A2, c2, hv2, r2, _⟩ := r6; have k2 := run_str (P := Try.prog) Try.underlying24 Try.underlying5 Try.underlying9 c2 rfl r2; rw [← E1.out] at k2; clear hS hB hf h12; simp only [Nat.zero_add, Nat.reduceAdd, hv2]; go_simp; first | exact ⟨Below.refl _ _, rfl⟩ | exact rfl)); try simp only [specV, addF, Act.put, List.setIfInBounds_toArray, List.set_cons_zero, List.set_cons_succ, List.take_succ_cons, List.take_zero, List.drop_succ_cons, List.drop_zero])
      (apply Exists.intro; refine ⟨fun vs w1 hS hB hf => ?_, ?_⟩; (focus (have L1 := hS.2.1.cell; clear hS hB hf; go_simp; first | exact ⟨Below.refl _ _, rfl⟩ | exact rfl)); try simp only [specV, addF, Act.put, List.setIfInBounds_toArray, List.set_cons_zero, List.set_cons_succ, List.take_succ_cons, List.take_zero, List.drop_succ_cons, List.drop_zero])
      (refine ⟨fun vs w1 hS hB hf => ?_, ?_⟩; (focus (go_simp; exact (put_row t' b' p' a' q' y' w1 hq').mono fun e w2 ⟨v, he, ho, hb⟩ => callPost.of he hb ho)); try simp only [specV, addF, Act.put, List.setIfInBounds_toArray, List.set_cons_zero, List.set_cons_succ, List.take_succ_cons, List.take_zero, List.drop_succ_cons, List.drop_zero])
      (apply Exists.intro; refine ⟨fun vs w1 hS hB hf => ?_, ?_⟩; (focus (obtain ⟨h15, hf⟩ := hf; have r6 : RowU w1 (vs 15) (putL t' b' p' a' q' y') := h15 rfl; obtain ⟨A2, c2, hv2, r2, _⟩ := r6; have k2 := run_str (P := Try.prog) Try.underlying24 Try.underlying5 Try.underlying9 c2 rfl r2; rw [← E2.out] at k2; clear hS hB hf h15; simp only [Nat.zero_add, Nat.reduceAdd, hv2]; go_simp; first | exact ⟨Below.refl _ _, rfl⟩ | exact rfl)); try simp only [specV, addF, Act.put, List.setIfInBounds_toArray, List.set_cons_zero, List.set_cons_succ, List.take_succ_cons, List.take_zero, List.drop_succ_cons, List.drop_zero])
      (apply Exists.intro; refine ⟨fun vs w1 hS hB hf => ?_, ?_⟩; (focus (clear hS hB hf; go_simp; exact ⟨Below.refl _ _, congrArg Value.bool HC.out⟩)); try simp only [specV, addF, Act.put, List.setIfInBounds_toArray, List.set_cons_zero, List.set_cons_succ, List.take_succ_cons, List.take_zero, List.drop_succ_cons, List.drop_zero])
      (apply Exists.intro; refine ⟨fun vs w1 hS hB hf => ?_, ?_⟩; (focus (have L1 := hS.1.cell; clear hS hB hf; go_simp; first | exact ⟨Below.refl _ _, rfl⟩ | exact rfl)); try simp only [specV, addF, Act.put, List.setIfInBounds_toArray, List.set_cons_zero, List.set_cons_succ, List.take_succ_cons, List.take_zero, List.drop_succ_cons, List.drop_zero])
      (apply Exists.intro; refine ⟨fun vs w1 hS hB hf => ?_, ?_⟩; (focus (have L1 := hS.2.2.cell; clear hS hB hf; go_simp; first | exact ⟨Below.refl _ _, rfl⟩ | exact rfl)); try simp only [specV, addF, Act.put, List.setIfInBounds_toArray, List.set_cons_zero, List.set_cons_succ, List.take_succ_cons, List.take_zero, List.drop_succ_cons, List.drop_zero])
      (apply Exists.intro; refine ⟨fun vs w1 hS hB hf => ?_, ?_⟩; (focus (exact opOk_capeq rfl rfl rfl rfl EQ.out)); try simp only [specV, addF, Act.put, List.setIfInBounds_toArray, List.set_cons_zero, List.set_cons_succ, List.take_succ_cons, List.take_zero, List.drop_succ_cons, List.drop_zero])
      (apply Exists.intro; refine ⟨fun vs w1 hS hB hf => ?_, ?_⟩; (focus (clear hS hB hf; go_simp; first | exact ⟨Below.refl _ _, rfl⟩ | exact rfl)); try simp only [specV, addF, Act.put, List.setIfInBounds_toArray, List.set_cons_zero, List.set_cons_succ, List.take_succ_cons, List.take_zero, List.drop_succ_cons, List.drop_zero])
      (apply Exists.intro; refine ⟨fun vs w1 hS hB hf => ?_, ?_⟩; (focus (clear hS hB hf; go_simp; first | exact ⟨Below.refl _ _, rfl⟩ | exact rfl)); try simp only [specV, addF, Act.put, List.setIfInBounds_toArray, List.set_cons_zero, List.set_cons_succ, List.take_succ_cons, List.take_zero, List.drop_succ_cons, List.drop_zero])
      intro vs w5 hS hB _
      have HB5 : Below w.heap.size w w5 := below_then HB4 (by omega) hB
      clear hS hB HB4 C4 D4 X4
      dsimp only
      go_wp2
      go_ret
      exact ⟨rfl, HB5⟩

set_option maxRecDepth 100000 in
theorem lifted (os : Os) (started : os.Started) (H : Type) (enc : TypeId × Value → H) :
    ReturnsInHanded {} Try.checked os 6 .any (Rows.encUnlikeSpec.pre6 enc Try.prog Try.f6 Rows.encUnlikeRow.domain false) (Rows.encUnlikeSpec.post enc Try.prog Try.f6 false true false false) := by
  refine returnsInHanded_of_change (C := Try.checked) own started (by kernel_rfl) Try.func6
    (ChangeSpec.witness6 (enc := enc) (C := Try.checked) false ⟨#[], #[.agg #[.bool (false), .int .i64 (0), .int .i64 (0), .int .i64 (0), .int .i64 (0), .int .i64 (0)], .agg #[.bool (false), .int .i64 (0), .int .i64 (0), .int .i64 (0), .int .i64 (0), .int .i64 (0)]], []⟩ 8 (by kernel_rfl) (by kernel_rfl) (by kernel_rfl) (by kernel_rfl)) ?_
  intro W base args ds gs before hval0 hW hcnd _
  have hval : ∀ (j : Nat) t v, Try.f6.params[j]? = some t → args[j]? = some v → Value.okWide Try.prog W .any base t v := hval0
  have hW' := hW
  obtain ⟨p, q, hA0, hV, rfl, hfz, hnd⟩ := hW
  have hA : DataW.TrodAll enc Try.prog W 0 (fun _ => true) true Try.f6.params.toList args.toList ds p := hA0
  rw [Try.params6] at hA hval
  obtain ⟨v0, vs0, d0, ds0, p0, q0, hargs, rfl, rfl, h0, r0⟩ := trodAll_cons hA
  obtain ⟨v1, vs1, d1, ds1, p1, q1, rfl, rfl, rfl, h1, r1⟩ := trodAll_cons r0
  obtain ⟨rfl, rfl, rfl⟩ := trodAll_nil r1
  obtain rfl : args = #[v0, v1] := by cases args; simp_all
  obtain ⟨rfl, rfl⟩ := trodVars_none hV
  have k0 := h0
  have lt0 : ∀ x ∈ p0, x.block < W.heap.size := by obtain ⟨m, hm⟩ := k0; exact DataW.trod_lt m _ _ _ hm
  obtain ⟨t0, b0, e0, a0, g0, y0, rfl, ib0, ie0, ia0, ig0, iy0⟩ := open_cap (hval 0 23 v0 rfl rfl) h0
  have k1 := h1
  have lt1 : ∀ x ∈ p1, x.block < W.heap.size := by obtain ⟨m, hm⟩ := k1; exact DataW.trod_lt m _ _ _ hm
  obtain ⟨t1, b1, e1, a1, g1, y1, rfl, ib1, ie1, ia1, ig1, iy1⟩ := open_cap (hval 1 23 v1 rfl rfl) h1
  clear hA0 hval0
  refine (walk t0 b0 e0 a0 g0 y0 t1 b1 e1 a1 g1 y1 W ib0 ie0 ia0 ig0 iy0 ib1 ie1 ia1 ig1 iy1).mono fun e W' ⟨he, bel⟩ => ?_
  subst he
  exact ⟨_, rfl, _, _, _, [], _, [], hW', trodAll_mk1 (shut_bool Try.underlying4 _), (trodAll_cons_mk (Below.trod laidOut (by kernel_rfl) (of_decide_eq_true (by kernel_rfl)) k0 bel lt0) (trodAll_cons_mk (Below.trod laidOut (by kernel_rfl) (of_decide_eq_true (by kernel_rfl)) k1 bel lt1) trodAll_mk0)), rfl, bel.frame _, fun h => by cases h⟩

theorem over : Rows.encUnlikeRow.holds Try.pinned (OpenSpec.ofChange Rows.encUnlikeSpec) :=
  OpenClaim.holds_of_wide 6 Try.f6 rfl rfl rfl rfl rfl rfl rfl ⟨rfl, rfl, rfl, rfl, rfl⟩ rfl rfl rfl rfl rfl (by kernel_rfl) Try.func6 (by kernel_rfl)
    (of_decide_eq_true (by kernel_rfl)) (by unfold Func.isWrapper; rw [if_neg (of_decide_eq_false (by kernel_rfl))]; exact ⟨rfl, rfl⟩)
    (fun os started H enc _ => lifted os started H enc)

/-- The statement. -/
theorem proved : Rows.EncUnlikeSaid := over
#print axioms proved
end Go.Proofs.Ytjimkkkiilcpoaa.EncUnlike
