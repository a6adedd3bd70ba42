/-
  EncFields: for every two capabilities the law returns true, and each argument reads as it did. Condition: none.
-/
import Derived.Test.YtjimkkkiilcpoaaRows
import Derived.Test.YtjimkkkiilcpoaaEncM
import Derived.Test.YtjimkkkiilcpoaaArg
import Derived.ChangeOld
import Derived.Deep.QuietTactic
import Derived.BigQuiet
set_option linter.unusedVariables false
set_option linter.unusedSimpArgs false
namespace Go.Proofs.Ytjimkkkiilcpoaa.EncFields
open Go.ChangeShapes Go.WideShapes Go.ChangeAt Go.RowKit Go.Proofs.Ytjimkkkiilcpoaa

theorem own : ownKnob Try.prog.godebug = none := by kernel_rfl
theorem laidOut : laidOutB Try.prog = true := by kernel_rfl

theorem bytes4_inj {x y : Int} (hx : 0 ≤ x ∧ x ≤ 4294967295) (hy : 0 ≤ y ∧ y ≤ 4294967295) : bytes4 x = bytes4 y ↔ x = y := by
  constructor
  · intro h
    simp only [bytes4, List.cons.injEq, and_true] at h
    omega
  · intro h; rw [h]
theorem str4 {x y : Int} (hx : 0 ≤ x ∧ x ≤ 4294967295) (hy : 0 ≤ y ∧ y ≤ 4294967295) : ((strOfNums (bytes4 x)).toList == (strOfNums (bytes4 y)).toList) = (x == y) := by
  rw [str_beq (isB_bytes4 _) (isB_bytes4 _), Bool.eq_iff_iff, decide_eq_true_eq, beq_iff_eq]
  exact bytes4_inj hx hy
/-- Four of the bytes, wherever they begin, after whatever draws. -/
theorem rd4 {w : World} {bk o : Nat} {xs ys : List Int} (hl : xs.length = 16) (h : ∀ j, j < 16 → w.cell? ⟨bk, o + j, none⟩ = some (.int .u8 (rdn xs j))) (k : Nat) (hk : k + 4 ≤ 16) (hy : ys = [rdn xs k, rdn xs (k + 1), rdn xs (k + 2), rdn xs (k + 3)]) (n : Nat) :
    RdL (w.drewN n) (some ⟨bk, o + k, none⟩) (u8s ys) := by
  subst hy
  intro j u hu
  refine ⟨_, rfl, ?_⟩
  have hj : j < 4 := by have := (List.getElem?_eq_some_iff.1 hu).1; simpa [u8s] using this
  rw [add_plain, World.cell?_drewN]
  have : j = 0 ∨ j = 1 ∨ j = 2 ∨ j = 3 := by omega
  rcases this with rfl | rfl | rfl | rfl <;> (simp [u8s] at hu; subst hu)
  · exact h k (by omega)
  · exact h (k + 1) (by omega)
  · exact h (k + 2) (by omega)
  · exact h (k + 3) (by omega)

set_option maxRecDepth 100000 in
set_option maxHeartbeats 3200000 in
theorem walk (t : Bool) (b p a q y : Int) (t' : Bool) (b' p' a' q' y' : Int) (w : World) (_ : inI b) (_ : inI p) (_ : inI a) (hq : inI q) (_ : inI y) (_ : inI b') (_ : inI p') (_ : inI a') (hq' : inI q') (_ : inI y') :
    Calls Try.prog 7 #[.agg #[.bool (t), .int .i64 (b), .int .i64 (p), .int .i64 (a), .int .i64 (q), .int .i64 (y)], .agg #[.bool (t'), .int .i64 (b'), .int .i64 (p'), .int .i64 (a'), .int .i64 (q'), .int .i64 (y')]] w fun e w' => e = .returned (.bool true) ∧ Below w.heap.size w w' := by
  go_enter Try.func7, Try.ntmps7
  go_wp2_with fail
  refine (head3_true _).mono ?_
  rintro e w1 ⟨rfl, hb1⟩
  have hb0 : Below w.heap.size w ((w.alloc (.cells #[.bool (t), .int .i64 (b), .int .i64 (p), .int .i64 (a), .int .i64 (q), .int .i64 (y)] 23)).alloc (.cells #[.bool (t'), .int .i64 (b'), .int .i64 (p'), .int .i64 (a'), .int .i64 (q'), .int .i64 (y')] 23)) := by go_grown
  have C1 := ((Blk.new w #[.bool (t), .int .i64 (b), .int .i64 (p), .int .i64 (a), .int .i64 (q), .int .i64 (y)] 23).alloc (.cells #[.bool (t'), .int .i64 (b'), .int .i64 (p'), .int .i64 (a'), .int .i64 (q'), .int .i64 (y')] 23)).below hb1 (by first | omega | (simp only [World.size_alloc, World.size_drew, World.size_setCell]; omega) | (simp; done) | (simp; omega))
  have D1 := (Blk.new (w.alloc (.cells #[.bool (t), .int .i64 (b), .int .i64 (p), .int .i64 (a), .int .i64 (q), .int .i64 (y)] 23)) #[.bool (t'), .int .i64 (b'), .int .i64 (p'), .int .i64 (a'), .int .i64 (q'), .int .i64 (y')] 23).below hb1 (by first | omega | (simp only [World.size_alloc, World.size_drew, World.size_setCell]; omega) | (simp; done) | (simp; omega))
  rw [World.size_alloc] at D1
  have HB1 := below_then hb0 (by first | omega | (simp only [World.size_alloc, World.size_drew, World.size_setCell]; omega) | (simp; done) | (simp; omega)) hb1
  have l1 := D1.lt
  have L1 := C1.cell
  clear hb0 hb1
  go_wp2_with fail
  refine (put_row t b p a q y _ hq).mono ?_
  rintro e w2 ⟨v2, rfl, r2, hb2⟩
  have C2 := C1.below hb2 C1.lt
  have D2 := D1.below hb2 D1.lt
  have HB2 := below_then HB1 (by omega) hb2
  have l2 := D2.lt
  clear hb2 C1 D1 HB1 l1 L1
  have L2 := C2.cell
  have M2 := D2.cell
  go_wp2_with fail
  refine (put_row t' b' p' a' q' y' _ hq').mono ?_
  rintro e w3 ⟨v3, rfl, r3, hb3⟩
  have r2 := r2.below hb3
  have C3 := C2.below hb3 C2.lt
  have D3 := D2.below hb3 D2.lt
  have HB3 := below_then HB2 (by omega) hb3
  have l3 := D3.lt
  clear hb3 C2 D2 HB2 l2 L2 M2
  cases hr : rightB t b p a q y with
  | false =>
    rw [putL_nil hr] at r2
    obtain ⟨A, c, hv, _⟩ := r2
    have hv : v2 = .slice A 0 c := hv
    subst hv
    clear r3 C3 D3 hr
    go_wp2
    go_ret
    exact ⟨rfl, HB3⟩
  | true =>
    obtain ⟨bA, oA, cA, rfl, hcA, hA⟩ := r2.cells (by rw [putL_len hr]; omega)
    rw [putL_len hr] at hA hcA ⊢
    cases hr' : rightB t' b' p' a' q' y' with
    | false =>
      rw [putL_nil hr'] at r3
      obtain ⟨A, c, hv, _⟩ := r3
      have hv : v3 = .slice A 0 c := hv
      subst hv
      clear r2 C3 D3 hr hr' hA hcA
      go_wp2
      go_ret
      exact ⟨rfl, HB3⟩
    | true =>
      obtain ⟨bB, oB, cB, rfl, hcB, hB⟩ := r3.cells (by rw [putL_len hr']; omega)
      rw [putL_len hr'] at hB hcB ⊢
      have eA : putL t b p a q y = putBytes b p a q y := by rw [putL, if_pos hr]
      have eB : putL t' b' p' a' q' y' = putBytes b' p' a' q' y' := by rw [putL, if_pos hr']
      have lA : (putBytes b p a q y).length = 16 := by rw [← eA]; exact putL_len hr
      have lB : (putBytes b' p' a' q' y').length = 16 := by rw [← eB]; exact putL_len hr'
      obtain ⟨b0, b1, p0, p1, a0, a1, q0, q1, y0, y1, _⟩ := right_bounds hr
      obtain ⟨b0', b1', p0', p1', a0', a1', _⟩ := right_bounds hr'
      rw [eA] at hA
      rw [eB] at hB
      have ka := fun nq => run_str (P := Try.prog) (n := 4) Try.underlying24 Try.underlying5 Try.underlying9 cA (xs := bytes4 a) rfl (rd4 lA hA 0 (by omega) rfl nq)
      have kb := fun nq => run_str (P := Try.prog) (n := 4) Try.underlying24 Try.underlying5 Try.underlying9 (cA - 4) (xs := bytes4 b) rfl (rd4 lA hA 4 (by omega) rfl nq)
      have kp := fun nq => run_str (P := Try.prog) (n := 4) Try.underlying24 Try.underlying5 Try.underlying9 (cA - 8) (xs := bytes4 p) rfl (rd4 lA hA 8 (by omega) rfl nq)
      have ka' := fun nq => run_str (P := Try.prog) (n := 4) Try.underlying24 Try.underlying5 Try.underlying9 cB (xs := bytes4 a') rfl (rd4 lB hB 0 (by omega) rfl nq)
      have kb' := fun nq => run_str (P := Try.prog) (n := 4) Try.underlying24 Try.underlying5 Try.underlying9 (cB - 4) (xs := bytes4 b') rfl (rd4 lB hB 4 (by omega) rfl nq)
      have kp' := fun nq => run_str (P := Try.prog) (n := 4) Try.underlying24 Try.underlying5 Try.underlying9 (cB - 8) (xs := bytes4 p') rfl (rd4 lB hB 8 (by omega) rfl nq)
      simp only [Nat.add_zero] at ka ka'
      have ma := str4 ⟨a0, a1⟩ ⟨a0', a1'⟩
      have mb := str4 ⟨b0, b1⟩ ⟨b0', b1'⟩
      have mp := str4 ⟨p0, p1⟩ ⟨p0', p1'⟩
      generalize strOfNums (bytes4 a) = sa at *
      generalize strOfNums (bytes4 b) = sb at *
      generalize strOfNums (bytes4 p) = sp at *
      generalize strOfNums (bytes4 a') = sa' at *
      generalize strOfNums (bytes4 b') = sb' at *
      generalize strOfNums (bytes4 p') = sp' at *
      have c0 := hA 0 (by omega)
      have c1 := hA 1 (by omega)
      have c2 := hA 2 (by omega)
      have c3 := hA 3 (by omega)
      have c12 := hA 12 (by omega)
      have c13 := hA 13 (by omega)
      have c14 := hA 14 (by omega)
      have c15 := hA 15 (by omega)
      have g0 := isB_rdn (isB_put hr) 0
      have g1 := isB_rdn (isB_put hr) 1
      have g2 := isB_rdn (isB_put hr) 2
      have g3 := isB_rdn (isB_put hr) 3
      have hat : (16777216 * rdn (putBytes b p a q y) 0 + 65536 * rdn (putBytes b p a q y) 1 + 256 * rdn (putBytes b p a q y) 2 + rdn (putBytes b p a q y) 3 == a) = true := by
        rw [beq_iff_eq]; exact word_back a0 a1
      rw [show rdn (putBytes b p a q y) 12 = 0 from rfl] at c12
      rw [show rdn (putBytes b p a q y) 13 = q from rfl] at c13
      rw [show rdn (putBytes b p a q y) 14 = 0 from rfl] at c14
      rw [show rdn (putBytes b p a q y) 15 = y from rfl] at c15
      generalize rdn (putBytes b p a q y) 0 = x0 at *
      generalize rdn (putBytes b p a q y) 1 = x1 at *
      generalize rdn (putBytes b p a q y) 2 = x2 at *
      generalize rdn (putBytes b p a q y) 3 = x3 at *
      obtain ⟨g00, g01⟩ := g0
      obtain ⟨g10, g11⟩ := g1
      obtain ⟨g20, g21⟩ := g2
      obtain ⟨g30, g31⟩ := g3
      rw [Nat.add_zero] at c0
      have L3 := C3.cell
      have M3 := D3.cell
      have kA4 : (4 : Int) ≤ (cA : Int) := by omega
      have kA8 : (8 : Int) ≤ (cA : Int) := by omega
      have kA12 : (12 : Int) ≤ (cA : Int) := by omega
      have nA4 : ¬ cA = 4 := by omega
      have nA8 : ¬ cA = 8 := by omega
      have kB4 : (4 : Int) ≤ (cB : Int) := by omega
      have kB8 : (8 : Int) ≤ (cB : Int) := by omega
      have kB12 : (12 : Int) ≤ (cB : Int) := by omega
      have nB4 : ¬ cB = 4 := by omega
      have nB8 : ¬ cB = 8 := by omega
      clear hA hB r2 r3 C3 D3 eA eB lA lB hr hr' hcA hcB
      go_upto_region 6 with fail
      go_quiet (fail)
      go_upto_region 7 with fail
      refine wp_region_quiet_lit (by kernel_rfl) (by kernel_rfl) ?_
      simp only [List.append_eq, List.cons_append, List.nil_append]
      repeat (go_big_quiet_step (fail))
      refine wpQuiet_nil ?_
      intro _ hw'
      obtain ⟨mq, hw''⟩ := hw'
      subst hw''
      go_wp2
      go_ret
      exact ⟨rfl, below_drewN (below_drewN HB3 _) _⟩

set_option maxRecDepth 100000 in
theorem lifted (os : Os) (started : os.Started) (H : Type) (enc : TypeId × Value → H) :
    ReturnsInHanded {} Try.checked os 7 .any (Rows.encFieldsSpec.pre6 enc Try.prog Try.f7 Rows.encFieldsRow.domain false) (Rows.encFieldsSpec.post enc Try.prog Try.f7 false true false false) := by
  refine returnsInHanded_of_change (C := Try.checked) own started (by kernel_rfl) Try.func7
    (ChangeSpec.witness6 (enc := enc) (C := Try.checked) false ⟨#[], #[.agg #[.bool (false), .int .i64 (0), .int .i64 (0), .int .i64 (0), .int .i64 (0), .int .i64 (0)], .agg #[.bool (false), .int .i64 (0), .int .i64 (0), .int .i64 (0), .int .i64 (0), .int .i64 (0)]], []⟩ 8 (by kernel_rfl) (by kernel_rfl) (by kernel_rfl) (by kernel_rfl)) ?_
  intro W base args ds gs before hval0 hW hcnd _
  have hval : ∀ (j : Nat) t v, Try.f7.params[j]? = some t → args[j]? = some v → Value.okWide Try.prog W .any base t v := hval0
  have hW' := hW
  obtain ⟨p, q, hA0, hV, rfl, hfz, hnd⟩ := hW
  have hA : DataW.TrodAll enc Try.prog W 0 (fun _ => true) true Try.f7.params.toList args.toList ds p := hA0
  rw [Try.params7] at hA hval
  obtain ⟨v0, vs0, d0, ds0, p0, q0, hargs, rfl, rfl, h0, r0⟩ := trodAll_cons hA
  obtain ⟨v1, vs1, d1, ds1, p1, q1, rfl, rfl, rfl, h1, r1⟩ := trodAll_cons r0
  obtain ⟨rfl, rfl, rfl⟩ := trodAll_nil r1
  obtain rfl : args = #[v0, v1] := by cases args; simp_all
  obtain ⟨rfl, rfl⟩ := trodVars_none hV
  have k0 := h0
  have lt0 : ∀ x ∈ p0, x.block < W.heap.size := by obtain ⟨m, hm⟩ := k0; exact DataW.trod_lt m _ _ _ hm
  obtain ⟨t0, b0, e0, a0, g0, y0, rfl, ib0, ie0, ia0, ig0, iy0⟩ := open_cap (hval 0 23 v0 rfl rfl) h0
  have k1 := h1
  have lt1 : ∀ x ∈ p1, x.block < W.heap.size := by obtain ⟨m, hm⟩ := k1; exact DataW.trod_lt m _ _ _ hm
  obtain ⟨t1, b1, e1, a1, g1, y1, rfl, ib1, ie1, ia1, ig1, iy1⟩ := open_cap (hval 1 23 v1 rfl rfl) h1
  clear hA0 hval0
  refine (walk t0 b0 e0 a0 g0 y0 t1 b1 e1 a1 g1 y1 W ib0 ie0 ia0 ig0 iy0 ib1 ie1 ia1 ig1 iy1).mono fun e W' ⟨he, bel⟩ => ?_
  subst he
  exact ⟨_, rfl, _, _, _, [], _, [], hW', trodAll_mk1 (shut_bool Try.underlying4 _), (trodAll_cons_mk (Below.trod laidOut (by kernel_rfl) (of_decide_eq_true (by kernel_rfl)) k0 bel lt0) (trodAll_cons_mk (Below.trod laidOut (by kernel_rfl) (of_decide_eq_true (by kernel_rfl)) k1 bel lt1) trodAll_mk0)), rfl, bel.frame _, fun h => by cases h⟩

theorem over : Rows.encFieldsRow.holds Try.pinned (OpenSpec.ofChange Rows.encFieldsSpec) :=
  OpenClaim.holds_of_wide 7 Try.f7 rfl rfl rfl rfl rfl rfl rfl ⟨rfl, rfl, rfl, rfl, rfl⟩ rfl rfl rfl rfl rfl (by kernel_rfl) Try.func7 (by kernel_rfl)
    (of_decide_eq_true (by kernel_rfl)) (by unfold Func.isWrapper; rw [if_neg (of_decide_eq_false (by kernel_rfl))]; exact ⟨rfl, rfl⟩)
    (fun os started H enc _ => lifted os started H enc)

/-- The statement. -/
theorem proved : Rows.EncFieldsSaid := over

#print axioms proved
end Go.Proofs.Ytjimkkkiilcpoaa.EncFields
