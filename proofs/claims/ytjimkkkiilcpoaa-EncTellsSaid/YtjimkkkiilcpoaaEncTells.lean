/-
  EncTells: for every input (two capabilities, bytes, a bool) the law returns true, and each argument reads as it did. Condition: none.
-/
import Derived.Test.YtjimkkkiilcpoaaRows
import Derived.Test.YtjimkkkiilcpoaaEncF
import Derived.Test.YtjimkkkiilcpoaaArg
import Derived.ChangeOld
set_option linter.unusedVariables false
set_option linter.unusedSimpArgs false
namespace Go.Proofs.Ytjimkkkiilcpoaa.EncTells
open Go.ChangeShapes Go.WideShapes Go.ChangeAt Go.RowKit Go.Proofs.Ytjimkkkiilcpoaa

theorem own : ownKnob Try.prog.godebug = none := by kernel_rfl
theorem laidOut : laidOutB Try.prog = true := by kernel_rfl

set_option maxRecDepth 100000 in
set_option maxHeartbeats 3200000 in
theorem walk (t : Bool) (b p a q y : Int) (t' : Bool) (b' p' a' q' y' : Int) (v : Value) (xs : List Int) (tag : Bool) (w : World) (_ : inI b) (_ : inI p) (_ : inI a) (hq : inI q) (_ : inI y) (_ : inI b') (_ : inI p') (_ : inI a') (hq' : inI q') (_ : inI y') (hv : RowU w v xs) (hx : isB xs) (hm : xs.length ≤ maxLen) :
    Calls Try.prog 3 #[.agg #[.bool (t), .int .i64 (b), .int .i64 (p), .int .i64 (a), .int .i64 (q), .int .i64 (y)], .agg #[.bool (t'), .int .i64 (b'), .int .i64 (p'), .int .i64 (a'), .int .i64 (q'), .int .i64 (y')], v, .bool tag] w fun e w' => e = .returned (.bool true) ∧ Below w.heap.size w w' := by
  unfold maxLen at hm
  obtain ⟨A, c, rfl, q1⟩ := hv
  have r0 : RowU w (.slice A xs.length c) xs := ⟨A, c, rfl, q1⟩
  clear q1
  go_enter Try.func3, Try.ntmps3
  go_wp2_with fail
  refine (head3_true _).mono ?_
  rintro e w1 ⟨rfl, hb1⟩
  have hb0 : Below w.heap.size w ((w.alloc (.cells #[.bool (t), .int .i64 (b), .int .i64 (p), .int .i64 (a), .int .i64 (q), .int .i64 (y)] 23)).alloc (.cells #[.bool (t'), .int .i64 (b'), .int .i64 (p'), .int .i64 (a'), .int .i64 (q'), .int .i64 (y')] 23)) := by go_grown
  have r1 := (r0.below hb0).below hb1
  have C1 := ((Blk.new w #[.bool (t), .int .i64 (b), .int .i64 (p), .int .i64 (a), .int .i64 (q), .int .i64 (y)] 23).alloc (.cells #[.bool (t'), .int .i64 (b'), .int .i64 (p'), .int .i64 (a'), .int .i64 (q'), .int .i64 (y')] 23)).below hb1 (by first | omega | (simp only [World.size_alloc, World.size_drew, World.size_setCell]; omega) | (simp; done) | (simp; omega))
  have D1 := (Blk.new (w.alloc (.cells #[.bool (t), .int .i64 (b), .int .i64 (p), .int .i64 (a), .int .i64 (q), .int .i64 (y)] 23)) #[.bool (t'), .int .i64 (b'), .int .i64 (p'), .int .i64 (a'), .int .i64 (q'), .int .i64 (y')] 23).below hb1 (by first | omega | (simp only [World.size_alloc, World.size_drew, World.size_setCell]; omega) | (simp; done) | (simp; omega))
  rw [World.size_alloc] at D1
  have HB1 := below_then hb0 (by first | omega | (simp only [World.size_alloc, World.size_drew, World.size_setCell]; omega) | (simp; done) | (simp; omega)) hb1
  have l1 := D1.lt
  clear hb0 hb1 r0
  by_cases hlen : xs.length ≤ 900
  · have hl' : (xs.length : Int) ≤ 900 := by omega
    clear hlen
    go_wp2_with fail
    refine (get_row _ xs tag _ r1 hx).mono ?_
    rintro e w2 ⟨rfl, hb2⟩
    have r2 := r1.below hb2
    have C2 := C1.below hb2 C1.lt
    have D2 := D1.below hb2 D1.lt
    have HB2 := below_then HB1 (by omega) hb2
    have l2 := D2.lt
    clear hb2 r1 C1 D1 HB1 l1
    obtain ⟨gt, egt⟩ : ∃ g, g = gotT tag xs := ⟨_, rfl⟩
    obtain ⟨gb, egb⟩ : ∃ g, g = gotB xs := ⟨_, rfl⟩
    obtain ⟨gp, egp⟩ : ∃ g, g = gotP xs := ⟨_, rfl⟩
    obtain ⟨ga, ega⟩ : ∃ g, g = gotA xs := ⟨_, rfl⟩
    obtain ⟨gq, egq⟩ : ∃ g, g = gotQ xs := ⟨_, rfl⟩
    obtain ⟨gy, egy⟩ : ∃ g, g = gotY xs := ⟨_, rfl⟩
    obtain ⟨is, eis⟩ : ∃ g, g = decide (xs.length = 16) := ⟨_, rfl⟩
    rw [← egt, ← egb, ← egp, ← ega, ← egq, ← egy, ← eis]
    have hg := fun W (h : RowU W (.slice A xs.length c) xs) => ref_get_row _ xs tag W h hx
    rw [← egt, ← egb, ← egp, ← ega, ← egq, ← egy, ← eis] at hg
    have HG := Lib.hid hg
    clear hg egt egb egp ega egq egy eis
    go_wp2_with fail
    refine (HG.out _ (r2.below ((Below.refl _ _).alloc (Nat.le_refl _) _))).mono ?_
    rintro e w3 ⟨rfl, hb3⟩
    have C3 := (C2.alloc _).below hb3 (C2.alloc _).lt
    have D3 := (D2.alloc _).below hb3 (D2.alloc _).lt
    have X3 := (Blk.new w2 #[.bool (gt), .int .i64 (gb), .int .i64 (gp), .int .i64 (ga), .int .i64 (gq), .int .i64 (gy)] 23).below hb3 (by first | omega | (simp only [World.size_alloc, World.size_drew, World.size_setCell]; omega) | (simp; done) | (simp; omega))
    have HB3 := below_then (HB2.alloc (by omega) _) (by first | omega | (simp only [World.size_alloc, World.size_drew, World.size_setCell]; omega) | (simp; done) | (simp; omega)) hb3
    have l3 := X3.lt
    clear hb3 r2 C2 D2 HB2 HG
    go_wp2_with fail
    obtain ⟨W, hW⟩ : ∃ W : World, W = w3.alloc (.cells #[.bool (gt), .int .i64 (gb), .int .i64 (gp), .int .i64 (ga), .int .i64 (gq), .int .i64 (gy)] 23) := ⟨_, rfl⟩
    rw [← hW]
    have C4 := C3.alloc (.cells #[.bool (gt), .int .i64 (gb), .int .i64 (gp), .int .i64 (ga), .int .i64 (gq), .int .i64 (gy)] 23)
    have D4 := D3.alloc (.cells #[.bool (gt), .int .i64 (gb), .int .i64 (gp), .int .i64 (ga), .int .i64 (gq), .int .i64 (gy)] 23)
    have X4 := X3.alloc (.cells #[.bool (gt), .int .i64 (gb), .int .i64 (gp), .int .i64 (ga), .int .i64 (gq), .int .i64 (gy)] 23)
    have Y4 := Blk.new w3 #[.bool (gt), .int .i64 (gb), .int .i64 (gp), .int .i64 (ga), .int .i64 (gq), .int .i64 (gy)] 23
    rw [← hW] at C4 D4 X4 Y4
    have HB4 : Below w.heap.size w W := by rw [hW]; exact HB3.alloc (by omega) _
    have l4 := C4.lt
    clear hW C3 D3 X3 HB3
    obtain ⟨s1', e1⟩ : ∃ s, s = strOfNums (putL t b p a q y) := ⟨_, rfl⟩
    have E1 := Lib.hid e1
    clear e1
    obtain ⟨sm, em⟩ : ∃ s, s = sameB t b p a q y t' b' p' a' q' y' := ⟨_, rfl⟩
    have EM := Lib.hid em
    clear em
    refine wp_flow_lit 29 (fun w' => Blk w' w.heap.size #[.bool (t), .int .i64 (b), .int .i64 (p), .int .i64 (a), .int .i64 (q), .int .i64 (y)] 23 ∧ Blk w' (w.heap.size + 1) #[.bool (t'), .int .i64 (b'), .int .i64 (p'), .int .i64 (a'), .int .i64 (q'), .int .i64 (y')] 23 ∧ Blk w' w2.heap.size #[.bool (gt), .int .i64 (gb), .int .i64 (gp), .int .i64 (ga), .int .i64 (gq), .int .i64 (gy)] 23 ∧ Blk w' w3.heap.size #[.bool (gt), .int .i64 (gb), .int .i64 (gp), .int .i64 (ga), .int .i64 (gq), .int .i64 (gy)] 23)
      [none, none, none, some (RowS (putL t b p a q y)), none, none, some (RowS (putL t b p a q y)), none, none, none, none, none, none, none, none, none, none, none, none, none, none, none, none, none, none, none, none, none, none] (by kernel_rfl) (by kernel_rfl) ⟨C4, D4, X4, Y4⟩
      (fun w1 w2 h hb => ⟨h.1.below hb h.1.lt, h.2.1.below hb h.2.1.lt, h.2.2.1.below hb h.2.2.1.lt, h.2.2.2.below hb h.2.2.2.lt⟩) ⟨rowS_stab _, rowS_stab _, trivial⟩ ?_
    try simp only [specV, addF, Act.put, List.setIfInBounds_toArray, List.set_cons_zero, List.set_cons_succ, List.take_succ_cons, List.take_zero, List.drop_succ_cons, List.drop_zero]
    (apply Exists.intro; refine ⟨fun vs w1 hS hB hf => ?_, ?_⟩; (focus (clear hS hB hf; go_simp; first | exact ⟨Below.refl _ _, rfl⟩ | exact rfl)); try simp only [specV, addF, Act.put, List.setIfInBounds_toArray, List.set_cons_zero, List.set_cons_succ, List.take_succ_cons, List.take_zero, List.drop_succ_cons, List.drop_zero])
    (apply Exists.intro; refine ⟨fun vs w1 hS hB hf => ?_, ?_⟩; (focus (clear hS hB hf; go_simp; first | exact ⟨Below.refl _ _, rfl⟩ | exact rfl)); try simp only [specV, addF, Act.put, List.setIfInBounds_toArray, List.set_cons_zero, List.set_cons_succ, List.take_succ_cons, List.take_zero, List.drop_succ_cons, List.drop_zero])
    (apply Exists.intro; refine ⟨fun vs w1 hS hB hf => ?_, ?_⟩; (focus (have L1 := hS.1.cell; clear hS hB hf; go_simp; first | exact ⟨Below.refl _ _, rfl⟩ | exact rfl)); try simp only [specV, addF, Act.put, List.setIfInBounds_toArray, List.set_cons_zero, List.set_cons_succ, List.take_succ_cons, List.take_zero, List.drop_succ_cons, List.drop_zero])
    (refine ⟨fun vs w1 hS hB hf => ?_, ?_⟩; (focus (go_simp; exact (put_row t b p a q y w1 hq).mono fun e w2 ⟨v, he, ho, hb⟩ => callPost.of he hb ho)); try simp only [specV, addF, Act.put, List.setIfInBounds_toArray, List.set_cons_zero, List.set_cons_succ, List.take_succ_cons, List.take_zero, List.drop_succ_cons, List.drop_zero])
    (apply Exists.intro; refine ⟨fun vs w1 hS hB hf => ?_, ?_⟩; (focus (obtain ⟨h3, hf⟩ := hf; have r6 : RowU w1 (vs 3) (putL t b p a q y) := h3 rfl; obtain ⟨A2, c2, hv2, r2, _⟩ := r6; have k2 := run_str (P := Try.prog) Try.underlying24 Try.underlying5 Try.underlying9 c2 rfl r2; rw [← E1.out] at k2; clear hS hB hf h3; simp only [Nat.zero_add, Nat.reduceAdd, hv2]; go_simp; first | exact ⟨Below.refl _ _, rfl⟩ | exact rfl)); try simp only [specV, addF, Act.put, List.setIfInBounds_toArray, List.set_cons_zero, List.set_cons_succ, List.take_succ_cons, List.take_zero, List.drop_succ_cons, List.drop_zero])
    (apply Exists.intro; refine ⟨fun vs w1 hS hB hf => ?_, ?_⟩; (focus (have L1 := hS.1.cell; clear hS hB hf; go_simp; first | exact ⟨Below.refl _ _, rfl⟩ | exact rfl)); try simp only [specV, addF, Act.put, List.setIfInBounds_toArray, List.set_cons_zero, List.set_cons_succ, List.take_succ_cons, List.take_zero, List.drop_succ_cons, List.drop_zero])
    (refine ⟨fun vs w1 hS hB hf => ?_, ?_⟩; (focus (go_simp; exact (ref_put_row t b p a q y w1).mono fun e w2 ⟨v, he, ho, hb⟩ => callPost.of he hb ho)); try simp only [specV, addF, Act.put, List.setIfInBounds_toArray, List.set_cons_zero, List.set_cons_succ, List.take_succ_cons, List.take_zero, List.drop_succ_cons, List.drop_zero])
    (apply Exists.intro; refine ⟨fun vs w1 hS hB hf => ?_, ?_⟩; (focus (obtain ⟨h6, hf⟩ := hf; have r6 : RowU w1 (vs 6) (putL t b p a q y) := h6 rfl; obtain ⟨A2, c2, hv2, r2, _⟩ := r6; have k2 := run_str (P := Try.prog) Try.underlying24 Try.underlying5 Try.underlying9 c2 rfl r2; rw [← E1.out] at k2; clear hS hB hf h6; simp only [Nat.zero_add, Nat.reduceAdd, hv2]; go_simp; first | exact ⟨Below.refl _ _, rfl⟩ | exact rfl)); try simp only [specV, addF, Act.put, List.setIfInBounds_toArray, List.set_cons_zero, List.set_cons_succ, List.take_succ_cons, List.take_zero, List.drop_succ_cons, List.drop_zero])
    (apply Exists.intro; refine ⟨fun vs w1 hS hB hf => ?_, ?_⟩; (focus (clear hS hB hf; go_simp; first | exact ⟨Below.refl _ _, rfl⟩ | exact rfl)); try simp only [specV, addF, Act.put, List.setIfInBounds_toArray, List.set_cons_zero, List.set_cons_succ, List.take_succ_cons, List.take_zero, List.drop_succ_cons, List.drop_zero])
    (apply Exists.intro; refine ⟨fun vs w1 hS hB hf => ?_, ?_⟩; (focus (clear hS hB hf; go_simp; first | exact ⟨Below.refl _ _, rfl⟩ | exact rfl)); try simp only [specV, addF, Act.put, List.setIfInBounds_toArray, List.set_cons_zero, List.set_cons_succ, List.take_succ_cons, List.take_zero, List.drop_succ_cons, List.drop_zero])
    (apply Exists.intro; refine ⟨fun vs w1 hS hB hf => ?_, ?_⟩; (focus (clear hS hB hf; go_simp; first | exact ⟨Below.refl _ _, rfl⟩ | exact rfl)); try simp only [specV, addF, Act.put, List.setIfInBounds_toArray, List.set_cons_zero, List.set_cons_succ, List.take_succ_cons, List.take_zero, List.drop_succ_cons, List.drop_zero])
    (apply Exists.intro; refine ⟨fun vs w1 hS hB hf => ?_, ?_⟩; (focus (have L1 := hS.2.2.1.cell; clear hS hB hf; go_simp; first | exact ⟨Below.refl _ _, rfl⟩ | exact rfl)); try simp only [specV, addF, Act.put, List.setIfInBounds_toArray, List.set_cons_zero, List.set_cons_succ, List.take_succ_cons, List.take_zero, List.drop_succ_cons, List.drop_zero])
    (apply Exists.intro; refine ⟨fun vs w1 hS hB hf => ?_, ?_⟩; (focus (have L1 := hS.2.2.2.cell; clear hS hB hf; go_simp; first | exact ⟨Below.refl _ _, rfl⟩ | exact rfl)); try simp only [specV, addF, Act.put, List.setIfInBounds_toArray, List.set_cons_zero, List.set_cons_succ, List.take_succ_cons, List.take_zero, List.drop_succ_cons, List.drop_zero])
    (apply Exists.intro; refine ⟨fun vs w1 hS hB hf => ?_, ?_⟩; (focus (clear hS hB hf; go_simp; first | exact ⟨Below.refl _ _, rfl⟩ | exact rfl)); try simp only [specV, addF, Act.put, List.setIfInBounds_toArray, List.set_cons_zero, List.set_cons_succ, List.take_succ_cons, List.take_zero, List.drop_succ_cons, List.drop_zero])
    (apply Exists.intro; refine ⟨fun vs w1 hS hB hf => ?_, ?_⟩; (focus (clear hS hB hf; go_simp; first | exact ⟨Below.refl _ _, rfl⟩ | exact rfl)); try simp only [specV, addF, Act.put, List.setIfInBounds_toArray, List.set_cons_zero, List.set_cons_succ, List.take_succ_cons, List.take_zero, List.drop_succ_cons, List.drop_zero])
    (apply Exists.intro; refine ⟨fun vs w1 hS hB hf => ?_, ?_⟩; (focus (clear hS hB hf; go_simp; first | exact ⟨Below.refl _ _, rfl⟩ | exact rfl)); try simp only [specV, addF, Act.put, List.setIfInBounds_toArray, List.set_cons_zero, List.set_cons_succ, List.take_succ_cons, List.take_zero, List.drop_succ_cons, List.drop_zero])
    (apply Exists.intro; refine ⟨fun vs w1 hS hB hf => ?_, ?_⟩; (focus (clear hS hB hf; go_simp; first | exact ⟨Below.refl _ _, rfl⟩ | exact rfl)); try simp only [specV, addF, Act.put, List.setIfInBounds_toArray, List.set_cons_zero, List.set_cons_succ, List.take_succ_cons, List.take_zero, List.drop_succ_cons, List.drop_zero])
    (apply Exists.intro; refine ⟨fun vs w1 hS hB hf => ?_, ?_⟩; (focus (clear hS hB hf; go_simp; first | exact ⟨Below.refl _ _, rfl⟩ | exact rfl)); try simp only [specV, addF, Act.put, List.setIfInBounds_toArray, List.set_cons_zero, List.set_cons_succ, List.take_succ_cons, List.take_zero, List.drop_succ_cons, List.drop_zero])
    (apply Exists.intro; refine ⟨fun vs w1 hS hB hf => ?_, ?_⟩; (focus (clear hS hB hf; go_simp; first | exact ⟨Below.refl _ _, rfl⟩ | exact rfl)); try simp only [specV, addF, Act.put, List.setIfInBounds_toArray, List.set_cons_zero, List.set_cons_succ, List.take_succ_cons, List.take_zero, List.drop_succ_cons, List.drop_zero])
    (apply Exists.intro; refine ⟨fun vs w1 hS hB hf => ?_, ?_⟩; (focus (clear hS hB hf; go_simp; first | exact ⟨Below.refl _ _, rfl⟩ | exact rfl)); try simp only [specV, addF, Act.put, List.setIfInBounds_toArray, List.set_cons_zero, List.set_cons_succ, List.take_succ_cons, List.take_zero, List.drop_succ_cons, List.drop_zero])
    (apply Exists.intro; refine ⟨fun vs w1 hS hB hf => ?_, ?_⟩; (focus (clear hS hB hf; go_simp; first | exact ⟨Below.refl _ _, rfl⟩ | exact rfl)); try simp only [specV, addF, Act.put, List.setIfInBounds_toArray, List.set_cons_zero, List.set_cons_succ, List.take_succ_cons, List.take_zero, List.drop_succ_cons, List.drop_zero])
    (apply Exists.intro; refine ⟨fun vs w1 hS hB hf => ?_, ?_⟩; (focus (have L1 := hS.1.cell; clear hS hB hf; go_simp; first | exact ⟨Below.refl _ _, rfl⟩ | exact rfl)); try simp only [specV, addF, Act.put, List.setIfInBounds_toArray, List.set_cons_zero, List.set_cons_succ, List.take_succ_cons, List.take_zero, List.drop_succ_cons, List.drop_zero])
    (apply Exists.intro; refine ⟨fun vs w1 hS hB hf => ?_, ?_⟩; (focus (have L1 := hS.2.1.cell; clear hS hB hf; go_simp; first | exact ⟨Below.refl _ _, rfl⟩ | exact rfl)); try simp only [specV, addF, Act.put, List.setIfInBounds_toArray, List.set_cons_zero, List.set_cons_succ, List.take_succ_cons, List.take_zero, List.drop_succ_cons, List.drop_zero])
    (apply Exists.intro; refine ⟨fun vs w1 hS hB hf => ?_, ?_⟩; (focus (go_simp; exact (same_any t b p a q y t' b' p' a' q' y' w1 hq hq').mono fun e w2 ⟨he, hb⟩ => callPost.of (v := .bool sm) (by rw [he, EM.out]) hb rfl)); try simp only [specV, addF, Act.put, List.setIfInBounds_toArray, List.set_cons_zero, List.set_cons_succ, List.take_succ_cons, List.take_zero, List.drop_succ_cons, List.drop_zero])
    (apply Exists.intro; refine ⟨fun vs w1 hS hB hf => ?_, ?_⟩; (focus (have L1 := hS.1.cell; clear hS hB hf; go_simp; first | exact ⟨Below.refl _ _, rfl⟩ | exact rfl)); try simp only [specV, addF, Act.put, List.setIfInBounds_toArray, List.set_cons_zero, List.set_cons_succ, List.take_succ_cons, List.take_zero, List.drop_succ_cons, List.drop_zero])
    (apply Exists.intro; refine ⟨fun vs w1 hS hB hf => ?_, ?_⟩; (focus (have L1 := hS.2.1.cell; clear hS hB hf; go_simp; first | exact ⟨Below.refl _ _, rfl⟩ | exact rfl)); try simp only [specV, addF, Act.put, List.setIfInBounds_toArray, List.set_cons_zero, List.set_cons_succ, List.take_succ_cons, List.take_zero, List.drop_succ_cons, List.drop_zero])
    (apply Exists.intro; refine ⟨fun vs w1 hS hB hf => ?_, ?_⟩; (focus (go_simp; exact (ref_same_any t b p a q y t' b' p' a' q' y' w1).mono fun e w2 ⟨he, hb⟩ => callPost.of (v := .bool sm) (by rw [he, EM.out]) hb rfl)); try simp only [specV, addF, Act.put, List.setIfInBounds_toArray, List.set_cons_zero, List.set_cons_succ, List.take_succ_cons, List.take_zero, List.drop_succ_cons, List.drop_zero])
    (apply Exists.intro; refine ⟨fun vs w1 hS hB hf => ?_, ?_⟩; (focus (clear hS hB hf; go_simp; first | exact ⟨Below.refl _ _, rfl⟩ | exact rfl)); try simp only [specV, addF, Act.put, List.setIfInBounds_toArray, List.set_cons_zero, List.set_cons_succ, List.take_succ_cons, List.take_zero, List.drop_succ_cons, List.drop_zero])
    (apply Exists.intro; refine ⟨fun vs w1 hS hB hf => ?_, ?_⟩; (focus (clear hS hB hf; go_simp; first | exact ⟨Below.refl _ _, rfl⟩ | exact rfl)); try simp only [specV, addF, Act.put, List.setIfInBounds_toArray, List.set_cons_zero, List.set_cons_succ, List.take_succ_cons, List.take_zero, List.drop_succ_cons, List.drop_zero])
    intro vs w5 hS hB _
    have HB5 : Below w.heap.size w w5 := below_then HB4 (by omega) hB
    clear hS hB HB4 C4 D4 X4 Y4
    dsimp only
    go_wp2
    go_ret
    exact ⟨rfl, HB5⟩
  · have hl' : 900 < (xs.length : Int) := by omega
    clear hlen
    go_wp2
    go_ret
    exact ⟨rfl, HB1⟩

set_option maxRecDepth 100000 in
theorem lifted (os : Os) (started : os.Started) (H : Type) (enc : TypeId × Value → H) :
    ReturnsInHanded {} Try.checked os 3 .any (Rows.encTellsSpec.pre6 enc Try.prog Try.f3 Rows.encTellsRow.domain false) (Rows.encTellsSpec.post enc Try.prog Try.f3 false true false false) := by
  refine returnsInHanded_of_change (C := Try.checked) own started (by kernel_rfl) Try.func3
    (ChangeSpec.witness6 (enc := enc) (C := Try.checked) false ⟨#[], #[.agg #[.bool (false), .int .i64 (0), .int .i64 (0), .int .i64 (0), .int .i64 (0), .int .i64 (0)], .agg #[.bool (false), .int .i64 (0), .int .i64 (0), .int .i64 (0), .int .i64 (0), .int .i64 (0)], .slice none 0 0, .bool false], []⟩ 8 (by kernel_rfl) (by kernel_rfl) (by kernel_rfl) (by kernel_rfl)) ?_
  intro W base args ds gs before hval0 hW hcnd _
  have hval : ∀ (j : Nat) t v, Try.f3.params[j]? = some t → args[j]? = some v → Value.okWide Try.prog W .any base t v := hval0
  have hW' := hW
  obtain ⟨p, q, hA0, hV, rfl, hfz, hnd⟩ := hW
  have hA : DataW.TrodAll enc Try.prog W 0 (fun _ => true) true Try.f3.params.toList args.toList ds p := hA0
  rw [Try.params3] at hA hval
  obtain ⟨v0, vs0, d0, ds0, p0, q0, hargs, rfl, rfl, h0, r0⟩ := trodAll_cons hA
  obtain ⟨v1, vs1, d1, ds1, p1, q1, rfl, rfl, rfl, h1, r1⟩ := trodAll_cons r0
  obtain ⟨v2, vs2, d2, ds2, p2, q2, rfl, rfl, rfl, h2, r2⟩ := trodAll_cons r1
  obtain ⟨v3, vs3, d3, ds3, p3, q3, rfl, rfl, rfl, h3, r3⟩ := trodAll_cons r2
  obtain ⟨rfl, rfl, rfl⟩ := trodAll_nil r3
  obtain rfl : args = #[v0, v1, v2, v3] := by cases args; simp_all
  obtain ⟨rfl, rfl⟩ := trodVars_none hV
  have k0 := h0
  have lt0 : ∀ x ∈ p0, x.block < W.heap.size := by obtain ⟨m, hm⟩ := k0; exact DataW.trod_lt m _ _ _ hm
  obtain ⟨t0, b0, e0, a0, g0, y0, rfl, ib0, ie0, ia0, ig0, iy0⟩ := open_cap (hval 0 23 v0 rfl rfl) h0
  have k1 := h1
  have lt1 : ∀ x ∈ p1, x.block < W.heap.size := by obtain ⟨m, hm⟩ := k1; exact DataW.trod_lt m _ _ _ hm
  obtain ⟨t1, b1, e1, a1, g1, y1, rfl, ib1, ie1, ia1, ig1, iy1⟩ := open_cap (hval 1 23 v1 rfl rfl) h1
  have k2 := h2
  have lt2 : ∀ x ∈ p2, x.block < W.heap.size := by obtain ⟨m, hm⟩ := k2; exact DataW.trod_lt m _ _ _ hm
  obtain ⟨x2, hx2, hb2, hm2⟩ := open_bytes (hval 2 24 v2 rfl rfl) h2
  have k3 := h3
  have lt3 : ∀ x ∈ p3, x.block < W.heap.size := by obtain ⟨m, hm⟩ := k3; exact DataW.trod_lt m _ _ _ hm
  obtain ⟨x3, rfl, _, _⟩ := open_bool Try.underlying4 (hval 3 4 v3 rfl rfl) h3
  clear hA0 hval0
  refine (walk t0 b0 e0 a0 g0 y0 t1 b1 e1 a1 g1 y1 v2 x2 x3 W ib0 ie0 ia0 ig0 iy0 ib1 ie1 ia1 ig1 iy1 hx2 hb2 hm2).mono fun e W' ⟨he, bel⟩ => ?_
  subst he
  exact ⟨_, rfl, _, _, _, [], _, [], hW', trodAll_mk1 (shut_bool Try.underlying4 _), (trodAll_cons_mk (Below.trod laidOut (by kernel_rfl) (of_decide_eq_true (by kernel_rfl)) k0 bel lt0) (trodAll_cons_mk (Below.trod laidOut (by kernel_rfl) (of_decide_eq_true (by kernel_rfl)) k1 bel lt1) (trodAll_cons_mk (Below.trod laidOut (by kernel_rfl) (of_decide_eq_true (by kernel_rfl)) k2 bel lt2) (trodAll_cons_mk (Below.trod laidOut (by kernel_rfl) (of_decide_eq_true (by kernel_rfl)) k3 bel lt3) trodAll_mk0)))), rfl, bel.frame _, fun h => by cases h⟩

theorem over : Rows.encTellsRow.holds Try.pinned (OpenSpec.ofChange Rows.encTellsSpec) :=
  OpenClaim.holds_of_wide 3 Try.f3 rfl rfl rfl rfl rfl rfl rfl ⟨rfl, rfl, rfl, rfl, rfl⟩ rfl rfl rfl rfl rfl (by kernel_rfl) Try.func3 (by kernel_rfl)
    (of_decide_eq_true (by kernel_rfl)) (by unfold Func.isWrapper; rw [if_neg (of_decide_eq_false (by kernel_rfl))]; exact ⟨rfl, rfl⟩)
    (fun os started H enc _ => lifted os started H enc)

/-- The statement. -/
theorem proved : Rows.EncTellsSaid := over
#print axioms proved
end Go.Proofs.Ytjimkkkiilcpoaa.EncTells
