/- LoadCap of the document, where it stands for a place. -/
import Derived.Test.YtjimkkkiilcpoaaTmO
import Derived.Test.YtjimkkkiilcpoaaEdge
set_option linter.unusedVariables false
set_option linter.unusedSimpArgs false
namespace Go.Proofs.Ytjimkkkiilcpoaa
open Go.RowKit

theorem wp_list_gen {P : Program} {ops : Array Oper} {Q : Exit → Act → World → Prop} {l : List Oper} {a : Act} {w : World} (R : World → Prop) (hR : R w) (h : ∀ w', R w' → wpList P ops Q l a w') : wpList P ops Q l a w := h w hR
set_option maxRecDepth 100000 in
set_option maxHeartbeats 1600000 in
theorem tr_loadcap (mb bB bT bP : Nat) (D : List Int) (T P : List Bool) (i k : Nat) (w : World) (h : TrM w mb bB bT bP D T P) (hi : i < P.length) (hk : k < 16) :
    Calls Try.prog 58 #[.pointer (some ⟨mb, 0, none⟩), .int .i64 ((i * 256 + k * 16 : Nat) : Int)] w fun e w' => e = .returned (.tuple #[capV (ldC D T (i * 256 + k * 16)), .bool true]) ∧ Below w.heap.size w w' := by
  have h1 := h.alloc (.cells #[.bool (false), .int .i64 (0), .int .i64 (0), .int .i64 (0), .int .i64 (0), .int .i64 (0)] 23)
  have hle := h.1.2.2.1
  have hlD := h.1.1
  have hlT := h.1.2.1
  have hp : plB P.length ((i * 256 + k * 16 : Nat) : Int) = true := by rw [plB, decide_eq_true_eq]; omega
  have g1 := tr_place mb bB bT bP D T P _ _ h1 (show inI ((i * 256 + k * 16 : Nat) : Int) from ⟨by omega, by omega⟩)
  rw [hp] at g1
  have K := Lib.hid (Blk.new w #[.bool (false), .int .i64 (0), .int .i64 (0), .int .i64 (0), .int .i64 (0), .int .i64 (0)] 23)
  have hl : (partL D (i * 256 + k * 16) 16).length = 16 := partL_len D _ _ (by omega)
  have HL := Lib.hid hl
  have hg := fun v (tg : Bool) W (hr : RowU W v (partL D (i * 256 + k * 16) 16)) => ref_get_row v (partL D (i * 256 + k * 16) 16) tg W hr (partL_isB h.1.2.2.2 _ _)
  rw [hl] at hg
  have HG := Lib.hid hg
  have hb : i * 256 + k * 16 + 16 ≤ 256 * P.length := by omega
  obtain ⟨z, hz⟩ : ∃ z, i * 256 + k * 16 = z := ⟨_, rfl⟩
  obtain ⟨zh, hzh⟩ : ∃ zh, z + 16 = zh := ⟨_, rfl⟩
  obtain ⟨ix, hix⟩ : ∃ ix, i * 16 + k = ix := ⟨_, rfl⟩
  have htg : z / 16 = ix := by omega
  have hixl : ix < T.length := by omega
  rw [hz] at g1 ⊢
  have HZ := Lib.hid hz
  have HTG := Lib.hid htg
  have q1 : (z : Int) + 16 = (zh : Int) := by omega
  have q2 : (zh : Int) ≤ ((256 * P.length : Nat) : Int) := by omega
  have q4 : (z : Int) ≤ (zh : Int) := by omega
  have q5 : IntKind.i64.wrap (z : Int) = (z : Int) := IntWalk.i64_in _ (by omega)
  have q6 : IntKind.i64.wrap (zh : Int) = (zh : Int) := IntWalk.i64_in _ (by omega)
  have q7 : (z : Int) / 16 = (ix : Int) := by omega
  have q8 : IntKind.i64.wrap (ix : Int) = (ix : Int) := IntWalk.i64_in _ (by omega)
  have q9 : zh - z = 16 := by omega
  have q10 : (ix : Int) < ((16 * P.length : Nat) : Int) := by omega
  have q3 : ¬ 256 * P.length = z := by omega
  have HLD : Hid (D.length = 256 * P.length) := Lib.hid hlD
  have HLT : Hid (T.length = 16 * P.length) := Lib.hid hlT
  have HZH := Lib.hid (And.intro hzh hb)
  have HIX := Lib.hid hixl
  have H1 := Lib.hid h1
  rw [hz] at HL HG
  clear h h1 hl hg hz htg hp hle hlD hlT hzh hb hix hixl
  obtain ⟨W1, hW1⟩ : ∃ W1, w.alloc (.cells #[.bool (false), .int .i64 (0), .int .i64 (0), .int .i64 (0), .int .i64 (0), .int .i64 (0)] 23) = W1 := ⟨_, rfl⟩
  have hw0 : Below w.heap.size w (w.alloc (.cells #[.bool (false), .int .i64 (0), .int .i64 (0), .int .i64 (0), .int .i64 (0), .int .i64 (0)] 23)) := by go_grown
  rw [hW1] at H1 g1 K hw0
  have HW0 := Lib.hid hw0
  clear hw0
  go_enter Try.func58, Try.ntmps58
  go_wp2_with fail
  clear hW1
  refine g1.mono ?_
  rintro e w1 ⟨rfl, rfl⟩
  clear g1
  go_wp2_with fail
  obtain ⟨G, hGd⟩ : ∃ G : World → World → Prop, G = fun X Y => Below X.heap.size X Y := ⟨_, rfl⟩
  have hG : FG.Pre G := by subst hGd; exact ⟨fun X => Below.refl _ _, fun h k => below_then h h.size k, fun X => Below.drew (Below.refl _ _)⟩
  have HPre := Lib.hid hG
  have HGT := Lib.hid (show ∀ X Y : World, G X Y → Below X.heap.size X Y from fun X Y h => by subst hGd; exact h)
  have HGB := Lib.hid (show ∀ X Y : World, Below X.heap.size X Y → G X Y from fun X Y h => by subst hGd; exact h)
  clear hG hGd
  refine wp_flow_edge HPre.out 19 21 21 (fun w' => TrM w' mb bB bT bP D T P ∧ Blk w' w.heap.size #[.bool (false), .int .i64 (0), .int .i64 (0), .int .i64 (0), .int .i64 (0), .int .i64 (0)] 23)
    [none, none, none, none, none, none, none, none, none, none, none, none, none, none, none, none, none, none, none, none, some (fun v w' => ∃ g, v = .pointer (some ⟨g, 0, none⟩) ∧ Blk w' g #[.bool (false), .int .i64 (0), .int .i64 (0), .int .i64 (0), .int .i64 (0), .int .i64 (0)] 23 ∧ w.heap.size < g)]
    (by kernel_rfl) (by kernel_rfl) (by kernel_rfl) (by intro d v c a w h; cases d; exact h; exact h) ⟨H1.out.drew, K.drew⟩ (fun w1 w2 h hb => ⟨h.1.grow (HGT.out _ _ hb), h.2.below (HGT.out _ _ hb) h.2.lt⟩)
    ⟨fun v w1 w2 ⟨g, e, h, h2⟩ hb => ⟨g, e, h.below (HGT.out _ _ hb) h.lt, h2⟩, trivial⟩ ?_
  (simp (config := { maxSteps := 10000000 }) only [moreEdge, List.getElem?_toArray, List.getElem?_cons_succ, List.getElem?_cons_zero, List.push_toArray, List.cons_append, List.nil_append, specV, addF, Act.put, List.setIfInBounds_toArray, List.set_cons_zero, List.set_cons_succ, List.take_succ_cons, List.take_zero, List.drop_succ_cons, List.drop_zero])
  (apply Exists.intro; refine ⟨fun vs w1 hS hB hf => ?_, ?_⟩; (focus (clear hS hB hf; go_simp; first | exact ⟨HPre.out.refl _, rfl⟩ | exact rfl)); try simp (config := { maxSteps := 10000000 }) only [specV, addF, Act.put, List.setIfInBounds_toArray, List.set_cons_zero, List.set_cons_succ, List.take_succ_cons, List.take_zero, List.drop_succ_cons, List.drop_zero])
  (apply Exists.intro; refine ⟨fun vs w1 hS hB hf => ?_, ?_⟩; (focus (clear hS hB hf; go_simp; first | exact ⟨HPre.out.refl _, rfl⟩ | exact rfl)); try simp (config := { maxSteps := 10000000 }) only [specV, addF, Act.put, List.setIfInBounds_toArray, List.set_cons_zero, List.set_cons_succ, List.take_succ_cons, List.take_zero, List.drop_succ_cons, List.drop_zero])
  (apply Exists.intro; refine ⟨fun vs w1 hS hB hf => ?_, ?_⟩; (focus (clear hS hB hf; go_simp; first | exact ⟨HPre.out.refl _, rfl⟩ | exact rfl)); try simp (config := { maxSteps := 10000000 }) only [specV, addF, Act.put, List.setIfInBounds_toArray, List.set_cons_zero, List.set_cons_succ, List.take_succ_cons, List.take_zero, List.drop_succ_cons, List.drop_zero])
  (apply Exists.intro; refine ⟨fun vs w1 hS hB hf => ?_, ?_⟩; (focus (have L1 := hS.1.2.2.1.cell; rw [HLD.out, HLT.out] at L1; have l1 := hS.1.lt.1; clear hS hB hf; go_simp; first | exact ⟨HPre.out.refl _, rfl⟩ | exact rfl)); try simp (config := { maxSteps := 10000000 }) only [specV, addF, Act.put, List.setIfInBounds_toArray, List.set_cons_zero, List.set_cons_succ, List.take_succ_cons, List.take_zero, List.drop_succ_cons, List.drop_zero])
  (apply Exists.intro; refine ⟨fun vs w1 hS hB hf => ?_, ?_⟩; (focus (clear hS hB hf; go_simp; first | exact ⟨HPre.out.refl _, rfl⟩ | exact rfl)); try simp (config := { maxSteps := 10000000 }) only [specV, addF, Act.put, List.setIfInBounds_toArray, List.set_cons_zero, List.set_cons_succ, List.take_succ_cons, List.take_zero, List.drop_succ_cons, List.drop_zero])
  (apply Exists.intro; refine ⟨fun vs w1 hS hB hf => ?_, ?_⟩; (focus (clear hS hB hf; go_simp; first | exact ⟨HPre.out.refl _, rfl⟩ | exact rfl)); try simp (config := { maxSteps := 10000000 }) only [specV, addF, Act.put, List.setIfInBounds_toArray, List.set_cons_zero, List.set_cons_succ, List.take_succ_cons, List.take_zero, List.drop_succ_cons, List.drop_zero])
  (apply Exists.intro; refine ⟨fun vs w1 hS hB hf => ?_, ?_⟩; (focus (clear hS hB hf; go_simp; first | exact ⟨HPre.out.refl _, rfl⟩ | exact rfl)); try simp (config := { maxSteps := 10000000 }) only [specV, addF, Act.put, List.setIfInBounds_toArray, List.set_cons_zero, List.set_cons_succ, List.take_succ_cons, List.take_zero, List.drop_succ_cons, List.drop_zero])
  (apply Exists.intro; refine ⟨fun vs w1 hS hB hf => ?_, ?_⟩; (focus (have qa : (zh : Int) ≤ 256 * (P.length : Int) := (by omega); have qb : z ≤ zh := (by omega); clear hS hB hf; go_simp; first | exact ⟨HPre.out.refl _, rfl⟩ | exact rfl)); try simp (config := { maxSteps := 10000000 }) only [specV, addF, Act.put, List.setIfInBounds_toArray, List.set_cons_zero, List.set_cons_succ, List.take_succ_cons, List.take_zero, List.drop_succ_cons, List.drop_zero])
  (apply Exists.intro; refine ⟨fun vs w1 hS hB hf => ?_, ?_⟩; (focus (clear hS hB hf; go_simp; first | exact ⟨HPre.out.refl _, rfl⟩ | exact rfl)); try simp (config := { maxSteps := 10000000 }) only [specV, addF, Act.put, List.setIfInBounds_toArray, List.set_cons_zero, List.set_cons_succ, List.take_succ_cons, List.take_zero, List.drop_succ_cons, List.drop_zero])
  (apply Exists.intro; refine ⟨fun vs w1 hS hB hf => ?_, ?_⟩; (focus (clear hS hB hf; go_simp; first | exact ⟨HPre.out.refl _, rfl⟩ | exact rfl)); try simp (config := { maxSteps := 10000000 }) only [specV, addF, Act.put, List.setIfInBounds_toArray, List.set_cons_zero, List.set_cons_succ, List.take_succ_cons, List.take_zero, List.drop_succ_cons, List.drop_zero])
  (apply Exists.intro; refine ⟨fun vs w1 hS hB hf => ?_, ?_⟩; (focus (clear hS hB hf; go_simp; first | exact ⟨HPre.out.refl _, rfl⟩ | exact rfl)); try simp (config := { maxSteps := 10000000 }) only [specV, addF, Act.put, List.setIfInBounds_toArray, List.set_cons_zero, List.set_cons_succ, List.take_succ_cons, List.take_zero, List.drop_succ_cons, List.drop_zero])
  (apply Exists.intro; refine ⟨fun vs w1 hS hB hf => ?_, ?_⟩; (focus (have L1 := hS.1.2.2.1.cell; rw [HLD.out, HLT.out] at L1; have l1 := hS.1.lt.1; clear hS hB hf; go_simp; first | exact ⟨HPre.out.refl _, rfl⟩ | exact rfl)); try simp (config := { maxSteps := 10000000 }) only [specV, addF, Act.put, List.setIfInBounds_toArray, List.set_cons_zero, List.set_cons_succ, List.take_succ_cons, List.take_zero, List.drop_succ_cons, List.drop_zero])
  (apply Exists.intro; refine ⟨fun vs w1 hS hB hf => ?_, ?_⟩; (focus (clear hS hB hf; go_simp; first | exact ⟨HPre.out.refl _, rfl⟩ | exact rfl)); try simp (config := { maxSteps := 10000000 }) only [specV, addF, Act.put, List.setIfInBounds_toArray, List.set_cons_zero, List.set_cons_succ, List.take_succ_cons, List.take_zero, List.drop_succ_cons, List.drop_zero])
  (apply Exists.intro; refine ⟨fun vs w1 hS hB hf => ?_, ?_⟩; (focus (clear hS hB hf; go_simp; first | exact ⟨HPre.out.refl _, rfl⟩ | exact rfl)); try simp (config := { maxSteps := 10000000 }) only [specV, addF, Act.put, List.setIfInBounds_toArray, List.set_cons_zero, List.set_cons_succ, List.take_succ_cons, List.take_zero, List.drop_succ_cons, List.drop_zero])
  (apply Exists.intro; refine ⟨fun vs w1 hS hB hf => ?_, ?_⟩; (focus (have qa : (ix : Int) < 16 * (P.length : Int) := (by omega); have qb : ix < 16 * P.length := (by omega); clear hS hB hf; go_simp; first | exact ⟨HPre.out.refl _, rfl⟩ | exact rfl)); try simp (config := { maxSteps := 10000000 }) only [specV, addF, Act.put, List.setIfInBounds_toArray, List.set_cons_zero, List.set_cons_succ, List.take_succ_cons, List.take_zero, List.drop_succ_cons, List.drop_zero])
  (apply Exists.intro; refine ⟨fun vs w1 hS hB hf => ?_, ?_⟩; (focus (have c1 := (hS.1.tag HIX.out).1; have l1 := hS.1.lt.2.2.1; clear hS hB hf; go_simp; first | exact ⟨HPre.out.refl _, rfl⟩ | exact rfl)); try simp (config := { maxSteps := 10000000 }) only [specV, addF, Act.put, List.setIfInBounds_toArray, List.set_cons_zero, List.set_cons_succ, List.take_succ_cons, List.take_zero, List.drop_succ_cons, List.drop_zero])
  (apply Exists.intro; refine ⟨fun vs w1 hS hB hf => ?_, ?_⟩; (focus (go_simp; exact (HG.out _ _ w1 (by
    have hr := hS.1.rd z 16
    exact ⟨some ⟨bB, z, none⟩, 256 * P.length - z, by rw [HL.out], hr, by rw [HL.out]; have := HZH.out; omega⟩)).mono fun e w2 ⟨he, hb⟩ => FG.callPost.of he (HGB.out _ _ hb) rfl)); try simp (config := { maxSteps := 10000000 }) only [specV, addF, Act.put, List.setIfInBounds_toArray, List.set_cons_zero, List.set_cons_succ, List.take_succ_cons, List.take_zero, List.drop_succ_cons, List.drop_zero])
  (apply Exists.intro; refine ⟨fun vs w1 hS hB hf => ?_, ?_⟩; (focus (clear hS hB hf; go_simp; first | exact ⟨HPre.out.refl _, rfl⟩ | exact rfl)); try simp (config := { maxSteps := 10000000 }) only [specV, addF, Act.put, List.setIfInBounds_toArray, List.set_cons_zero, List.set_cons_succ, List.take_succ_cons, List.take_zero, List.drop_succ_cons, List.drop_zero])
  (apply Exists.intro; refine ⟨fun vs w1 hS hB hf => ?_, ?_⟩; (focus (clear hS hB hf; go_simp; first | exact ⟨HPre.out.refl _, rfl⟩ | exact rfl)); try simp (config := { maxSteps := 10000000 }) only [specV, addF, Act.put, List.setIfInBounds_toArray, List.set_cons_zero, List.set_cons_succ, List.take_succ_cons, List.take_zero, List.drop_succ_cons, List.drop_zero])
  (apply Exists.intro; refine ⟨fun vs w1 hS hB hf => ?_, ?_⟩; (focus (clear hS hB hf; go_simp; first | exact ⟨HPre.out.refl _, rfl⟩ | exact rfl)); try simp (config := { maxSteps := 10000000 }) only [specV, addF, Act.put, List.setIfInBounds_toArray, List.set_cons_zero, List.set_cons_succ, List.take_succ_cons, List.take_zero, List.drop_succ_cons, List.drop_zero])
  (refine ⟨fun vs w1 hS hB hf => ?_, ?_⟩; (focus (go_simp; exact ⟨HGB.out _ _ ((Below.refl _ _).alloc (Nat.le_refl _) _), _, rfl, Blk.new _ _ _, hS.2.lt⟩)); try simp (config := { maxSteps := 10000000 }) only [specV, addF, Act.put, List.setIfInBounds_toArray, List.set_cons_zero, List.set_cons_succ, List.take_succ_cons, List.take_zero, List.drop_succ_cons, List.drop_zero])
  intro vs W5 hS hB5 hF
  obtain ⟨⟨g, hv20, kg, hgt⟩, _⟩ := hF
  dsimp only
  simp only [Nat.zero_add, Nat.reduceAdd] at hv20 ⊢
  rw [hv20]
  have HB5 := Lib.hid (below_then HW0.out HW0.out.size (HGT.out _ _ hB5))
  have K5 := Lib.hid hS.2
  have KG := Lib.hid kg
  have c4 := hS.2.cell
  have f4 := hS.2.frozen
  have l4 := hS.2.lt
  have cg := kg.cell
  have fg := kg.frozen
  have lg := kg.lt
  have ng : ¬ g = w.heap.size := by omega
  have ng' : ¬ w.heap.size = g := by omega
  have HGG := Lib.hid hgt
  have HR : Hid (ldC D T z = (gotT (T.getD ix false) (partL D z 16), gotB (partL D z 16), gotP (partL D z 16), gotA (partL D z 16), gotQ (partL D z 16), gotY (partL D z 16))) := Lib.hid (by rw [ldC, HTG.out])
  simp only [List.getD_eq_getElem?_getD] at HR
  clear hS hv20 kg hgt hB5 HG H1 HL K HGT HGB HPre
  generalize gotT (T[ix]?.getD false) (partL D z 16) = t at *
  generalize gotB (partL D z 16) = b at *
  generalize gotP (partL D z 16) = p at *
  generalize gotA (partL D z 16) = a at *
  generalize gotQ (partL D z 16) = q at *
  generalize gotY (partL D z 16) = y at *
  clear q1 q2 q4 q5 q6 q7 q8 q9 q10 q3
  refine wp_list_gen (fun w' => Blk w' w.heap.size #[.bool (false), .int .i64 (0), .int .i64 (0), .int .i64 (0), .int .i64 (0), .int .i64 (0)] 23 ∧ Blk w' g #[.bool (false), .int .i64 (0), .int .i64 (0), .int .i64 (0), .int .i64 (0), .int .i64 (0)] 23 ∧ Below w.heap.size w w') ⟨K5.out, KG.out, HB5.out⟩ ?_
  clear c4 f4 l4 cg fg lg K5 KG HB5
  intro w6 ⟨k4, kg, hb6⟩
  have K5 := Lib.hid k4
  have KG := Lib.hid kg
  have HB6 := Lib.hid hb6
  have c4 := k4.cell
  have f4 := k4.frozen
  have l4 := k4.lt
  have cg := kg.cell
  have fg := kg.frozen
  have lg := kg.lt
  clear k4 kg hb6
  go_upto_region 4 with fail
  refine wp_gen (fun w' => Blk w' w.heap.size #[.bool (false), .int .i64 (0), .int .i64 (0), .int .i64 (0), .int .i64 (0), .int .i64 (0)] 23 ∧ Blk w' g #[.bool (t), .int .i64 (b), .int .i64 (p), .int .i64 (a), .int .i64 (q), .int .i64 (y)] 23 ∧ Below w.heap.size w w')
    ⟨(((((K5.out.set_other ng' _ _).set_other ng' _ _).set_other ng' _ _).set_other ng' _ _).set_other ng' _ _).set_other ng' _ _, (((((KG.out.set 0 _).set 1 _).set 2 _).set 3 _).set 4 _).set 5 _,
      (((((HB6.out.setCell (by have := HGG.out; show w.heap.size ≤ g; omega) _).setCell (by have := HGG.out; show w.heap.size ≤ g; omega) _).setCell (by have := HGG.out; show w.heap.size ≤ g; omega) _).setCell (by have := HGG.out; show w.heap.size ≤ g; omega) _).setCell (by have := HGG.out; show w.heap.size ≤ g; omega) _).setCell (by have := HGG.out; show w.heap.size ≤ g; omega) _⟩ ?_
  clear c4 f4 l4 cg fg lg K5 KG HB6
  intro w7 ⟨k4, kg, hb7⟩
  have K7 := Lib.hid k4
  have HB7 := Lib.hid hb7
  have c4 := k4.cell
  have f4 := k4.frozen
  have l4 := k4.lt
  have cg := kg.cell
  have lg := kg.lt
  clear k4 kg hb7 ng ng'
  go_wp2
  exact bodyPost_ret (results_cell2 (cs := #[.bool (t), .int .i64 (b), .int .i64 (p), .int .i64 (a), .int .i64 (q), .int .i64 (y)]) rfl ((((((K7.out.set 0 _).set 1 _).set 2 _).set 3 _).set 4 _).set 5 _) Try.underlying23 rfl (by kernel_rfl) rfl) rfl
    ⟨by rw [HR.out]; rfl, ((((((HB7.out.setCell (by simp) _).setCell (by simp) _).setCell (by simp) _).setCell (by simp) _).setCell (by simp) _).setCell (by simp) _)⟩
end Go.Proofs.Ytjimkkkiilcpoaa
