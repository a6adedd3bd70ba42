/- LoadCap, the program's and the document's. -/
import Derived.Test.YtjimkkkiilcpoaaTmP
set_option linter.unusedVariables false
set_option linter.unusedSimpArgs false
namespace Go.Proofs.Ytjimkkkiilcpoaa
open Go.RowKit

/-- The capability that stands somewhere. -/
def ldC (D : List Int) (T : List Bool) (a : Nat) : Bool × Int × Int × Int × Int × Int :=
  (gotT (T.getD (a / 16) false) (partL D a 16), gotB (partL D a 16), gotP (partL D a 16), gotA (partL D a 16), gotQ (partL D a 16), gotY (partL D a 16))
def capV (c : Bool × Int × Int × Int × Int × Int) : Value := .agg #[.bool c.1, .int .i64 c.2.1, .int .i64 c.2.2.1, .int .i64 c.2.2.2.1, .int .i64 c.2.2.2.2.1, .int .i64 c.2.2.2.2.2]
theorem partL_isB {D : List Int} (h : isB D) (a k : Nat) : isB (partL D a k) := fun x hx => h x (List.mem_of_mem_drop (List.mem_of_mem_take hx))

set_option maxRecDepth 100000 in
set_option maxHeartbeats 1600000 in
theorem tm_loadcap_no (mb bP : Nat) (D : List Int) (T P : List Bool) (at_ : Int) (w : World) (h : TmM w mb bP D T P) (ha : inI at_) (hp : plB P.length at_ = false) :
    Calls Try.prog 57 #[.pointer (some ⟨mb, 0, none⟩), .int .i64 at_] w fun e w' => e = .returned (.tuple #[.agg #[.bool (false), .int .i64 (0), .int .i64 (0), .int .i64 (0), .int .i64 (0), .int .i64 (0)], .bool false]) ∧ Below w.heap.size w w' := by
  have g1 := tm_granule_no mb bP D T P at_ _ (h.alloc (.cells #[.bool (false), .int .i64 (0), .int .i64 (0), .int .i64 (0), .int .i64 (0), .int .i64 (0)] 23)) ha hp
  have K := Lib.hid (Blk.new w #[.bool (false), .int .i64 (0), .int .i64 (0), .int .i64 (0), .int .i64 (0), .int .i64 (0)] 23)
  clear h hp
  go_enter Try.func57, Try.ntmps57
  go_wp2_with fail
  refine g1.mono ?_
  rintro e w1 ⟨rfl, rfl⟩
  clear g1
  go_wp2
  exact bodyPost_ret (results_cell2 (cs := #[.bool (false), .int .i64 (0), .int .i64 (0), .int .i64 (0), .int .i64 (0), .int .i64 (0)]) rfl K.out Try.underlying23 rfl (by kernel_rfl) rfl) rfl ⟨rfl, by go_grown⟩

set_option maxRecDepth 100000 in
set_option maxHeartbeats 1600000 in
theorem tm_loadcap (mb bP : Nat) (D : List Int) (T P : List Bool) (i k : Nat) (w : World) (h : TmM w mb bP D T P) (hi : i < P.length) (hk : k < 16) :
    Calls Try.prog 57 #[.pointer (some ⟨mb, 0, none⟩), .int .i64 ((i * 256 + k * 16 : Nat) : Int)] w fun e w' => e = .returned (.tuple #[capV (ldC D T (i * 256 + k * 16)), .bool true]) ∧ Below w.heap.size w w' := by
  have h1 := h.alloc (.cells #[.bool (false), .int .i64 (0), .int .i64 (0), .int .i64 (0), .int .i64 (0), .int .i64 (0)] 23)
  have g1 := tm_granule mb bP D T P i k _ h1 hi hk
  have K := Lib.hid (Blk.new w #[.bool (false), .int .i64 (0), .int .i64 (0), .int .i64 (0), .int .i64 (0), .int .i64 (0)] 23)
  have HS := Lib.hid (show ldC D T (i * 256 + k * 16) = ldC D T (i * 256 + k * 16) from rfl)
  have HD : Hid (D.length = 256 * P.length) := Lib.hid h.1.1
  have HB : Hid (isB D) := Lib.hid h.1.2.2.2
  have hl : (partL D (i * 256 + k * 16) 16).length = 16 := partL_len D _ _ (by have := h.1.1; omega)
  have HL := Lib.hid hl
  have hg := fun v (tg : Bool) W (hr : RowU W v (partL D (i * 256 + k * 16) 16)) => get_row v (partL D (i * 256 + k * 16) 16) tg W hr (partL_isB h.1.2.2.2 _ _)
  rw [hl] at hg
  have HG := Lib.hid hg
  have htg : (i * 256 + k * 16) / 16 = i * 16 + k := by omega
  have HTG := Lib.hid htg
  generalize hz : ((i * 256 + k * 16 : Nat) : Int) = z at *
  obtain ⟨kk, hkk⟩ : ∃ kk, k * 16 = kk := ⟨_, rfl⟩
  have q0 : (k : Int) * 16 = (kk : Int) := by omega
  obtain ⟨kh, hkh⟩ : ∃ kh, kk + 16 = kh := ⟨_, rfl⟩
  have q1 : ((k : Int) + 1) * 16 = (kh : Int) := by omega
  have q2 : (kh : Int) ≤ 256 := by omega
  have q3 : ¬ 256 = kk := by omega
  have q4 : (kk : Int) ≤ (kh : Int) := by omega
  have q4' : kk ≤ kh := by omega
  have q2' : kh ≤ 256 := by omega
  have q5 : IntKind.i64.wrap (kk : Int) = (kk : Int) := IntWalk.i64_in _ (by omega)
  have q6 : IntKind.i64.wrap (kh : Int) = (kh : Int) := IntWalk.i64_in _ (by omega)
  have q9 : kh - kk = 16 := by omega
  have HKH := Lib.hid hkh
  have q7 : IntKind.i64.wrap ((k : Int) + 1) = (k : Int) + 1 := IntWalk.i64_in _ (by omega)
  have q8 : (k : Int) < 16 := by omega
  have H1 := Lib.hid h1
  have HKK := Lib.hid hkk
  have HI := Lib.hid hi
  have HK := Lib.hid hk
  clear h h1 hl hg hz htg hkk hkh
  obtain ⟨W1, hW1⟩ : ∃ W1, w.alloc (.cells #[.bool (false), .int .i64 (0), .int .i64 (0), .int .i64 (0), .int .i64 (0), .int .i64 (0)] 23) = W1 := ⟨_, rfl⟩
  have hw0 : Below w.heap.size w (w.alloc (.cells #[.bool (false), .int .i64 (0), .int .i64 (0), .int .i64 (0), .int .i64 (0), .int .i64 (0)] 23)) := by go_grown
  rw [hW1] at H1 g1 K hw0
  have HW0 := Lib.hid hw0
  clear hw0
  go_enter Try.func57, Try.ntmps57
  go_wp2_with fail
  clear hW1
  refine g1.mono ?_
  rintro e w1 ⟨rfl, rfl⟩
  clear g1
  go_wp2_with fail
  refine wp_flow_lit 18 (fun w' => TmM w' mb bP D T P ∧ Blk w' w.heap.size #[.bool (false), .int .i64 (0), .int .i64 (0), .int .i64 (0), .int .i64 (0), .int .i64 (0)] 23)
    [none, none, none, none, none, none, none, none, none, none, none, none, none, none, none, none, none, none] (by kernel_rfl) (by kernel_rfl) ⟨H1.out.drew, K.out.drew⟩
    (fun w1 w2 h hb => ⟨h.1.grow hb, h.2.below hb h.2.lt⟩) trivial ?_
  try simp (config := { maxSteps := 10000000 }) only [specV, addF, Act.put, List.setIfInBounds_toArray, List.set_cons_zero, List.set_cons_succ, List.take_succ_cons, List.take_zero, List.drop_succ_cons, List.drop_zero]
  (apply Exists.intro; refine ⟨fun vs w1 hS hB hf => ?_, ?_⟩; (focus (clear hS hB hf; go_simp; first | exact ⟨Below.refl _ _, rfl⟩ | exact rfl)); try simp (config := { maxSteps := 10000000 }) only [specV, addF, Act.put, List.setIfInBounds_toArray, List.set_cons_zero, List.set_cons_succ, List.take_succ_cons, List.take_zero, List.drop_succ_cons, List.drop_zero])
  (apply Exists.intro; refine ⟨fun vs w1 hS hB hf => ?_, ?_⟩; (focus (clear hS hB hf; go_simp; first | exact ⟨Below.refl _ _, rfl⟩ | exact rfl)); try simp (config := { maxSteps := 10000000 }) only [specV, addF, Act.put, List.setIfInBounds_toArray, List.set_cons_zero, List.set_cons_succ, List.take_succ_cons, List.take_zero, List.drop_succ_cons, List.drop_zero])
  (apply Exists.intro; refine ⟨fun vs w1 hS hB hf => ?_, ?_⟩; (focus (clear hS hB hf; go_simp; first | exact ⟨Below.refl _ _, rfl⟩ | exact rfl)); try simp (config := { maxSteps := 10000000 }) only [specV, addF, Act.put, List.setIfInBounds_toArray, List.set_cons_zero, List.set_cons_succ, List.take_succ_cons, List.take_zero, List.drop_succ_cons, List.drop_zero])
  (apply Exists.intro; refine ⟨fun vs w1 hS hB hf => ?_, ?_⟩; (focus (clear hS hB hf; go_simp; first | exact ⟨Below.refl _ _, rfl⟩ | exact rfl)); try simp (config := { maxSteps := 10000000 }) only [specV, addF, Act.put, List.setIfInBounds_toArray, List.set_cons_zero, List.set_cons_succ, List.take_succ_cons, List.take_zero, List.drop_succ_cons, List.drop_zero])
  (apply Exists.intro; refine ⟨fun vs w1 hS hB hf => ?_, ?_⟩; (focus (clear hS hB hf; go_simp; first | exact ⟨Below.refl _ _, rfl⟩ | exact rfl)); try simp (config := { maxSteps := 10000000 }) only [specV, addF, Act.put, List.setIfInBounds_toArray, List.set_cons_zero, List.set_cons_succ, List.take_succ_cons, List.take_zero, List.drop_succ_cons, List.drop_zero])
  (apply Exists.intro; refine ⟨fun vs w1 hS hB hf => ?_, ?_⟩; (focus (clear hS hB hf; go_simp; first | exact ⟨Below.refl _ _, rfl⟩ | exact rfl)); try simp (config := { maxSteps := 10000000 }) only [specV, addF, Act.put, List.setIfInBounds_toArray, List.set_cons_zero, List.set_cons_succ, List.take_succ_cons, List.take_zero, List.drop_succ_cons, List.drop_zero])
  (apply Exists.intro; refine ⟨fun vs w1 hS hB hf => ?_, ?_⟩; (focus (clear hS hB hf; go_simp; first | exact ⟨Below.refl _ _, rfl⟩ | exact rfl)); try simp (config := { maxSteps := 10000000 }) only [specV, addF, Act.put, List.setIfInBounds_toArray, List.set_cons_zero, List.set_cons_succ, List.take_succ_cons, List.take_zero, List.drop_succ_cons, List.drop_zero])
  (apply Exists.intro; refine ⟨fun vs w1 hS hB hf => ?_, ?_⟩; (focus (clear hS hB hf; go_simp; first | exact ⟨Below.refl _ _, rfl⟩ | exact rfl)); try simp (config := { maxSteps := 10000000 }) only [specV, addF, Act.put, List.setIfInBounds_toArray, List.set_cons_zero, List.set_cons_succ, List.take_succ_cons, List.take_zero, List.drop_succ_cons, List.drop_zero])
  (apply Exists.intro; refine ⟨fun vs w1 hS hB hf => ?_, ?_⟩; (focus (clear hS hB hf; go_simp; first | exact ⟨Below.refl _ _, rfl⟩ | exact rfl)); try simp (config := { maxSteps := 10000000 }) only [specV, addF, Act.put, List.setIfInBounds_toArray, List.set_cons_zero, List.set_cons_succ, List.take_succ_cons, List.take_zero, List.drop_succ_cons, List.drop_zero])
  (apply Exists.intro; refine ⟨fun vs w1 hS hB hf => ?_, ?_⟩; (focus (clear hS hB hf; go_simp; first | exact ⟨Below.refl _ _, rfl⟩ | exact rfl)); try simp (config := { maxSteps := 10000000 }) only [specV, addF, Act.put, List.setIfInBounds_toArray, List.set_cons_zero, List.set_cons_succ, List.take_succ_cons, List.take_zero, List.drop_succ_cons, List.drop_zero])
  (apply Exists.intro; refine ⟨fun vs w1 hS hB hf => ?_, ?_⟩; (focus (clear hS hB hf; go_simp; first | exact ⟨Below.refl _ _, rfl⟩ | exact rfl)); try simp (config := { maxSteps := 10000000 }) only [specV, addF, Act.put, List.setIfInBounds_toArray, List.set_cons_zero, List.set_cons_succ, List.take_succ_cons, List.take_zero, List.drop_succ_cons, List.drop_zero])
  (apply Exists.intro; refine ⟨fun vs w1 hS hB hf => ?_, ?_⟩; (focus (clear hS hB hf; go_simp; first | exact ⟨Below.refl _ _, rfl⟩ | exact rfl)); try simp (config := { maxSteps := 10000000 }) only [specV, addF, Act.put, List.setIfInBounds_toArray, List.set_cons_zero, List.set_cons_succ, List.take_succ_cons, List.take_zero, List.drop_succ_cons, List.drop_zero])
  (apply Exists.intro; refine ⟨fun vs w1 hS hB hf => ?_, ?_⟩; (focus (clear hS hB hf; go_simp; first | exact ⟨Below.refl _ _, rfl⟩ | exact rfl)); try simp (config := { maxSteps := 10000000 }) only [specV, addF, Act.put, List.setIfInBounds_toArray, List.set_cons_zero, List.set_cons_succ, List.take_succ_cons, List.take_zero, List.drop_succ_cons, List.drop_zero])
  (apply Exists.intro; refine ⟨fun vs w1 hS hB hf => ?_, ?_⟩; (focus (clear hS hB hf; go_simp; first | exact ⟨Below.refl _ _, rfl⟩ | exact rfl)); try simp (config := { maxSteps := 10000000 }) only [specV, addF, Act.put, List.setIfInBounds_toArray, List.set_cons_zero, List.set_cons_succ, List.take_succ_cons, List.take_zero, List.drop_succ_cons, List.drop_zero])
  (apply Exists.intro; refine ⟨fun vs w1 hS hB hf => ?_, ?_⟩; (focus (obtain ⟨c1, _⟩ := hS.1.tag HI.out HK.out; have l1 := hS.1.lt.2; clear hS hB hf; go_simp; first | exact ⟨Below.refl _ _, rfl⟩ | exact rfl)); try simp (config := { maxSteps := 10000000 }) only [specV, addF, Act.put, List.setIfInBounds_toArray, List.set_cons_zero, List.set_cons_succ, List.take_succ_cons, List.take_zero, List.drop_succ_cons, List.drop_zero])
  (apply Exists.intro; refine ⟨fun vs w1 hS hB hf => ?_, ?_⟩; (focus (go_simp; exact (HG.out _ _ w1 (by
    have hr := hS.1.rd (i := i) (f := kk) (t := kh) HI.out q4' q2'
    have e : i * 256 + kk = i * 256 + k * 16 := by rw [HKK.out]
    rw [q9, e] at hr
    exact ⟨some ⟨bP, i * 273 + kk, none⟩, 256 - kk, by rw [HL.out], hr, by rw [HL.out]; have := HKH.out; have := HKK.out; have := HK.out; omega⟩)).mono fun e w2 ⟨he, hb⟩ => callPost.of he hb rfl)); try simp (config := { maxSteps := 10000000 }) only [specV, addF, Act.put, List.setIfInBounds_toArray, List.set_cons_zero, List.set_cons_succ, List.take_succ_cons, List.take_zero, List.drop_succ_cons, List.drop_zero])
  (apply Exists.intro; refine ⟨fun vs w1 hS hB hf => ?_, ?_⟩; (focus (clear hS hB hf; go_simp; first | exact ⟨Below.refl _ _, rfl⟩ | exact rfl)); try simp (config := { maxSteps := 10000000 }) only [specV, addF, Act.put, List.setIfInBounds_toArray, List.set_cons_zero, List.set_cons_succ, List.take_succ_cons, List.take_zero, List.drop_succ_cons, List.drop_zero])
  (apply Exists.intro; refine ⟨fun vs w1 hS hB hf => ?_, ?_⟩; (focus (clear hS hB hf; go_simp; first | exact ⟨Below.refl _ _, rfl⟩ | exact rfl)); try simp (config := { maxSteps := 10000000 }) only [specV, addF, Act.put, List.setIfInBounds_toArray, List.set_cons_zero, List.set_cons_succ, List.take_succ_cons, List.take_zero, List.drop_succ_cons, List.drop_zero])
  intro vs W5 hS hB5 _
  dsimp only
  have K5 := Lib.hid hS.2
  have c5 := hS.2.cell
  have f5 := hS.2.frozen
  have l5 := hS.2.lt
  have B5 := Lib.hid (below_then HW0.out HW0.out.size hB5)
  have HR : Hid (ldC D T (i * 256 + k * 16) = (gotT (T[i * 16 + k]?.getD false) (partL D (i * 256 + k * 16) 16), gotB (partL D (i * 256 + k * 16) 16), gotP (partL D (i * 256 + k * 16) 16), gotA (partL D (i * 256 + k * 16) 16), gotQ (partL D (i * 256 + k * 16) 16), gotY (partL D (i * 256 + k * 16) 16))) := Lib.hid (by rw [ldC, HTG.out]; rfl)
  clear hS hB5 HG H1 K HB HD HL HS
  generalize gotT (T[i * 16 + k]?.getD false) (partL D (i * 256 + k * 16) 16) = t at *
  generalize gotB (partL D (i * 256 + k * 16) 16) = b at *
  generalize gotP (partL D (i * 256 + k * 16) 16) = p at *
  generalize gotA (partL D (i * 256 + k * 16) 16) = a at *
  generalize gotQ (partL D (i * 256 + k * 16) 16) = q at *
  generalize gotY (partL D (i * 256 + k * 16) 16) = y at *
  go_wp2
  exact bodyPost_ret (results_cell2 (cs := #[.bool (t), .int .i64 (b), .int .i64 (p), .int .i64 (a), .int .i64 (q), .int .i64 (y)]) rfl ((((((K5.out.set 0 _).set 1 _).set 2 _).set 3 _).set 4 _).set 5 _) Try.underlying23 rfl (by kernel_rfl) rfl) rfl
    ⟨by rw [HR.out]; rfl, ((((((B5.out.setCell (by simp) _).setCell (by simp) _).setCell (by simp) _).setCell (by simp) _).setCell (by simp) _).setCell (by simp) _)⟩

set_option maxRecDepth 100000 in
set_option maxHeartbeats 1600000 in
theorem tr_loadcap_no (mb bB bT bP : Nat) (D : List Int) (T P : List Bool) (at_ : Int) (w : World) (h : TrM w mb bB bT bP D T P) (ha : inI at_) (hp : plB P.length at_ = false) :
    Calls Try.prog 58 #[.pointer (some ⟨mb, 0, none⟩), .int .i64 at_] w fun e w' => e = .returned (.tuple #[.agg #[.bool (false), .int .i64 (0), .int .i64 (0), .int .i64 (0), .int .i64 (0), .int .i64 (0)], .bool false]) ∧ Below w.heap.size w w' := by
  have g1 := tr_place mb bB bT bP D T P at_ _ (h.alloc (.cells #[.bool (false), .int .i64 (0), .int .i64 (0), .int .i64 (0), .int .i64 (0), .int .i64 (0)] 23)) ha
  rw [hp] at g1
  have K := Lib.hid (Blk.new w #[.bool (false), .int .i64 (0), .int .i64 (0), .int .i64 (0), .int .i64 (0), .int .i64 (0)] 23)
  clear h hp
  go_enter Try.func58, Try.ntmps58
  go_wp2_with fail
  refine g1.mono ?_
  rintro e w1 ⟨rfl, rfl⟩
  clear g1
  go_wp2
  exact bodyPost_ret (results_cell2 (cs := #[.bool (false), .int .i64 (0), .int .i64 (0), .int .i64 (0), .int .i64 (0), .int .i64 (0)]) rfl K.out Try.underlying23 rfl (by kernel_rfl) rfl) rfl ⟨rfl, by go_grown⟩

end Go.Proofs.Ytjimkkkiilcpoaa
