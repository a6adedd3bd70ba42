/- StoreCap, the document's. -/
import Derived.Test.YtjimkkkiilcpoaaTmO
set_option linter.unusedVariables false
set_option linter.unusedSimpArgs false
namespace Go.Proofs.Ytjimkkkiilcpoaa
open Go.RowKit

theorem TrM.alloc {w : World} {b bB bT bP : Nat} {D : List Int} {T P : List Bool} (h : TrM w b bB bT bP D T P) (o : Obj) : TrM (w.alloc o) b bB bT bP D T P :=
  ⟨h.1, h.2.1, h.2.2.1.alloc _, h.2.2.2.1.alloc _, h.2.2.2.2.1.alloc _, h.2.2.2.2.2.alloc _⟩
theorem TrM.drew {w : World} {b bB bT bP : Nat} {D : List Int} {T P : List Bool} (h : TrM w b bB bT bP D T P) : TrM w.drew b bB bT bP D T P :=
  ⟨h.1, h.2.1, h.2.2.1.drew, h.2.2.2.1.drew, h.2.2.2.2.1.drew, h.2.2.2.2.2.drew⟩
theorem TrM.grow {w w1 : World} {b bB bT bP : Nat} {D : List Int} {T P : List Bool} (h : TrM w b bB bT bP D T P) (hb : Below w.heap.size w w1) : TrM w1 b bB bT bP D T P := h.below hb h.lt.1 h.lt.2.1 h.lt.2.2.1 h.lt.2.2.2
theorem TmM.grow {w w1 : World} {b bP : Nat} {D : List Int} {T P : List Bool} (h : TmM w b bP D T P) (hb : Below w.heap.size w w1) : TmM w1 b bP D T P := h.below hb h.lt.1 h.lt.2

theorem storeT_cap (T : List Bool) (i k : Nat) (t : Bool) (h : i * 16 + k < T.length) : (storeT T (i * 256 + k * 16) 16).set (i * 16 + k) t = T.set (i * 16 + k) t := by
  refine list_ext_getD _ _ false (by rw [List.length_set, List.length_set, storeT_length]) fun x hx => ?_
  rw [getD_setL _ _ _ _ _ (by rw [storeT_length]; exact h), getD_setL _ _ _ _ _ h, storeT_getD]
  split
  · rfl
  · rename_i e
    rw [decide_eq_false (by omega)]
    simp

set_option maxRecDepth 100000 in
set_option maxHeartbeats 1600000 in
theorem tr_storecap (mb bB bT bP : Nat) (D : List Int) (T P : List Bool) (i k : Nat) (t : Bool) (b p a q y : Int) (w : World) (h : TrM w mb bB bT bP D T P) (hi : i < P.length) (hk : k < 16) (hr : rightB t b p a q y = true) :
    Calls Try.prog 50 #[.pointer (some ⟨mb, 0, none⟩), .int .i64 ((i * 256 + k * 16 : Nat) : Int), .agg #[.bool (t), .int .i64 (b), .int .i64 (p), .int .i64 (a), .int .i64 (q), .int .i64 (y)]] w fun e w' => e = .returned (.bool true) ∧
      TrM w' mb bB bT bP (writeL D (i * 256 + k * 16) (putL t b p a q y)) (T.set (i * 16 + k) t) (if t then P.set i true else P) ∧ Turns [bB, bT, bP] w w' := by
  have hle := h.1.2.2.1
  have hlT := h.1.2.1
  have hp : plB P.length ((i * 256 + k * 16 : Nat) : Int) = true := by rw [plB, decide_eq_true_eq]; omega
  have hw0 : Below w.heap.size w (w.alloc (.cells #[.bool (t), .int .i64 (b), .int .i64 (p), .int .i64 (a), .int .i64 (q), .int .i64 (y)] 23)) := by go_grown
  have h1 := h.alloc (.cells #[.bool (t), .int .i64 (b), .int .i64 (p), .int .i64 (a), .int .i64 (q), .int .i64 (y)] 23)
  have g1 := tr_place mb bB bT bP D T P _ _ h1 (show inI ((i * 256 + k * 16 : Nat) : Int) from ⟨by omega, by omega⟩)
  rw [hp] at g1
  have kc : Blk (w.alloc (.cells #[.bool (t), .int .i64 (b), .int .i64 (p), .int .i64 (a), .int .i64 (q), .int .i64 (y)] 23)) w.heap.size #[.bool (t), .int .i64 (b), .int .i64 (p), .int .i64 (a), .int .i64 (q), .int .i64 (y)] 23 := Blk.new _ _ _
  have g2 := fun W => ref_right t b p a q y W
  rw [hr] at g2
  have G2 := Lib.hid g2
  have G3 := Lib.hid (fun W => ref_put_any t b p a q y W hr)
  have hps : putL t b p a q y = putBytes b p a q y := by rw [putL, if_pos hr]
  have HPB := Lib.hid (isB_putL t b p a q y)
  rw [hps] at HPB ⊢
  have HL : Hid ((putBytes b p a q y).length = 16) := Lib.hid (putBytes_len ..)
  generalize putBytes b p a q y = bs at *
  have hnm : ∀ x ∈ [mb, bB, bT, bP], x < w.heap.size := by have := h.lt; intro x hx; simp at hx; omega
  have HNM := Lib.hid hnm
  have H1 := Lib.hid h1
  have HI := Lib.hid hi
  have HK := Lib.hid hk
  have HLT := Lib.hid hlT
  have G4 := Lib.hid (fun (A : Option Addr) (c : Nat) (W : World) (hT : TrM W mb bB bT bP D T P) (hr : RowU W (.slice A bs.length c) bs) (hA : ∀ ad, A = some ad → ad.block ∉ [bB, bT, bP]) =>
    tr_store mb bB bT bP D T P (i * 256 + k * 16) A c bs W hT hr HPB.out (by rw [HL.out]; omega) (fun _ => hA))
  have e1 : ((i * 256 + k * 16 : Nat) : Int) / 16 = ((i * 16 + k : Nat) : Int) := by omega
  have e2 : ((i * 256 + k * 16 : Nat) : Int) / 256 = ((i : Nat) : Int) := by omega
  have e3 : ((i * 16 + k : Nat) : Int) < ((16 * P.length : Nat) : Int) := by omega
  have e4 : ((i : Nat) : Int) < (P.length : Int) := by omega
  have e5 : IntKind.i64.wrap ((i * 16 + k : Nat) : Int) = ((i * 16 + k : Nat) : Int) := IntWalk.i64_in _ (by omega)
  have ST := Lib.hid (storeT_cap T i k t (by omega))
  have hix : i * 16 + k < T.length := by omega
  have HIX := Lib.hid hix
  generalize hz : ((i * 256 + k * 16 : Nat) : Int) = z at *
  obtain ⟨zz, hzz⟩ : ∃ zz, i * 256 + k * 16 = zz := ⟨_, rfl⟩
  rw [hzz] at ST
  generalize hix2 : i * 16 + k = ix at *
  have HIX2 := Lib.hid hix2
  have HZ := Lib.hid (And.intro hz hzz)
  clear h h1 g2 hz hnm hps hp hi hk hlT hzz hix hix2
  obtain ⟨W1, hW1⟩ : ∃ W1, w.alloc (.cells #[.bool (t), .int .i64 (b), .int .i64 (p), .int .i64 (a), .int .i64 (q), .int .i64 (y)] 23) = W1 := ⟨_, rfl⟩
  have HW0 : Hid (Below w.heap.size w W1) := Lib.hid (by rw [← hW1]; exact hw0)
  rw [hW1] at kc H1 g1
  go_enter Try.func50, Try.ntmps50
  go_wp2_with fail
  clear hW1 hw0
  refine g1.mono ?_
  rintro e w1 ⟨rfl, rfl⟩
  clear g1
  have c1 := kc.cell
  have l1 := kc.lt
  go_wp2_with fail
  refine (G2.out _).mono ?_
  rintro e w2 ⟨rfl, hb2⟩
  have kc2 := kc.below hb2 kc.lt
  have H2 := Lib.hid (H1.out.grow hb2)
  have HW2 := Lib.hid (below_then HW0.out HW0.out.size hb2)
  clear kc c1 l1 hb2 H1 HW0 G2
  have c2 := kc2.cell
  have l2 := kc2.lt
  go_wp2_with fail
  refine (G3.out _).mono ?_
  rintro e w3 ⟨v3, rfl, hown3, hb3⟩
  obtain ⟨A3, c3, rfl⟩ := own_form hown3
  have KC := Lib.hid (kc2.below hb3 kc2.lt)
  have H3 := Lib.hid (H2.out.grow hb3)
  have HW3 := Lib.hid (below_then HW2.out HW2.out.size hb3)
  have hA3 : ∀ ad, A3 = some ad → ad.block ∉ [bB, bT, bP] := fun ad e hm => by
    subst e
    have h1 := (hown3.lt ad.block (by rcases hown3.2 with ⟨h, _⟩ | ⟨g, _, _, h, _⟩; cases h; cases h; rfl)).1
    have h2 := HNM.out ad.block (List.mem_cons_of_mem _ hm)
    have := HW2.out.size
    omega
  have hr3 : RowU w3 (.slice A3 bs.length c3) bs := by have := RowU.own hown3; rw [HL.out]; exact this
  have g4 := G4.out A3 c3 w3 H3.out hr3 hA3
  rw [HL.out, HZ.out.2] at g4
  have G5 := Lib.hid g4
  clear g4 hr3 hA3 hown3 kc2 hb3 G3 G4 H2 HW2 c2 l2 H3
  go_wp2_with fail
  refine G5.out.mono ?_
  rintro e w4 ⟨rfl, hT4, ht4⟩
  have KC4 := Lib.hid (KC.out.turns ht4 (fun hm => by have := HNM.out _ (List.mem_cons_of_mem _ hm); omega))
  have U4 := Lib.hid ((Turns.below HW3.out).trans ht4)
  have D4 := Lib.hid hT4
  clear hT4 ht4 G5 KC HW3
  have HD : Hid (TrM w4 mb bB bT bP (writeL D zz bs) (storeT T zz 16) P) := D4
  obtain ⟨D', hD'⟩ : ∃ D', writeL D zz bs = D' := ⟨_, rfl⟩
  obtain ⟨T', hT'⟩ : ∃ T', storeT T zz 16 = T' := ⟨_, rfl⟩
  rw [hD', hT'] at HD
  rw [hT'] at ST
  have HlT : Hid (T'.length = 16 * P.length) := Lib.hid HD.out.1.2.1
  have HD' := Lib.hid hD'
  clear hD' hT' D4
  go_wp2_with fail
  refine wp_flow_lit 8 (fun w' => TrM w' mb bB bT bP D' T' P ∧ Blk w' w.heap.size #[.bool (t), .int .i64 (b), .int .i64 (p), .int .i64 (a), .int .i64 (q), .int .i64 (y)] 23)
    [none, none, none, none, none, none, none, none] (by kernel_rfl) (by kernel_rfl) ⟨HD.out.drew, KC4.out.drew⟩
    (fun w1 w2 h hb => ⟨h.1.grow hb, h.2.below hb h.2.lt⟩) trivial ?_
  try simp (config := { maxSteps := 10000000 }) only [specV, addF, Act.put, List.setIfInBounds_toArray, List.set_cons_zero, List.set_cons_succ, List.take_succ_cons, List.take_zero, List.drop_succ_cons, List.drop_zero]
  (apply Exists.intro; refine ⟨fun vs w1 hS hB hf => ?_, ?_⟩; (focus (clear hS hB hf; go_simp; first | exact ⟨Below.refl _ _, rfl⟩ | exact rfl)); try simp (config := { maxSteps := 10000000 }) only [specV, addF, Act.put, List.setIfInBounds_toArray, List.set_cons_zero, List.set_cons_succ, List.take_succ_cons, List.take_zero, List.drop_succ_cons, List.drop_zero])
  (apply Exists.intro; refine ⟨fun vs w1 hS hB hf => ?_, ?_⟩; (focus (clear hS hB hf; go_simp; first | exact ⟨Below.refl _ _, rfl⟩ | exact rfl)); try simp (config := { maxSteps := 10000000 }) only [specV, addF, Act.put, List.setIfInBounds_toArray, List.set_cons_zero, List.set_cons_succ, List.take_succ_cons, List.take_zero, List.drop_succ_cons, List.drop_zero])
  (apply Exists.intro; refine ⟨fun vs w1 hS hB hf => ?_, ?_⟩; (focus (clear hS hB hf; go_simp; first | exact ⟨Below.refl _ _, rfl⟩ | exact rfl)); try simp (config := { maxSteps := 10000000 }) only [specV, addF, Act.put, List.setIfInBounds_toArray, List.set_cons_zero, List.set_cons_succ, List.take_succ_cons, List.take_zero, List.drop_succ_cons, List.drop_zero])
  (apply Exists.intro; refine ⟨fun vs w1 hS hB hf => ?_, ?_⟩; (focus (have c1 := hS.1.2.2.1.cell; have l1 := hS.1.lt.1; rw [HlT.out] at c1; clear hS hB hf; go_simp; first | exact ⟨Below.refl _ _, rfl⟩ | exact rfl)); try simp (config := { maxSteps := 10000000 }) only [specV, addF, Act.put, List.setIfInBounds_toArray, List.set_cons_zero, List.set_cons_succ, List.take_succ_cons, List.take_zero, List.drop_succ_cons, List.drop_zero])
  (apply Exists.intro; refine ⟨fun vs w1 hS hB hf => ?_, ?_⟩; (focus (clear hS hB hf; go_simp; first | exact ⟨Below.refl _ _, rfl⟩ | exact rfl)); try simp (config := { maxSteps := 10000000 }) only [specV, addF, Act.put, List.setIfInBounds_toArray, List.set_cons_zero, List.set_cons_succ, List.take_succ_cons, List.take_zero, List.drop_succ_cons, List.drop_zero])
  (apply Exists.intro; refine ⟨fun vs w1 hS hB hf => ?_, ?_⟩; (focus (clear hS hB hf; go_simp; first | exact ⟨Below.refl _ _, rfl⟩ | exact rfl)); try simp (config := { maxSteps := 10000000 }) only [specV, addF, Act.put, List.setIfInBounds_toArray, List.set_cons_zero, List.set_cons_succ, List.take_succ_cons, List.take_zero, List.drop_succ_cons, List.drop_zero])
  (apply Exists.intro; refine ⟨fun vs w1 hS hB hf => ?_, ?_⟩; (focus (clear hS hB hf; go_simp; first | exact ⟨Below.refl _ _, rfl⟩ | exact rfl)); try simp (config := { maxSteps := 10000000 }) only [specV, addF, Act.put, List.setIfInBounds_toArray, List.set_cons_zero, List.set_cons_succ, List.take_succ_cons, List.take_zero, List.drop_succ_cons, List.drop_zero])
  (apply Exists.intro; refine ⟨fun vs w1 hS hB hf => ?_, ?_⟩; (focus (have c1 := hS.2.cell; have l1 := hS.2.lt; clear hS hB hf; go_simp; first | exact ⟨Below.refl _ _, rfl⟩ | exact rfl)); try simp (config := { maxSteps := 10000000 }) only [specV, addF, Act.put, List.setIfInBounds_toArray, List.set_cons_zero, List.set_cons_succ, List.take_succ_cons, List.take_zero, List.drop_succ_cons, List.drop_zero])
  intro vs W5 hS hB5 _
  dsimp only
  obtain ⟨c5, f5⟩ := hS.1.tag (k := ix) (by rw [HlT.out, ← HLT.out]; exact HIX.out)
  have l5 := hS.1.lt.2.2.1
  have D5 := Lib.hid hS.1
  have K5 := Lib.hid hS.2
  have U5 := Lib.hid (U4.out.trans (Turns.below hB5))
  clear hS hB5 HD KC4 U4
  go_upto_region 5 with fail
  refine wp_gen (fun w' => TrM w' mb bB bT bP D' (T.set ix t) P ∧ Blk w' w.heap.size #[.bool (t), .int .i64 (b), .int .i64 (p), .int .i64 (a), .int .i64 (q), .int .i64 (y)] 23 ∧ Turns [bB, bT, bP] w w')
    ⟨by have h := D5.out.setTag ix t; rw [ST.out] at h; exact h, K5.out.set_other (fun e => by have := HNM.out bT (by simp); omega) _ _, U5.out.trans (Turns.set _ (by simp) _ _)⟩ ?_
  clear c5 f5 l5 D5 K5 U5
  rintro W8 ⟨h8, k8, u8'⟩
  obtain ⟨c8, f8⟩ := h8.dirty HI.out
  have l8 := h8.lt.2.2.2
  have l9 := h8.lt.1
  have c9 := h8.2.2.1.cell
  have c10 := k8.cell
  have l10 := k8.lt
  have D3 := Lib.hid h8
  have U3 := Lib.hid u8'
  clear h8 k8 u8'
  have hlen : Hid ((T.set ix t).length = 16 * P.length) := Lib.hid (by rw [List.length_set]; exact HLT.out)
  cases t with
  | false =>
    go_wp2
    go_ret
    refine ⟨rfl, ?_, U3.out⟩
    rw [HZ.out.2, HD'.out]
    exact D3.out
  | true =>
    go_wp2
    go_ret
    refine ⟨rfl, ?_, U3.out.trans (Turns.set _ (by simp) _ _)⟩
    rw [HZ.out.2, HD'.out]
    exact D3.out.setDirty i true

set_option maxRecDepth 100000 in
set_option maxHeartbeats 1600000 in
theorem tr_storecap_no (mb bB bT bP : Nat) (D : List Int) (T P : List Bool) (at_ : Int) (t : Bool) (b p a q y : Int) (w : World) (h : TrM w mb bB bT bP D T P) (ha : inI at_) (hr : (plB P.length at_ && rightB t b p a q y) = false) :
    Calls Try.prog 50 #[.pointer (some ⟨mb, 0, none⟩), .int .i64 at_, .agg #[.bool (t), .int .i64 (b), .int .i64 (p), .int .i64 (a), .int .i64 (q), .int .i64 (y)]] w fun e w' => e = .returned (.bool false) ∧ Below w.heap.size w w' := by
  have h1 := h.alloc (.cells #[.bool (t), .int .i64 (b), .int .i64 (p), .int .i64 (a), .int .i64 (q), .int .i64 (y)] 23)
  have g1 := tr_place mb bB bT bP D T P at_ _ h1 ha
  have g2 := fun W => ref_right t b p a q y W
  cases hp : plB P.length at_ with
  | false =>
    rw [hp] at g1
    clear h h1 hr hp g2
    go_enter Try.func50, Try.ntmps50
    go_wp2_with fail
    refine g1.mono ?_
    rintro e w1 ⟨rfl, rfl⟩
    clear g1
    go_wp2
    go_ret
    exact ⟨rfl, by go_grown⟩
  | true =>
    rw [hp, Bool.true_and] at hr
    rw [hp] at g1
    rw [hr] at g2
    have G2 := Lib.hid g2
    have kc := (Blk.new w #[.bool (t), .int .i64 (b), .int .i64 (p), .int .i64 (a), .int .i64 (q), .int .i64 (y)] 23).cell
    clear h h1 hp g2 hr
    go_enter Try.func50, Try.ntmps50
    go_wp2_with fail
    refine g1.mono ?_
    rintro e w1 ⟨rfl, rfl⟩
    clear g1
    go_wp2_with fail
    refine (G2.out _).mono ?_
    rintro e w2 ⟨rfl, hb2⟩
    have HB2 := Lib.hid hb2
    clear hb2
    go_wp2
    go_ret
    exact ⟨rfl, below_then (by go_grown) (by simp) HB2.out⟩
end Go.Proofs.Ytjimkkkiilcpoaa
