/- What is refused; StoreCap, the program's. -/
import Derived.Test.YtjimkkkiilcpoaaTmN
set_option linter.unusedVariables false
set_option linter.unusedSimpArgs false
namespace Go.Proofs.Ytjimkkkiilcpoaa
open Go.RowKit

set_option maxRecDepth 100000 in
set_option maxHeartbeats 1600000 in
theorem tm_load_no (b bP : Nat) (D : List Int) (T P : List Bool) (a k : Int) (w : World) (h : TmM w b bP D T P) (ha : inI a) (hk : inI k) (hn : inB P.length a k = false) :
    Calls Try.prog 55 #[.pointer (some ⟨b, 0, none⟩), .int .i64 a, .int .i64 k] w fun e w' => e = .returned (.tuple #[.slice none 0 0, .bool false]) ∧ w = w' := by
  have g1 := tm_in b bP D T P a k w h ha hk
  rw [hn] at g1
  clear h hn
  go_enter Try.func55, Try.ntmps55
  go_wp2_with fail
  refine g1.mono ?_
  rintro e w1 ⟨rfl, rfl⟩
  clear g1
  go_wp2
  go_ret2
  exact ⟨rfl, rfl⟩

set_option maxRecDepth 100000 in
set_option maxHeartbeats 1600000 in
theorem tm_store_no (b bP : Nat) (D : List Int) (T P : List Bool) (a : Int) (A : Option Addr) (n c : Nat) (w : World) (h : TmM w b bP D T P) (ha : inI a) (hk : (n : Int) ≤ 9223372036854775807) (hn : inB P.length a n = false) :
    Calls Try.prog 59 #[.pointer (some ⟨b, 0, none⟩), .int .i64 a, .slice A n c] w fun e w' => e = .returned (.bool false) ∧ Below w.heap.size w w' := by
  have g1 := tm_in b bP D T P a n _ (h.alloc (.cells #[.slice A n c] 24)) ha ⟨by omega, hk⟩
  rw [hn] at g1
  clear h hn
  go_enter Try.func59, Try.ntmps59
  go_wp2_with fail
  refine g1.mono ?_
  rintro e w1 ⟨rfl, rfl⟩
  clear g1
  go_wp2
  go_ret
  exact ⟨rfl, by go_grown⟩

theorem wpList_copy {P : Program} {ops : Array Oper} {rest : List Oper} {o : Oper} {a : Act} {Q : Exit → Act → World → Prop} {W W' : World} {d s : Operand} {t1 t2 : TypeId} {vd vs v : Value} (hgd : o.guard = none)
    (ho : o.op = .call { callee := .builtin .copy, args := #[d, s], argTypes := #[t1, t2] }) (hd : a.eval d = vd) (hs : a.eval s = vs) (hrun : (Builtin.copy_ #[t1, t2] o.type #[vd, vs]).run P W = .ok v W')
    (h : wpList P ops Q rest (a.put o.dst v) W') : wpList P ops Q (o :: rest) a W :=
  wpList_plain hgd fun K hK => by
    unfold Oper.wp execOp
    simp only [ho, resolve, invoke, builtin, Sem.run_bind, Sem.run_pure, Result.andThen_ok, List.map_toArray, List.map_cons, List.map_nil, hd, hs, hrun]
    exact hK _ _ h

/-- What StoreCap makes of tags and dirty pages. -/
def capT (T : List Bool) (a : Int) (t : Bool) : List Bool := T.set (a / 16).toNat t
def capP (P : List Bool) (a : Int) (t : Bool) : List Bool := if t then P.set (a / 256).toNat true else P
theorem set_same (P : List Bool) (i : Nat) (hi : i < P.length) : P.set i (P.getD i false) = P := by
  refine list_ext_getD _ _ false (by rw [List.length_set]) fun k hk => ?_
  rw [getD_setL _ _ _ _ _ hi]
  split
  · rename_i e; rw [e]
  · rfl
theorem putBytes_len (b p a q y : Int) : (putBytes b p a q y).length = 16 := rfl

set_option maxRecDepth 100000 in
set_option maxHeartbeats 1600000 in
theorem tm_storecap (mb bP : Nat) (D : List Int) (T P : List Bool) (i k : Nat) (t : Bool) (b p a q y : Int) (w : World) (h : TmM w mb bP D T P) (hi : i < P.length) (hk : k < 16) (hq : inI q) (hr : rightB t b p a q y = true) :
    Calls Try.prog 49 #[.pointer (some ⟨mb, 0, none⟩), .int .i64 ((i * 256 + k * 16 : Nat) : Int), .agg #[.bool (t), .int .i64 (b), .int .i64 (p), .int .i64 (a), .int .i64 (q), .int .i64 (y)]] w fun e w' => e = .returned (.bool true) ∧
      TmM w' mb bP (writeL D (i * 256 + k * 16) (putL t b p a q y)) (T.set (i * 16 + k) t) (if t then P.set i true else P) ∧ Turns [bP] w w' := by
  have hle := h.1.2.2.1
  have hw0 : Below w.heap.size w (w.alloc (.cells #[.bool (t), .int .i64 (b), .int .i64 (p), .int .i64 (a), .int .i64 (q), .int .i64 (y)] 23)) := by go_grown
  have h1 := h.alloc (.cells #[.bool (t), .int .i64 (b), .int .i64 (p), .int .i64 (a), .int .i64 (q), .int .i64 (y)] 23)
  have g1 := tm_granule mb bP D T P i k _ h1 hi hk
  have kc : Blk (w.alloc (.cells #[.bool (t), .int .i64 (b), .int .i64 (p), .int .i64 (a), .int .i64 (q), .int .i64 (y)] 23)) w.heap.size #[.bool (t), .int .i64 (b), .int .i64 (p), .int .i64 (a), .int .i64 (q), .int .i64 (y)] 23 := Blk.new _ _ _
  have g2 := fun W => cap_right t b p a q y W hq
  rw [hr] at g2
  have G2 := Lib.hid g2
  have G3 := Lib.hid (fun W => put_row t b p a q y W hq)
  have H1 := Lib.hid h1
  have hnm : mb ≠ w.heap.size ∧ bP ≠ w.heap.size := by have := h.lt; omega
  have HNM := Lib.hid hnm
  have HL : Hid ((putL t b p a q y).length = 16) := Lib.hid (by rw [putL, if_pos hr, putBytes_len])
  have HPB := Lib.hid (isB_putL t b p a q y)
  generalize putL t b p a q y = bs at *
  generalize hz : ((i * 256 + k * 16 : Nat) : Int) = z at *
  have hlt := h.lt
  clear h h1 g2 hz hnm
  obtain ⟨W1, hW1⟩ : ∃ W1, w.alloc (.cells #[.bool (t), .int .i64 (b), .int .i64 (p), .int .i64 (a), .int .i64 (q), .int .i64 (y)] 23) = W1 := ⟨_, rfl⟩
  have hs1 : W1.heap.size = w.heap.size + 1 := by rw [← hW1]; simp
  have HW0 : Hid (Below w.heap.size w W1) := Lib.hid (by rw [← hW1]; exact hw0)
  rw [hW1] at kc H1 g1
  go_enter Try.func49, Try.ntmps49
  go_wp2_with fail
  clear hW1 hw0
  refine g1.mono ?_
  rintro e w1 ⟨rfl, rfl⟩
  clear g1
  have c1 := kc.cell
  have l1 := kc.lt
  go_wp2_with fail
  refine (G2.out _).mono ?_
  rintro e w2 ⟨rfl, hb2⟩
  have KC := Lib.hid (kc.below hb2 kc.lt)
  have H2 := Lib.hid (H1.out.below hb2 H1.out.lt.1 H1.out.lt.2)
  have HW2 := Lib.hid (below_then HW0.out HW0.out.size hb2)
  clear kc c1 l1 hb2 H1 HW0 G2 hs1
  obtain ⟨kk, hkk⟩ : ∃ kk, k * 16 = kk := ⟨_, rfl⟩
  have q0 : (k : Int) * 16 = (kk : Int) := by omega
  have q1 : (kk : Int) ≤ 256 := by omega
  have q2 : ¬ 256 = kk := by omega
  have q3 : ¬ kk = 256 := by omega
  have hwk : IntKind.i64.wrap (kk : Int) = (kk : Int) := IntWalk.i64_in _ (by omega)
  have HKK := Lib.hid hkk
  clear hkk
  have q4 : (k : Int) < 16 := by omega
  have HK := Lib.hid hk
  have HI := Lib.hid hi
  go_wp2_with fail
  refine wp_flow_lit 8 (fun w' => TmM w' mb bP D T P ∧ Blk w' w.heap.size #[.bool (t), .int .i64 (b), .int .i64 (p), .int .i64 (a), .int .i64 (q), .int .i64 (y)] 23)
    [none, none, none, none, none, none, none, some (fun v w' => RowU w' v bs)] (by kernel_rfl) (by kernel_rfl) ⟨H2.out.drew, KC.out.drew⟩
    (fun w1 w2 h hb => ⟨h.1.below hb h.1.lt.1 h.1.lt.2, h.2.below hb h.2.lt⟩) ⟨fun v w1 w2 h hb => h.below hb, trivial⟩ ?_
  try simp (config := { maxSteps := 10000000 }) only [specV, addF, Act.put, List.setIfInBounds_toArray, List.set_cons_zero, List.set_cons_succ, List.take_succ_cons, List.take_zero, List.drop_succ_cons, List.drop_zero]
  (apply Exists.intro; refine ⟨fun vs w1 hS hB hf => ?_, ?_⟩; (focus (clear hS hB hf; go_simp; first | exact ⟨Below.refl _ _, rfl⟩ | exact rfl)); try simp (config := { maxSteps := 10000000 }) only [specV, addF, Act.put, List.setIfInBounds_toArray, List.set_cons_zero, List.set_cons_succ, List.take_succ_cons, List.take_zero, List.drop_succ_cons, List.drop_zero])
  (apply Exists.intro; refine ⟨fun vs w1 hS hB hf => ?_, ?_⟩; (focus (clear hS hB hf; go_simp; first | exact ⟨Below.refl _ _, rfl⟩ | exact rfl)); try simp (config := { maxSteps := 10000000 }) only [specV, addF, Act.put, List.setIfInBounds_toArray, List.set_cons_zero, List.set_cons_succ, List.take_succ_cons, List.take_zero, List.drop_succ_cons, List.drop_zero])
  (apply Exists.intro; refine ⟨fun vs w1 hS hB hf => ?_, ?_⟩; (focus (clear hS hB hf; go_simp; first | exact ⟨Below.refl _ _, rfl⟩ | exact rfl)); try simp (config := { maxSteps := 10000000 }) only [specV, addF, Act.put, List.setIfInBounds_toArray, List.set_cons_zero, List.set_cons_succ, List.take_succ_cons, List.take_zero, List.drop_succ_cons, List.drop_zero])
  (apply Exists.intro; refine ⟨fun vs w1 hS hB hf => ?_, ?_⟩; (focus (clear hS hB hf; go_simp; first | exact ⟨Below.refl _ _, rfl⟩ | exact rfl)); try simp (config := { maxSteps := 10000000 }) only [specV, addF, Act.put, List.setIfInBounds_toArray, List.set_cons_zero, List.set_cons_succ, List.take_succ_cons, List.take_zero, List.drop_succ_cons, List.drop_zero])
  (apply Exists.intro; refine ⟨fun vs w1 hS hB hf => ?_, ?_⟩; (focus (clear hS hB hf; go_simp; first | exact ⟨Below.refl _ _, rfl⟩ | exact rfl)); try simp (config := { maxSteps := 10000000 }) only [specV, addF, Act.put, List.setIfInBounds_toArray, List.set_cons_zero, List.set_cons_succ, List.take_succ_cons, List.take_zero, List.drop_succ_cons, List.drop_zero])
  (apply Exists.intro; refine ⟨fun vs w1 hS hB hf => ?_, ?_⟩; (focus (clear hS hB hf; go_simp; first | exact ⟨Below.refl _ _, rfl⟩ | exact rfl)); try simp (config := { maxSteps := 10000000 }) only [specV, addF, Act.put, List.setIfInBounds_toArray, List.set_cons_zero, List.set_cons_succ, List.take_succ_cons, List.take_zero, List.drop_succ_cons, List.drop_zero])
  (apply Exists.intro; refine ⟨fun vs w1 hS hB hf => ?_, ?_⟩; (focus (have c1 := hS.2.cell; have l1 := hS.2.lt; clear hS hB hf; go_simp; first | exact ⟨Below.refl _ _, rfl⟩ | exact rfl)); try simp (config := { maxSteps := 10000000 }) only [specV, addF, Act.put, List.setIfInBounds_toArray, List.set_cons_zero, List.set_cons_succ, List.take_succ_cons, List.take_zero, List.drop_succ_cons, List.drop_zero])
  (refine ⟨fun vs w1 hS hB hf => ?_, ?_⟩; (focus (go_simp; exact (G3.out w1).mono fun e w2 ⟨v, he, ho, hb⟩ => callPost.of he hb ho)); try simp (config := { maxSteps := 10000000 }) only [specV, addF, Act.put, List.setIfInBounds_toArray, List.set_cons_zero, List.set_cons_succ, List.take_succ_cons, List.take_zero, List.drop_succ_cons, List.drop_zero])
  intro vs W5 hS hB5 hF
  obtain ⟨hrow, _⟩ := hF
  dsimp only
  obtain ⟨g, o, c2, hv, hc2, hcell⟩ := hrow.cells (by rw [HL.out]; omega)
  rw [hv] at hrow ⊢
  rw [HL.out] at hrow hc2 ⊢
  obtain ⟨hT5, hK5⟩ := hS
  have hl2 : (u8s bs).length = 16 := by rw [u8s, List.length_map]; exact HL.out
  have hrun := run_copy_row (P := Try.prog) W5 24 24 3 5 bP (i * 273 + kk) (256 - kk) (256 - kk) ⟨g, o, none⟩ 16 c2 (pagesA D T P) 116 (u8s bs) Try.underlying24 (by kernel_rfl) hT5.2.2.2
    (by rw [hl2]; exact (Nat.min_eq_left (by have := HKK.out; omega)).symm) (fun j u hu => by obtain ⟨ad, e, hc⟩ := hrow.row j u hu; cases e; exact hc) (by rw [hl2, pagesA_size]; have := HKK.out; omega) (by intro u hu; simp [u8s] at hu; obtain ⟨y, _, rfl⟩ := hu; rfl)
  have hTw := hT5.write (i := i) (j := kk) (bs := bs) hi (by rw [HL.out]; have := HKK.out; omega) HPB.out
  have hKw : Blk (W5.setRow bP ((pagesA D T P).toList.take (i * 273 + kk) ++ u8s bs ++ (pagesA D T P).toList.drop (i * 273 + kk + (u8s bs).length)).toArray) w.heap.size #[.bool (t), .int .i64 (b), .int .i64 (p), .int .i64 (a), .int .i64 (q), .int .i64 (y)] 23 := (setRow_other _ _ _ _ (Ne.symm HNM.out.2)).trans hK5
  have hTu : Turns [bP] w (W5.setRow bP ((pagesA D T P).toList.take (i * 273 + kk) ++ u8s bs ++ (pagesA D T P).toList.drop (i * 273 + kk + (u8s bs).length)).toArray) := (Turns.below (below_then HW2.out HW2.out.size hB5)).trans (Turns.setRow _ _ _)
  refine wpList_copy rfl rfl rfl rfl hrun ?_
  have D1 := Lib.hid hTw
  have K1 := Lib.hid hKw
  have U1 := Lib.hid hTu
  clear hrun hTw hKw hTu hT5 hK5 hrow hcell hv hB5 H2 KC HW2 G3 hl2 hc2
  generalize W5.setRow bP ((pagesA D T P).toList.take (i * 273 + kk) ++ u8s bs ++ (pagesA D T P).toList.drop (i * 273 + kk + (u8s bs).length)).toArray = W6 at *
  obtain ⟨D', hD'⟩ : ∃ D', writeL D (i * 256 + kk) bs = D' := ⟨_, rfl⟩
  rw [hD'] at D1
  have HD' := Lib.hid hD'
  clear hD'
  go_upto_region 5 with fail
  refine wp_flow_lit 7 (fun w' => TmM w' mb bP D' T P ∧ Blk w' w.heap.size #[.bool (t), .int .i64 (b), .int .i64 (p), .int .i64 (a), .int .i64 (q), .int .i64 (y)] 23)
    [none, none, none, none, none, none, none] (by kernel_rfl) (by kernel_rfl) ⟨D1.out.drew, K1.out.drew⟩
    (fun w1 w2 h hb => ⟨h.1.below hb h.1.lt.1 h.1.lt.2, h.2.below hb h.2.lt⟩) trivial ?_
  try simp (config := { maxSteps := 10000000 }) only [specV, addF, Act.put, List.setIfInBounds_toArray, List.set_cons_zero, List.set_cons_succ, List.take_succ_cons, List.take_zero, List.drop_succ_cons, List.drop_zero]
  (apply Exists.intro; refine ⟨fun vs w1 hS hB hf => ?_, ?_⟩; (focus (clear hS hB hf; go_simp; first | exact ⟨Below.refl _ _, rfl⟩ | exact rfl)); try simp (config := { maxSteps := 10000000 }) only [specV, addF, Act.put, List.setIfInBounds_toArray, List.set_cons_zero, List.set_cons_succ, List.take_succ_cons, List.take_zero, List.drop_succ_cons, List.drop_zero])
  (apply Exists.intro; refine ⟨fun vs w1 hS hB hf => ?_, ?_⟩; (focus (clear hS hB hf; go_simp; first | exact ⟨Below.refl _ _, rfl⟩ | exact rfl)); try simp (config := { maxSteps := 10000000 }) only [specV, addF, Act.put, List.setIfInBounds_toArray, List.set_cons_zero, List.set_cons_succ, List.take_succ_cons, List.take_zero, List.drop_succ_cons, List.drop_zero])
  (apply Exists.intro; refine ⟨fun vs w1 hS hB hf => ?_, ?_⟩; (focus (clear hS hB hf; go_simp; first | exact ⟨Below.refl _ _, rfl⟩ | exact rfl)); try simp (config := { maxSteps := 10000000 }) only [specV, addF, Act.put, List.setIfInBounds_toArray, List.set_cons_zero, List.set_cons_succ, List.take_succ_cons, List.take_zero, List.drop_succ_cons, List.drop_zero])
  (apply Exists.intro; refine ⟨fun vs w1 hS hB hf => ?_, ?_⟩; (focus (have c1 := hS.2.cell; have l1 := hS.2.lt; clear hS hB hf; go_simp; first | exact ⟨Below.refl _ _, rfl⟩ | exact rfl)); try simp (config := { maxSteps := 10000000 }) only [specV, addF, Act.put, List.setIfInBounds_toArray, List.set_cons_zero, List.set_cons_succ, List.take_succ_cons, List.take_zero, List.drop_succ_cons, List.drop_zero])
  (apply Exists.intro; refine ⟨fun vs w1 hS hB hf => ?_, ?_⟩; (focus (clear hS hB hf; go_simp; first | exact ⟨Below.refl _ _, rfl⟩ | exact rfl)); try simp (config := { maxSteps := 10000000 }) only [specV, addF, Act.put, List.setIfInBounds_toArray, List.set_cons_zero, List.set_cons_succ, List.take_succ_cons, List.take_zero, List.drop_succ_cons, List.drop_zero])
  (apply Exists.intro; refine ⟨fun vs w1 hS hB hf => ?_, ?_⟩; (focus (clear hS hB hf; go_simp; first | exact ⟨Below.refl _ _, rfl⟩ | exact rfl)); try simp (config := { maxSteps := 10000000 }) only [specV, addF, Act.put, List.setIfInBounds_toArray, List.set_cons_zero, List.set_cons_succ, List.take_succ_cons, List.take_zero, List.drop_succ_cons, List.drop_zero])
  (apply Exists.intro; refine ⟨fun vs w1 hS hB hf => ?_, ?_⟩; (focus (clear hS hB hf; go_simp; first | exact ⟨Below.refl _ _, rfl⟩ | exact rfl)); try simp (config := { maxSteps := 10000000 }) only [specV, addF, Act.put, List.setIfInBounds_toArray, List.set_cons_zero, List.set_cons_succ, List.take_succ_cons, List.take_zero, List.drop_succ_cons, List.drop_zero])
  intro vs W7 hS hB7 _
  dsimp only
  obtain ⟨c7, f7⟩ := hS.1.tag (k := k) hi hk
  have l7 := hS.1.lt.2
  have D2 := Lib.hid hS.1
  have K2 := Lib.hid hS.2
  have U2 := Lib.hid (U1.out.trans (Turns.below hB7))
  clear hS hB7 D1 K1 U1
  go_upto_region 6 with fail
  refine wp_gen (fun w' => TmM w' mb bP D' (T.set (i * 16 + k) t) P ∧ Blk w' w.heap.size #[.bool (t), .int .i64 (b), .int .i64 (p), .int .i64 (a), .int .i64 (q), .int .i64 (y)] 23 ∧ Turns [bP] w w') ⟨D2.out.setTag HI.out HK.out t, K2.out.set_other (Ne.symm HNM.out.2) _ _, U2.out.trans (Turns.set _ (by simp) _ _)⟩ ?_
  clear c7 f7 l7 D2 K2 U2
  rintro W8 ⟨h8, k8, u8'⟩
  obtain ⟨c8, f8⟩ := h8.dirty hi
  have l8 := h8.lt.2
  have c9 := k8.cell
  have l9 := k8.lt
  have D3 := Lib.hid h8
  have U3 := Lib.hid u8'
  have hset := Lib.hid (set_same P i hi)
  generalize hdt : P.getD i false = dt at *
  clear h8 k8 u8' hdt
  cases t with
  | false =>
    go_wp2
    · rename_i hd
      subst hd
      go_ret
      have h := D3.out.setDirty HI.out true
      rw [hset.out] at h
      refine ⟨rfl, ?_, U3.out.trans (Turns.set _ (by simp) _ _)⟩
      rw [HKK.out, HD'.out]
      exact h
    · rename_i hd
      obtain rfl : dt = false := by simpa using hd
      go_ret
      have h := D3.out.setDirty HI.out false
      rw [hset.out] at h
      refine ⟨rfl, ?_, U3.out.trans (Turns.set _ (by simp) _ _)⟩
      rw [HKK.out, HD'.out]
      exact h
  | true =>
    go_wp2
    all_goals
      go_ret
      have h := D3.out.setDirty HI.out true
      refine ⟨rfl, ?_, U3.out.trans (Turns.set _ (by simp) _ _)⟩
      rw [HKK.out, HD'.out]
      exact h

set_option maxRecDepth 100000 in
set_option maxHeartbeats 1600000 in
theorem tm_storecap_no (mb bP : Nat) (D : List Int) (T P : List Bool) (at_ : Int) (t : Bool) (b p a q y : Int) (w : World) (h : TmM w mb bP D T P) (ha : inI at_) (hq : inI q) (hr : (plB P.length at_ && rightB t b p a q y) = false) :
    Calls Try.prog 49 #[.pointer (some ⟨mb, 0, none⟩), .int .i64 at_, .agg #[.bool (t), .int .i64 (b), .int .i64 (p), .int .i64 (a), .int .i64 (q), .int .i64 (y)]] w fun e w' => e = .returned (.bool false) ∧ Below w.heap.size w w' := by
  have h1 := h.alloc (.cells #[.bool (t), .int .i64 (b), .int .i64 (p), .int .i64 (a), .int .i64 (q), .int .i64 (y)] 23)
  have g2 := fun W => cap_right t b p a q y W hq
  cases hp : plB P.length at_ with
  | false =>
    have g1 := tm_granule_no mb bP D T P at_ _ h1 ha hp
    clear h h1 hr hp g2
    go_enter Try.func49, Try.ntmps49
    go_wp2_with fail
    refine g1.mono ?_
    rintro e w1 ⟨rfl, rfl⟩
    clear g1
    go_wp2
    go_ret
    exact ⟨rfl, by go_grown⟩
  | true =>
    rw [hp, Bool.true_and] at hr
    rw [hr] at g2
    obtain ⟨i, k, hi, hk, rfl⟩ := pl_split hp
    have g1 := tm_granule mb bP D T P i k _ h1 hi hk
    generalize hz : ((i * 256 + k * 16 : Nat) : Int) = z at *
    have G2 := Lib.hid g2
    have kc := (Blk.new w #[.bool (t), .int .i64 (b), .int .i64 (p), .int .i64 (a), .int .i64 (q), .int .i64 (y)] 23).cell
    clear h h1 hp hz g2 hr
    go_enter Try.func49, Try.ntmps49
    go_wp2_with fail
    refine g1.mono ?_
    rintro e w1 ⟨rfl, rfl⟩
    clear g1
    go_wp2_with fail
    refine (G2.out _).mono ?_
    rintro e w2 ⟨rfl, hb2⟩
    have HB2 := Lib.hid hb2
    clear hb2
    go_wp2
    go_ret
    exact ⟨rfl, below_then (by go_grown) (by simp) HB2.out⟩
end Go.Proofs.Ytjimkkkiilcpoaa

/- StoreCap, the document's. -/
namespace Go.Proofs.Ytjimkkkiilcpoaa
open Go.RowKit

theorem TrM.alloc {w : World} {b bB bT bP : Nat} {D : List Int} {T P : List Bool} (h : TrM w b bB bT bP D T P) (o : Obj) : TrM (w.alloc o) b bB bT bP D T P :=
  ⟨h.1, h.2.1, h.2.2.1.alloc _, h.2.2.2.1.alloc _, h.2.2.2.2.1.alloc _, h.2.2.2.2.2.alloc _⟩
theorem TrM.drew {w : World} {b bB bT bP : Nat} {D : List Int} {T P : List Bool} (h : TrM w b bB bT bP D T P) : TrM w.drew b bB bT bP D T P :=
  ⟨h.1, h.2.1, h.2.2.1.drew, h.2.2.2.1.drew, h.2.2.2.2.1.drew, h.2.2.2.2.2.drew⟩
theorem TrM.grow {w w1 : World} {b bB bT bP : Nat} {D : List Int} {T P : List Bool} (h : TrM w b bB bT bP D T P) (hb : Below w.heap.size w w1) : TrM w1 b bB bT bP D T P := h.below hb h.lt.1 h.lt.2.1 h.lt.2.2.1 h.lt.2.2.2
theorem TmM.grow {w w1 : World} {b bP : Nat} {D : List Int} {T P : List Bool} (h : TmM w b bP D T P) (hb : Below w.heap.size w w1) : TmM w1 b bP D T P := h.below hb h.lt.1 h.lt.2

theorem storeT_cap (T : List Bool) (i k : Nat) (t : Bool) (h : i * 16 + k < T.length) : (storeT T (i * 256 + k * 16) 16).set (i * 16 + k) t = T.set (i * 16 + k) t := by
  refine list_ext_getD _ _ false (by rw [List.length_set, List.length_set, storeT_length]) fun x hx => ?_
  rw [getD_setL _ _ _ _ _ (by rw [storeT_length]; exact h), getD_setL _ _ _ _ _ h, storeT_getD]
  split
  · rfl
  · rename_i e
    rw [decide_eq_false (by omega)]
    simp

set_option maxRecDepth 100000 in
set_option maxHeartbeats 1600000 in
theorem tr_storecap (mb bB bT bP : Nat) (D : List Int) (T P : List Bool) (i k : Nat) (t : Bool) (b p a q y : Int) (w : World) (h : TrM w mb bB bT bP D T P) (hi : i < P.length) (hk : k < 16) (hr : rightB t b p a q y = true) :
    Calls Try.prog 50 #[.pointer (some ⟨mb, 0, none⟩), .int .i64 ((i * 256 + k * 16 : Nat) : Int), .agg #[.bool (t), .int .i64 (b), .int .i64 (p), .int .i64 (a), .int .i64 (q), .int .i64 (y)]] w fun e w' => e = .returned (.bool true) ∧
      TrM w' mb bB bT bP (writeL D (i * 256 + k * 16) (putL t b p a q y)) (T.set (i * 16 + k) t) (if t then P.set i true else P) ∧ Turns [bB, bT, bP] w w' := by
  have hle := h.1.2.2.1
  have hlT := h.1.2.1
  have hp : plB P.length ((i * 256 + k * 16 : Nat) : Int) = true := by rw [plB, decide_eq_true_eq]; omega
  have hw0 : Below w.heap.size w (w.alloc (.cells #[.bool (t), .int .i64 (b), .int .i64 (p), .int .i64 (a), .int .i64 (q), .int .i64 (y)] 23)) := by go_grown
  have h1 := h.alloc (.cells #[.bool (t), .int .i64 (b), .int .i64 (p), .int .i64 (a), .int .i64 (q), .int .i64 (y)] 23)
  have g1 := tr_place mb bB bT bP D T P _ _ h1 (show inI ((i * 256 + k * 16 : Nat) : Int) from ⟨by omega, by omega⟩)
  rw [hp] at g1
  have kc : Blk (w.alloc (.cells #[.bool (t), .int .i64 (b), .int .i64 (p), .int .i64 (a), .int .i64 (q), .int .i64 (y)] 23)) w.heap.size #[.bool (t), .int .i64 (b), .int .i64 (p), .int .i64 (a), .int .i64 (q), .int .i64 (y)] 23 := Blk.new _ _ _
  have g2 := fun W => ref_right t b p a q y W
  rw [hr] at g2
  have G2 := Lib.hid g2
  have G3 := Lib.hid (fun W => ref_put_any t b p a q y W hr)
  have hps : putL t b p a q y = putBytes b p a q y := by rw [putL, if_pos hr]
  have HPB := Lib.hid (isB_putL t b p a q y)
  rw [hps] at HPB ⊢
  have HL : Hid ((putBytes b p a q y).length = 16) := Lib.hid (putBytes_len ..)
  generalize putBytes b p a q y = bs at *
  have hnm : ∀ x ∈ [mb, bB, bT, bP], x < w.heap.size := by have := h.lt; intro x hx; simp at hx; omega
  have HNM := Lib.hid hnm
  have H1 := Lib.hid h1
  have HI := Lib.hid hi
  have HK := Lib.hid hk
  have HLT := Lib.hid hlT
  have G4 := Lib.hid (fun (A : Option Addr) (c : Nat) (W : World) (hT : TrM W mb bB bT bP D T P) (hr : RowU W (.slice A bs.length c) bs) (hA : ∀ ad, A = some ad → ad.block ∉ [bB, bT, bP]) =>
    tr_store mb bB bT bP D T P (i * 256 + k * 16) A c bs W hT hr HPB.out (by rw [HL.out]; omega) (fun _ => hA))
  have e1 : ((i * 256 + k * 16 : Nat) : Int) / 16 = ((i * 16 + k : Nat) : Int) := by omega
  have e2 : ((i * 256 + k * 16 : Nat) : Int) / 256 = ((i : Nat) : Int) := by omega
  have e3 : ((i * 16 + k : Nat) : Int) < ((16 * P.length : Nat) : Int) := by omega
  have e4 : ((i : Nat) : Int) < (P.length : Int) := by omega
  have e5 : IntKind.i64.wrap ((i * 16 + k : Nat) : Int) = ((i * 16 + k : Nat) : Int) := IntWalk.i64_in _ (by omega)
  have ST := Lib.hid (storeT_cap T i k t (by omega))
  have hix : i * 16 + k < T.length := by omega
  have HIX := Lib.hid hix
  generalize hz : ((i * 256 + k * 16 : Nat) : Int) = z at *
  obtain ⟨zz, hzz⟩ : ∃ zz, i * 256 + k * 16 = zz := ⟨_, rfl⟩
  rw [hzz] at ST
  generalize hix2 : i * 16 + k = ix at *
  have HIX2 := Lib.hid hix2
  have HZ := Lib.hid (And.intro hz hzz)
  clear h h1 g2 hz hnm hps hp hi hk hlT hzz hix hix2
  obtain ⟨W1, hW1⟩ : ∃ W1, w.alloc (.cells #[.bool (t), .int .i64 (b), .int .i64 (p), .int .i64 (a), .int .i64 (q), .int .i64 (y)] 23) = W1 := ⟨_, rfl⟩
  have HW0 : Hid (Below w.heap.size w W1) := Lib.hid (by rw [← hW1]; exact hw0)
  rw [hW1] at kc H1 g1
  go_enter Try.func50, Try.ntmps50
  go_wp2_with fail
  clear hW1 hw0
  refine g1.mono ?_
  rintro e w1 ⟨rfl, rfl⟩
  clear g1
  have c1 := kc.cell
  have l1 := kc.lt
  go_wp2_with fail
  refine (G2.out _).mono ?_
  rintro e w2 ⟨rfl, hb2⟩
  have kc2 := kc.below hb2 kc.lt
  have H2 := Lib.hid (H1.out.grow hb2)
  have HW2 := Lib.hid (below_then HW0.out HW0.out.size hb2)
  clear kc c1 l1 hb2 H1 HW0 G2
  have c2 := kc2.cell
  have l2 := kc2.lt
  go_wp2_with fail
  refine (G3.out _).mono ?_
  rintro e w3 ⟨v3, rfl, hown3, hb3⟩
  obtain ⟨A3, c3, rfl⟩ := own_form hown3
  have KC := Lib.hid (kc2.below hb3 kc2.lt)
  have H3 := Lib.hid (H2.out.grow hb3)
  have HW3 := Lib.hid (below_then HW2.out HW2.out.size hb3)
  have hA3 : ∀ ad, A3 = some ad → ad.block ∉ [bB, bT, bP] := fun ad e hm => by
    subst e
    have h1 := (hown3.lt ad.block (by rcases hown3.2 with ⟨h, _⟩ | ⟨g, _, _, h, _⟩; cases h; cases h; rfl)).1
    have h2 := HNM.out ad.block (List.mem_cons_of_mem _ hm)
    have := HW2.out.size
    omega
  have hr3 : RowU w3 (.slice A3 bs.length c3) bs := by have := RowU.own hown3; rw [HL.out]; exact this
  have g4 := G4.out A3 c3 w3 H3.out hr3 hA3
  rw [HL.out, HZ.out.2] at g4
  have G5 := Lib.hid g4
  clear g4 hr3 hA3 hown3 kc2 hb3 G3 G4 H2 HW2 c2 l2 H3
  go_wp2_with fail
  refine G5.out.mono ?_
  rintro e w4 ⟨rfl, hT4, ht4⟩
  have KC4 := Lib.hid (KC.out.turns ht4 (fun hm => by have := HNM.out _ (List.mem_cons_of_mem _ hm); omega))
  have U4 := Lib.hid ((Turns.below HW3.out).trans ht4)
  have D4 := Lib.hid hT4
  clear hT4 ht4 G5 KC HW3
  have HD : Hid (TrM w4 mb bB bT bP (writeL D zz bs) (storeT T zz 16) P) := D4
  obtain ⟨D', hD'⟩ : ∃ D', writeL D zz bs = D' := ⟨_, rfl⟩
  obtain ⟨T', hT'⟩ : ∃ T', storeT T zz 16 = T' := ⟨_, rfl⟩
  rw [hD', hT'] at HD
  rw [hT'] at ST
  have HlT : Hid (T'.length = 16 * P.length) := Lib.hid HD.out.1.2.1
  have HD' := Lib.hid hD'
  clear hD' hT' D4
  go_wp2_with fail
  refine wp_flow_lit 8 (fun w' => TrM w' mb bB bT bP D' T' P ∧ Blk w' w.heap.size #[.bool (t), .int .i64 (b), .int .i64 (p), .int .i64 (a), .int .i64 (q), .int .i64 (y)] 23)
    [none, none, none, none, none, none, none, none] (by kernel_rfl) (by kernel_rfl) ⟨HD.out.drew, KC4.out.drew⟩
    (fun w1 w2 h hb => ⟨h.1.grow hb, h.2.below hb h.2.lt⟩) trivial ?_
  try simp (config := { maxSteps := 10000000 }) only [specV, addF, Act.put, List.setIfInBounds_toArray, List.set_cons_zero, List.set_cons_succ, List.take_succ_cons, List.take_zero, List.drop_succ_cons, List.drop_zero]
  (apply Exists.intro; refine ⟨fun vs w1 hS hB hf => ?_, ?_⟩; (focus (clear hS hB hf; go_simp; first | exact ⟨Below.refl _ _, rfl⟩ | exact rfl)); try simp (config := { maxSteps := 10000000 }) only [specV, addF, Act.put, List.setIfInBounds_toArray, List.set_cons_zero, List.set_cons_succ, List.take_succ_cons, List.take_zero, List.drop_succ_cons, List.drop_zero])
  (apply Exists.intro; refine ⟨fun vs w1 hS hB hf => ?_, ?_⟩; (focus (clear hS hB hf; go_simp; first | exact ⟨Below.refl _ _, rfl⟩ | exact rfl)); try simp (config := { maxSteps := 10000000 }) only [specV, addF, Act.put, List.setIfInBounds_toArray, List.set_cons_zero, List.set_cons_succ, List.take_succ_cons, List.take_zero, List.drop_succ_cons, List.drop_zero])
  (apply Exists.intro; refine ⟨fun vs w1 hS hB hf => ?_, ?_⟩; (focus (clear hS hB hf; go_simp; first | exact ⟨Below.refl _ _, rfl⟩ | exact rfl)); try simp (config := { maxSteps := 10000000 }) only [specV, addF, Act.put, List.setIfInBounds_toArray, List.set_cons_zero, List.set_cons_succ, List.take_succ_cons, List.take_zero, List.drop_succ_cons, List.drop_zero])
  (apply Exists.intro; refine ⟨fun vs w1 hS hB hf => ?_, ?_⟩; (focus (have c1 := hS.1.2.2.1.cell; have l1 := hS.1.lt.1; rw [HlT.out] at c1; clear hS hB hf; go_simp; first | exact ⟨Below.refl _ _, rfl⟩ | exact rfl)); try simp (config := { maxSteps := 10000000 }) only [specV, addF, Act.put, List.setIfInBounds_toArray, List.set_cons_zero, List.set_cons_succ, List.take_succ_cons, List.take_zero, List.drop_succ_cons, List.drop_zero])
  (apply Exists.intro; refine ⟨fun vs w1 hS hB hf => ?_, ?_⟩; (focus (clear hS hB hf; go_simp; first | exact ⟨Below.refl _ _, rfl⟩ | exact rfl)); try simp (config := { maxSteps := 10000000 }) only [specV, addF, Act.put, List.setIfInBounds_toArray, List.set_cons_zero, List.set_cons_succ, List.take_succ_cons, List.take_zero, List.drop_succ_cons, List.drop_zero])
  (apply Exists.intro; refine ⟨fun vs w1 hS hB hf => ?_, ?_⟩; (focus (clear hS hB hf; go_simp; first | exact ⟨Below.refl _ _, rfl⟩ | exact rfl)); try simp (config := { maxSteps := 10000000 }) only [specV, addF, Act.put, List.setIfInBounds_toArray, List.set_cons_zero, List.set_cons_succ, List.take_succ_cons, List.take_zero, List.drop_succ_cons, List.drop_zero])
  (apply Exists.intro; refine ⟨fun vs w1 hS hB hf => ?_, ?_⟩; (focus (clear hS hB hf; go_simp; first | exact ⟨Below.refl _ _, rfl⟩ | exact rfl)); try simp (config := { maxSteps := 10000000 }) only [specV, addF, Act.put, List.setIfInBounds_toArray, List.set_cons_zero, List.set_cons_succ, List.take_succ_cons, List.take_zero, List.drop_succ_cons, List.drop_zero])
  (apply Exists.intro; refine ⟨fun vs w1 hS hB hf => ?_, ?_⟩; (focus (have c1 := hS.2.cell; have l1 := hS.2.lt; clear hS hB hf; go_simp; first | exact ⟨Below.refl _ _, rfl⟩ | exact rfl)); try simp (config := { maxSteps := 10000000 }) only [specV, addF, Act.put, List.setIfInBounds_toArray, List.set_cons_zero, List.set_cons_succ, List.take_succ_cons, List.take_zero, List.drop_succ_cons, List.drop_zero])
  intro vs W5 hS hB5 _
  dsimp only
  obtain ⟨c5, f5⟩ := hS.1.tag (k := ix) (by rw [HlT.out, ← HLT.out]; exact HIX.out)
  have l5 := hS.1.lt.2.2.1
  have D5 := Lib.hid hS.1
  have K5 := Lib.hid hS.2
  have U5 := Lib.hid (U4.out.trans (Turns.below hB5))
  clear hS hB5 HD KC4 U4
  go_upto_region 5 with fail
  refine wp_gen (fun w' => TrM w' mb bB bT bP D' (T.set ix t) P ∧ Blk w' w.heap.size #[.bool (t), .int .i64 (b), .int .i64 (p), .int .i64 (a), .int .i64 (q), .int .i64 (y)] 23 ∧ Turns [bB, bT, bP] w w')
    ⟨by have h := D5.out.setTag ix t; rw [ST.out] at h; exact h, K5.out.set_other (fun e => by have := HNM.out bT (by simp); omega) _ _, U5.out.trans (Turns.set _ (by simp) _ _)⟩ ?_
  clear c5 f5 l5 D5 K5 U5
  rintro W8 ⟨h8, k8, u8'⟩
  obtain ⟨c8, f8⟩ := h8.dirty HI.out
  have l8 := h8.lt.2.2.2
  have l9 := h8.lt.1
  have c9 := h8.2.2.1.cell
  have c10 := k8.cell
  have l10 := k8.lt
  have D3 := Lib.hid h8
  have U3 := Lib.hid u8'
  clear h8 k8 u8'
  have hlen : Hid ((T.set ix t).length = 16 * P.length) := Lib.hid (by rw [List.length_set]; exact HLT.out)
  cases t with
  | false =>
    go_wp2
    go_ret
    refine ⟨rfl, ?_, U3.out⟩
    rw [HZ.out.2, HD'.out]
    exact D3.out
  | true =>
    go_wp2
    go_ret
    refine ⟨rfl, ?_, U3.out.trans (Turns.set _ (by simp) _ _)⟩
    rw [HZ.out.2, HD'.out]
    exact D3.out.setDirty i true

set_option maxRecDepth 100000 in
set_option maxHeartbeats 1600000 in
theorem tr_storecap_no (mb bB bT bP : Nat) (D : List Int) (T P : List Bool) (at_ : Int) (t : Bool) (b p a q y : Int) (w : World) (h : TrM w mb bB bT bP D T P) (ha : inI at_) (hr : (plB P.length at_ && rightB t b p a q y) = false) :
    Calls Try.prog 50 #[.pointer (some ⟨mb, 0, none⟩), .int .i64 at_, .agg #[.bool (t), .int .i64 (b), .int .i64 (p), .int .i64 (a), .int .i64 (q), .int .i64 (y)]] w fun e w' => e = .returned (.bool false) ∧ Below w.heap.size w w' := by
  have h1 := h.alloc (.cells #[.bool (t), .int .i64 (b), .int .i64 (p), .int .i64 (a), .int .i64 (q), .int .i64 (y)] 23)
  have g1 := tr_place mb bB bT bP D T P at_ _ h1 ha
  have g2 := fun W => ref_right t b p a q y W
  cases hp : plB P.length at_ with
  | false =>
    rw [hp] at g1
    clear h h1 hr hp g2
    go_enter Try.func50, Try.ntmps50
    go_wp2_with fail
    refine g1.mono ?_
    rintro e w1 ⟨rfl, rfl⟩
    clear g1
    go_wp2
    go_ret
    exact ⟨rfl, by go_grown⟩
  | true =>
    rw [hp, Bool.true_and] at hr
    rw [hp] at g1
    rw [hr] at g2
    have G2 := Lib.hid g2
    have kc := (Blk.new w #[.bool (t), .int .i64 (b), .int .i64 (p), .int .i64 (a), .int .i64 (q), .int .i64 (y)] 23).cell
    clear h h1 hp g2 hr
    go_enter Try.func50, Try.ntmps50
    go_wp2_with fail
    refine g1.mono ?_
    rintro e w1 ⟨rfl, rfl⟩
    clear g1
    go_wp2_with fail
    refine (G2.out _).mono ?_
    rintro e w2 ⟨rfl, hb2⟩
    have HB2 := Lib.hid hb2
    clear hb2
    go_wp2
    go_ret
    exact ⟨rfl, below_then (by go_grown) (by simp) HB2.out⟩
end Go.Proofs.Ytjimkkkiilcpoaa

/- LoadCap, the program's and the document's. -/
namespace Go.Proofs.Ytjimkkkiilcpoaa
open Go.RowKit

/-- The capability that stands somewhere. -/
def ldC (D : List Int) (T : List Bool) (a : Nat) : Bool × Int × Int × Int × Int × Int :=
  (gotT (T.getD (a / 16) false) (partL D a 16), gotB (partL D a 16), gotP (partL D a 16), gotA (partL D a 16), gotQ (partL D a 16), gotY (partL D a 16))
def capV (c : Bool × Int × Int × Int × Int × Int) : Value := .agg #[.bool c.1, .int .i64 c.2.1, .int .i64 c.2.2.1, .int .i64 c.2.2.2.1, .int .i64 c.2.2.2.2.1, .int .i64 c.2.2.2.2.2]
theorem partL_isB {D : List Int} (h : isB D) (a k : Nat) : isB (partL D a k) := fun x hx => h x (List.mem_of_mem_drop (List.mem_of_mem_take hx))

set_option maxRecDepth 100000 in
set_option maxHeartbeats 1600000 in
theorem tm_loadcap_no (mb bP : Nat) (D : List Int) (T P : List Bool) (at_ : Int) (w : World) (h : TmM w mb bP D T P) (ha : inI at_) (hp : plB P.length at_ = false) :
    Calls Try.prog 57 #[.pointer (some ⟨mb, 0, none⟩), .int .i64 at_] w fun e w' => e = .returned (.tuple #[.agg #[.bool (false), .int .i64 (0), .int .i64 (0), .int .i64 (0), .int .i64 (0), .int .i64 (0)], .bool false]) ∧ Below w.heap.size w w' := by
  have g1 := tm_granule_no mb bP D T P at_ _ (h.alloc (.cells #[.bool (false), .int .i64 (0), .int .i64 (0), .int .i64 (0), .int .i64 (0), .int .i64 (0)] 23)) ha hp
  have K := Lib.hid (Blk.new w #[.bool (false), .int .i64 (0), .int .i64 (0), .int .i64 (0), .int .i64 (0), .int .i64 (0)] 23)
  clear h hp
  go_enter Try.func57, Try.ntmps57
  go_wp2_with fail
  refine g1.mono ?_
  rintro e w1 ⟨rfl, rfl⟩
  clear g1
  go_wp2
  exact bodyPost_ret (results_cell2 (cs := #[.bool (false), .int .i64 (0), .int .i64 (0), .int .i64 (0), .int .i64 (0), .int .i64 (0)]) rfl K.out Try.underlying23 rfl (by kernel_rfl) rfl) rfl ⟨rfl, by go_grown⟩

set_option maxRecDepth 100000 in
set_option maxHeartbeats 1600000 in
theorem tm_loadcap (mb bP : Nat) (D : List Int) (T P : List Bool) (i k : Nat) (w : World) (h : TmM w mb bP D T P) (hi : i < P.length) (hk : k < 16) :
    Calls Try.prog 57 #[.pointer (some ⟨mb, 0, none⟩), .int .i64 ((i * 256 + k * 16 : Nat) : Int)] w fun e w' => e = .returned (.tuple #[capV (ldC D T (i * 256 + k * 16)), .bool true]) ∧ Below w.heap.size w w' := by
  have h1 := h.alloc (.cells #[.bool (false), .int .i64 (0), .int .i64 (0), .int .i64 (0), .int .i64 (0), .int .i64 (0)] 23)
  have g1 := tm_granule mb bP D T P i k _ h1 hi hk
  have K := Lib.hid (Blk.new w #[.bool (false), .int .i64 (0), .int .i64 (0), .int .i64 (0), .int .i64 (0), .int .i64 (0)] 23)
  have HS := Lib.hid (show ldC D T (i * 256 + k * 16) = ldC D T (i * 256 + k * 16) from rfl)
  have HD : Hid (D.length = 256 * P.length) := Lib.hid h.1.1
  have HB : Hid (isB D) := Lib.hid h.1.2.2.2
  have hl : (partL D (i * 256 + k * 16) 16).length = 16 := partL_len D _ _ (by have := h.1.1; omega)
  have HL := Lib.hid hl
  have hg := fun v (tg : Bool) W (hr : RowU W v (partL D (i * 256 + k * 16) 16)) => get_row v (partL D (i * 256 + k * 16) 16) tg W hr (partL_isB h.1.2.2.2 _ _)
  rw [hl] at hg
  have HG := Lib.hid hg
  have htg : (i * 256 + k * 16) / 16 = i * 16 + k := by omega
  have HTG := Lib.hid htg
  generalize hz : ((i * 256 + k * 16 : Nat) : Int) = z at *
  obtain ⟨kk, hkk⟩ : ∃ kk, k * 16 = kk := ⟨_, rfl⟩
  have q0 : (k : Int) * 16 = (kk : Int) := by omega
  obtain ⟨kh, hkh⟩ : ∃ kh, kk + 16 = kh := ⟨_, rfl⟩
  have q1 : ((k : Int) + 1) * 16 = (kh : Int) := by omega
  have q2 : (kh : Int) ≤ 256 := by omega
  have q3 : ¬ 256 = kk := by omega
  have q4 : (kk : Int) ≤ (kh : Int) := by omega
  have q4' : kk ≤ kh := by omega
  have q2' : kh ≤ 256 := by omega
  have q5 : IntKind.i64.wrap (kk : Int) = (kk : Int) := IntWalk.i64_in _ (by omega)
  have q6 : IntKind.i64.wrap (kh : Int) = (kh : Int) := IntWalk.i64_in _ (by omega)
  have q9 : kh - kk = 16 := by omega
  have HKH := Lib.hid hkh
  have q7 : IntKind.i64.wrap ((k : Int) + 1) = (k : Int) + 1 := IntWalk.i64_in _ (by omega)
  have q8 : (k : Int) < 16 := by omega
  have H1 := Lib.hid h1
  have HKK := Lib.hid hkk
  have HI := Lib.hid hi
  have HK := Lib.hid hk
  clear h h1 hl hg hz htg hkk hkh
  obtain ⟨W1, hW1⟩ : ∃ W1, w.alloc (.cells #[.bool (false), .int .i64 (0), .int .i64 (0), .int .i64 (0), .int .i64 (0), .int .i64 (0)] 23) = W1 := ⟨_, rfl⟩
  have hw0 : Below w.heap.size w (w.alloc (.cells #[.bool (false), .int .i64 (0), .int .i64 (0), .int .i64 (0), .int .i64 (0), .int .i64 (0)] 23)) := by go_grown
  rw [hW1] at H1 g1 K hw0
  have HW0 := Lib.hid hw0
  clear hw0
  go_enter Try.func57, Try.ntmps57
  go_wp2_with fail
  clear hW1
  refine g1.mono ?_
  rintro e w1 ⟨rfl, rfl⟩
  clear g1
  go_wp2_with fail
  refine wp_flow_lit 18 (fun w' => TmM w' mb bP D T P ∧ Blk w' w.heap.size #[.bool (false), .int .i64 (0), .int .i64 (0), .int .i64 (0), .int .i64 (0), .int .i64 (0)] 23)
    [none, none, none, none, none, none, none, none, none, none, none, none, none, none, none, none, none, none] (by kernel_rfl) (by kernel_rfl) ⟨H1.out.drew, K.out.drew⟩
    (fun w1 w2 h hb => ⟨h.1.grow hb, h.2.below hb h.2.lt⟩) trivial ?_
  try simp (config := { maxSteps := 10000000 }) only [specV, addF, Act.put, List.setIfInBounds_toArray, List.set_cons_zero, List.set_cons_succ, List.take_succ_cons, List.take_zero, List.drop_succ_cons, List.drop_zero]
  (apply Exists.intro; refine ⟨fun vs w1 hS hB hf => ?_, ?_⟩; (focus (clear hS hB hf; go_simp; first | exact ⟨Below.refl _ _, rfl⟩ | exact rfl)); try simp (config := { maxSteps := 10000000 }) only [specV, addF, Act.put, List.setIfInBounds_toArray, List.set_cons_zero, List.set_cons_succ, List.take_succ_cons, List.take_zero, List.drop_succ_cons, List.drop_zero])
  (apply Exists.intro; refine ⟨fun vs w1 hS hB hf => ?_, ?_⟩; (focus (clear hS hB hf; go_simp; first | exact ⟨Below.refl _ _, rfl⟩ | exact rfl)); try simp (config := { maxSteps := 10000000 }) only [specV, addF, Act.put, List.setIfInBounds_toArray, List.set_cons_zero, List.set_cons_succ, List.take_succ_cons, List.take_zero, List.drop_succ_cons, List.drop_zero])
  (apply Exists.intro; refine ⟨fun vs w1 hS hB hf => ?_, ?_⟩; (focus (clear hS hB hf; go_simp; first | exact ⟨Below.refl _ _, rfl⟩ | exact rfl)); try simp (config := { maxSteps := 10000000 }) only [specV, addF, Act.put, List.setIfInBounds_toArray, List.set_cons_zero, List.set_cons_succ, List.take_succ_cons, List.take_zero, List.drop_succ_cons, List.drop_zero])
  (apply Exists.intro; refine ⟨fun vs w1 hS hB hf => ?_, ?_⟩; (focus (clear hS hB hf; go_simp; first | exact ⟨Below.refl _ _, rfl⟩ | exact rfl)); try simp (config := { maxSteps := 10000000 }) only [specV, addF, Act.put, List.setIfInBounds_toArray, List.set_cons_zero, List.set_cons_succ, List.take_succ_cons, List.take_zero, List.drop_succ_cons, List.drop_zero])
  (apply Exists.intro; refine ⟨fun vs w1 hS hB hf => ?_, ?_⟩; (focus (clear hS hB hf; go_simp; first | exact ⟨Below.refl _ _, rfl⟩ | exact rfl)); try simp (config := { maxSteps := 10000000 }) only [specV, addF, Act.put, List.setIfInBounds_toArray, List.set_cons_zero, List.set_cons_succ, List.take_succ_cons, List.take_zero, List.drop_succ_cons, List.drop_zero])
  (apply Exists.intro; refine ⟨fun vs w1 hS hB hf => ?_, ?_⟩; (focus (clear hS hB hf; go_simp; first | exact ⟨Below.refl _ _, rfl⟩ | exact rfl)); try simp (config := { maxSteps := 10000000 }) only [specV, addF, Act.put, List.setIfInBounds_toArray, List.set_cons_zero, List.set_cons_succ, List.take_succ_cons, List.take_zero, List.drop_succ_cons, List.drop_zero])
  (apply Exists.intro; refine ⟨fun vs w1 hS hB hf => ?_, ?_⟩; (focus (clear hS hB hf; go_simp; first | exact ⟨Below.refl _ _, rfl⟩ | exact rfl)); try simp (config := { maxSteps := 10000000 }) only [specV, addF, Act.put, List.setIfInBounds_toArray, List.set_cons_zero, List.set_cons_succ, List.take_succ_cons, List.take_zero, List.drop_succ_cons, List.drop_zero])
  (apply Exists.intro; refine ⟨fun vs w1 hS hB hf => ?_, ?_⟩; (focus (clear hS hB hf; go_simp; first | exact ⟨Below.refl _ _, rfl⟩ | exact rfl)); try simp (config := { maxSteps := 10000000 }) only [specV, addF, Act.put, List.setIfInBounds_toArray, List.set_cons_zero, List.set_cons_succ, List.take_succ_cons, List.take_zero, List.drop_succ_cons, List.drop_zero])
  (apply Exists.intro; refine ⟨fun vs w1 hS hB hf => ?_, ?_⟩; (focus (clear hS hB hf; go_simp; first | exact ⟨Below.refl _ _, rfl⟩ | exact rfl)); try simp (config := { maxSteps := 10000000 }) only [specV, addF, Act.put, List.setIfInBounds_toArray, List.set_cons_zero, List.set_cons_succ, List.take_succ_cons, List.take_zero, List.drop_succ_cons, List.drop_zero])
  (apply Exists.intro; refine ⟨fun vs w1 hS hB hf => ?_, ?_⟩; (focus (clear hS hB hf; go_simp; first | exact ⟨Below.refl _ _, rfl⟩ | exact rfl)); try simp (config := { maxSteps := 10000000 }) only [specV, addF, Act.put, List.setIfInBounds_toArray, List.set_cons_zero, List.set_cons_succ, List.take_succ_cons, List.take_zero, List.drop_succ_cons, List.drop_zero])
  (apply Exists.intro; refine ⟨fun vs w1 hS hB hf => ?_, ?_⟩; (focus (clear hS hB hf; go_simp; first | exact ⟨Below.refl _ _, rfl⟩ | exact rfl)); try simp (config := { maxSteps := 10000000 }) only [specV, addF, Act.put, List.setIfInBounds_toArray, List.set_cons_zero, List.set_cons_succ, List.take_succ_cons, List.take_zero, List.drop_succ_cons, List.drop_zero])
  (apply Exists.intro; refine ⟨fun vs w1 hS hB hf => ?_, ?_⟩; (focus (clear hS hB hf; go_simp; first | exact ⟨Below.refl _ _, rfl⟩ | exact rfl)); try simp (config := { maxSteps := 10000000 }) only [specV, addF, Act.put, List.setIfInBounds_toArray, List.set_cons_zero, List.set_cons_succ, List.take_succ_cons, List.take_zero, List.drop_succ_cons, List.drop_zero])
  (apply Exists.intro; refine ⟨fun vs w1 hS hB hf => ?_, ?_⟩; (focus (clear hS hB hf; go_simp; first | exact ⟨Below.refl _ _, rfl⟩ | exact rfl)); try simp (config := { maxSteps := 10000000 }) only [specV, addF, Act.put, List.setIfInBounds_toArray, List.set_cons_zero, List.set_cons_succ, List.take_succ_cons, List.take_zero, List.drop_succ_cons, List.drop_zero])
  (apply Exists.intro; refine ⟨fun vs w1 hS hB hf => ?_, ?_⟩; (focus (clear hS hB hf; go_simp; first | exact ⟨Below.refl _ _, rfl⟩ | exact rfl)); try simp (config := { maxSteps := 10000000 }) only [specV, addF, Act.put, List.setIfInBounds_toArray, List.set_cons_zero, List.set_cons_succ, List.take_succ_cons, List.take_zero, List.drop_succ_cons, List.drop_zero])
  (apply Exists.intro; refine ⟨fun vs w1 hS hB hf => ?_, ?_⟩; (focus (obtain ⟨c1, _⟩ := hS.1.tag HI.out HK.out; have l1 := hS.1.lt.2; clear hS hB hf; go_simp; first | exact ⟨Below.refl _ _, rfl⟩ | exact rfl)); try simp (config := { maxSteps := 10000000 }) only [specV, addF, Act.put, List.setIfInBounds_toArray, List.set_cons_zero, List.set_cons_succ, List.take_succ_cons, List.take_zero, List.drop_succ_cons, List.drop_zero])
  (apply Exists.intro; refine ⟨fun vs w1 hS hB hf => ?_, ?_⟩; (focus (go_simp; exact (HG.out _ _ w1 (by
    have hr := hS.1.rd (i := i) (f := kk) (t := kh) HI.out q4' q2'
    have e : i * 256 + kk = i * 256 + k * 16 := by rw [HKK.out]
    rw [q9, e] at hr
    exact ⟨some ⟨bP, i * 273 + kk, none⟩, 256 - kk, by rw [HL.out], hr, by rw [HL.out]; have := HKH.out; have := HKK.out; have := HK.out; omega⟩)).mono fun e w2 ⟨he, hb⟩ => callPost.of he hb rfl)); try simp (config := { maxSteps := 10000000 }) only [specV, addF, Act.put, List.setIfInBounds_toArray, List.set_cons_zero, List.set_cons_succ, List.take_succ_cons, List.take_zero, List.drop_succ_cons, List.drop_zero])
  (apply Exists.intro; refine ⟨fun vs w1 hS hB hf => ?_, ?_⟩; (focus (clear hS hB hf; go_simp; first | exact ⟨Below.refl _ _, rfl⟩ | exact rfl)); try simp (config := { maxSteps := 10000000 }) only [specV, addF, Act.put, List.setIfInBounds_toArray, List.set_cons_zero, List.set_cons_succ, List.take_succ_cons, List.take_zero, List.drop_succ_cons, List.drop_zero])
  (apply Exists.intro; refine ⟨fun vs w1 hS hB hf => ?_, ?_⟩; (focus (clear hS hB hf; go_simp; first | exact ⟨Below.refl _ _, rfl⟩ | exact rfl)); try simp (config := { maxSteps := 10000000 }) only [specV, addF, Act.put, List.setIfInBounds_toArray, List.set_cons_zero, List.set_cons_succ, List.take_succ_cons, List.take_zero, List.drop_succ_cons, List.drop_zero])
  intro vs W5 hS hB5 _
  dsimp only
  have K5 := Lib.hid hS.2
  have c5 := hS.2.cell
  have f5 := hS.2.frozen
  have l5 := hS.2.lt
  have B5 := Lib.hid (below_then HW0.out HW0.out.size hB5)
  have HR : Hid (ldC D T (i * 256 + k * 16) = (gotT (T[i * 16 + k]?.getD false) (partL D (i * 256 + k * 16) 16), gotB (partL D (i * 256 + k * 16) 16), gotP (partL D (i * 256 + k * 16) 16), gotA (partL D (i * 256 + k * 16) 16), gotQ (partL D (i * 256 + k * 16) 16), gotY (partL D (i * 256 + k * 16) 16))) := Lib.hid (by rw [ldC, HTG.out]; rfl)
  clear hS hB5 HG H1 K HB HD HL HS
  generalize gotT (T[i * 16 + k]?.getD false) (partL D (i * 256 + k * 16) 16) = t at *
  generalize gotB (partL D (i * 256 + k * 16) 16) = b at *
  generalize gotP (partL D (i * 256 + k * 16) 16) = p at *
  generalize gotA (partL D (i * 256 + k * 16) 16) = a at *
  generalize gotQ (partL D (i * 256 + k * 16) 16) = q at *
  generalize gotY (partL D (i * 256 + k * 16) 16) = y at *
  go_wp2
  exact bodyPost_ret (results_cell2 (cs := #[.bool (t), .int .i64 (b), .int .i64 (p), .int .i64 (a), .int .i64 (q), .int .i64 (y)]) rfl ((((((K5.out.set 0 _).set 1 _).set 2 _).set 3 _).set 4 _).set 5 _) Try.underlying23 rfl (by kernel_rfl) rfl) rfl
    ⟨by rw [HR.out]; rfl, ((((((B5.out.setCell (by simp) _).setCell (by simp) _).setCell (by simp) _).setCell (by simp) _).setCell (by simp) _).setCell (by simp) _)⟩

set_option maxRecDepth 100000 in
set_option maxHeartbeats 1600000 in
theorem tr_loadcap_no (mb bB bT bP : Nat) (D : List Int) (T P : List Bool) (at_ : Int) (w : World) (h : TrM w mb bB bT bP D T P) (ha : inI at_) (hp : plB P.length at_ = false) :
    Calls Try.prog 58 #[.pointer (some ⟨mb, 0, none⟩), .int .i64 at_] w fun e w' => e = .returned (.tuple #[.agg #[.bool (false), .int .i64 (0), .int .i64 (0), .int .i64 (0), .int .i64 (0), .int .i64 (0)], .bool false]) ∧ Below w.heap.size w w' := by
  have g1 := tr_place mb bB bT bP D T P at_ _ (h.alloc (.cells #[.bool (false), .int .i64 (0), .int .i64 (0), .int .i64 (0), .int .i64 (0), .int .i64 (0)] 23)) ha
  rw [hp] at g1
  have K := Lib.hid (Blk.new w #[.bool (false), .int .i64 (0), .int .i64 (0), .int .i64 (0), .int .i64 (0), .int .i64 (0)] 23)
  clear h hp
  go_enter Try.func58, Try.ntmps58
  go_wp2_with fail
  refine g1.mono ?_
  rintro e w1 ⟨rfl, rfl⟩
  clear g1
  go_wp2
  exact bodyPost_ret (results_cell2 (cs := #[.bool (false), .int .i64 (0), .int .i64 (0), .int .i64 (0), .int .i64 (0), .int .i64 (0)]) rfl K.out Try.underlying23 rfl (by kernel_rfl) rfl) rfl ⟨rfl, by go_grown⟩

end Go.Proofs.Ytjimkkkiilcpoaa
