/- What is refused; StoreCap, the program's. -/
import Derived.Test.YtjimkkkiilcpoaaTmN
set_option linter.unusedVariables false
set_option linter.unusedSimpArgs false
namespace Go.Proofs.Ytjimkkkiilcpoaa
open Go.RowKit

set_option maxRecDepth 100000 in
set_option maxHeartbeats 1600000 in
theorem tm_load_no (b bP : Nat) (D : List Int) (T P : List Bool) (a k : Int) (w : World) (h : TmM w b bP D T P) (ha : inI a) (hk : inI k) (hn : inB P.length a k = false) :
    Calls Try.prog 55 #[.pointer (some ⟨b, 0, none⟩), .int .i64 a, .int .i64 k] w fun e w' => e = .returned (.tuple #[.slice none 0 0, .bool false]) ∧ w = w' := by
  have g1 := tm_in b bP D T P a k w h ha hk
  rw [hn] at g1
  clear h hn
  go_enter Try.func55, Try.ntmps55
  go_wp2_with fail
  refine g1.mono ?_
  rintro e w1 ⟨rfl, rfl⟩
  clear g1
  go_wp2
  go_ret2
  exact ⟨rfl, rfl⟩

set_option maxRecDepth 100000 in
set_option maxHeartbeats 1600000 in
theorem tm_store_no (b bP : Nat) (D : List Int) (T P : List Bool) (a : Int) (A : Option Addr) (n c : Nat) (w : World) (h : TmM w b bP D T P) (ha : inI a) (hk : (n : Int) ≤ 9223372036854775807) (hn : inB P.length a n = false) :
    Calls Try.prog 59 #[.pointer (some ⟨b, 0, none⟩), .int .i64 a, .slice A n c] w fun e w' => e = .returned (.bool false) ∧ Below w.heap.size w w' := by
  have g1 := tm_in b bP D T P a n _ (h.alloc (.cells #[.slice A n c] 24)) ha ⟨by omega, hk⟩
  rw [hn] at g1
  clear h hn
  go_enter Try.func59, Try.ntmps59
  go_wp2_with fail
  refine g1.mono ?_
  rintro e w1 ⟨rfl, rfl⟩
  clear g1
  go_wp2
  go_ret
  exact ⟨rfl, by go_grown⟩

theorem wpList_copy {P : Program} {ops : Array Oper} {rest : List Oper} {o : Oper} {a : Act} {Q : Exit → Act → World → Prop} {W W' : World} {d s : Operand} {t1 t2 : TypeId} {vd vs v : Value} (hgd : o.guard = none)
    (ho : o.op = .call { callee := .builtin .copy, args := #[d, s], argTypes := #[t1, t2] }) (hd : a.eval d = vd) (hs : a.eval s = vs) (hrun : (Builtin.copy_ #[t1, t2] o.type #[vd, vs]).run P W = .ok v W')
    (h : wpList P ops Q rest (a.put o.dst v) W') : wpList P ops Q (o :: rest) a W :=
  wpList_plain hgd fun K hK => by
    unfold Oper.wp execOp
    simp only [ho, resolve, invoke, builtin, Sem.run_bind, Sem.run_pure, Result.andThen_ok, List.map_toArray, List.map_cons, List.map_nil, hd, hs, hrun]
    exact hK _ _ h

/-- What StoreCap makes of tags and dirty pages. -/
def capT (T : List Bool) (a : Int) (t : Bool) : List Bool := T.set (a / 16).toNat t
def capP (P : List Bool) (a : Int) (t : Bool) : List Bool := if t then P.set (a / 256).toNat true else P
theorem set_same (P : List Bool) (i : Nat) (hi : i < P.length) : P.set i (P.getD i false) = P := by
  refine list_ext_getD _ _ false (by rw [List.length_set]) fun k hk => ?_
  rw [getD_setL _ _ _ _ _ hi]
  split
  · rename_i e; rw [e]
  · rfl
theorem putBytes_len (b p a q y : Int) : (putBytes b p a q y).length = 16 := rfl

set_option maxRecDepth 100000 in
set_option maxHeartbeats 1600000 in
theorem tm_storecap (mb bP : Nat) (D : List Int) (T P : List Bool) (i k : Nat) (t : Bool) (b p a q y : Int) (w : World) (h : TmM w mb bP D T P) (hi : i < P.length) (hk : k < 16) (hq : inI q) (hr : rightB t b p a q y = true) :
    Calls Try.prog 49 #[.pointer (some ⟨mb, 0, none⟩), .int .i64 ((i * 256 + k * 16 : Nat) : Int), .agg #[.bool (t), .int .i64 (b), .int .i64 (p), .int .i64 (a), .int .i64 (q), .int .i64 (y)]] w fun e w' => e = .returned (.bool true) ∧
      TmM w' mb bP (writeL D (i * 256 + k * 16) (putL t b p a q y)) (T.set (i * 16 + k) t) (if t then P.set i true else P) ∧ Turns [bP] w w' := by
  have hle := h.1.2.2.1
  have hw0 : Below w.heap.size w (w.alloc (.cells #[.bool (t), .int .i64 (b), .int .i64 (p), .int .i64 (a), .int .i64 (q), .int .i64 (y)] 23)) := by go_grown
  have h1 := h.alloc (.cells #[.bool (t), .int .i64 (b), .int .i64 (p), .int .i64 (a), .int .i64 (q), .int .i64 (y)] 23)
  have g1 := tm_granule mb bP D T P i k _ h1 hi hk
  have kc : Blk (w.alloc (.cells #[.bool (t), .int .i64 (b), .int .i64 (p), .int .i64 (a), .int .i64 (q), .int .i64 (y)] 23)) w.heap.size #[.bool (t), .int .i64 (b), .int .i64 (p), .int .i64 (a), .int .i64 (q), .int .i64 (y)] 23 := Blk.new _ _ _
  have g2 := fun W => cap_right t b p a q y W hq
  rw [hr] at g2
  have G2 := Lib.hid g2
  have G3 := Lib.hid (fun W => put_row t b p a q y W hq)
  have H1 := Lib.hid h1
  have hnm : mb ≠ w.heap.size ∧ bP ≠ w.heap.size := by have := h.lt; omega
  have HNM := Lib.hid hnm
  have HL : Hid ((putL t b p a q y).length = 16) := Lib.hid (by rw [putL, if_pos hr, putBytes_len])
  have HPB := Lib.hid (isB_putL t b p a q y)
  generalize putL t b p a q y = bs at *
  generalize hz : ((i * 256 + k * 16 : Nat) : Int) = z at *
  have hlt := h.lt
  clear h h1 g2 hz hnm
  obtain ⟨W1, hW1⟩ : ∃ W1, w.alloc (.cells #[.bool (t), .int .i64 (b), .int .i64 (p), .int .i64 (a), .int .i64 (q), .int .i64 (y)] 23) = W1 := ⟨_, rfl⟩
  have hs1 : W1.heap.size = w.heap.size + 1 := by rw [← hW1]; simp
  have HW0 : Hid (Below w.heap.size w W1) := Lib.hid (by rw [← hW1]; exact hw0)
  rw [hW1] at kc H1 g1
  go_enter Try.func49, Try.ntmps49
  go_wp2_with fail
  clear hW1 hw0
  refine g1.mono ?_
  rintro e w1 ⟨rfl, rfl⟩
  clear g1
  have c1 := kc.cell
  have l1 := kc.lt
  go_wp2_with fail
  refine (G2.out _).mono ?_
  rintro e w2 ⟨rfl, hb2⟩
  have KC := Lib.hid (kc.below hb2 kc.lt)
  have H2 := Lib.hid (H1.out.below hb2 H1.out.lt.1 H1.out.lt.2)
  have HW2 := Lib.hid (below_then HW0.out HW0.out.size hb2)
  clear kc c1 l1 hb2 H1 HW0 G2 hs1
  obtain ⟨kk, hkk⟩ : ∃ kk, k * 16 = kk := ⟨_, rfl⟩
  have q0 : (k : Int) * 16 = (kk : Int) := by omega
  have q1 : (kk : Int) ≤ 256 := by omega
  have q2 : ¬ 256 = kk := by omega
  have q3 : ¬ kk = 256 := by omega
  have hwk : IntKind.i64.wrap (kk : Int) = (kk : Int) := IntWalk.i64_in _ (by omega)
  have HKK := Lib.hid hkk
  clear hkk
  have q4 : (k : Int) < 16 := by omega
  have HK := Lib.hid hk
  have HI := Lib.hid hi
  go_wp2_with fail
  refine wp_flow_lit 8 (fun w' => TmM w' mb bP D T P ∧ Blk w' w.heap.size #[.bool (t), .int .i64 (b), .int .i64 (p), .int .i64 (a), .int .i64 (q), .int .i64 (y)] 23)
    [none, none, none, none, none, none, none, some (fun v w' => RowU w' v bs)] (by kernel_rfl) (by kernel_rfl) ⟨H2.out.drew, KC.out.drew⟩
    (fun w1 w2 h hb => ⟨h.1.below hb h.1.lt.1 h.1.lt.2, h.2.below hb h.2.lt⟩) ⟨fun v w1 w2 h hb => h.below hb, trivial⟩ ?_
  try simp (config := { maxSteps := 10000000 }) only [specV, addF, Act.put, List.setIfInBounds_toArray, List.set_cons_zero, List.set_cons_succ, List.take_succ_cons, List.take_zero, List.drop_succ_cons, List.drop_zero]
  (apply Exists.intro; refine ⟨fun vs w1 hS hB hf => ?_, ?_⟩; (focus (clear hS hB hf; go_simp; first | exact ⟨Below.refl _ _, rfl⟩ | exact rfl)); try simp (config := { maxSteps := 10000000 }) only [specV, addF, Act.put, List.setIfInBounds_toArray, List.set_cons_zero, List.set_cons_succ, List.take_succ_cons, List.take_zero, List.drop_succ_cons, List.drop_zero])
  (apply Exists.intro; refine ⟨fun vs w1 hS hB hf => ?_, ?_⟩; (focus (clear hS hB hf; go_simp; first | exact ⟨Below.refl _ _, rfl⟩ | exact rfl)); try simp (config := { maxSteps := 10000000 }) only [specV, addF, Act.put, List.setIfInBounds_toArray, List.set_cons_zero, List.set_cons_succ, List.take_succ_cons, List.take_zero, List.drop_succ_cons, List.drop_zero])
  (apply Exists.intro; refine ⟨fun vs w1 hS hB hf => ?_, ?_⟩; (focus (clear hS hB hf; go_simp; first | exact ⟨Below.refl _ _, rfl⟩ | exact rfl)); try simp (config := { maxSteps := 10000000 }) only [specV, addF, Act.put, List.setIfInBounds_toArray, List.set_cons_zero, List.set_cons_succ, List.take_succ_cons, List.take_zero, List.drop_succ_cons, List.drop_zero])
  (apply Exists.intro; refine ⟨fun vs w1 hS hB hf => ?_, ?_⟩; (focus (clear hS hB hf; go_simp; first | exact ⟨Below.refl _ _, rfl⟩ | exact rfl)); try simp (config := { maxSteps := 10000000 }) only [specV, addF, Act.put, List.setIfInBounds_toArray, List.set_cons_zero, List.set_cons_succ, List.take_succ_cons, List.take_zero, List.drop_succ_cons, List.drop_zero])
  (apply Exists.intro; refine ⟨fun vs w1 hS hB hf => ?_, ?_⟩; (focus (clear hS hB hf; go_simp; first | exact ⟨Below.refl _ _, rfl⟩ | exact rfl)); try simp (config := { maxSteps := 10000000 }) only [specV, addF, Act.put, List.setIfInBounds_toArray, List.set_cons_zero, List.set_cons_succ, List.take_succ_cons, List.take_zero, List.drop_succ_cons, List.drop_zero])
  (apply Exists.intro; refine ⟨fun vs w1 hS hB hf => ?_, ?_⟩; (focus (clear hS hB hf; go_simp; first | exact ⟨Below.refl _ _, rfl⟩ | exact rfl)); try simp (config := { maxSteps := 10000000 }) only [specV, addF, Act.put, List.setIfInBounds_toArray, List.set_cons_zero, List.set_cons_succ, List.take_succ_cons, List.take_zero, List.drop_succ_cons, List.drop_zero])
  (apply Exists.intro; refine ⟨fun vs w1 hS hB hf => ?_, ?_⟩; (focus (have c1 := hS.2.cell; have l1 := hS.2.lt; clear hS hB hf; go_simp; first | exact ⟨Below.refl _ _, rfl⟩ | exact rfl)); try simp (config := { maxSteps := 10000000 }) only [specV, addF, Act.put, List.setIfInBounds_toArray, List.set_cons_zero, List.set_cons_succ, List.take_succ_cons, List.take_zero, List.drop_succ_cons, List.drop_zero])
  (refine ⟨fun vs w1 hS hB hf => ?_, ?_⟩; (focus (go_simp; exact (G3.out w1).mono fun e w2 ⟨v, he, ho, hb⟩ => callPost.of he hb ho)); try simp (config := { maxSteps := 10000000 }) only [specV, addF, Act.put, List.setIfInBounds_toArray, List.set_cons_zero, List.set_cons_succ, List.take_succ_cons, List.take_zero, List.drop_succ_cons, List.drop_zero])
  intro vs W5 hS hB5 hF
  obtain ⟨hrow, _⟩ := hF
  dsimp only
  obtain ⟨g, o, c2, hv, hc2, hcell⟩ := hrow.cells (by rw [HL.out]; omega)
  rw [hv] at hrow ⊢
  rw [HL.out] at hrow hc2 ⊢
  obtain ⟨hT5, hK5⟩ := hS
  have hl2 : (u8s bs).length = 16 := by rw [u8s, List.length_map]; exact HL.out
  have hrun := run_copy_row (P := Try.prog) W5 24 24 3 5 bP (i * 273 + kk) (256 - kk) (256 - kk) ⟨g, o, none⟩ 16 c2 (pagesA D T P) 116 (u8s bs) Try.underlying24 (by kernel_rfl) hT5.2.2.2
    (by rw [hl2]; exact (Nat.min_eq_left (by have := HKK.out; omega)).symm) (fun j u hu => by obtain ⟨ad, e, hc⟩ := hrow.row j u hu; cases e; exact hc) (by rw [hl2, pagesA_size]; have := HKK.out; omega) (by intro u hu; simp [u8s] at hu; obtain ⟨y, _, rfl⟩ := hu; rfl)
  have hTw := hT5.write (i := i) (j := kk) (bs := bs) hi (by rw [HL.out]; have := HKK.out; omega) HPB.out
  have hKw : Blk (W5.setRow bP ((pagesA D T P).toList.take (i * 273 + kk) ++ u8s bs ++ (pagesA D T P).toList.drop (i * 273 + kk + (u8s bs).length)).toArray) w.heap.size #[.bool (t), .int .i64 (b), .int .i64 (p), .int .i64 (a), .int .i64 (q), .int .i64 (y)] 23 := (setRow_other _ _ _ _ (Ne.symm HNM.out.2)).trans hK5
  have hTu : Turns [bP] w (W5.setRow bP ((pagesA D T P).toList.take (i * 273 + kk) ++ u8s bs ++ (pagesA D T P).toList.drop (i * 273 + kk + (u8s bs).length)).toArray) := (Turns.below (below_then HW2.out HW2.out.size hB5)).trans (Turns.setRow _ _ _)
  refine wpList_copy rfl rfl rfl rfl hrun ?_
  have D1 := Lib.hid hTw
  have K1 := Lib.hid hKw
  have U1 := Lib.hid hTu
  clear hrun hTw hKw hTu hT5 hK5 hrow hcell hv hB5 H2 KC HW2 G3 hl2 hc2
  generalize W5.setRow bP ((pagesA D T P).toList.take (i * 273 + kk) ++ u8s bs ++ (pagesA D T P).toList.drop (i * 273 + kk + (u8s bs).length)).toArray = W6 at *
  obtain ⟨D', hD'⟩ : ∃ D', writeL D (i * 256 + kk) bs = D' := ⟨_, rfl⟩
  rw [hD'] at D1
  have HD' := Lib.hid hD'
  clear hD'
  go_upto_region 5 with fail
  refine wp_flow_lit 7 (fun w' => TmM w' mb bP D' T P ∧ Blk w' w.heap.size #[.bool (t), .int .i64 (b), .int .i64 (p), .int .i64 (a), .int .i64 (q), .int .i64 (y)] 23)
    [none, none, none, none, none, none, none] (by kernel_rfl) (by kernel_rfl) ⟨D1.out.drew, K1.out.drew⟩
    (fun w1 w2 h hb => ⟨h.1.below hb h.1.lt.1 h.1.lt.2, h.2.below hb h.2.lt⟩) trivial ?_
  try simp (config := { maxSteps := 10000000 }) only [specV, addF, Act.put, List.setIfInBounds_toArray, List.set_cons_zero, List.set_cons_succ, List.take_succ_cons, List.take_zero, List.drop_succ_cons, List.drop_zero]
  (apply Exists.intro; refine ⟨fun vs w1 hS hB hf => ?_, ?_⟩; (focus (clear hS hB hf; go_simp; first | exact ⟨Below.refl _ _, rfl⟩ | exact rfl)); try simp (config := { maxSteps := 10000000 }) only [specV, addF, Act.put, List.setIfInBounds_toArray, List.set_cons_zero, List.set_cons_succ, List.take_succ_cons, List.take_zero, List.drop_succ_cons, List.drop_zero])
  (apply Exists.intro; refine ⟨fun vs w1 hS hB hf => ?_, ?_⟩; (focus (clear hS hB hf; go_simp; first | exact ⟨Below.refl _ _, rfl⟩ | exact rfl)); try simp (config := { maxSteps := 10000000 }) only [specV, addF, Act.put, List.setIfInBounds_toArray, List.set_cons_zero, List.set_cons_succ, List.take_succ_cons, List.take_zero, List.drop_succ_cons, List.drop_zero])
  (apply Exists.intro; refine ⟨fun vs w1 hS hB hf => ?_, ?_⟩; (focus (clear hS hB hf; go_simp; first | exact ⟨Below.refl _ _, rfl⟩ | exact rfl)); try simp (config := { maxSteps := 10000000 }) only [specV, addF, Act.put, List.setIfInBounds_toArray, List.set_cons_zero, List.set_cons_succ, List.take_succ_cons, List.take_zero, List.drop_succ_cons, List.drop_zero])
  (apply Exists.intro; refine ⟨fun vs w1 hS hB hf => ?_, ?_⟩; (focus (have c1 := hS.2.cell; have l1 := hS.2.lt; clear hS hB hf; go_simp; first | exact ⟨Below.refl _ _, rfl⟩ | exact rfl)); try simp (config := { maxSteps := 10000000 }) only [specV, addF, Act.put, List.setIfInBounds_toArray, List.set_cons_zero, List.set_cons_succ, List.take_succ_cons, List.take_zero, List.drop_succ_cons, List.drop_zero])
  (apply Exists.intro; refine ⟨fun vs w1 hS hB hf => ?_, ?_⟩; (focus (clear hS hB hf; go_simp; first | exact ⟨Below.refl _ _, rfl⟩ | exact rfl)); try simp (config := { maxSteps := 10000000 }) only [specV, addF, Act.put, List.setIfInBounds_toArray, List.set_cons_zero, List.set_cons_succ, List.take_succ_cons, List.take_zero, List.drop_succ_cons, List.drop_zero])
  (apply Exists.intro; refine ⟨fun vs w1 hS hB hf => ?_, ?_⟩; (focus (clear hS hB hf; go_simp; first | exact ⟨Below.refl _ _, rfl⟩ | exact rfl)); try simp (config := { maxSteps := 10000000 }) only [specV, addF, Act.put, List.setIfInBounds_toArray, List.set_cons_zero, List.set_cons_succ, List.take_succ_cons, List.take_zero, List.drop_succ_cons, List.drop_zero])
  (apply Exists.intro; refine ⟨fun vs w1 hS hB hf => ?_, ?_⟩; (focus (clear hS hB hf; go_simp; first | exact ⟨Below.refl _ _, rfl⟩ | exact rfl)); try simp (config := { maxSteps := 10000000 }) only [specV, addF, Act.put, List.setIfInBounds_toArray, List.set_cons_zero, List.set_cons_succ, List.take_succ_cons, List.take_zero, List.drop_succ_cons, List.drop_zero])
  intro vs W7 hS hB7 _
  dsimp only
  obtain ⟨c7, f7⟩ := hS.1.tag (k := k) hi hk
  have l7 := hS.1.lt.2
  have D2 := Lib.hid hS.1
  have K2 := Lib.hid hS.2
  have U2 := Lib.hid (U1.out.trans (Turns.below hB7))
  clear hS hB7 D1 K1 U1
  go_upto_region 6 with fail
  refine wp_gen (fun w' => TmM w' mb bP D' (T.set (i * 16 + k) t) P ∧ Blk w' w.heap.size #[.bool (t), .int .i64 (b), .int .i64 (p), .int .i64 (a), .int .i64 (q), .int .i64 (y)] 23 ∧ Turns [bP] w w') ⟨D2.out.setTag HI.out HK.out t, K2.out.set_other (Ne.symm HNM.out.2) _ _, U2.out.trans (Turns.set _ (by simp) _ _)⟩ ?_
  clear c7 f7 l7 D2 K2 U2
  rintro W8 ⟨h8, k8, u8'⟩
  obtain ⟨c8, f8⟩ := h8.dirty hi
  have l8 := h8.lt.2
  have c9 := k8.cell
  have l9 := k8.lt
  have D3 := Lib.hid h8
  have U3 := Lib.hid u8'
  have hset := Lib.hid (set_same P i hi)
  generalize hdt : P.getD i false = dt at *
  clear h8 k8 u8' hdt
  cases t with
  | false =>
    go_wp2
    · rename_i hd
      subst hd
      go_ret
      have h := D3.out.setDirty HI.out true
      rw [hset.out] at h
      refine ⟨rfl, ?_, U3.out.trans (Turns.set _ (by simp) _ _)⟩
      rw [HKK.out, HD'.out]
      exact h
    · rename_i hd
      obtain rfl : dt = false := by simpa using hd
      go_ret
      have h := D3.out.setDirty HI.out false
      rw [hset.out] at h
      refine ⟨rfl, ?_, U3.out.trans (Turns.set _ (by simp) _ _)⟩
      rw [HKK.out, HD'.out]
      exact h
  | true =>
    go_wp2
    all_goals
      go_ret
      have h := D3.out.setDirty HI.out true
      refine ⟨rfl, ?_, U3.out.trans (Turns.set _ (by simp) _ _)⟩
      rw [HKK.out, HD'.out]
      exact h

set_option maxRecDepth 100000 in
set_option maxHeartbeats 1600000 in
theorem tm_storecap_no (mb bP : Nat) (D : List Int) (T P : List Bool) (at_ : Int) (t : Bool) (b p a q y : Int) (w : World) (h : TmM w mb bP D T P) (ha : inI at_) (hq : inI q) (hr : (plB P.length at_ && rightB t b p a q y) = false) :
    Calls Try.prog 49 #[.pointer (some ⟨mb, 0, none⟩), .int .i64 at_, .agg #[.bool (t), .int .i64 (b), .int .i64 (p), .int .i64 (a), .int .i64 (q), .int .i64 (y)]] w fun e w' => e = .returned (.bool false) ∧ Below w.heap.size w w' := by
  have h1 := h.alloc (.cells #[.bool (t), .int .i64 (b), .int .i64 (p), .int .i64 (a), .int .i64 (q), .int .i64 (y)] 23)
  have g2 := fun W => cap_right t b p a q y W hq
  cases hp : plB P.length at_ with
  | false =>
    have g1 := tm_granule_no mb bP D T P at_ _ h1 ha hp
    clear h h1 hr hp g2
    go_enter Try.func49, Try.ntmps49
    go_wp2_with fail
    refine g1.mono ?_
    rintro e w1 ⟨rfl, rfl⟩
    clear g1
    go_wp2
    go_ret
    exact ⟨rfl, by go_grown⟩
  | true =>
    rw [hp, Bool.true_and] at hr
    rw [hr] at g2
    obtain ⟨i, k, hi, hk, rfl⟩ := pl_split hp
    have g1 := tm_granule mb bP D T P i k _ h1 hi hk
    generalize hz : ((i * 256 + k * 16 : Nat) : Int) = z at *
    have G2 := Lib.hid g2
    have kc := (Blk.new w #[.bool (t), .int .i64 (b), .int .i64 (p), .int .i64 (a), .int .i64 (q), .int .i64 (y)] 23).cell
    clear h h1 hp hz g2 hr
    go_enter Try.func49, Try.ntmps49
    go_wp2_with fail
    refine g1.mono ?_
    rintro e w1 ⟨rfl, rfl⟩
    clear g1
    go_wp2_with fail
    refine (G2.out _).mono ?_
    rintro e w2 ⟨rfl, hb2⟩
    have HB2 := Lib.hid hb2
    clear hb2
    go_wp2
    go_ret
    exact ⟨rfl, below_then (by go_grown) (by simp) HB2.out⟩
end Go.Proofs.Ytjimkkkiilcpoaa
