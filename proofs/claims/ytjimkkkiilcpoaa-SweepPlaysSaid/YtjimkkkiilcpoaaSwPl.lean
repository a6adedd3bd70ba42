/-
  SweepPlays: for every slice of calls and every capability the law returns true, and each argument reads as it did. Condition: none.
-/
import Derived.Test.YtjimkkkiilcpoaaPlS
import Derived.Test.YtjimkkkiilcpoaaGr10
import Derived.Deep.DeepCutAuto
import Derived.Deep.CutBlock
set_option linter.unusedVariables false
set_option linter.unusedSimpArgs false
namespace Go.Proofs.Ytjimkkkiilcpoaa.SweepPlays
open Go.RowKit Go.Proofs.Ytjimkkkiilcpoaa

theorem own : ownKnob Try.prog.godebug = none := by kernel_rfl
theorem laidOut : laidOutB Try.prog = true := by kernel_rfl
/-- A Bool by a number. -/
def bz (b : Bool) : Nat := if b then 0 else 1
theorem bz_eq (b : Bool) : (bz b == 0) = b := by cases b <;> rfl
set_option maxRecDepth 100000 in
set_option maxHeartbeats 1600000 in
theorem run_neq_cap (X Y : Operand) (t : Bool) (b p a q y : Int) (w : World) :
    (do eqGuard .neq 23 X Y (.agg #[.bool (t), .int .i64 (b), .int .i64 (p), .int .i64 (a), .int .i64 (q), .int .i64 (y)] : Value) (.agg #[.bool (t), .int .i64 (b), .int .i64 (p), .int .i64 (a), .int .i64 (q), .int .i64 (y)] : Value); binOp .neq 23 (.agg #[.bool (t), .int .i64 (b), .int .i64 (p), .int .i64 (a), .int .i64 (q), .int .i64 (y)] : Value) (.agg #[.bool (t), .int .i64 (b), .int .i64 (p), .int .i64 (a), .int .i64 (q), .int .i64 (y)] : Value) : Sem Value).run Try.prog w = .ok (.bool false) w := by
  simp [go_sem]
theorem opOk_capneq {ops : Array Oper} {o : Oper} {A : Act} {w : World} {X Y : Operand} {T : TypeId} {t : Bool} {b p a q y : Int} (hg : Region.wanted o (yielded ops A.tmps) = true) (ho : o.op = .binOp .neq 23 X Y T)
    (hX : A.eval X = .agg #[.bool (t), .int .i64 (b), .int .i64 (p), .int .i64 (a), .int .i64 (q), .int .i64 (y)]) (hY : A.eval Y = .agg #[.bool (t), .int .i64 (b), .int .i64 (p), .int .i64 (a), .int .i64 (q), .int .i64 (y)]) : opOk Try.prog ops o A w (fun u _ => u = .bool false) := by
  unfold opOk
  rw [if_pos hg]
  have hr := run_neq_cap X Y t b p a q y w
  have e : (execOp A.eval o).run Try.prog w = .ok (.value (.bool false)) w := by
    unfold execOp
    simp only [ho, hX, hY]
    rw [Sem.run_bind, hr]
    rfl
  rw [e]
  exact ⟨Below.refl _ _, rfl⟩


section
variable {W : World} {s b pm r q pW qB : Nat} {bad : List Nat} {run : Bool} {L : List Int} {g : Nat} {Q : List Bool}
theorem prun_runs (h : PRun W s b pm bad run L g) : Calls Try.prog 78 #[.pointer (some ⟨s, 0, none⟩)] W fun e w' => e = .returned (.bool run) ∧ W = w' := by
  obtain ⟨A, c, h1, _⟩ := h
  exact sw_runs s b pm run _ _ W h1
theorem prun_left (h : PRun W s b pm bad run L g) : Calls Try.prog 80 #[.pointer (some ⟨s, 0, none⟩)] W fun e w' => e = .returned (.int .i64 L.length) ∧ W = w' := by
  obtain ⟨A, c, h1, _⟩ := h
  exact sw_left s b pm run A _ c _ W h1
theorem prun_gone (h : PRun W s b pm bad run L g) : Calls Try.prog 82 #[.pointer (some ⟨s, 0, none⟩)] W fun e w' => e = .returned (.int .i64 g) ∧ W = w' := by
  obtain ⟨A, c, h1, _⟩ := h
  exact sw_gone s b pm run _ _ W h1
theorem prun_barrier (h : PRun W s b pm bad run L g) (hQ : ShM W pm pW Q) (t : Bool) (bb p a qq y : Int) (hb : inI bb) (hp : inI p) : Calls Try.prog 84 #[.pointer (some ⟨s, 0, none⟩), .agg #[.bool (t), .int .i64 (bb), .int .i64 (p), .int .i64 (a), .int .i64 (qq), .int .i64 (y)]] W fun e w' => e = .returned (.agg #[.bool (t && !hitsB Q t bb p), .int .i64 (bb), .int .i64 (p), .int .i64 (a), .int .i64 (qq), .int .i64 (y)]) ∧ Below W.heap.size W w' := by
  obtain ⟨A, c, h1, _⟩ := h
  exact sw_barrier s b pm pW Q run _ _ t bb p a qq y W h1 hQ hb hp
theorem rrun_runs (h : RRun W s r q bad run L g) : Calls Try.prog 79 #[.pointer (some ⟨s, 0, none⟩)] W fun e w' => e = .returned (.bool run) ∧ W = w' := by
  obtain ⟨A, c, h1, _⟩ := h
  exact rs_runs s r q run _ _ W h1
theorem rrun_left (h : RRun W s r q bad run L g) : Calls Try.prog 81 #[.pointer (some ⟨s, 0, none⟩)] W fun e w' => e = .returned (.int .i64 L.length) ∧ W = w' := by
  obtain ⟨A, c, h1, _⟩ := h
  exact rs_left s r q run A _ c _ W h1
theorem rrun_gone (h : RRun W s r q bad run L g) : Calls Try.prog 83 #[.pointer (some ⟨s, 0, none⟩)] W fun e w' => e = .returned (.int .i64 g) ∧ W = w' := by
  obtain ⟨A, c, h1, _⟩ := h
  exact rs_gone s r q run _ _ W h1
theorem rrun_barrier (h : RRun W s r q bad run L g) (hQ : RfM W q qB Q) (t : Bool) (bb p a qq y : Int) (hb : inI bb) (hp : inI p) : Calls Try.prog 85 #[.pointer (some ⟨s, 0, none⟩), .agg #[.bool (t), .int .i64 (bb), .int .i64 (p), .int .i64 (a), .int .i64 (qq), .int .i64 (y)]] W fun e w' => e = .returned (.agg #[.bool (t && !hitsB Q t bb p), .int .i64 (bb), .int .i64 (p), .int .i64 (a), .int .i64 (qq), .int .i64 (y)]) ∧ Below W.heap.size W w' := by
  obtain ⟨A, c, h1, _⟩ := h
  exact rs_barrier s r q qB Q run _ _ t bb p a qq y W h1 hQ hb hp
end
theorem great10_no {L : List Op10} (h : great10B L = false) : L.length ≤ 200 ∧ ∀ o ∈ L, o.m.bs.length < 9000 := by
  unfold great10B at h
  rw [Bool.or_eq_false_iff, decide_eq_false_iff_not] at h
  exact ⟨by omega, fun o ho => (great_no h.2).2 o.m (List.mem_map_of_mem ho)⟩

set_option maxRecDepth 100000 in
set_option maxHeartbeats 32000000 in
theorem walk (v : Value) (L : List Op10) (t0 : Bool) (b0 p0 a0 q0 y0 : Int) (w : World) (ho : Ops10 w v L) (ib : inI b0) (ip : inI p0) (ia : inI a0) (iq : inI q0) (iy : inI y0) :
    Calls Try.prog 18 #[v, .agg #[.bool (t0), .int .i64 (b0), .int .i64 (p0), .int .i64 (a0), .int .i64 (q0), .int .i64 (y0)]] w fun e w' => e = .returned (.bool true) ∧ Below w.heap.size w w' := by
  obtain ⟨A, c, rfl⟩ : ∃ A c, v = .slice A L.length c := ho.form
  have HO := Lib.hid ho
  have HIC := Lib.hid (And.intro ib ip)
  clear ho ib ip ia iq iy
  generalize hn : L.length = n at *
  have Hn := Lib.hid hn
  clear hn
  go_enter Try.func18, Try.ntmps18
  go_wp2_with fail
  obtain ⟨W0, hW0⟩ : ∃ W0, w.alloc (.cells #[.bool (t0), .int .i64 (b0), .int .i64 (p0), .int .i64 (a0), .int .i64 (q0), .int .i64 (y0)] 23) = W0 := ⟨_, rfl⟩
  have k0 : Blk W0 w.heap.size #[.bool (t0), .int .i64 (b0), .int .i64 (p0), .int .i64 (a0), .int .i64 (q0), .int .i64 (y0)] 23 := by rw [← hW0]; exact Blk.new _ _ _
  have b0' : Below w.heap.size w W0 := by rw [← hW0]; go_grown
  rw [hW0]
  clear hW0
  refine (head10_true _).mono ?_
  rintro e w1 ⟨rfl, b1⟩
  have K1 := Lib.hid (k0.below b1 k0.lt)
  have B1 := Lib.hid (below_then b0' b0'.size b1)
  obtain ⟨kc, hkc⟩ : ∃ kc, w.heap.size = kc := ⟨_, rfl⟩
  have HKB := Lib.hid hkc
  rw [hkc] at K1 ⊢
  clear hkc k0 b0' b1
  go_wp2_with fail
  refine (tm_new 4 _ (by decide) (by decide)).mono ?_
  rintro e w2 ⟨b, bP, rfl, m2, gP, gb, b2⟩
  have M2 := Lib.hid (show TmM w2 b bP s0.1 s0.2.1 s0.2.2 from m2)
  have K2 := Lib.hid (K1.out.below b2 K1.out.lt)
  have B2 := Lib.hid (below_then B1.out B1.out.size b2)
  have G2 := Lib.hid (show kc < b ∧ kc < bP ∧ b < w2.heap.size ∧ bP < w2.heap.size by have := m2.lt; have := K1.out.lt; omega)
  clear m2 gP gb b2 K1 B1
  go_wp2_with fail
  refine (new_any 64 _ (by decide) (by decide)).mono ?_
  rintro e w3 ⟨pm, pW, rfl, q3, gW, gp, hne, b3⟩
  have M3 := Lib.hid (M2.out.grow b3)
  have Q3 := Lib.hid q3
  have K3 := Lib.hid (K2.out.below b3 K2.out.lt)
  have B3 := Lib.hid (below_then B2.out B2.out.size b3)
  have G3 := Lib.hid (show w2.heap.size ≤ pm ∧ w2.heap.size ≤ pW ∧ pm < w3.heap.size ∧ pW < w3.heap.size ∧ pm ≠ pW by have := q3.lt; omega)
  clear q3 gW gp hne b3 M2 K2 B2
  go_wp2_with fail
  refine (tr_new 4 _ (by decide) (by decide)).mono ?_
  rintro e w4 ⟨r, rB, rT, rP, rfl, m4, g1, g2, g3, g4, b4⟩
  have M4 := Lib.hid (M3.out.grow b4)
  have Q4 := Lib.hid (Q3.out.grow b4)
  have R4 := Lib.hid (show TrM w4 r rB rT rP s0.1 s0.2.1 s0.2.2 from m4)
  have K4 := Lib.hid (K3.out.below b4 K3.out.lt)
  have B4 := Lib.hid (below_then B3.out B3.out.size b4)
  have G4 := Lib.hid (show w3.heap.size ≤ r ∧ w3.heap.size ≤ rB ∧ w3.heap.size ≤ rT ∧ w3.heap.size ≤ rP ∧ r < w4.heap.size ∧ rB < w4.heap.size ∧ rT < w4.heap.size ∧ rP < w4.heap.size by have := m4.lt; omega)
  clear m4 g1 g2 g3 g4 b4 M3 Q3 K3 B3
  go_wp2_with fail
  refine (ref_new_any 64 _ (by decide) (by decide)).mono ?_
  rintro e w5 ⟨q, qB, rfl, q5, gW, gp, hne, b5⟩
  have M5 := Lib.hid (M4.out.grow b5)
  have Q5 := Lib.hid (Q4.out.grow b5)
  have R5 := Lib.hid (R4.out.grow b5)
  have F5 := Lib.hid q5
  have K5 := Lib.hid (K4.out.below b5 K4.out.lt)
  have B5 := Lib.hid (below_then B4.out B4.out.size b5)
  have G5 := Lib.hid (show w4.heap.size ≤ q ∧ w4.heap.size ≤ qB ∧ q < w5.heap.size ∧ qB < w5.heap.size ∧ q ≠ qB by have := q5.lt; omega)
  have hgr := great10_any (.slice A n c) L w5 (HO.out.below B5.out)
  clear q5 gW gp hne b5 M4 Q4 R4 K4 B4
  go_wp2_with fail
  refine hgr.mono ?_
  rintro e w6 ⟨rfl, b6⟩
  clear hgr
  have M6 := Lib.hid (M5.out.grow b6)
  have Q6 := Lib.hid (Q5.out.grow b6)
  have R6 := Lib.hid (R5.out.grow b6)
  have F6 := Lib.hid (F5.out.grow b6)
  have K6 := Lib.hid (K5.out.below b6 K5.out.lt)
  have B6 := Lib.hid (below_then B5.out B5.out.size b6)
  have Z6 := Lib.hid b6.size
  clear b6 M5 Q5 R5 F5 K5 B5
  cases hgb : great10B L with
  | true =>
    clear hgb
    go_wp2
    go_ret
    exact ⟨rfl, B6.out⟩
  | false =>
    obtain ⟨hn200, hbs⟩ := great10_no hgb
    have HBS := Lib.hid hbs
    have hn2 : (n : Int) ≤ 200 := by rw [Hn.out] at hn200; omega
    clear hgb hbs hn200
    go_wp2_with fail
    refine (sw_new b pm w6).mono ?_
    rintro e w7 ⟨rfl, k7, b7⟩
    obtain ⟨s, hs⟩ : ∃ s, w6.heap.size = s := ⟨_, rfl⟩
    rw [hs] at k7 ⊢
    have M7 := Lib.hid (M6.out.grow b7)
    have Q7 := Lib.hid (Q6.out.grow b7)
    have R7 := Lib.hid (R6.out.grow b7)
    have F7 := Lib.hid (F6.out.grow b7)
    have K7 := Lib.hid (K6.out.below b7 K6.out.lt)
    have B7 := Lib.hid (below_then B6.out B6.out.size b7)
    have P7 := Lib.hid k7
    have G7 := Lib.hid (show w5.heap.size ≤ s ∧ s < w7.heap.size by have := Z6.out; have := k7.lt; omega)
    clear k7 b7 hs M6 Q6 R6 F6 K6 B6 Z6
    go_wp2_with fail
    refine (rs_new r q w7).mono ?_
    rintro e w8 ⟨rfl, k8, b8⟩
    obtain ⟨u, hu⟩ : ∃ u, w7.heap.size = u := ⟨_, rfl⟩
    rw [hu] at k8 ⊢
    have P8 := Lib.hid (P7.out.below b8 P7.out.lt)
    obtain ⟨k, hk⟩ : ∃ k : SwIds, k = ⟨b, bP, pm, pW, r, rB, rT, rP, q, qB, s, u⟩ := ⟨_, rfl⟩
    obtain ⟨x0, hx0⟩ : ∃ x : SwSt, x = ⟨s0.1, s0.2.1, s0.2.2, List.replicate 64 false, false, [], 0⟩ := ⟨_, rfl⟩
    have S8 := Lib.hid (show PS w ⟨b, bP, pm, pW, r, rB, rT, rP, q, qB, s, u⟩ x0 x0 w8 by
      rw [hx0]
      exact ⟨M7.out.grow b8, R7.out.grow b8, Q7.out.grow b8, F7.out.grow b8, ⟨none, 0, P8.out, ⟨none, 0, rfl, fun j u hu => by simp [i64s] at hu⟩, Nat.le_refl _, by decide, fun h => absurd h (by decide)⟩, ⟨none, 0, k8, ⟨none, 0, rfl, fun j u hu => by simp [i64s] at hu⟩, Nat.le_refl _, by decide, fun h => absurd h (by decide)⟩, below_then B7.out B7.out.size b8⟩)
    have I8 := Lib.hid (show SwI 0 x0 by rw [hx0]; exact ⟨rfl, fun p hp => absurd hp (List.not_mem_nil), Nat.zero_le _, Nat.zero_le _⟩)
    have K8 := Lib.hid (K7.out.below b8 K7.out.lt)
    have AP := Lib.hid (show ApS w ⟨b, bP, pm, pW, r, rB, rT, rP, q, qB, s, u⟩ w2.heap.size w3.heap.size w4.heap.size by
      have h2 := G2.out
      have h3 := G3.out
      have h4 := G4.out
      have h5 := G5.out
      have h7 := G7.out
      have hb := HKB.out
      unfold ApS
      refine ⟨⟨?_, ?_, ?_, ?_⟩, ⟨?_, ?_, ?_, ?_⟩, ⟨?_, ?_, ?_, ?_, ?_, ?_, ?_, ?_⟩, ⟨?_, ?_, ?_, ?_⟩, ?_, ?_, ?_⟩ <;> dsimp only <;> omega)
    have HKC := Lib.hid (show kc ∉ SwIds.wr ⟨b, bP, pm, pW, r, rB, rT, rP, q, qB, s, u⟩ by
      have h2 := G2.out
      have h3 := G3.out
      have h4 := G4.out
      have h5 := G5.out
      have h7 := G7.out
      simp only [SwIds.wr, List.mem_cons, List.not_mem_nil, or_false]
      omega)
    clear k8 b8 hu hx0 hk M7 Q7 R7 F7 K7 B7 P7 P8 G2 G3 G4 G5 G7 k
    go_wp2
    go_loopg [12] n (fun gk v12 wr => ∃ (j : Nat) (x : SwSt), j + gk = n ∧ v12 = .int .i64 j ∧ SwI j x ∧ PS w ⟨b, bP, pm, pW, r, rB, rT, rP, q, qB, s, u⟩ x x wr ∧ Blk wr kc #[.bool (t0), .int .i64 (b0), .int .i64 (p0), .int .i64 (a0), .int .i64 (q0), .int .i64 (y0)] 23)
    case atStart => exact ⟨0, x0, by omega, rfl, I8.out, S8.out, K8.out⟩
    case round =>
      obtain ⟨j, x, hjk, rfl, hI, hS, hK⟩ := hrel
      have HJ := Lib.hid hjk
      have HI := Lib.hid hI
      have SR := Lib.hid hS
      have KR := Lib.hid hK
      clear hjk hI hS hK S8 I8 K8
      rcases Nat.lt_or_ge j n with hlt | hge
      · have i1 : (j : Int) < n := by omega
        have hj200 : j ≤ 200 := by omega
        have HLT := Lib.hid hlt
        obtain ⟨op, hop⟩ : ∃ op, L[j]? = some op := ⟨_, List.getElem?_eq_getElem (by rw [Hn.out]; exact hlt)⟩
        have hb9 := HBS.out op (List.mem_of_getElem? hop)
        obtain ⟨bo, oo, rfl, hq, hat⟩ := HO.out.at hop
        obtain ⟨v0, ⟨h1, h2, h3, h4, h5, h6, h7, h8, h9, h10, hbo0, ⟨vb, hrow, u2⟩, u0, u1, u3, u4, u5, u6, u7, u8, u9⟩, vf, vt, vn, _, uw, uf, ut, uis, un⟩ := hat
        have hbw := SR.out.2.2.2.2.2.2
        have hbo : bo < wr.heap.size := Nat.lt_of_lt_of_le hbo0 hbw.size
        have e : ∀ o, wr.cell? ⟨bo, o, none⟩ = w.cell? ⟨bo, o, none⟩ := fun o => hbw.cell (p := ⟨bo, o, none⟩) hbo0
        rw [← e] at u0 u1 u2 u3 u4 u5 u6 u7 u8 u9 uw uf ut uis un
        obtain ⟨Ab, cb, rfl⟩ := hrow.form'
        have HROW := Lib.hid hrow
        have HAP := Lib.hid (fun bx hx => hrow.apart bx hx)
        obtain ⟨wh, qm, f10, t10, is10, n10⟩ := op
        obtain ⟨mw, at_, bs, t, cb', cp, ca, cq, cy, mn⟩ := qm
        dsimp only at *
        have HV := Lib.hid (show inI wh ∧ inI mw ∧ inI at_ ∧ inI cq ∧ inI f10 ∧ inI t10 ∧ inI n10 ∧ isB bs ∧ bs.length ≤ 9000 from ⟨v0, h1, h2, h6, vf, vt, vn, h9, by omega⟩)
        have z1 : wr.cell? ⟨bo, oo + j * 15 + 1, none⟩ = _ := u0
        have z2 : wr.cell? ⟨bo, oo + j * 15 + 2, none⟩ = _ := u1
        have z3 : wr.cell? ⟨bo, oo + j * 15 + 3, none⟩ = _ := u2
        have z4 : wr.cell? ⟨bo, oo + j * 15 + 4, none⟩ = _ := u3
        have z5 : wr.cell? ⟨bo, oo + j * 15 + 5, none⟩ = _ := u4
        have z6 : wr.cell? ⟨bo, oo + j * 15 + 6, none⟩ = _ := u5
        have z7 : wr.cell? ⟨bo, oo + j * 15 + 7, none⟩ = _ := u6
        have z8 : wr.cell? ⟨bo, oo + j * 15 + 8, none⟩ = _ := u7
        have z9 : wr.cell? ⟨bo, oo + j * 15 + 9, none⟩ = _ := u8
        have z10 : wr.cell? ⟨bo, oo + j * 15 + 10, none⟩ = _ := u9
        clear hlt hop h1 h2 h3 h4 h5 h6 h7 h8 h9 h10 hbo0 e hrow u0 u1 u2 u3 u4 u5 u6 u7 u8 u9 v0 vf vt vn hb9 hbw
        go_upto_block 2 with fail
        obtain ⟨W1, hW1⟩ : ∃ W1, wr.alloc (.cells #[.int .i64 (wh), .int .i64 (mw), .int .i64 (at_), .slice Ab bs.length cb, .bool (t), .int .i64 (cb'), .int .i64 (cp), .int .i64 (ca), .int .i64 (cq), .int .i64 (cy), .int .i64 (mn), .int .i64 (f10), .int .i64 (t10), .bool (is10), .int .i64 (n10)] 81) = W1 := ⟨_, rfl⟩
        have hbl1 : Below wr.heap.size wr W1 := by rw [← hW1]; exact (Below.refl _ _).alloc (Nat.le_refl _) _
        have S1 := Lib.hid (SR.out.grow hbl1)
        have K1 := Lib.hid (show Blk W1 wr.heap.size #[.int .i64 (wh), .int .i64 (mw), .int .i64 (at_), .slice Ab bs.length cb, .bool (t), .int .i64 (cb'), .int .i64 (cp), .int .i64 (ca), .int .i64 (cq), .int .i64 (cy), .int .i64 (mn), .int .i64 (f10), .int .i64 (t10), .bool (is10), .int .i64 (n10)] 81 by rw [← hW1]; exact Blk.new _ _ _)
        have KC1 := Lib.hid (KR.out.below hbl1 KR.out.lt)
        have NL := Lib.hid (show wr.heap.size ∉ SwIds.wr ⟨b, bP, pm, pW, r, rB, rT, rP, q, qB, s, u⟩ from fun hx => Nat.lt_irrefl _ (SR.out.blocks _ hx))
        clear z1 z2 z3 z4 z5 z6 z7 z8 z9 z10 uw uf ut uis un hbo hbl1 SR KR
        rw [hW1]
        clear hW1
        generalize hlo : wr.heap.size = lo at *
        clear hlo
        have c5 := K1.out.cell
        have l5 := K1.out.lt
        go_cut [14, 15, 16, 17] from 50 to 189 (fun s14 s15 s16 s17 wx => ∃ (z : Nat) (x' : SwSt), s14 = .bool (z == 0) ∧ s15 = .bool (z == 0) ∧ SwI (j + 1) x' ∧ PS w ⟨b, bP, pm, pW, r, rB, rT, rP, q, qB, s, u⟩ x' x' wx ∧ Blk wx kc #[.bool (t0), .int .i64 (b0), .int .i64 (p0), .int .i64 (a0), .int .i64 (q0), .int .i64 (y0)] 23)
        case first =>
          rcases (show wh = 0 ∨ wh = 1 ∨ wh = 2 ∨ (¬ wh = 0 ∧ ¬ wh = 1 ∧ ¬ wh = 2) by omega) with hw | hw | hw | ⟨hw0, hw1, hw2⟩
          · subst hw
            rcases (show mw < 2 ∨ ¬ mw < 2 by omega) with hm | hm
            · have gr := HROW.out.below S1.out.2.2.2.2.2.2
              go_wp2_with fail
              refine (PS.store (k := ⟨b, bP, pm, pW, r, rB, rT, rP, q, qB, s, u⟩) S1.out AP.out at_ Ab cb bs HV.out.2.2.1 gr HV.out.2.2.2.2.2.2.2.1 HV.out.2.2.2.2.2.2.2.2 (HAP.out bP AP.out.1.2.1)).mono ?_
              clear gr
              rintro e w6 ⟨⟨v6, rfl⟩, p6, t6⟩
              (have S6 := Lib.hid p6; have K6 := Lib.hid (K1.out.turns t6 NL.out); have KC6 := Lib.hid (KC1.out.turns t6 HKC.out); clear c5 l5 p6 t6; have c6 := K6.out.cell; have l6 := K6.out.lt)
              have gr := HROW.out.below S6.out.2.2.2.2.2.2
              go_wp2_with fail
              refine (PS.storeR (k := ⟨b, bP, pm, pW, r, rB, rT, rP, q, qB, s, u⟩) S6.out AP.out at_ Ab cb bs HV.out.2.2.1 gr HV.out.2.2.2.2.2.2.2.1 HV.out.2.2.2.2.2.2.2.2 (fun h0 ad e => by
                have hA := AP.out
                unfold ApS at hA
                dsimp only at hA
                exact nin3 (HAP.out rB (by omega) h0 ad e) (HAP.out rT (by omega) h0 ad e) (HAP.out rP (by omega) h0 ad e))).mono ?_
              clear gr
              rintro e w7 ⟨⟨v7, rfl⟩, p7, t7⟩
              (have S7 := Lib.hid p7; have KC7 := Lib.hid (KC6.out.turns t7 HKC.out); clear p7 t7; go_wp2_with fail; go_meet; exact ⟨0, _, by first | rfl | rw [bz_eq], by first | rfl | rw [bz_eq], HI.out.stored _ _, S7.out, KC7.out⟩)
            · go_wp2_with fail
              refine (PS.cap (k := ⟨b, bP, pm, pW, r, rB, rT, rP, q, qB, s, u⟩) S1.out AP.out at_ t cb' cp ca cq cy HV.out.2.2.1 HV.out.2.2.2.1).mono ?_
              rintro e w6 ⟨⟨v6, rfl⟩, p6, t6⟩
              (have S6 := Lib.hid p6; have K6 := Lib.hid (K1.out.turns t6 NL.out); have KC6 := Lib.hid (KC1.out.turns t6 HKC.out); clear c5 l5 p6 t6; have c6 := K6.out.cell; have l6 := K6.out.lt)
              go_wp2_with fail
              refine (PS.capR (k := ⟨b, bP, pm, pW, r, rB, rT, rP, q, qB, s, u⟩) S6.out AP.out at_ t cb' cp ca cq cy HV.out.2.2.1).mono ?_
              rintro e w7 ⟨⟨v7, rfl⟩, p7, t7⟩
              (have S7 := Lib.hid p7; have KC7 := Lib.hid (KC6.out.turns t7 HKC.out); clear p7 t7; go_wp2_with fail; go_meet; exact ⟨0, _, by first | rfl | rw [bz_eq], by first | rfl | rw [bz_eq], HI.out.capped _ _ _ _ _ _ _, S7.out, KC7.out⟩)
          · subst hw
            go_wp2_with fail
            refine (PS.paint (k := ⟨b, bP, pm, pW, r, rB, rT, rP, q, qB, s, u⟩) S1.out AP.out f10 t10 is10 HV.out.2.2.2.2.1 HV.out.2.2.2.2.2.1).mono ?_
            rintro e w6 ⟨⟨v6, rfl⟩, p6, t6⟩
            (have S6 := Lib.hid p6; have K6 := Lib.hid (K1.out.turns t6 NL.out); have KC6 := Lib.hid (KC1.out.turns t6 HKC.out); clear c5 l5 p6 t6; have c6 := K6.out.cell; have l6 := K6.out.lt)
            go_wp2_with fail
            refine (PS.paintR (k := ⟨b, bP, pm, pW, r, rB, rT, rP, q, qB, s, u⟩) S6.out AP.out f10 t10 is10 HV.out.2.2.2.2.1 HV.out.2.2.2.2.2.1).mono ?_
            rintro e w7 ⟨⟨v7, rfl⟩, p7, t7⟩
            (have S7 := Lib.hid p7; have KC7 := Lib.hid (KC6.out.turns t7 HKC.out); clear p7 t7; go_wp2_with fail; go_meet; exact ⟨0, _, by first | rfl | rw [bz_eq], by first | rfl | rw [bz_eq], HI.out.painted _ _ _, S7.out, KC7.out⟩)
          · subst hw
            go_wp2_with fail
            refine (PS.begin (k := ⟨b, bP, pm, pW, r, rB, rT, rP, q, qB, s, u⟩) S1.out AP.out).mono ?_
            rintro e w6 ⟨rfl, p6, t6⟩
            (have S6 := Lib.hid p6; have K6 := Lib.hid (K1.out.turns t6 NL.out); have KC6 := Lib.hid (KC1.out.turns t6 HKC.out); clear c5 l5 p6 t6; have c6 := K6.out.cell; have l6 := K6.out.lt)
            go_wp2_with fail
            refine (PS.beginR (k := ⟨b, bP, pm, pW, r, rB, rT, rP, q, qB, s, u⟩) S6.out AP.out).mono ?_
            rintro e w7 ⟨rfl, p7, t7⟩
            (have S7 := Lib.hid p7; have KC7 := Lib.hid (KC6.out.turns t7 HKC.out); clear p7 t7; go_wp2_with fail; go_meet; exact ⟨bz (!x.run), _, by first | rfl | rw [bz_eq], by first | rfl | rw [bz_eq], HI.out.begun, S7.out, KC7.out⟩)
          · have hx0 : (wh == 0) = false := by simpa using hw0
            have hx1 : (wh == 1) = false := by simpa using hw1
            have hx2 : (wh == 2) = false := by simpa using hw2
            have hs1 := PS.step (k := ⟨b, bP, pm, pW, r, rB, rT, rP, q, qB, s, u⟩) S1.out AP.out HI.out hj200 n10 HV.out.2.2.2.2.2.2.1
            have HS2 := Lib.hid (fun (W : World) (h : PS w ⟨b, bP, pm, pW, r, rB, rT, rP, q, qB, s, u⟩ (x.stepped n10) x W) => PS.stepRf (k := ⟨b, bP, pm, pW, r, rB, rT, rP, q, qB, s, u⟩) h AP.out HI.out hj200 n10 HV.out.2.2.2.2.2.2.1)
            generalize stepN x.L.length 0 x.run n10 = sn at *
            go_wp2_with fail
            refine hs1.mono ?_
            clear hs1
            rintro e w6 ⟨rfl, p6, t6⟩
            (have S6 := Lib.hid p6; have K6 := Lib.hid (K1.out.turns t6 NL.out); have KC6 := Lib.hid (KC1.out.turns t6 HKC.out); clear c5 l5 p6 t6; have c6 := K6.out.cell; have l6 := K6.out.lt)
            go_wp2_with fail
            refine (HS2.out w6 S6.out).mono ?_
            rintro e w7 ⟨rfl, p7, t7⟩
            (have S7 := Lib.hid p7; have KC7 := Lib.hid (KC6.out.turns t7 HKC.out); clear p7 t7; go_wp2_with fail; go_meet; exact ⟨0, _, by first | rfl | rw [bz_eq], by first | rfl | rw [bz_eq], HI.out.stepped _, S7.out, KC7.out⟩)
        case rest =>
          obtain ⟨z, x', rfl, rfl, hI', hS', hk'⟩ := hcut
          have HI' := Lib.hid hI'
          have S2 := Lib.hid hS'
          have K2 := Lib.hid hk'
          generalize (z == 0) = zb at *
          clear hI' hS' hk' S1 K1 KC1 c5 l5 HI
          obtain ⟨D, T, P, Q, run, L', g⟩ := x'
          have HTL := Lib.hid (show (tagsL T).length ≤ 1048576 by have h1 := posL_len 16 T T.length; have h2 := S2.out.1.1.2.1; have h3 := S2.out.1.1.2.2.1; dsimp only at h2 h3; show (posL 16 T T.length).length ≤ _; omega)
          have HDL := Lib.hid (show (dirtyL P).length ≤ 1048576 by have h1 := dirty_len P; have h3 := S2.out.1.1.2.2.1; dsimp only at h3; omega)
          go_upto_region 34 with fail
          refine wp_flow_lit 48 (fun w' => PS w ⟨b, bP, pm, pW, r, rB, rT, rP, q, qB, s, u⟩ ⟨D, T, P, Q, run, L', g⟩ ⟨D, T, P, Q, run, L', g⟩ w' ∧ Blk w' kc #[.bool (t0), .int .i64 (b0), .int .i64 (p0), .int .i64 (a0), .int .i64 (q0), .int .i64 (y0)] 23)
            [none, none, none, none, none, none, none, none, none, none, none, none, none, none, none, none, none, none, none, none, none, none, none, none, none, none, some (RowT (tagsL T)), none, some (RowT (tagsL T)), none, none, none, none, none, some (RowT (dirtyL P)), none, some (RowT (dirtyL P)), none, none, none, none, none, none, none, none, none, none, none] (by kernel_rfl) (by kernel_rfl)
            ⟨S2.out.grow (Below.drew (Below.refl _ _)), K2.out.drew⟩ (fun w1 w2 h hb => ⟨h.1.grow hb, h.2.below hb h.2.lt⟩) ⟨rowT_stab _, rowT_stab _, rowT_stab _, rowT_stab _, trivial⟩ ?_
          try simp (config := { maxSteps := 10000000 }) only [specV, addF, Act.put, List.setIfInBounds_toArray, List.set_cons_zero, List.set_cons_succ, List.take_succ_cons, List.take_zero, List.drop_succ_cons, List.drop_zero]
          (apply Exists.intro; refine ⟨fun vs w1 hS hB hf => ?_, ?_⟩; (focus (clear hS hB hf; go_simp; first | exact ⟨Below.refl _ _, rfl⟩ | exact rfl)); try simp (config := { maxSteps := 10000000 }) only [specV, addF, Act.put, List.setIfInBounds_toArray, List.set_cons_zero, List.set_cons_succ, List.take_succ_cons, List.take_zero, List.drop_succ_cons, List.drop_zero])
          (apply Exists.intro; refine ⟨fun vs w1 hS hB hf => ?_, ?_⟩; (focus (clear hS hB hf; go_simp; first | exact ⟨Below.refl _ _, rfl⟩ | exact rfl)); try simp (config := { maxSteps := 10000000 }) only [specV, addF, Act.put, List.setIfInBounds_toArray, List.set_cons_zero, List.set_cons_succ, List.take_succ_cons, List.take_zero, List.drop_succ_cons, List.drop_zero])
          (apply Exists.intro; refine ⟨fun vs w1 hS hB hf => ?_, ?_⟩; (focus (clear hS hB hf; go_simp; first | exact ⟨Below.refl _ _, rfl⟩ | exact rfl)); try simp (config := { maxSteps := 10000000 }) only [specV, addF, Act.put, List.setIfInBounds_toArray, List.set_cons_zero, List.set_cons_succ, List.take_succ_cons, List.take_zero, List.drop_succ_cons, List.drop_zero])
          (apply Exists.intro; refine ⟨fun vs w1 hS hB hf => ?_, ?_⟩; (focus (clear hS hB hf; go_simp; first | exact ⟨Below.refl _ _, rfl⟩ | exact rfl)); try simp (config := { maxSteps := 10000000 }) only [specV, addF, Act.put, List.setIfInBounds_toArray, List.set_cons_zero, List.set_cons_succ, List.take_succ_cons, List.take_zero, List.drop_succ_cons, List.drop_zero])
          (apply Exists.intro; refine ⟨fun vs w1 hS hB hf => ?_, ?_⟩; (focus (clear hS hB hf; go_simp; first | exact ⟨Below.refl _ _, rfl⟩ | exact rfl)); try simp (config := { maxSteps := 10000000 }) only [specV, addF, Act.put, List.setIfInBounds_toArray, List.set_cons_zero, List.set_cons_succ, List.take_succ_cons, List.take_zero, List.drop_succ_cons, List.drop_zero])
          (apply Exists.intro; refine ⟨fun vs w1 hS hB hf => ?_, ?_⟩; (focus (go_simp; exact (prun_runs hS.1.2.2.2.2.1).mono fun e w2 ⟨he, hw⟩ => callPost.of he (by subst hw; exact Below.refl _ _) rfl)); try simp (config := { maxSteps := 10000000 }) only [specV, addF, Act.put, List.setIfInBounds_toArray, List.set_cons_zero, List.set_cons_succ, List.take_succ_cons, List.take_zero, List.drop_succ_cons, List.drop_zero])
          (apply Exists.intro; refine ⟨fun vs w1 hS hB hf => ?_, ?_⟩; (focus (clear hS hB hf; go_simp; first | exact ⟨Below.refl _ _, rfl⟩ | exact rfl)); try simp (config := { maxSteps := 10000000 }) only [specV, addF, Act.put, List.setIfInBounds_toArray, List.set_cons_zero, List.set_cons_succ, List.take_succ_cons, List.take_zero, List.drop_succ_cons, List.drop_zero])
          (apply Exists.intro; refine ⟨fun vs w1 hS hB hf => ?_, ?_⟩; (focus (go_simp; exact (rrun_runs hS.1.2.2.2.2.2.1).mono fun e w2 ⟨he, hw⟩ => callPost.of he (by subst hw; exact Below.refl _ _) rfl)); try simp (config := { maxSteps := 10000000 }) only [specV, addF, Act.put, List.setIfInBounds_toArray, List.set_cons_zero, List.set_cons_succ, List.take_succ_cons, List.take_zero, List.drop_succ_cons, List.drop_zero])
          (apply Exists.intro; refine ⟨fun vs w1 hS hB hf => ?_, ?_⟩; (focus (clear hS hB hf; go_simp; first | exact ⟨Below.refl _ _, rfl⟩ | exact rfl)); try simp (config := { maxSteps := 10000000 }) only [specV, addF, Act.put, List.setIfInBounds_toArray, List.set_cons_zero, List.set_cons_succ, List.take_succ_cons, List.take_zero, List.drop_succ_cons, List.drop_zero])
          (apply Exists.intro; refine ⟨fun vs w1 hS hB hf => ?_, ?_⟩; (focus (clear hS hB hf; go_simp; first | exact ⟨Below.refl _ _, rfl⟩ | exact rfl)); try simp (config := { maxSteps := 10000000 }) only [specV, addF, Act.put, List.setIfInBounds_toArray, List.set_cons_zero, List.set_cons_succ, List.take_succ_cons, List.take_zero, List.drop_succ_cons, List.drop_zero])
          (apply Exists.intro; refine ⟨fun vs w1 hS hB hf => ?_, ?_⟩; (focus (clear hS hB hf; go_simp; first | exact ⟨Below.refl _ _, rfl⟩ | exact rfl)); try simp (config := { maxSteps := 10000000 }) only [specV, addF, Act.put, List.setIfInBounds_toArray, List.set_cons_zero, List.set_cons_succ, List.take_succ_cons, List.take_zero, List.drop_succ_cons, List.drop_zero])
          (apply Exists.intro; refine ⟨fun vs w1 hS hB hf => ?_, ?_⟩; (focus (clear hS hB hf; go_simp; first | exact ⟨Below.refl _ _, rfl⟩ | exact rfl)); try simp (config := { maxSteps := 10000000 }) only [specV, addF, Act.put, List.setIfInBounds_toArray, List.set_cons_zero, List.set_cons_succ, List.take_succ_cons, List.take_zero, List.drop_succ_cons, List.drop_zero])
          (apply Exists.intro; refine ⟨fun vs w1 hS hB hf => ?_, ?_⟩; (focus (go_simp; exact (prun_left hS.1.2.2.2.2.1).mono fun e w2 ⟨he, hw⟩ => callPost.of he (by subst hw; exact Below.refl _ _) rfl)); try simp (config := { maxSteps := 10000000 }) only [specV, addF, Act.put, List.setIfInBounds_toArray, List.set_cons_zero, List.set_cons_succ, List.take_succ_cons, List.take_zero, List.drop_succ_cons, List.drop_zero])
          (apply Exists.intro; refine ⟨fun vs w1 hS hB hf => ?_, ?_⟩; (focus (clear hS hB hf; go_simp; first | exact ⟨Below.refl _ _, rfl⟩ | exact rfl)); try simp (config := { maxSteps := 10000000 }) only [specV, addF, Act.put, List.setIfInBounds_toArray, List.set_cons_zero, List.set_cons_succ, List.take_succ_cons, List.take_zero, List.drop_succ_cons, List.drop_zero])
          (apply Exists.intro; refine ⟨fun vs w1 hS hB hf => ?_, ?_⟩; (focus (go_simp; exact (rrun_left hS.1.2.2.2.2.2.1).mono fun e w2 ⟨he, hw⟩ => callPost.of he (by subst hw; exact Below.refl _ _) rfl)); try simp (config := { maxSteps := 10000000 }) only [specV, addF, Act.put, List.setIfInBounds_toArray, List.set_cons_zero, List.set_cons_succ, List.take_succ_cons, List.take_zero, List.drop_succ_cons, List.drop_zero])
          (apply Exists.intro; refine ⟨fun vs w1 hS hB hf => ?_, ?_⟩; (focus (clear hS hB hf; go_simp; first | exact ⟨Below.refl _ _, rfl⟩ | exact rfl)); try simp (config := { maxSteps := 10000000 }) only [specV, addF, Act.put, List.setIfInBounds_toArray, List.set_cons_zero, List.set_cons_succ, List.take_succ_cons, List.take_zero, List.drop_succ_cons, List.drop_zero])
          (apply Exists.intro; refine ⟨fun vs w1 hS hB hf => ?_, ?_⟩; (focus (clear hS hB hf; go_simp; first | exact ⟨Below.refl _ _, rfl⟩ | exact rfl)); try simp (config := { maxSteps := 10000000 }) only [specV, addF, Act.put, List.setIfInBounds_toArray, List.set_cons_zero, List.set_cons_succ, List.take_succ_cons, List.take_zero, List.drop_succ_cons, List.drop_zero])
          (apply Exists.intro; refine ⟨fun vs w1 hS hB hf => ?_, ?_⟩; (focus (clear hS hB hf; go_simp; first | exact ⟨Below.refl _ _, rfl⟩ | exact rfl)); try simp (config := { maxSteps := 10000000 }) only [specV, addF, Act.put, List.setIfInBounds_toArray, List.set_cons_zero, List.set_cons_succ, List.take_succ_cons, List.take_zero, List.drop_succ_cons, List.drop_zero])
          (apply Exists.intro; refine ⟨fun vs w1 hS hB hf => ?_, ?_⟩; (focus (clear hS hB hf; go_simp; first | exact ⟨Below.refl _ _, rfl⟩ | exact rfl)); try simp (config := { maxSteps := 10000000 }) only [specV, addF, Act.put, List.setIfInBounds_toArray, List.set_cons_zero, List.set_cons_succ, List.take_succ_cons, List.take_zero, List.drop_succ_cons, List.drop_zero])
          (apply Exists.intro; refine ⟨fun vs w1 hS hB hf => ?_, ?_⟩; (focus (go_simp; exact (prun_gone hS.1.2.2.2.2.1).mono fun e w2 ⟨he, hw⟩ => callPost.of he (by subst hw; exact Below.refl _ _) rfl)); try simp (config := { maxSteps := 10000000 }) only [specV, addF, Act.put, List.setIfInBounds_toArray, List.set_cons_zero, List.set_cons_succ, List.take_succ_cons, List.take_zero, List.drop_succ_cons, List.drop_zero])
          (apply Exists.intro; refine ⟨fun vs w1 hS hB hf => ?_, ?_⟩; (focus (clear hS hB hf; go_simp; first | exact ⟨Below.refl _ _, rfl⟩ | exact rfl)); try simp (config := { maxSteps := 10000000 }) only [specV, addF, Act.put, List.setIfInBounds_toArray, List.set_cons_zero, List.set_cons_succ, List.take_succ_cons, List.take_zero, List.drop_succ_cons, List.drop_zero])
          (apply Exists.intro; refine ⟨fun vs w1 hS hB hf => ?_, ?_⟩; (focus (go_simp; exact (rrun_gone hS.1.2.2.2.2.2.1).mono fun e w2 ⟨he, hw⟩ => callPost.of he (by subst hw; exact Below.refl _ _) rfl)); try simp (config := { maxSteps := 10000000 }) only [specV, addF, Act.put, List.setIfInBounds_toArray, List.set_cons_zero, List.set_cons_succ, List.take_succ_cons, List.take_zero, List.drop_succ_cons, List.drop_zero])
          (apply Exists.intro; refine ⟨fun vs w1 hS hB hf => ?_, ?_⟩; (focus (clear hS hB hf; go_simp; first | exact ⟨Below.refl _ _, rfl⟩ | exact rfl)); try simp (config := { maxSteps := 10000000 }) only [specV, addF, Act.put, List.setIfInBounds_toArray, List.set_cons_zero, List.set_cons_succ, List.take_succ_cons, List.take_zero, List.drop_succ_cons, List.drop_zero])
          (apply Exists.intro; refine ⟨fun vs w1 hS hB hf => ?_, ?_⟩; (focus (clear hS hB hf; go_simp; first | exact ⟨Below.refl _ _, rfl⟩ | exact rfl)); try simp (config := { maxSteps := 10000000 }) only [specV, addF, Act.put, List.setIfInBounds_toArray, List.set_cons_zero, List.set_cons_succ, List.take_succ_cons, List.take_zero, List.drop_succ_cons, List.drop_zero])
          (apply Exists.intro; refine ⟨fun vs w1 hS hB hf => ?_, ?_⟩; (focus (clear hS hB hf; go_simp; first | exact ⟨Below.refl _ _, rfl⟩ | exact rfl)); try simp (config := { maxSteps := 10000000 }) only [specV, addF, Act.put, List.setIfInBounds_toArray, List.set_cons_zero, List.set_cons_succ, List.take_succ_cons, List.take_zero, List.drop_succ_cons, List.drop_zero])
          (apply Exists.intro; refine ⟨fun vs w1 hS hB hf => ?_, ?_⟩; (focus (clear hS hB hf; go_simp; first | exact ⟨Below.refl _ _, rfl⟩ | exact rfl)); try simp (config := { maxSteps := 10000000 }) only [specV, addF, Act.put, List.setIfInBounds_toArray, List.set_cons_zero, List.set_cons_succ, List.take_succ_cons, List.take_zero, List.drop_succ_cons, List.drop_zero])
          (refine ⟨fun vs w1 hS hB hf => ?_, ?_⟩; (focus (go_simp; exact (tm_tags b bP D T P w1 hS.1.1).mono fun e w2 ⟨v, he, ho, hb⟩ => callPost.of he hb (RowI.own ho))); try simp (config := { maxSteps := 10000000 }) only [specV, addF, Act.put, List.setIfInBounds_toArray, List.set_cons_zero, List.set_cons_succ, List.take_succ_cons, List.take_zero, List.drop_succ_cons, List.drop_zero])
          (apply Exists.intro; refine ⟨fun vs w1 hS hB hf => ?_, ?_⟩; (focus (clear hS hB hf; go_simp; first | exact ⟨Below.refl _ _, rfl⟩ | exact rfl)); try simp (config := { maxSteps := 10000000 }) only [specV, addF, Act.put, List.setIfInBounds_toArray, List.set_cons_zero, List.set_cons_succ, List.take_succ_cons, List.take_zero, List.drop_succ_cons, List.drop_zero])
          (refine ⟨fun vs w1 hS hB hf => ?_, ?_⟩; (focus (go_simp; exact (tr_tags r rB rT rP D T P w1 hS.1.2.1).mono fun e w2 ⟨v, he, ho, hb⟩ => callPost.of he hb (RowI.own ho))); try simp (config := { maxSteps := 10000000 }) only [specV, addF, Act.put, List.setIfInBounds_toArray, List.set_cons_zero, List.set_cons_succ, List.take_succ_cons, List.take_zero, List.drop_succ_cons, List.drop_zero])
          (apply Exists.intro; refine ⟨fun vs w1 hS hB hf => ?_, ?_⟩; (focus (obtain ⟨h7, h5, _⟩ := hf; have r5 : RowI w1 (vs 26) (tagsL T) := h5 rfl; have r7 : RowI w1 (vs 28) (tagsL T) := h7 rfl; go_simp; exact (same_ints (vs 26) (vs 28) (tagsL T) (tagsL T) w1 r5 r7 HTL.out).mono fun e w2 ⟨he, n, hw⟩ => callPost.of (v := .bool true) (by rw [he, decide_eq_true rfl]) (by subst hw; exact below_drewN (Below.refl _ _) n) rfl)); try simp (config := { maxSteps := 10000000 }) only [specV, addF, Act.put, List.setIfInBounds_toArray, List.set_cons_zero, List.set_cons_succ, List.take_succ_cons, List.take_zero, List.drop_succ_cons, List.drop_zero])
          (apply Exists.intro; refine ⟨fun vs w1 hS hB hf => ?_, ?_⟩; (focus (clear hS hB hf; go_simp; first | exact ⟨Below.refl _ _, rfl⟩ | exact rfl)); try simp (config := { maxSteps := 10000000 }) only [specV, addF, Act.put, List.setIfInBounds_toArray, List.set_cons_zero, List.set_cons_succ, List.take_succ_cons, List.take_zero, List.drop_succ_cons, List.drop_zero])
          (apply Exists.intro; refine ⟨fun vs w1 hS hB hf => ?_, ?_⟩; (focus (clear hS hB hf; go_simp; first | exact ⟨Below.refl _ _, rfl⟩ | exact rfl)); try simp (config := { maxSteps := 10000000 }) only [specV, addF, Act.put, List.setIfInBounds_toArray, List.set_cons_zero, List.set_cons_succ, List.take_succ_cons, List.take_zero, List.drop_succ_cons, List.drop_zero])
          (apply Exists.intro; refine ⟨fun vs w1 hS hB hf => ?_, ?_⟩; (focus (clear hS hB hf; go_simp; first | exact ⟨Below.refl _ _, rfl⟩ | exact rfl)); try simp (config := { maxSteps := 10000000 }) only [specV, addF, Act.put, List.setIfInBounds_toArray, List.set_cons_zero, List.set_cons_succ, List.take_succ_cons, List.take_zero, List.drop_succ_cons, List.drop_zero])
          (apply Exists.intro; refine ⟨fun vs w1 hS hB hf => ?_, ?_⟩; (focus (clear hS hB hf; go_simp; first | exact ⟨Below.refl _ _, rfl⟩ | exact rfl)); try simp (config := { maxSteps := 10000000 }) only [specV, addF, Act.put, List.setIfInBounds_toArray, List.set_cons_zero, List.set_cons_succ, List.take_succ_cons, List.take_zero, List.drop_succ_cons, List.drop_zero])
          (refine ⟨fun vs w1 hS hB hf => ?_, ?_⟩; (focus (go_simp; exact (tm_dirty b bP D T P w1 hS.1.1).mono fun e w2 ⟨v, he, ho, hb⟩ => callPost.of he hb (RowI.own ho))); try simp (config := { maxSteps := 10000000 }) only [specV, addF, Act.put, List.setIfInBounds_toArray, List.set_cons_zero, List.set_cons_succ, List.take_succ_cons, List.take_zero, List.drop_succ_cons, List.drop_zero])
          (apply Exists.intro; refine ⟨fun vs w1 hS hB hf => ?_, ?_⟩; (focus (clear hS hB hf; go_simp; first | exact ⟨Below.refl _ _, rfl⟩ | exact rfl)); try simp (config := { maxSteps := 10000000 }) only [specV, addF, Act.put, List.setIfInBounds_toArray, List.set_cons_zero, List.set_cons_succ, List.take_succ_cons, List.take_zero, List.drop_succ_cons, List.drop_zero])
          (refine ⟨fun vs w1 hS hB hf => ?_, ?_⟩; (focus (go_simp; exact (tr_dirty r rB rT rP D T P w1 hS.1.2.1).mono fun e w2 ⟨v, he, ho, hb⟩ => callPost.of he hb (RowI.own ho))); try simp (config := { maxSteps := 10000000 }) only [specV, addF, Act.put, List.setIfInBounds_toArray, List.set_cons_zero, List.set_cons_succ, List.take_succ_cons, List.take_zero, List.drop_succ_cons, List.drop_zero])
          (apply Exists.intro; refine ⟨fun vs w1 hS hB hf => ?_, ?_⟩; (focus (obtain ⟨h7, h5, _⟩ := hf; have r5 : RowI w1 (vs 34) (dirtyL P) := h5 rfl; have r7 : RowI w1 (vs 36) (dirtyL P) := h7 rfl; go_simp; exact (same_ints (vs 34) (vs 36) (dirtyL P) (dirtyL P) w1 r5 r7 HDL.out).mono fun e w2 ⟨he, n, hw⟩ => callPost.of (v := .bool true) (by rw [he, decide_eq_true rfl]) (by subst hw; exact below_drewN (Below.refl _ _) n) rfl)); try simp (config := { maxSteps := 10000000 }) only [specV, addF, Act.put, List.setIfInBounds_toArray, List.set_cons_zero, List.set_cons_succ, List.take_succ_cons, List.take_zero, List.drop_succ_cons, List.drop_zero])
          (apply Exists.intro; refine ⟨fun vs w1 hS hB hf => ?_, ?_⟩; (focus (clear hS hB hf; go_simp; first | exact ⟨Below.refl _ _, rfl⟩ | exact rfl)); try simp (config := { maxSteps := 10000000 }) only [specV, addF, Act.put, List.setIfInBounds_toArray, List.set_cons_zero, List.set_cons_succ, List.take_succ_cons, List.take_zero, List.drop_succ_cons, List.drop_zero])
          (apply Exists.intro; refine ⟨fun vs w1 hS hB hf => ?_, ?_⟩; (focus (clear hS hB hf; go_simp; first | exact ⟨Below.refl _ _, rfl⟩ | exact rfl)); try simp (config := { maxSteps := 10000000 }) only [specV, addF, Act.put, List.setIfInBounds_toArray, List.set_cons_zero, List.set_cons_succ, List.take_succ_cons, List.take_zero, List.drop_succ_cons, List.drop_zero])
          (apply Exists.intro; refine ⟨fun vs w1 hS hB hf => ?_, ?_⟩; (focus (clear hS hB hf; go_simp; first | exact ⟨Below.refl _ _, rfl⟩ | exact rfl)); try simp (config := { maxSteps := 10000000 }) only [specV, addF, Act.put, List.setIfInBounds_toArray, List.set_cons_zero, List.set_cons_succ, List.take_succ_cons, List.take_zero, List.drop_succ_cons, List.drop_zero])
          (apply Exists.intro; refine ⟨fun vs w1 hS hB hf => ?_, ?_⟩; (focus (clear hS hB hf; go_simp; first | exact ⟨Below.refl _ _, rfl⟩ | exact rfl)); try simp (config := { maxSteps := 10000000 }) only [specV, addF, Act.put, List.setIfInBounds_toArray, List.set_cons_zero, List.set_cons_succ, List.take_succ_cons, List.take_zero, List.drop_succ_cons, List.drop_zero])
          (apply Exists.intro; refine ⟨fun vs w1 hS hB hf => ?_, ?_⟩; (focus (have L1 := hS.2.cell; have l1 := hS.2.lt; clear hS hB hf; go_simp; first | exact ⟨Below.refl _ _, rfl⟩ | exact rfl)); try simp (config := { maxSteps := 10000000 }) only [specV, addF, Act.put, List.setIfInBounds_toArray, List.set_cons_zero, List.set_cons_succ, List.take_succ_cons, List.take_zero, List.drop_succ_cons, List.drop_zero])
          (apply Exists.intro; refine ⟨fun vs w1 hS hB hf => ?_, ?_⟩; (focus (go_simp; exact (prun_barrier hS.1.2.2.2.2.1 hS.1.2.2.1 t0 b0 p0 a0 q0 y0 HIC.out.1 HIC.out.2).mono fun e w2 ⟨he, hb⟩ => callPost.of he hb rfl)); try simp (config := { maxSteps := 10000000 }) only [specV, addF, Act.put, List.setIfInBounds_toArray, List.set_cons_zero, List.set_cons_succ, List.take_succ_cons, List.take_zero, List.drop_succ_cons, List.drop_zero])
          (apply Exists.intro; refine ⟨fun vs w1 hS hB hf => ?_, ?_⟩; (focus (clear hS hB hf; go_simp; first | exact ⟨Below.refl _ _, rfl⟩ | exact rfl)); try simp (config := { maxSteps := 10000000 }) only [specV, addF, Act.put, List.setIfInBounds_toArray, List.set_cons_zero, List.set_cons_succ, List.take_succ_cons, List.take_zero, List.drop_succ_cons, List.drop_zero])
          (apply Exists.intro; refine ⟨fun vs w1 hS hB hf => ?_, ?_⟩; (focus (have L1 := hS.2.cell; have l1 := hS.2.lt; clear hS hB hf; go_simp; first | exact ⟨Below.refl _ _, rfl⟩ | exact rfl)); try simp (config := { maxSteps := 10000000 }) only [specV, addF, Act.put, List.setIfInBounds_toArray, List.set_cons_zero, List.set_cons_succ, List.take_succ_cons, List.take_zero, List.drop_succ_cons, List.drop_zero])
          (apply Exists.intro; refine ⟨fun vs w1 hS hB hf => ?_, ?_⟩; (focus (go_simp; exact (rrun_barrier hS.1.2.2.2.2.2.1 hS.1.2.2.2.1 t0 b0 p0 a0 q0 y0 HIC.out.1 HIC.out.2).mono fun e w2 ⟨he, hb⟩ => callPost.of he hb rfl)); try simp (config := { maxSteps := 10000000 }) only [specV, addF, Act.put, List.setIfInBounds_toArray, List.set_cons_zero, List.set_cons_succ, List.take_succ_cons, List.take_zero, List.drop_succ_cons, List.drop_zero])
          (apply Exists.intro; refine ⟨fun vs w1 hS hB hf => ?_, ?_⟩; (focus (clear hS hB hf; exact opOk_capneq rfl rfl rfl rfl)); try simp (config := { maxSteps := 10000000 }) only [specV, addF, Act.put, List.setIfInBounds_toArray, List.set_cons_zero, List.set_cons_succ, List.take_succ_cons, List.take_zero, List.drop_succ_cons, List.drop_zero])
          intro vs w5 hS hB5 _
          have S5 := Lib.hid hS
          clear hS hB5
          dsimp only
          go_wp2
          go_roundg (gk - 1)
          case measure => have := HJ.out; have := HLT.out; omega
          case rel => exact ⟨j + 1, _, by have := HJ.out; have := HLT.out; omega, by go_num, HI'.out, S5.out.1, S5.out.2⟩
      · have i1 : ¬ (j : Int) < n := by omega
        clear hge
        go_wp2
        go_ret
        exact ⟨rfl, SR.out.2.2.2.2.2.2⟩
end Go.Proofs.Ytjimkkkiilcpoaa.SweepPlays
