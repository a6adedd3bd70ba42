/-
  SweepSteps: for every slice of calls, every slice of paints and every slice of numbers of pages the law returns true, and each argument reads as it did. Condition: none.
-/
import Derived.Test.YtjimkkkiilcpoaaSwK
set_option linter.unusedVariables false
set_option linter.unusedSimpArgs false
namespace Go.Proofs.Ytjimkkkiilcpoaa.SweepSteps
open Go.RowKit Go.Proofs.Ytjimkkkiilcpoaa

theorem own : ownKnob Try.prog.godebug = none := by kernel_rfl
theorem laidOut : laidOutB Try.prog = true := by kernel_rfl

/-- Two memories, what is painted, a sweeper of each. -/
def S2 (w : World) (b bP r rP pm pW s u : Nat) (D : List Int) (Q : List Bool) (dL : List Int) (S : List Bool × List Bool × Nat) (run : Bool) (i : Nat) (S' : List Bool × List Bool × Nat) (run' : Bool) (i' : Nat) (W : World) : Prop :=
  TmM W b bP D S.1 S.2.1 ∧ TmM W r rP D S'.1 S'.2.1 ∧ ShM W pm pW Q ∧ SwRun W s b pm [bP, s, rP, u] dL run i S.2.2 ∧ SwRun W u r pm [bP, s, rP, u] dL run' i' S'.2.2 ∧ Below w.heap.size w W
def Ap2 (w : World) (b bP r rP pm pW s u : Nat) : Prop :=
  (s ≠ b ∧ s ≠ bP ∧ s ≠ pm ∧ s ≠ pW ∧ bP ≠ pm ∧ bP ≠ pW) ∧ (u ≠ r ∧ u ≠ rP ∧ u ≠ pm ∧ u ≠ pW ∧ rP ≠ pm ∧ rP ≠ pW) ∧ (s ≠ r ∧ s ≠ rP ∧ s ≠ u ∧ bP ≠ r ∧ bP ≠ rP ∧ bP ≠ u ∧ u ≠ b ∧ rP ≠ b) ∧ (w.heap.size ≤ bP ∧ w.heap.size ≤ s ∧ w.heap.size ≤ rP ∧ w.heap.size ≤ u)
theorem nin2 {x y z : Nat} (h1 : z ≠ x) (h2 : z ≠ y) : z ∉ [x, y] := by simp [h1, h2]
theorem all2 {x y n : Nat} (h1 : n ≤ x) (h2 : n ≤ y) : ∀ z ∈ [x, y], n ≤ z := by simp [h1, h2]
theorem S2.grow {w : World} {b bP r rP pm pW s u : Nat} {D : List Int} {Q : List Bool} {dL : List Int} {S : List Bool × List Bool × Nat} {run : Bool} {i : Nat} {S' : List Bool × List Bool × Nat} {run' : Bool} {i' : Nat} {W W1 : World} (h : S2 w b bP r rP pm pW s u D Q dL S run i S' run' i' W) (hb : Below W.heap.size W W1) : S2 w b bP r rP pm pW s u D Q dL S run i S' run' i' W1 :=
  ⟨h.1.grow hb, h.2.1.grow hb, h.2.2.1.grow hb, h.2.2.2.1.grow hb, h.2.2.2.2.1.grow hb, below_then h.2.2.2.2.2 h.2.2.2.2.2.size hb⟩
theorem S2.one {w : World} {b bP r rP pm pW s u : Nat} {D : List Int} {Q : List Bool} {dL : List Int} {S S1 : List Bool × List Bool × Nat} {run run1 : Bool} {i i1 : Nat} {S' : List Bool × List Bool × Nat} {run' : Bool} {i' : Nat} {W W1 : World} (h : S2 w b bP r rP pm pW s u D Q dL S run i S' run' i' W)
    (ha : Ap2 w b bP r rP pm pW s u) (h1 : TmM W1 b bP D S1.1 S1.2.1) (h2 : SwRun W1 s b pm [bP, s, rP, u] dL run1 i1 S1.2.2) (ht : Turns [bP, s] W W1) : S2 w b bP r rP pm pW s u D Q dL S1 run1 i1 S' run' i' W1 := by
  obtain ⟨⟨a1, a2, a3, a4, a5, a6⟩, ⟨c1, c2, c3, c4, c5, c6⟩, ⟨d1, d2, d3, d4, d5, d6, d7, d8⟩, ⟨e1, e2, e3, e4⟩⟩ := ha
  exact ⟨h1, h.2.1.turns ht (nin2 d4.symm d1.symm) (nin2 d5.symm d2.symm), h.2.2.1.turns ht (nin2 a5.symm a3.symm) (nin2 a6.symm a4.symm), h2, h.2.2.2.2.1.turns ht (nin2 d6.symm d3.symm) (by simp), below_turns h.2.2.2.2.2 ht (all2 e1 e2)⟩
theorem S2.two {w : World} {b bP r rP pm pW s u : Nat} {D : List Int} {Q : List Bool} {dL : List Int} {S : List Bool × List Bool × Nat} {run : Bool} {i : Nat} {S' S1 : List Bool × List Bool × Nat} {run' run1 : Bool} {i' i1 : Nat} {W W1 : World} (h : S2 w b bP r rP pm pW s u D Q dL S run i S' run' i' W)
    (ha : Ap2 w b bP r rP pm pW s u) (h1 : TmM W1 r rP D S1.1 S1.2.1) (h2 : SwRun W1 u r pm [bP, s, rP, u] dL run1 i1 S1.2.2) (ht : Turns [rP, u] W W1) : S2 w b bP r rP pm pW s u D Q dL S run i S1 run1 i1 W1 := by
  obtain ⟨⟨a1, a2, a3, a4, a5, a6⟩, ⟨c1, c2, c3, c4, c5, c6⟩, ⟨d1, d2, d3, d4, d5, d6, d7, d8⟩, ⟨e1, e2, e3, e4⟩⟩ := ha
  exact ⟨h.1.turns ht (nin2 d8.symm d7.symm) (nin2 d5 d6), h1, h.2.2.1.turns ht (nin2 c5.symm c3.symm) (nin2 c6.symm c4.symm), h.2.2.2.1.turns ht (nin2 d2 d3) (by simp), h2, below_turns h.2.2.2.2.2 ht (all2 e3 e4)⟩

theorem step_99 {nd i : Nat} {run : Bool} (h : nd ≤ 4) (hi : i ≤ nd) (hr : run = true ∨ i = nd) : i + stepN nd i run 99 = nd ∧ stepR nd i run 99 = false := by
  cases run with
  | true =>
    have e : stepN nd i true 99 = min 99 (nd - i) := rfl
    have e2 : stepR nd i true 99 = decide (i + stepN nd i true 99 < nd) := rfl
    rw [e2, e]
    exact ⟨by omega, decide_eq_false (by omega)⟩
  | false =>
    have e : stepN nd i false 99 = 0 := rfl
    rw [e]
    rcases hr with hr | hr
    · cases hr
    · exact ⟨by omega, rfl⟩
theorem step_or {nd i : Nat} {run : Bool} {k : Int} (hi : i ≤ nd) (hr : run = true ∨ i = nd) : stepR nd i run k = true ∨ i + stepN nd i run k = nd := by
  have hle := stepN_le nd i run k hi
  unfold stepR
  split
  · rcases Nat.lt_or_ge (i + stepN nd i run k) nd with h | h
    · exact .inl (decide_eq_true h)
    · exact .inr (by omega)
  · rename_i hn
    have : stepN nd i run k = 0 := by rw [stepN, if_neg hn]
    rw [this]
    exact hr
theorem swS_take (D : List Int) (Q : List Bool) (dL : List Int) (i m : Nat) (S : List Bool × List Bool × Nat) : swS D Q ((dL.drop i).take m) (swS D Q (dL.take i) S) = swS D Q (dL.take (i + m)) S := by
  rw [← swS_app, ← List.take_add]
theorem sw_bound (D : List Int) (Q : List Bool) (dL : List Int) (T P : List Bool) (i : Nat) (hP : P.length = 4) (hd : dL.length ≤ 4) : (swS D Q (dL.take i) (T, P, 0)).2.1.length = 4 ∧ (swS D Q (dL.take i) (T, P, 0)).2.2 ≤ 64 := by
  have h1 := swS_len D Q (dL.take i) (T, P, 0)
  have h2 := swS_gone D Q (dL.take i) (T, P, 0)
  have h3 : (dL.take i).length ≤ dL.length := by rw [List.length_take]; omega
  exact ⟨h1.trans hP, by dsimp only at h2; omega⟩
theorem S2.stepS {w : World} {b bP r rP pm pW s u : Nat} {D : List Int} {Q : List Bool} {T P : List Bool} {run : Bool} {i : Nat} {S' : List Bool × List Bool × Nat} {run' : Bool} {i' : Nat} {W : World} (h : S2 w b bP r rP pm pW s u D Q (dirtyL P) (swS D Q ((dirtyL P).take i) (T, P, 0)) run i S' run' i' W)
    (ha : Ap2 w b bP r rP pm pW s u) (hP : P.length = 4) (k : Int) (hk : inI k) :
    Calls Try.prog 76 #[.pointer (some ⟨s, 0, none⟩), .int .i64 k] W fun e w' => (∃ v, e = .returned v) ∧ S2 w b bP r rP pm pW s u D Q (dirtyL P) (swS D Q ((dirtyL P).take (i + stepN (dirtyL P).length i run k)) (T, P, 0)) (stepR (dirtyL P).length i run k) (i + stepN (dirtyL P).length i run k) S' run' i' w' := by
  have hd := dirty_len P
  obtain ⟨h1, h2⟩ := sw_bound D Q (dirtyL P) T P i hP (by omega)
  have g := sw_stepR s b bP pm pW D _ _ Q [bP, s, rP, u] (dirtyL P) run i _ k W h.2.2.2.1 ⟨by simp, by simp⟩ h.1 h.2.2.1 ha.1 (fun p hp => by rw [h1, ← hP]; exact dirty_lt p hp) (by omega) hk
  refine g.mono fun e w' ⟨g1, g2, g3, g4⟩ => ⟨⟨_, g1⟩, ?_⟩
  have e := swS_take D Q (dirtyL P) i (stepN (dirtyL P).length i run k) (T, P, 0)
  refine h.one ha ?_ ?_ g4
  · rw [← e]; exact g2
  · rw [← e]; exact g3
theorem S2.stepU {w : World} {b bP r rP pm pW s u : Nat} {D : List Int} {Q : List Bool} {T P : List Bool} {run : Bool} {i : Nat} {S' : List Bool × List Bool × Nat} {run' : Bool} {i' : Nat} {W : World} (h : S2 w b bP r rP pm pW s u D Q (dirtyL P) S' run' i' (swS D Q ((dirtyL P).take i) (T, P, 0)) run i W)
    (ha : Ap2 w b bP r rP pm pW s u) (hP : P.length = 4) (k : Int) (hk : inI k) :
    Calls Try.prog 76 #[.pointer (some ⟨u, 0, none⟩), .int .i64 k] W fun e w' => (∃ v, e = .returned v) ∧ S2 w b bP r rP pm pW s u D Q (dirtyL P) S' run' i' (swS D Q ((dirtyL P).take (i + stepN (dirtyL P).length i run k)) (T, P, 0)) (stepR (dirtyL P).length i run k) (i + stepN (dirtyL P).length i run k) w' := by
  have hd := dirty_len P
  obtain ⟨h1, h2⟩ := sw_bound D Q (dirtyL P) T P i hP (by omega)
  have g := sw_stepR u r rP pm pW D _ _ Q [bP, s, rP, u] (dirtyL P) run i _ k W h.2.2.2.2.1 ⟨by simp, by simp⟩ h.2.1 h.2.2.1 ha.2.1 (fun p hp => by rw [h1, ← hP]; exact dirty_lt p hp) (by omega) hk
  refine g.mono fun e w' ⟨g1, g2, g3, g4⟩ => ⟨⟨_, g1⟩, ?_⟩
  have e := swS_take D Q (dirtyL P) i (stepN (dirtyL P).length i run k) (T, P, 0)
  refine h.two ha ?_ ?_ g4
  · rw [← e]; exact g2
  · rw [← e]; exact g3

set_option maxRecDepth 100000 in
set_option maxHeartbeats 3200000 in
theorem walk (v : Value) (L : List Op7) (vp : Value) (LP : List Pnt) (vb : Value) (bs : List Int) (w : World) (ho : OpsM w v L) (hp : OpsR w vp LP) (hrb : RowU w vb bs) (hbb : isB bs) (hbm : bs.length ≤ maxLen) :
    Calls Try.prog 20 #[v, vp, vb] w fun e w' => e = .returned (.bool true) ∧ Below w.heap.size w w' := by
  obtain ⟨A, c, rfl⟩ : ∃ A c, v = .slice A L.length c := ho.form
  obtain ⟨Ap, cp', rfl⟩ : ∃ A c, vp = .slice A LP.length c := hp.form
  obtain ⟨Ab, cb, rfl, hrd, hcb⟩ := id hrb
  have HO := Lib.hid ho
  have HPO := Lib.hid hp
  have HRB := Lib.hid hrb
  have HBB := Lib.hid hbb
  clear ho hp hrb hbb hbm hrd
  generalize hn : L.length = n at *
  have Hn := Lib.hid hn
  clear hn
  generalize hnp : LP.length = np at *
  have Hnp := Lib.hid hnp
  clear hnp
  generalize hnb : bs.length = nb at *
  have Hnb := Lib.hid hnb
  clear hnb
  go_enter Try.func20, Try.ntmps20
  go_wp2_with fail
  refine (head10_true _).mono ?_
  rintro e w1 ⟨rfl, b1⟩
  have B1 := Lib.hid b1
  clear b1
  go_wp2_with fail
  refine (tm_new 4 _ (by decide) (by decide)).mono ?_
  rintro e w2 ⟨b, bP, rfl, m2, gP, gb, b2⟩
  have M2 := Lib.hid (show TmM w2 b bP s0.1 s0.2.1 s0.2.2 from m2)
  have B2 := Lib.hid (below_then B1.out B1.out.size b2)
  have G2 := Lib.hid (And.intro gP gb)
  clear m2 gP gb b2
  go_wp2_with fail
  refine (new_any 64 _ (by decide) (by decide)).mono ?_
  rintro e w3 ⟨pm, pW, rfl, q3, gW, gp, hne, b3⟩
  have M3 := Lib.hid (M2.out.grow b3)
  have Q3 := Lib.hid q3
  have B3 := Lib.hid (below_then B2.out B2.out.size b3)
  have G3 := Lib.hid (show ApF w b bP pm pW ∧ b < w3.heap.size ∧ bP < w3.heap.size ∧ pm < w3.heap.size ∧ pW < w3.heap.size by
    have h1 := M2.out.lt
    have h2 := q3.lt
    have h3 := G2.out
    have h4 := B1.out.size
    have h5 := B2.out.size
    have h6 := b3.size
    refine ⟨⟨by omega, by omega, by omega, by omega, by omega, by omega⟩, by omega, by omega, h2.1, h2.2⟩)
  clear q3 gW gp hne b3 M2 B2 G2 B1
  go_wp2_with fail
  refine (tm_new 4 _ (by decide) (by decide)).mono ?_
  rintro e w4 ⟨r, rP, rfl, m4, gP, gb, b4⟩
  have F4 := Lib.hid (show Fl w b bP pm pW s0 (List.replicate 64 false) w4 w4 from ⟨M3.out.grow b4, Q3.out.grow b4, below_then B3.out B3.out.size b4, Turns.refl _ _⟩)
  have M4 := Lib.hid (show TmM w4 r rP s0.1 s0.2.1 s0.2.2 from m4)
  have G4 := Lib.hid (show w3.heap.size ≤ rP ∧ w3.heap.size ≤ r ∧ r < w4.heap.size ∧ rP < w4.heap.size ∧ w.heap.size ≤ w3.heap.size by have := m4.lt; have := B3.out.size; omega)
  have hgr := great_any (.slice A n c) L w4 (HO.out.below F4.out.2.2.1)
  clear m4 gP gb b4 M3 Q3 B3
  go_wp2_with fail
  refine hgr.mono ?_
  rintro e w5 ⟨rfl, rfl⟩
  clear hgr
  cases hgb : greatB L with
  | true =>
    clear hgb
    go_wp2
    go_ret
    exact ⟨rfl, F4.out.2.2.1⟩
  | false =>
    obtain ⟨hn200, hbs⟩ := great_no hgb
    clear hgb
    rcases Nat.lt_or_ge 200 np with hbig | hsm
    · have i0 : (200 : Int) < np := by omega
      clear hn200 hbs hbig
      go_wp2
      go_ret
      exact ⟨rfl, F4.out.2.2.1⟩
    · have i0 : ¬ (200 : Int) < np := by omega
      rcases Nat.lt_or_ge 300 nb with hbig | hsb
      · have i1 : (300 : Int) < nb := by omega
        clear hn200 hbs hbig hsm
        go_wp2
        go_ret
        exact ⟨rfl, F4.out.2.2.1⟩
      · have i1 : ¬ (300 : Int) < nb := by omega
        have HF := Lib.hid (fill_any w b bP pm pW s0 (List.replicate 64 false) (.slice A n c) L (.slice Ap np cp') LP w4 HO.out HPO.out F4.out G3.out.1 hn200 hbs (by rw [Hnp.out]; exact hsm))
        have HFN := Lib.hid (fun (Q : List Bool) (w5 : World) (h : Fl w r rP pm pW s0 Q w5 w5) (ha : ApF w r rP pm pW) => fill_any w r rP pm pW s0 Q (.slice A n c) L (.slice none 0 0) [] w5 HO.out (.inl ⟨none, 0, rfl, rfl⟩) h ha hn200 hbs (by decide))
        have HOD := Lib.hid (onD_flM L (S := s0) (onD_new _ 64))
        have HPL := Lib.hid (show (flM s0 L).2.2.length = 4 from flM_len L s0)
        generalize flM s0 L = S at *
        generalize flQ (List.replicate 64 false) LP = Q at *
        obtain ⟨D, T, P⟩ := S
        dsimp only at *
        clear hn200 hbs hsm hsb
        go_wp2_with fail
        refine HF.out.mono ?_
        rintro e w5 ⟨⟨ve, rfl⟩, f5⟩
        have F5 := Lib.hid f5
        have M5 := Lib.hid (M4.out.turns f5.2.2.2 (by have := G4.out; have := G3.out; simp; omega) (by have := G4.out; have := G3.out; simp; omega))
        clear f5 HF F4 M4
        have hfn := HFN.out Q w5 ⟨M5.out, F5.out.2.1, F5.out.2.2.1, Turns.refl _ _⟩ (by have h1 := G4.out; have h2 := G3.out; unfold ApF at h2 ⊢; omega)
        go_wp2_with fail
        refine hfn.mono ?_
        clear hfn
        rintro e w6 ⟨⟨ve2, rfl⟩, f6⟩
        have F6 := Lib.hid f6
        have M6 := Lib.hid (F5.out.1.turns f6.2.2.2 (by have h1 := G4.out; have h2 := G3.out; unfold ApF at h2; simp; omega) (by have h1 := G4.out; have h2 := G3.out; unfold ApF at h2; simp; omega))
        clear f6 F5 M5 HFN
        go_wp2_with fail
        refine (sw_new b pm w6).mono ?_
        rintro e w7 ⟨rfl, k7, b7⟩
        obtain ⟨s, hs⟩ : ∃ s, w6.heap.size = s := ⟨_, rfl⟩
        rw [hs] at k7 ⊢
        have F7 := Lib.hid (F6.out.grow b7)
        have M7 := Lib.hid (M6.out.grow b7)
        have K7 := Lib.hid k7
        have G7 := Lib.hid (show b < s ∧ bP < s ∧ r < s ∧ rP < s ∧ pm < s ∧ pW < s ∧ w.heap.size ≤ s by
          have h1 := M6.out.lt
          have h2 := F6.out.1.lt
          have h3 := F6.out.2.1.lt
          have h4 := F6.out.2.2.1.size
          omega)
        clear k7 b7 hs F6 M6
        go_wp2_with fail
        refine (sw_new r pm w7).mono ?_
        rintro e w8 ⟨rfl, k8, b8⟩
        obtain ⟨u, hu⟩ : ∃ u, w7.heap.size = u := ⟨_, rfl⟩
        rw [hu] at k8 ⊢
        have F8 := Lib.hid (F7.out.grow b8)
        have M8 := Lib.hid (M7.out.grow b8)
        have K8 := Lib.hid (K7.out.below b8 K7.out.lt)
        have KU := Lib.hid k8
        have AP := Lib.hid (show Ap2 w b bP r rP pm pW s u by
          have h1 := G7.out
          have h2 := K7.out.lt
          have h3 := G3.out
          have h4 := G4.out
          unfold ApF at h3
          unfold Ap2
          omega)
        have HBD := Lib.hid (show ∀ x ∈ [bP, s, rP, u], x < w8.heap.size from fun x hx => by
          have h1 := G7.out
          have h2 := KU.out.lt
          have h3 := K8.out.lt
          simp at hx
          rcases hx with rfl | rfl | rfl | rfl <;> omega)
        clear k8 b8 hu F7 M7 K7 G7 G3 G4
        go_wp2_with fail
        refine (swr_begin s b bP pm D T P (.slice none 0 0) [bP, s, rP, u] _ K8.out M8.out HBD.out).mono ?_
        rintro e w9 ⟨rfl, k9, t9⟩
        have F9 := Lib.hid (show TmM w9 r rP D T P ∧ ShM w9 pm pW Q ∧ Below w.heap.size w w9 by
          have h := AP.out
          unfold Ap2 at h
          exact ⟨F8.out.1.turns t9 (by simp; omega) (by simp; omega), F8.out.2.1.turns t9 (by simp; omega) (by simp; omega), below_turns F8.out.2.2.1 t9 (by simp; omega)⟩)
        have M9 := Lib.hid (M8.out.turns t9 (by have h := AP.out; unfold Ap2 at h; simp; omega) (by have h := AP.out; unfold Ap2 at h; simp; omega))
        have K9 := Lib.hid k9
        have KU9 := Lib.hid (KU.out.turns t9 (by have h := AP.out; unfold Ap2 at h; simp; omega))
        have HBD9 := Lib.hid (show ∀ x ∈ [bP, s, rP, u], x < w9.heap.size from fun x hx => Nat.lt_of_lt_of_le (HBD.out x hx) t9.size)
        clear k9 t9 F8 M8 K8 KU HBD
        go_wp2_with fail
        refine (swr_begin u r rP pm D T P (.slice none 0 0) [bP, s, rP, u] _ KU9.out F9.out.1 HBD9.out).mono ?_
        rintro e w10 ⟨rfl, k10, t10⟩
        have S10 := Lib.hid (show S2 w b bP r rP pm pW s u D Q (dirtyL P) (T, P, 0) true 0 (T, P, 0) true 0 w10 by
          have h := AP.out
          unfold Ap2 at h
          exact ⟨M9.out.turns t10 (by simp; omega) (by simp; omega), F9.out.1.turns t10 (by simp; omega) (by simp; omega), F9.out.2.1.turns t10 (by simp; omega) (by simp; omega), K9.out.turns t10 (by simp; omega) (by simp), k10, below_turns F9.out.2.2 t10 (by simp; omega)⟩)
        clear k10 t10 F9 M9 K9 KU9 HBD9
        go_wp2_with fail
        have hnd := dirty_len P
        obtain ⟨z1, z2⟩ := step_99 (nd := (dirtyL P).length) (i := 0) (run := true) (by rw [HPL.out] at hnd; exact hnd) (Nat.zero_le _) (.inl rfl)
        have g11 := S2.stepS (i := 0) (run := true) (T := T) (P := P) S10.out AP.out HPL.out 99 ⟨by decide, by decide⟩
        rw [z1, z2] at g11
        refine g11.mono ?_
        clear g11
        rintro e w11 ⟨⟨v11, rfl⟩, s11⟩
        rw [List.take_length] at s11
        have S11 := Lib.hid s11
        have HND := Lib.hid hnd
        clear s11 z1 z2 S10 hnd
        go_wp2
        go_loopg [13] nb (fun gk v13 wr => ∃ (j i : Nat) (run : Bool), j + gk = nb ∧ v13 = .int .i64 j ∧ i ≤ (dirtyL P).length ∧ (run = true ∨ i = (dirtyL P).length) ∧
          S2 w b bP r rP pm pW s u D Q (dirtyL P) (swS D Q (dirtyL P) (T, P, 0)) false (dirtyL P).length (swS D Q ((dirtyL P).take i) (T, P, 0)) run i wr)
        case atStart => exact ⟨0, 0, true, by omega, rfl, Nat.zero_le _, .inl rfl, S11.out⟩
        case round =>
          obtain ⟨j, i, run, hjk, rfl, hi, hr, hS⟩ := hrel
          have HJ := Lib.hid hjk
          have HI := Lib.hid (And.intro hi hr)
          have SR := Lib.hid hS
          clear hjk hi hr hS
          rcases Nat.lt_or_ge j nb with hlt | hge
          · have i2 : (j : Int) < nb := by omega
            have HLT := Lib.hid hlt
            have hlt' : j < bs.length := by rw [Hnb.out]; exact hlt
            have HRR := HRB.out.below SR.out.2.2.2.2.2
            obtain ⟨ba, oa, ca, hva, hca0, hca⟩ := HRR.cells (by omega)
            cases hva
            have hk := hca j hlt'
            have hba : ba < wr.heap.size := World.block_lt_of_cell? wr _ hk
            obtain ⟨x0, x1⟩ := isB_rdn HBB.out j
            generalize rdn bs j = x at *
            have gs := S2.stepU SR.out AP.out HPL.out x ⟨by omega, by omega⟩
            clear hlt hlt' HRR hca hca0
            go_wp2_with fail
            refine gs.mono ?_
            clear gs hk hba
            rintro e w12 ⟨⟨v12, rfl⟩, s12⟩
            have S12 := Lib.hid s12
            clear s12 SR
            go_wp2
            go_roundg (gk - 1)
            case measure => have := HJ.out; have := HLT.out; omega
            case rel => exact ⟨j + 1, _, _, by have := HJ.out; have := HLT.out; omega, by go_num, stepN_le _ _ _ _ HI.out.1, step_or HI.out.1 HI.out.2, S12.out⟩
          · have i2 : ¬ (j : Int) < nb := by omega
            obtain ⟨z1, z2⟩ := step_99 (by have := HND.out; rw [HPL.out] at this; exact this) HI.out.1 HI.out.2
            have g12 := S2.stepU SR.out AP.out HPL.out 99 ⟨by decide, by decide⟩
            rw [z1, z2, List.take_length] at g12
            clear hge z1 z2
            go_wp2_with fail
            refine g12.mono ?_
            clear g12
            rintro e w12 ⟨⟨v12, rfl⟩, s12⟩
            have S12 := Lib.hid s12
            clear s12 SR S11 HI
            have HTL := Lib.hid (show (tagsL (swS D Q (dirtyL P) (T, P, 0)).1).length ≤ 1048576 by have h1 := posL_len 16 (swS D Q (dirtyL P) (T, P, 0)).1 (swS D Q (dirtyL P) (T, P, 0)).1.length; have h2 := S12.out.1.1.2.1; have h3 := S12.out.1.1.2.2.1; show (posL 16 _ _).length ≤ _; omega)
            have HDL := Lib.hid (show (dirtyL (swS D Q (dirtyL P) (T, P, 0)).2.1).length ≤ 1048576 by have h1 := dirty_len (swS D Q (dirtyL P) (T, P, 0)).2.1; have h3 := S12.out.1.1.2.2.1; omega)
            generalize hgs : swS D Q (dirtyL P) (T, P, 0) = SS at *
            clear hgs HND HOD
            generalize dirtyL P = dl at *
            obtain ⟨T', P', g'⟩ := SS
            dsimp only at *
            go_wp2_with fail
            refine (tm_tags b bP D T' P' _ S12.out.1).mono ?_
            rintro e w13 ⟨v13, rfl, o13, b13⟩
            have S13 := Lib.hid (S12.out.grow b13)
            have R13 := Lib.hid (RowI.own o13)
            clear o13 b13 S12
            go_wp2_with fail
            refine (tm_tags r rP D T' P' _ S13.out.2.1).mono ?_
            rintro e w14 ⟨v14, rfl, o14, b14⟩
            have S14 := Lib.hid (S13.out.grow b14)
            have R14 := Lib.hid (R13.out.below b14)
            have R14b := Lib.hid (RowI.own o14)
            clear o14 b14 S13 R13
            go_wp2_with fail
            refine (same_ints v13 v14 (tagsL T') (tagsL T') _ R14.out R14b.out HTL.out).mono ?_
            rintro e w15 ⟨rfl, n15, rfl⟩
            rw [decide_eq_true rfl]
            have S15 := Lib.hid (S14.out.grow (below_drewN (Below.refl _ _) n15))
            clear S14 R14 R14b
            generalize World.drewN _ n15 = w15 at *
            go_wp2_with fail
            refine (tm_dirty b bP D T' P' _ S15.out.1).mono ?_
            rintro e w16 ⟨v16, rfl, o16, b16⟩
            have S16 := Lib.hid (S15.out.grow b16)
            have R16 := Lib.hid (RowI.own o16)
            clear o16 b16 S15
            go_wp2_with fail
            refine (tm_dirty r rP D T' P' _ S16.out.2.1).mono ?_
            rintro e w17 ⟨v17, rfl, o17, b17⟩
            have S17 := Lib.hid (S16.out.grow b17)
            have R17 := Lib.hid (R16.out.below b17)
            have R17b := Lib.hid (RowI.own o17)
            clear o17 b17 S16 R16
            go_wp2_with fail
            refine (same_ints v16 v17 (dirtyL P') (dirtyL P') _ R17.out R17b.out HDL.out).mono ?_
            rintro e w18 ⟨rfl, n18, rfl⟩
            rw [decide_eq_true rfl]
            have S18 := Lib.hid (S17.out.grow (below_drewN (Below.refl _ _) n18))
            clear S17 R17 R17b
            generalize World.drewN _ n18 = w18 at *
            go_wp2_with fail
            refine (swr_gone s b pm _ _ _ _ _ _ S18.out.2.2.2.1).mono ?_
            rintro e w19 ⟨rfl, rfl⟩
            go_wp2_with fail
            refine (swr_gone u r pm _ _ _ _ _ _ S18.out.2.2.2.2.1).mono ?_
            rintro e w19 ⟨rfl, rfl⟩
            go_wp2_with fail
            refine (swr_runs s b pm _ _ _ _ _ _ S18.out.2.2.2.1).mono ?_
            rintro e w19 ⟨rfl, rfl⟩
            go_wp2_with fail
            refine (swr_runs u r pm _ _ _ _ _ _ S18.out.2.2.2.2.1).mono ?_
            rintro e w19 ⟨rfl, rfl⟩
            go_wp2
            go_ret
            exact ⟨rfl, S18.out.2.2.2.2.2⟩
end Go.Proofs.Ytjimkkkiilcpoaa.SweepSteps
