/- What is stored while a sweep runs: the scene, onlyNone, a round's laws. -/
import Derived.Test.YtjimkkkiilcpoaaSwK
set_option linter.unusedVariables false
set_option linter.unusedSimpArgs false
namespace Go.Proofs.Ytjimkkkiilcpoaa
open Go.RowKit

theorem swr_barrier (s b pm pW : Nat) (Q : List Bool) (bad : List Nat) (dL : List Int) (run : Bool) (i g : Nat) (t : Bool) (bb p a q y : Int) (w : World) (h : SwRun w s b pm bad dL run i g) (hm : ShM w pm pW Q) (hb : inI bb) (hp : inI p) :
    Calls Try.prog 84 #[.pointer (some ⟨s, 0, none⟩), .agg #[.bool (t), .int .i64 (bb), .int .i64 (p), .int .i64 (a), .int .i64 (q), .int .i64 (y)]] w fun e w' => e = .returned (.agg #[.bool (t && !hitsB Q t bb p), .int .i64 (bb), .int .i64 (p), .int .i64 (a), .int .i64 (q), .int .i64 (y)]) ∧ Below w.heap.size w w' := by
  obtain ⟨A, c, h1, _⟩ := h
  exact sw_barrier s b pm pW Q run _ _ t bb p a q y w h1 hm hb hp

/-- Are the first m all nought? -/
def onlyB (bs : List Int) (m : Nat) : Bool := (bs.take m).all fun x => decide (x = 0)
theorem onlyB_succ (bs : List Int) (m : Nat) (h : m < bs.length) : onlyB bs (m + 1) = (onlyB bs m && decide (rdn bs m = 0)) := by
  have e : bs.take (m + 1) = bs.take m ++ [rdn bs m] := by rw [List.take_add_one, rdn, List.getD_eq_getElem?_getD, List.getElem?_eq_getElem h]; rfl
  unfold onlyB
  rw [e, List.all_append]
  simp
theorem onlyB_le {bs : List Int} {m k : Nat} (h : onlyB bs m = false) (hk : m ≤ k) : onlyB bs k = false := by
  unfold onlyB at h ⊢
  rw [List.all_eq_false] at h ⊢
  obtain ⟨x, hx, h⟩ := h
  refine ⟨x, ?_, h⟩
  have e : bs.take m = (bs.take k).take m := by rw [List.take_take, Nat.min_eq_left hk]
  rw [e] at hx
  exact List.mem_of_mem_take hx

set_option maxRecDepth 100000 in
set_option maxHeartbeats 800000 in
theorem only_none (v : Value) (bs : List Int) (m : Nat) (w : World) (hr : RowU w v bs) (hB : isB bs) (hm : m < bs.length) (hl : bs.length ≤ 300) :
    Calls Try.prog 87 #[v, .int .i64 m] w fun e w' => e = .returned (.bool (onlyB bs (m + 1))) ∧ w = w' := by
  obtain ⟨ba, oa, ca, rfl, hc0, hca⟩ := hr.cells (by omega)
  have HC := Lib.hid hca
  have HBB := Lib.hid hB
  have hba : ba < w.heap.size := World.block_lt_of_cell? w _ (hca m hm)
  have HM := Lib.hid hm
  have hmi : (m : Int) ≤ 300 := by omega
  clear hr hB hca
  generalize hnb : bs.length = nb at *
  have Hnb := Lib.hid hnb
  have hni : (m : Int) < nb := by have := HM.out; omega
  clear hnb hl hm hc0
  go_enter Try.func87, Try.ntmps87
  go_wp2
  go_loopg [5] (m + 2) (fun gk v5 wr => ∃ j : Nat, j + gk = m + 2 ∧ v5 = .int .i64 j ∧ onlyB bs j = true ∧ j ≤ m + 1 ∧ wr = w)
  case atStart => exact ⟨0, by omega, rfl, rfl, by omega, rfl⟩
  case round =>
    obtain ⟨j, hjk, rfl, ho, hj, rfl⟩ := hrel
    have HJ := Lib.hid hjk
    have HO := Lib.hid ho
    clear hjk ho
    rcases Nat.lt_or_ge m j with hlt | hge
    · have i1 : ¬ (j : Int) ≤ m := by omega
      have e : j = m + 1 := by omega
      rw [e] at HO
      clear hlt hj e
      go_wp2
      go_ret
      exact ⟨by rw [HO.out]; rfl, rfl⟩
    · have i1 : (j : Int) ≤ m := by omega
      have i2 : (j : Int) < nb := by omega
      have hk := HC.out j (by have := HM.out; omega)
      obtain ⟨x0, x1⟩ := isB_rdn HBB.out j
      have HS := Lib.hid (onlyB_succ bs j (by have := HM.out; have := Hnb.out; omega))
      have HGE := Lib.hid hge
      generalize rdn bs j = x at *
      clear hge hj
      rcases (show x = 0 ∨ 0 < x by omega) with hx | hx
      · have i3 : ¬ 0 < x := by omega
        have e : onlyB bs (j + 1) = true := by rw [HS.out, HO.out, decide_eq_true hx]; rfl
        have HE := Lib.hid e
        clear hx e
        go_wp2
        go_roundg (gk - 1)
        case measure => have := HJ.out; have := HGE.out; omega
        case rel => exact ⟨j + 1, by have := HJ.out; have := HGE.out; omega, by go_num, HE.out, by have := HGE.out; omega, rfl⟩
      · have e : onlyB bs (m + 1) = false := onlyB_le (m := j + 1) (by rw [HS.out, HO.out, decide_eq_false (by omega)]; rfl) (by have := HGE.out; omega)
        have HE := Lib.hid e
        clear e
        go_wp2
        go_ret
        exact ⟨by rw [HE.out]; rfl, rfl⟩

/-- The scene. -/
def SA (w : World) (b bP pm pW s : Nat) (D : List Int) (T P Q : List Bool) (dL : List Int) (run : Bool) (i g : Nat) (W : World) : Prop :=
  TmM W b bP D T P ∧ ShM W pm pW Q ∧ SwRun W s b pm [bP, s] dL run i g ∧ Below w.heap.size w W
theorem SA.grow {w : World} {b bP pm pW s : Nat} {D : List Int} {T P Q : List Bool} {dL : List Int} {run : Bool} {i g : Nat} {W W1 : World} (h : SA w b bP pm pW s D T P Q dL run i g W) (hb : Below W.heap.size W W1) : SA w b bP pm pW s D T P Q dL run i g W1 :=
  ⟨h.1.grow hb, h.2.1.grow hb, h.2.2.1.grow hb, below_then h.2.2.2 h.2.2.2.size hb⟩
theorem SA.stored {w : World} {b bP pm pW s : Nat} {D D1 : List Int} {T P T1 P1 Q : List Bool} {dL : List Int} {run : Bool} {i g : Nat} {W W1 : World} (h : SA w b bP pm pW s D T P Q dL run i g W) (hG : ScnG w b bP pm pW s) (h1 : TmM W1 b bP D1 T1 P1) (ht : Turns [bP] W W1) : SA w b bP pm pW s D1 T1 P1 Q dL run i g W1 := by
  have hg := hG
  unfold ScnG at hg
  exact ⟨h1, h.2.1.turns ht (by simp; omega) (by simp; omega), h.2.2.1.turns ht (by simp; omega) (by simp), below_turns h.2.2.2 ht (by simp; omega)⟩
theorem SA.step {w : World} {b bP pm pW s : Nat} {D : List Int} {T P Q : List Bool} {dL : List Int} {run : Bool} {i g : Nat} {W : World} (h : SA w b bP pm pW s D T P Q dL run i g W) (hG : ScnG w b bP pm pW s) (hL : ∀ p ∈ dL, 0 ≤ p ∧ p < P.length) (hg : (g : Int) + 16 * ((dL.length - i : Nat) : Int) ≤ 1099511627776) (k : Int) (hk : inI k) :
    Calls Try.prog 76 #[.pointer (some ⟨s, 0, none⟩), .int .i64 k] W fun e w' => e = .returned (.int .i64 ((stepN dL.length i run k : Nat) : Int)) ∧
      SA w b bP pm pW s D (swS D Q ((dL.drop i).take (stepN dL.length i run k)) (T, P, g)).1 (swS D Q ((dL.drop i).take (stepN dL.length i run k)) (T, P, g)).2.1 Q dL (stepR dL.length i run k) (i + stepN dL.length i run k) (swS D Q ((dL.drop i).take (stepN dL.length i run k)) (T, P, g)).2.2 w' := by
  have g1 := sw_stepR s b bP pm pW D T P Q [bP, s] dL run i g k W h.2.2.1 ⟨by simp, by simp⟩ h.1 h.2.1 hG.1 hL hg hk
  refine g1.mono fun e w' ⟨h1, h2, h3, h4⟩ => ⟨h1, h2, ?_, h3, ?_⟩
  · have hg := hG
    unfold ScnG at hg
    exact h.2.1.turns h4 (by simp; omega) (by simp; omega)
  · have hg := hG
    unfold ScnG at hg
    exact below_turns h.2.2.2 h4 (by simp; omega)

/-- Does one run, at page i of nd, behind m steps? -/
def runF (nd i : Nat) (ob : Bool) : Bool := decide (i < nd) || (decide (nd = 0) && ob)
theorem runF_false (nd i : Nat) : runF nd i false = decide (i < nd) := by simp [runF]
theorem run_next {nd i : Nat} {ob : Bool} {x : Int} (hi : i ≤ nd) (h0 : 0 ≤ x) : stepR nd i (runF nd i ob) x = runF nd (i + stepN nd i (runF nd i ob) x) (ob && decide (x = 0)) := by
  have hle := stepN_le nd i (runF nd i ob) x hi
  by_cases hc : (runF nd i ob && decide (1 ≤ x)) = true
  · have hN : stepN nd i (runF nd i ob) x = min x.toNat (nd - i) := by rw [stepN, if_pos hc]
    have hx : 1 ≤ x := by rw [Bool.and_eq_true, decide_eq_true_eq] at hc; exact hc.2
    rw [stepR, if_pos hc, decide_eq_false (show ¬ x = 0 by omega), Bool.and_false, runF_false]
  · have hN : stepN nd i (runF nd i ob) x = 0 := by rw [stepN, if_neg hc]
    rw [stepR, if_neg hc, hN, Nat.add_zero]
    by_cases hx : x = 0
    · rw [decide_eq_true hx, Bool.and_true]
    · have hr : runF nd i ob = false := by
        cases hr : runF nd i ob with
        | false => rfl
        | true => exact absurd (by rw [hr, decide_eq_true (show 1 ≤ x by omega)]; rfl) hc
      rw [hr, decide_eq_false hx, Bool.and_false]
      unfold runF at hr ⊢
      rw [Bool.or_eq_false_iff] at hr
      rw [hr.1]
      simp
theorem runF_or {nd i : Nat} {ob : Bool} (hi : i ≤ nd) : runF nd i ob = true ∨ i = nd := by
  unfold runF
  rcases Nat.lt_or_ge i nd with h | h
  · exact .inl (by rw [decide_eq_true h]; rfl)
  · exact .inr (by omega)
theorem last_99 {nd i : Nat} {run : Bool} (h : nd ≤ 4) (hi : i ≤ nd) (hr : run = true ∨ i = nd) : i + stepN nd i run 99 = nd ∧ stepR nd i run 99 = false := by
  cases run with
  | true =>
    have e : stepN nd i true 99 = min 99 (nd - i) := rfl
    have e2 : stepR nd i true 99 = decide (i + stepN nd i true 99 < nd) := rfl
    rw [e2, e]
    exact ⟨by omega, decide_eq_false (by omega)⟩
  | false =>
    have e : stepN nd i false 99 = 0 := rfl
    rw [e]
    rcases hr with hr | hr
    · cases hr
    · exact ⟨by omega, rfl⟩
/-- Nothing that is hit lies outside these pages. -/
def HitIn (D : List Int) (T Q : List Bool) (L : List Int) : Prop := ∀ z, hitK D T Q z = true → ((z / 16 : Nat) : Int) ∈ L
theorem hitIn_begin {D : List Int} {T P Q : List Bool} (h : OnD T P) : HitIn D T Q (dirtyL P) := fun z hz => dirty_mem.2 ⟨by omega, by rw [Int.toNat_natCast]; exact h z (hitK_of hz)⟩
end Go.Proofs.Ytjimkkkiilcpoaa
