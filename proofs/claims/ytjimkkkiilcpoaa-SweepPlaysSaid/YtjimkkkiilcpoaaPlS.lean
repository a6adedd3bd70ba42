/- The program's sweep beside the document's: the scene, what each call does in it. -/
import Derived.Test.YtjimkkkiilcpoaaSwL
import Derived.Test.YtjimkkkiilcpoaaRsC
set_option linter.unusedVariables false
set_option linter.unusedSimpArgs false
namespace Go.Proofs.Ytjimkkkiilcpoaa
open Go.RowKit

/-- Bytes, tags, dirty pages, what is painted, whether a sweep runs, what is left, how many are gone. -/
structure SwSt where
  D : List Int
  T : List Bool
  P : List Bool
  Q : List Bool
  run : Bool
  L : List Int
  g : Nat
/-- The blocks: the program's memory, paint, the document's memory, paint, the sweepers. -/
structure SwIds where
  b : Nat
  bP : Nat
  pm : Nat
  pW : Nat
  r : Nat
  rB : Nat
  rT : Nat
  rP : Nat
  q : Nat
  qB : Nat
  s : Nat
  u : Nat
/-- All that are written. -/
def SwIds.wr (k : SwIds) : List Nat := [k.bP, k.pW, k.rB, k.rT, k.rP, k.qB, k.s, k.u]
/-- What is apart. -/
def ApS (w : World) (k : SwIds) (x2 x3 x4 : Nat) : Prop :=
  (w.heap.size ≤ k.b ∧ w.heap.size ≤ k.bP ∧ k.b < x2 ∧ k.bP < x2) ∧ (x2 ≤ k.pm ∧ x2 ≤ k.pW ∧ k.pm < x3 ∧ k.pW < x3) ∧ (x3 ≤ k.r ∧ x3 ≤ k.rB ∧ x3 ≤ k.rT ∧ x3 ≤ k.rP ∧ k.r < x4 ∧ k.rB < x4 ∧ k.rT < x4 ∧ k.rP < x4) ∧ (x4 ≤ k.q ∧ x4 ≤ k.qB ∧ k.q < k.s ∧ k.qB < k.s) ∧ k.s < k.u ∧ (k.pm ≠ k.pW ∧ k.q ≠ k.qB)
def PRun (W : World) (s b pm : Nat) (bad : List Nat) (run : Bool) (L : List Int) (g : Nat) : Prop :=
  ∃ A c, Blk W s (swC b pm run (.slice A L.length c) g) 123 ∧ RowI W (.slice A L.length c) L ∧ L.length ≤ c ∧ (c : Int) ≤ 9223372036854775807 ∧ (0 < L.length → ∀ ad, A = some ad → ad.block ∉ bad)
def RRun (W : World) (s r q : Nat) (bad : List Nat) (run : Bool) (L : List Int) (g : Nat) : Prop :=
  ∃ A c, Blk W s (rsC r q run (.slice A L.length c) g) 125 ∧ RowI W (.slice A L.length c) L ∧ L.length ≤ c ∧ (c : Int) ≤ 9223372036854775807 ∧ (0 < L.length → ∀ ad, A = some ad → ad.block ∉ bad)
theorem PRun.grow {W W1 : World} {s b pm : Nat} {bad : List Nat} {run : Bool} {L : List Int} {g : Nat} (h : PRun W s b pm bad run L g) (hb : Below W.heap.size W W1) : PRun W1 s b pm bad run L g := by
  obtain ⟨A, c, h1, h2, h3⟩ := h
  exact ⟨A, c, h1.below hb h1.lt, h2.below hb, h3⟩
theorem RRun.grow {W W1 : World} {s r q : Nat} {bad : List Nat} {run : Bool} {L : List Int} {g : Nat} (h : RRun W s r q bad run L g) (hb : Below W.heap.size W W1) : RRun W1 s r q bad run L g := by
  obtain ⟨A, c, h1, h2, h3⟩ := h
  exact ⟨A, c, h1.below hb h1.lt, h2.below hb, h3⟩
theorem PRun.turns {W W1 : World} {s b pm : Nat} {bad bs : List Nat} {run : Bool} {L : List Int} {g : Nat} (h : PRun W s b pm bad run L g) (ht : Turns bs W W1) (hs : s ∉ bs) (hb : ∀ x ∈ bs, x ∈ bad) : PRun W1 s b pm bad run L g := by
  obtain ⟨A, c, h1, h2, h3, h4, h6⟩ := h
  exact ⟨A, c, h1.turns ht hs, h2.turns ht (fun h0 ad e hx => h6 h0 ad e (hb _ hx)), h3, h4, h6⟩
theorem RRun.turns {W W1 : World} {s r q : Nat} {bad bs : List Nat} {run : Bool} {L : List Int} {g : Nat} (h : RRun W s r q bad run L g) (ht : Turns bs W W1) (hs : s ∉ bs) (hb : ∀ x ∈ bs, x ∈ bad) : RRun W1 s r q bad run L g := by
  obtain ⟨A, c, h1, h2, h3, h4, h6⟩ := h
  exact ⟨A, c, h1.turns ht hs, h2.turns ht (fun h0 ad e hx => h6 h0 ad e (hb _ hx)), h3, h4, h6⟩

/-- The scene: the program's state x, the document's y. -/
def PS (w : World) (k : SwIds) (x y : SwSt) (W : World) : Prop :=
  TmM W k.b k.bP x.D x.T x.P ∧ TrM W k.r k.rB k.rT k.rP y.D y.T y.P ∧ ShM W k.pm k.pW x.Q ∧ RfM W k.q k.qB y.Q ∧ PRun W k.s k.b k.pm k.wr x.run x.L x.g ∧ RRun W k.u k.r k.q k.wr y.run y.L y.g ∧ Below w.heap.size w W
theorem PS.grow {w : World} {k : SwIds} {x y : SwSt} {W W1 : World} (h : PS w k x y W) (hb : Below W.heap.size W W1) : PS w k x y W1 :=
  ⟨h.1.grow hb, h.2.1.grow hb, h.2.2.1.grow hb, h.2.2.2.1.grow hb, h.2.2.2.2.1.grow hb, h.2.2.2.2.2.1.grow hb, below_then h.2.2.2.2.2.2 h.2.2.2.2.2.2.size hb⟩

section
variable {w : World} {k : SwIds} {x2 x3 x4 : Nat} {x y : SwSt} {W W1 : World}
theorem PS.tm (h : PS w k x y W) (ha : ApS w k x2 x3 x4) {D : List Int} {T P : List Bool} (h1 : TmM W1 k.b k.bP D T P) (ht : Turns [k.bP] W W1) : PS w k { x with D := D, T := T, P := P } y W1 := by
  unfold ApS at ha
  exact ⟨h1, h.2.1.turns ht (by simp; omega) (by simp; omega) (by simp; omega) (by simp; omega), h.2.2.1.turns ht (by simp; omega) (by simp; omega), h.2.2.2.1.turns ht (by simp; omega) (by simp; omega),
    h.2.2.2.2.1.turns ht (by simp; omega) (by simp [SwIds.wr]), h.2.2.2.2.2.1.turns ht (by simp; omega) (by simp [SwIds.wr]), below_turns h.2.2.2.2.2.2 ht (by simp; omega)⟩
theorem PS.tr (h : PS w k x y W) (ha : ApS w k x2 x3 x4) {D : List Int} {T P : List Bool} (h1 : TrM W1 k.r k.rB k.rT k.rP D T P) (ht : Turns [k.rB, k.rT, k.rP] W W1) : PS w k x { y with D := D, T := T, P := P } W1 := by
  unfold ApS at ha
  exact ⟨h.1.turns ht (by simp; omega) (by simp; omega), h1, h.2.2.1.turns ht (by simp; omega) (by simp; omega), h.2.2.2.1.turns ht (by simp; omega) (by simp; omega),
    h.2.2.2.2.1.turns ht (by simp; omega) (by simp [SwIds.wr]), h.2.2.2.2.2.1.turns ht (by simp; omega) (by simp [SwIds.wr]), below_turns h.2.2.2.2.2.2 ht (by simp; omega)⟩
theorem PS.sh (h : PS w k x y W) (ha : ApS w k x2 x3 x4) {Q : List Bool} (h1 : ShM W1 k.pm k.pW Q) (ht : Turns [k.pW] W W1) : PS w k { x with Q := Q } y W1 := by
  unfold ApS at ha
  exact ⟨h.1.turns ht (by simp; omega) (by simp; omega), h.2.1.turns ht (by simp; omega) (by simp; omega) (by simp; omega) (by simp; omega), h1, h.2.2.2.1.turns ht (by simp; omega) (by simp; omega),
    h.2.2.2.2.1.turns ht (by simp; omega) (by simp [SwIds.wr]), h.2.2.2.2.2.1.turns ht (by simp; omega) (by simp [SwIds.wr]), below_turns h.2.2.2.2.2.2 ht (by simp; omega)⟩
theorem PS.rf (h : PS w k x y W) (ha : ApS w k x2 x3 x4) {Q : List Bool} (h1 : RfM W1 k.q k.qB Q) (ht : Turns [k.qB] W W1) : PS w k x { y with Q := Q } W1 := by
  unfold ApS at ha
  exact ⟨h.1.turns ht (by simp; omega) (by simp; omega), h.2.1.turns ht (by simp; omega) (by simp; omega) (by simp; omega) (by simp; omega), h.2.2.1.turns ht (by simp; omega) (by simp; omega), h1,
    h.2.2.2.2.1.turns ht (by simp; omega) (by simp [SwIds.wr]), h.2.2.2.2.2.1.turns ht (by simp; omega) (by simp [SwIds.wr]), below_turns h.2.2.2.2.2.2 ht (by simp; omega)⟩
theorem PS.ps (h : PS w k x y W) (ha : ApS w k x2 x3 x4) {T P : List Bool} {run : Bool} {L : List Int} {g : Nat} (h1 : TmM W1 k.b k.bP x.D T P) (h2 : PRun W1 k.s k.b k.pm k.wr run L g) (ht : Turns [k.bP, k.s] W W1) : PS w k { x with T := T, P := P, run := run, L := L, g := g } y W1 := by
  unfold ApS at ha
  exact ⟨h1, h.2.1.turns ht (by simp; omega) (by simp; omega) (by simp; omega) (by simp; omega), h.2.2.1.turns ht (by simp; omega) (by simp; omega), h.2.2.2.1.turns ht (by simp; omega) (by simp; omega),
    h2, h.2.2.2.2.2.1.turns ht (by simp; omega) (by simp [SwIds.wr]), below_turns h.2.2.2.2.2.2 ht (by simp; omega)⟩
theorem PS.rs (h : PS w k x y W) (ha : ApS w k x2 x3 x4) {T P : List Bool} {run : Bool} {L : List Int} {g : Nat} (h1 : TrM W1 k.r k.rB k.rT k.rP y.D T P) (h2 : RRun W1 k.u k.r k.q k.wr run L g) (ht : Turns [k.rB, k.rT, k.rP, k.u] W W1) : PS w k x { y with T := T, P := P, run := run, L := L, g := g } W1 := by
  unfold ApS at ha
  exact ⟨h.1.turns ht (by simp; omega) (by simp; omega), h1, h.2.2.1.turns ht (by simp; omega) (by simp; omega), h.2.2.2.1.turns ht (by simp; omega) (by simp; omega),
    h.2.2.2.2.1.turns ht (by simp; omega) (by simp [SwIds.wr]), h2, below_turns h.2.2.2.2.2.2 ht (by simp; omega)⟩
end

/-! States behind the calls. -/
def SwSt.stored (x : SwSt) (at_ : Int) (bs : List Int) : SwSt := { x with D := stD x.P.length x.D at_ bs, T := stT x.P.length x.T at_ bs.length }
def SwSt.capped (x : SwSt) (at_ : Int) (t : Bool) (b p a q y : Int) : SwSt := { x with D := scD x.P.length x.D at_ t b p a q y, T := scT x.P.length x.T at_ t b p a q y, P := scP x.P at_ t b p a q y }
def SwSt.painted (x : SwSt) (f t : Int) (is : Bool) : SwSt := { x with Q := paintL x.Q f t is }
def SwSt.begun (x : SwSt) : SwSt := { x with run := true, L := if x.run then x.L else dirtyL x.P }
def SwSt.stepped (x : SwSt) (n : Int) : SwSt :=
  { x with T := (swS x.D x.Q (x.L.take (stepN x.L.length 0 x.run n)) (x.T, x.P, x.g)).1, P := (swS x.D x.Q (x.L.take (stepN x.L.length 0 x.run n)) (x.T, x.P, x.g)).2.1, run := stepR x.L.length 0 x.run n, L := x.L.drop (stepN x.L.length 0 x.run n),
           g := (swS x.D x.Q (x.L.take (stepN x.L.length 0 x.run n)) (x.T, x.P, x.g)).2.2 }
/-- What holds all along. -/
def SwI (j : Nat) (x : SwSt) : Prop := x.P.length = 4 ∧ (∀ p ∈ x.L, 0 ≤ p ∧ p < ((4 : Nat) : Int)) ∧ x.L.length ≤ 4 ∧ x.g ≤ 64 * j
theorem SwI.stored {j : Nat} {x : SwSt} (h : SwI j x) (at_ : Int) (bs : List Int) : SwI (j + 1) (x.stored at_ bs) := ⟨h.1, h.2.1, h.2.2.1, Nat.le_trans h.2.2.2 (by omega)⟩
theorem SwI.capped {j : Nat} {x : SwSt} (h : SwI j x) (at_ : Int) (t : Bool) (b p a q y : Int) : SwI (j + 1) (x.capped at_ t b p a q y) := ⟨(scP_length _ _ _ _ _ _ _ _).trans h.1, h.2.1, h.2.2.1, Nat.le_trans h.2.2.2 (by omega)⟩
theorem SwI.painted {j : Nat} {x : SwSt} (h : SwI j x) (f t : Int) (is : Bool) : SwI (j + 1) (x.painted f t is) := ⟨h.1, h.2.1, h.2.2.1, Nat.le_trans h.2.2.2 (by omega)⟩
theorem SwI.begun {j : Nat} {x : SwSt} (h : SwI j x) : SwI (j + 1) x.begun := by
  refine ⟨h.1, ?_, ?_, Nat.le_trans h.2.2.2 (by omega)⟩
  · show ∀ p ∈ (if x.run then x.L else dirtyL x.P), _
    split
    · exact h.2.1
    · rw [← h.1]; exact dirty_lt
  · show (if x.run then x.L else dirtyL x.P).length ≤ 4
    split
    · exact h.2.2.1
    · rw [← h.1]; exact dirty_len _
theorem SwI.stepped {j : Nat} {x : SwSt} (h : SwI j x) (n : Int) : SwI (j + 1) (x.stepped n) := by
  refine ⟨(swS_len x.D x.Q (x.L.take (stepN x.L.length 0 x.run n)) (x.T, x.P, x.g)).trans h.1, fun p hp => h.2.1 p (List.mem_of_mem_drop hp), ?_, ?_⟩
  · show (x.L.drop (stepN x.L.length 0 x.run n)).length ≤ 4
    rw [List.length_drop]
    have := h.2.2.1
    omega
  · have h1 := swS_gone x.D x.Q (x.L.take (stepN x.L.length 0 x.run n)) (x.T, x.P, x.g)
    have h2 : (x.L.take (stepN x.L.length 0 x.run n)).length ≤ 4 := by rw [List.length_take]; have := h.2.2.1; omega
    have h3 := h.2.2.2
    dsimp only at h1
    show (swS x.D x.Q (x.L.take (stepN x.L.length 0 x.run n)) (x.T, x.P, x.g)).2.2 ≤ _
    omega

section
variable {w : World} {k : SwIds} {x2 x3 x4 : Nat} {x y : SwSt} {W : World}
theorem PS.store (h : PS w k x y W) (ha : ApS w k x2 x3 x4) (at_ : Int) (A : Option Addr) (c : Nat) (bs : List Int) (hat : inI at_) (hr : RowU W (.slice A bs.length c) bs) (hB : isB bs) (hm : bs.length ≤ 9000) (hA : 0 < bs.length → ∀ ad, A = some ad → ad.block ≠ k.bP) :
    Calls Try.prog 59 #[.pointer (some ⟨k.b, 0, none⟩), .int .i64 at_, .slice A bs.length c] W fun e w' => (∃ v, e = .returned v) ∧ PS w k (x.stored at_ bs) y w' ∧ Turns k.wr W w' :=
  (tm_storeU k.b k.bP x.D x.T x.P at_ A c bs W h.1 hat hr hB hm hA).mono fun e w' ⟨h1, h2, h3⟩ => ⟨⟨_, h1⟩, h.tm ha h2 h3, h3.sub (by simp [SwIds.wr])⟩
theorem PS.storeR (h : PS w k x y W) (ha : ApS w k x2 x3 x4) (at_ : Int) (A : Option Addr) (c : Nat) (bs : List Int) (hat : inI at_) (hr : RowU W (.slice A bs.length c) bs) (hB : isB bs) (hm : bs.length ≤ 9000) (hA : 0 < bs.length → ∀ ad, A = some ad → ad.block ∉ [k.rB, k.rT, k.rP]) :
    Calls Try.prog 60 #[.pointer (some ⟨k.r, 0, none⟩), .int .i64 at_, .slice A bs.length c] W fun e w' => (∃ v, e = .returned v) ∧ PS w k x (y.stored at_ bs) w' ∧ Turns k.wr W w' :=
  (tr_storeU k.r k.rB k.rT k.rP y.D y.T y.P at_ A c bs W h.2.1 hat hr hB hm hA).mono fun e w' ⟨h1, h2, h3⟩ => ⟨⟨_, h1⟩, h.tr ha h2 h3, h3.sub (by simp [SwIds.wr])⟩
theorem PS.cap (h : PS w k x y W) (ha : ApS w k x2 x3 x4) (at_ : Int) (t : Bool) (b p a q c : Int) (hat : inI at_) (hq : inI q) :
    Calls Try.prog 49 #[.pointer (some ⟨k.b, 0, none⟩), .int .i64 at_, .agg #[.bool (t), .int .i64 (b), .int .i64 (p), .int .i64 (a), .int .i64 (q), .int .i64 (c)]] W fun e w' => (∃ v, e = .returned v) ∧ PS w k (x.capped at_ t b p a q c) y w' ∧ Turns k.wr W w' :=
  (tm_storecapU k.b k.bP x.D x.T x.P at_ t b p a q c W h.1 hat hq).mono fun e w' ⟨h1, h2, h3⟩ => ⟨⟨_, h1⟩, h.tm ha h2 h3, h3.sub (by simp [SwIds.wr])⟩
theorem PS.capR (h : PS w k x y W) (ha : ApS w k x2 x3 x4) (at_ : Int) (t : Bool) (b p a q c : Int) (hat : inI at_) :
    Calls Try.prog 50 #[.pointer (some ⟨k.r, 0, none⟩), .int .i64 at_, .agg #[.bool (t), .int .i64 (b), .int .i64 (p), .int .i64 (a), .int .i64 (q), .int .i64 (c)]] W fun e w' => (∃ v, e = .returned v) ∧ PS w k x (y.capped at_ t b p a q c) w' ∧ Turns k.wr W w' :=
  (tr_storecapU k.r k.rB k.rT k.rP y.D y.T y.P at_ t b p a q c W h.2.1 hat).mono fun e w' ⟨h1, h2, h3⟩ => ⟨⟨_, h1⟩, h.tr ha h2 h3, h3.sub (by simp [SwIds.wr])⟩
theorem PS.paint (h : PS w k x y W) (ha : ApS w k x2 x3 x4) (f t : Int) (is : Bool) (hf : inI f) (ht : inI t) :
    Calls Try.prog 34 #[.pointer (some ⟨k.pm, 0, none⟩), .int .i64 f, .int .i64 t, .bool is] W fun e w' => (∃ v, e = .returned v) ∧ PS w k (x.painted f t is) y w' ∧ Turns k.wr W w' :=
  (paint_all k.pm k.pW x.Q f t is W hf ht h.2.2.1 ha.2.2.2.2.2.1).mono fun e w' ⟨h1, h2, h3⟩ => ⟨⟨_, h1⟩, h.sh ha h2 (Turns.grown h3), (Turns.grown h3).sub (by simp [SwIds.wr])⟩
theorem PS.paintR (h : PS w k x y W) (ha : ApS w k x2 x3 x4) (f t : Int) (is : Bool) (hf : inI f) (ht : inI t) :
    Calls Try.prog 35 #[.pointer (some ⟨k.q, 0, none⟩), .int .i64 f, .int .i64 t, .bool is] W fun e w' => (∃ v, e = .returned v) ∧ PS w k x (y.painted f t is) w' ∧ Turns k.wr W w' :=
  (ref_paint_all k.q k.qB y.Q f t is W hf ht h.2.2.2.1 ha.2.2.2.2.2.2).mono fun e w' ⟨h1, h2, h3⟩ => ⟨⟨_, h1⟩, h.rf ha h2 (Turns.grown h3), (Turns.grown h3).sub (by simp [SwIds.wr])⟩
theorem PS.blocks (h : PS w k x y W) : ∀ z ∈ k.wr, z < W.heap.size := fun z hz => by
  obtain ⟨h1, h2, h3, h4, ⟨A, c, h5, _⟩, ⟨A', c', h6, _⟩, _⟩ := h
  simp only [SwIds.wr, List.mem_cons, List.not_mem_nil, or_false] at hz
  rcases hz with rfl | rfl | rfl | rfl | rfl | rfl | rfl | rfl
  · exact h1.lt.2
  · exact h3.lt.2
  · exact h2.lt.2.1
  · exact h2.lt.2.2.1
  · exact h2.lt.2.2.2
  · exact h4.lt.2
  · exact h5.lt
  · exact h6.lt
theorem PS.begin (h : PS w k x y W) (ha : ApS w k x2 x3 x4) :
    Calls Try.prog 74 #[.pointer (some ⟨k.s, 0, none⟩)] W fun e w' => e = .returned (.bool (!x.run)) ∧ PS w k x.begun y w' ∧ Turns k.wr W w' := by
  have hbl := h.blocks
  obtain ⟨A, c, h1, h2, h3, h4, h5⟩ := h.2.2.2.2.1
  cases hr : x.run with
  | true =>
    rw [hr] at h1
    refine (sw_begin_no k.s k.b k.pm _ _ W h1).mono fun e w' ⟨g1, g2⟩ => ?_
    subst g2
    refine ⟨g1, ?_, Turns.refl _ _⟩
    have e : x.begun = x := by
      unfold SwSt.begun
      rw [hr, if_pos rfl]
      cases x
      simp only at hr
      subst hr
      rfl
    rw [e]
    exact h
  | false =>
    rw [hr] at h1
    refine (sw_begin k.s k.b k.bP k.pm x.D x.T x.P _ _ W h1 h.1).mono fun e w' ⟨g1, ⟨A', c', g2, g3, g4, g5, g6⟩, g7⟩ => ⟨g1, ?_, g7.sub (by simp [SwIds.wr])⟩
    have e : x.begun = { x with T := x.T, P := x.P, run := true, L := dirtyL x.P, g := x.g } := by
      unfold SwSt.begun
      rw [hr, if_neg (by decide)]
    rw [e]
    have hg := ha
    unfold ApS at hg
    exact h.ps ha (h.1.turns g7 (by simp; omega) (by simp; omega)) ⟨A', c', g2, g3, g4, cap_ok g5, fun h0 ad e hx => by have := g6 h0 ad e; have := hbl _ hx; omega⟩ (g7.sub (by simp))
theorem PS.beginR (h : PS w k x y W) (ha : ApS w k x2 x3 x4) :
    Calls Try.prog 75 #[.pointer (some ⟨k.u, 0, none⟩)] W fun e w' => e = .returned (.bool (!y.run)) ∧ PS w k x y.begun w' ∧ Turns k.wr W w' := by
  have hbl := h.blocks
  obtain ⟨A, c, h1, h2, h3, h4, h5⟩ := h.2.2.2.2.2.1
  cases hr : y.run with
  | true =>
    rw [hr] at h1
    refine (rs_begin_no k.u k.r k.q _ _ W h1).mono fun e w' ⟨g1, g2⟩ => ?_
    subst g2
    refine ⟨g1, ?_, Turns.refl _ _⟩
    have e : y.begun = y := by
      unfold SwSt.begun
      rw [hr, if_pos rfl]
      cases y
      simp only at hr
      subst hr
      rfl
    rw [e]
    exact h
  | false =>
    rw [hr] at h1
    refine (rs_begin k.u k.r k.rB k.rT k.rP k.q y.D y.T y.P _ _ W h1 h.2.1).mono fun e w' ⟨g1, ⟨A', c', g2, g3, g4, g5, g6⟩, g7⟩ => ⟨g1, ?_, g7.sub (by simp [SwIds.wr])⟩
    have e : y.begun = { y with T := y.T, P := y.P, run := true, L := dirtyL y.P, g := y.g } := by
      unfold SwSt.begun
      rw [hr, if_neg (by decide)]
    rw [e]
    have hg := ha
    unfold ApS at hg
    exact h.rs ha (h.2.1.turns g7 (by simp; omega) (by simp; omega) (by simp; omega) (by simp; omega)) ⟨A', c', g2, g3, g4, cap_ok g5, fun h0 ad e hx => by have := g6 h0 ad e; have := hbl _ hx; omega⟩ (g7.sub (by simp))
theorem PS.step (h : PS w k x y W) (ha : ApS w k x2 x3 x4) {j : Nat} (hi : SwI j x) (hj : j ≤ 200) (n : Int) (hn : inI n) :
    Calls Try.prog 76 #[.pointer (some ⟨k.s, 0, none⟩), .int .i64 n] W fun e w' => e = .returned (.int .i64 ((stepN x.L.length 0 x.run n : Nat) : Int)) ∧ PS w k (x.stepped n) y w' ∧ Turns k.wr W w' := by
  obtain ⟨A, c, h1, h2, h3, h4, h5⟩ := h.2.2.2.2.1
  have hg := ha
  unfold ApS at hg
  have hs : SwRun W k.s k.b k.pm k.wr x.L x.run 0 x.g := ⟨A, c, h1, h2, h3, h4, Nat.zero_le _, h5⟩
  have g := sw_stepR k.s k.b k.bP k.pm k.pW x.D x.T x.P x.Q k.wr x.L x.run 0 x.g n W hs ⟨by simp [SwIds.wr], by simp [SwIds.wr]⟩ h.1 h.2.2.1 (by omega) (by rw [hi.1]; exact hi.2.1) (by have := hi.2.2.1; have := hi.2.2.2; omega) hn
  refine g.mono fun e w' ⟨g1, g2, g3, g4⟩ => ⟨g1, ?_, g4.sub (by simp [SwIds.wr])⟩
  rw [List.drop_zero, Nat.zero_add] at g3
  obtain ⟨A', c', k1, k2, k3, k4, k5, k6⟩ := g3
  have hl : (x.L.drop (stepN x.L.length 0 x.run n)).length = x.L.length - stepN x.L.length 0 x.run n := List.length_drop
  exact h.ps ha g2 ⟨A', c', by rw [hl]; exact k1, by rw [hl]; exact k2, by rw [hl]; exact k3, k4, by rw [hl]; exact k6⟩ g4
theorem PS.stepRf (h : PS w k x y W) (ha : ApS w k x2 x3 x4) {j : Nat} (hi : SwI j y) (hj : j ≤ 200) (n : Int) (hn : inI n) :
    Calls Try.prog 77 #[.pointer (some ⟨k.u, 0, none⟩), .int .i64 n] W fun e w' => e = .returned (.int .i64 ((stepN y.L.length 0 y.run n : Nat) : Int)) ∧ PS w k x (y.stepped n) w' ∧ Turns k.wr W w' := by
  have hbl := h.blocks
  obtain ⟨A, c, h1, h2, h3, h4, h5⟩ := h.2.2.2.2.2.1
  have hg := ha
  unfold ApS at hg
  by_cases hr : (y.run && decide (1 ≤ n)) = true
  · have hr2 := hr
    rw [Bool.and_eq_true, decide_eq_true_eq] at hr2
    obtain ⟨e1, hn1⟩ := hr2
    obtain ⟨kn, rfl⟩ := Int.eq_ofNat_of_zero_le (show 0 ≤ n by omega)
    have hN : stepN y.L.length 0 y.run (kn : Int) = min kn y.L.length := by rw [stepN, if_pos hr, Int.toNat_natCast, Nat.sub_zero]
    have hR : stepR y.L.length 0 y.run (kn : Int) = decide (min kn y.L.length < y.L.length) := by rw [stepR, if_pos hr, hN, Nat.zero_add]
    rw [e1] at h1
    have hne := h.2.1.2.1
    have g := rs_step k.u k.r k.rB k.rT k.rP k.q k.qB y.D y.T y.P y.Q A y.L.length c y.g kn y.L W h1 h2 h3 h4 (fun h0 ad e hx => h5 h0 ad e (by simp only [List.mem_cons, List.not_mem_nil, or_false] at hx; simp only [SwIds.wr, List.mem_cons, List.not_mem_nil, or_false]; rcases hx with hx | hx | hx | hx <;> simp [hx]))
      (by rw [hi.1]; exact hi.2.1) h.2.1 h.2.2.2.1 ⟨by omega, by omega⟩ (by have := hi.2.2.1; have := hi.2.2.2; omega) hn1 hn.2 (by have := hi.2.2.1; omega)
    refine g.mono fun e w' ⟨g1, g2, ⟨A', c', k1, k2, k3, k4, k5⟩, g4⟩ => ⟨by rw [hN]; exact g1, ?_, g4.sub (by simp [SwIds.wr])⟩
    have hl : (y.L.drop (min kn y.L.length)).length = y.L.length - min kn y.L.length := List.length_drop
    have hst : y.stepped (kn : Int) = { y with T := (swS y.D y.Q (y.L.take (min kn y.L.length)) (y.T, y.P, y.g)).1, P := (swS y.D y.Q (y.L.take (min kn y.L.length)) (y.T, y.P, y.g)).2.1, run := decide (min kn y.L.length < y.L.length), L := y.L.drop (min kn y.L.length), g := (swS y.D y.Q (y.L.take (min kn y.L.length)) (y.T, y.P, y.g)).2.2 } := by
      unfold SwSt.stepped
      rw [hN, hR]
    rw [hst]
    exact h.rs ha g2 ⟨A', c', by rw [hl]; exact k1, by rw [hl]; exact k2, by rw [hl]; exact k3, cap_ok k4, fun h0 ad e hx => by
      rw [hl] at h0
      have := k5 h0 ad e
      have := hbl _ hx
      omega⟩ g4
  · have hN : stepN y.L.length 0 y.run n = 0 := by rw [stepN, if_neg hr]
    have hR : stepR y.L.length 0 y.run n = y.run := by rw [stepR, if_neg hr]
    refine (rs_step_no k.u k.r k.q y.run _ _ n W h1 hn (by
      cases hrr : y.run with
      | false => exact .inl rfl
      | true =>
        rw [hrr, Bool.true_and, decide_eq_true_eq] at hr
        exact .inr (by omega))).mono fun e w' ⟨g1, g2⟩ => ?_
    subst g2
    refine ⟨by rw [hN]; exact g1, ?_, Turns.refl _ _⟩
    have hst : y.stepped n = y := by
      unfold SwSt.stepped
      rw [hN, hR]
      rfl
    rw [hst]
    exact h
end
end Go.Proofs.Ytjimkkkiilcpoaa
