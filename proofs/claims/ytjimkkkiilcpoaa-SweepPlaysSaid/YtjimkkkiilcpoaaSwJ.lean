/- The scene of layer 10's laws. -/
import Derived.Test.YtjimkkkiilcpoaaSwP
import Derived.Test.YtjimkkkiilcpoaaSwH
set_option linter.unusedVariables false
set_option linter.unusedSimpArgs false
namespace Go.Proofs.Ytjimkkkiilcpoaa
open Go.RowKit

/-- A memory, what is painted, a sweeper. -/
def Scn (w : World) (b bP pm pW s : Nat) (D : List Int) (T P Q : List Bool) (cs : Array Value) (W : World) : Prop :=
  TmM W b bP D T P ∧ ShM W pm pW Q ∧ Blk W s cs 123 ∧ Below w.heap.size w W
/-- What is apart. -/
def ScnG (w : World) (b bP pm pW s : Nat) : Prop := (s ≠ b ∧ s ≠ bP ∧ s ≠ pm ∧ s ≠ pW ∧ bP ≠ pm ∧ bP ≠ pW) ∧ w.heap.size ≤ bP ∧ w.heap.size ≤ s
theorem Scn.grow {w : World} {b bP pm pW s : Nat} {D : List Int} {T P Q : List Bool} {cs : Array Value} {W W1 : World} (h : Scn w b bP pm pW s D T P Q cs W) (hb : Below W.heap.size W W1) : Scn w b bP pm pW s D T P Q cs W1 :=
  ⟨h.1.grow hb, h.2.1.grow hb, h.2.2.1.below hb h.2.2.1.lt, below_then h.2.2.2 h.2.2.2.size hb⟩
theorem Scn.swept {w : World} {b bP pm pW s : Nat} {D : List Int} {T P T1 P1 Q : List Bool} {cs cs1 : Array Value} {W W1 : World} (h : Scn w b bP pm pW s D T P Q cs W) (hG : ScnG w b bP pm pW s) (h1 : TmM W1 b bP D T1 P1) (h3 : Blk W1 s cs1 123) (ht : Turns [bP, s] W W1) : Scn w b bP pm pW s D T1 P1 Q cs1 W1 :=
  ⟨h1, h.2.1.turns ht (by have := hG; unfold ScnG at this; simp; omega) (by have := hG; unfold ScnG at this; simp; omega), h3, below_turns h.2.2.2 ht (by have := hG; unfold ScnG at this; simp; omega)⟩
theorem Scn.begun {w : World} {b bP pm pW s : Nat} {D : List Int} {T P Q : List Bool} {cs cs1 : Array Value} {W W1 : World} (h : Scn w b bP pm pW s D T P Q cs W) (hG : ScnG w b bP pm pW s) (h3 : Blk W1 s cs1 123) (ht : Turns [s] W W1) : Scn w b bP pm pW s D T P Q cs1 W1 :=
  ⟨h.1.turns ht (by have := hG; unfold ScnG at this; simp; omega) (by have := hG; unfold ScnG at this; simp; omega), h.2.1.turns ht (by have := hG; unfold ScnG at this; simp; omega) (by have := hG; unfold ScnG at this; simp; omega), h3, below_turns h.2.2.2 ht (by have := hG; unfold ScnG at this; simp; omega)⟩
theorem Scn.stored {w : World} {b bP pm pW s : Nat} {D D1 : List Int} {T P T1 P1 Q : List Bool} {cs : Array Value} {W W1 : World} (h : Scn w b bP pm pW s D T P Q cs W) (hG : ScnG w b bP pm pW s) (h1 : TmM W1 b bP D1 T1 P1) (ht : Turns [bP] W W1) : Scn w b bP pm pW s D1 T1 P1 Q cs W1 :=
  ⟨h1, h.2.1.turns ht (by have := hG; unfold ScnG at this; simp; omega) (by have := hG; unfold ScnG at this; simp; omega), h.2.2.1.turns ht (by have := hG; unfold ScnG at this; simp; omega), below_turns h.2.2.2 ht (by have := hG; unfold ScnG at this; simp; omega)⟩
theorem own_base {w : World} {base size n : Nat} {e : TypeId} {A : Option Addr} {c : Nat} {xs : List Value} (h : w.ownsRow base e size (.slice A n c) n xs) : ∀ ad, A = some ad → base ≤ ad.block := fun ad ha => by
  subst ha
  rcases h.2 with ⟨ho, _⟩ | ⟨gg, _, _, ho, h3, _⟩
  · cases ho
  · cases ho
    exact h3
/-- A whole sweep at once. -/
theorem sw_whole (s b bP pm pW : Nat) (D : List Int) (T P Q : List Bool) (A : Option Addr) (c : Nat) (w : World) (hS : Blk w s (swC b pm true (.slice A (dirtyL P).length c) 0) 123) (hL : RowI w (.slice A (dirtyL P).length c) (dirtyL P)) (hnc : (dirtyL P).length ≤ c) (hcm : (c : Int) ≤ 9223372036854775807)
    (hA : 0 < (dirtyL P).length → ∀ ad, A = some ad → ad.block ≠ bP ∧ ad.block ≠ s) (hM : TmM w b bP D T P) (hQ : ShM w pm pW Q) (hne : s ≠ b ∧ s ≠ bP ∧ s ≠ pm ∧ s ≠ pW ∧ bP ≠ pm ∧ bP ≠ pW) (hP : P.length = 4) :
    Calls Try.prog 76 #[.pointer (some ⟨s, 0, none⟩), .int .i64 99] w fun e w' => (∃ v, e = .returned v) ∧ TmM w' b bP D (swS D Q (dirtyL P) (T, P, 0)).1 (swS D Q (dirtyL P) (T, P, 0)).2.1 ∧
      (∃ A' n' c', Blk w' s (swC b pm false (.slice A' n' c') (((swS D Q (dirtyL P) (T, P, 0)).2.2 : Nat) : Int)) 123) ∧ Turns [bP, s] w w' := by
  have hl := dirty_len P
  have g := sw_step s b bP pm pW D T P Q A (dirtyL P).length c 0 99 (dirtyL P) w hS hL hnc hcm hA dirty_lt hM hQ hne (by omega) (by decide) (by decide)
  have e : min 99 (dirtyL P).length = (dirtyL P).length := by omega
  rw [e, List.take_length, decide_eq_false (by omega)] at g
  exact g.mono fun e w' ⟨h1, h2, h3, h4⟩ => ⟨⟨_, h1⟩, h2, ⟨_, _, _, h3⟩, h4⟩
end Go.Proofs.Ytjimkkkiilcpoaa
