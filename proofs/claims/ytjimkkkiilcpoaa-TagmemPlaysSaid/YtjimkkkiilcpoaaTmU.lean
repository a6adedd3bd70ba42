/- What is stored in a memory, one contract for a call, refused or not. -/
import Derived.Test.YtjimkkkiilcpoaaTmT
set_option linter.unusedVariables false
set_option linter.unusedSimpArgs false
namespace Go.Proofs.Ytjimkkkiilcpoaa
open Go.RowKit

/-- What Store makes of bytes and tags. -/
def stD (n : Nat) (D : List Int) (a : Int) (bs : List Int) : List Int := if inB n a bs.length then writeL D a.toNat bs else D
def stT (n : Nat) (T : List Bool) (a : Int) (k : Nat) : List Bool := if inB n a k then storeT T a.toNat k else T
/-- Does StoreCap go; what it makes of bytes, tags and dirty pages. -/
def scB (n : Nat) (at_ : Int) (t : Bool) (b p a q y : Int) : Bool := plB n at_ && rightB t b p a q y
def scD (n : Nat) (D : List Int) (at_ : Int) (t : Bool) (b p a q y : Int) : List Int := if scB n at_ t b p a q y then writeL D at_.toNat (putL t b p a q y) else D
def scT (n : Nat) (T : List Bool) (at_ : Int) (t : Bool) (b p a q y : Int) : List Bool := if scB n at_ t b p a q y then T.set (at_ / 16).toNat t else T
def scP (P : List Bool) (at_ : Int) (t : Bool) (b p a q y : Int) : List Bool := if scB P.length at_ t b p a q y && t then P.set (at_ / 256).toNat true else P
theorem scP_length (P : List Bool) (at_ : Int) (t : Bool) (b p a q y : Int) : (scP P at_ t b p a q y).length = P.length := by unfold scP; split <;> simp
theorem inB_split {n : Nat} {a : Int} {k : Nat} (h : inB n a k = true) : ∃ i : Nat, a = i ∧ i + k ≤ 256 * n := by
  simp only [inB, decide_eq_true_eq] at h
  exact ⟨a.toNat, by omega, by omega⟩
theorem pl_div (i k : Nat) : ((((i * 256 + k * 16 : Nat) : Int)) / 16).toNat = i * 16 + k ∧ (k < 16 → ((((i * 256 + k * 16 : Nat) : Int)) / 256).toNat = i) ∧ (((i * 256 + k * 16 : Nat) : Int)).toNat = i * 256 + k * 16 := by
  refine ⟨by omega, fun h => by omega, by omega⟩

theorem tm_storeU (b bP : Nat) (D : List Int) (T P : List Bool) (a : Int) (A : Option Addr) (c : Nat) (xs : List Int) (w : World) (h : TmM w b bP D T P) (ha : inI a) (hr : RowU w (.slice A xs.length c) xs) (hx : isB xs) (hm : xs.length ≤ 9000)
    (hA : 0 < xs.length → ∀ ad, A = some ad → ad.block ≠ bP) :
    Calls Try.prog 59 #[.pointer (some ⟨b, 0, none⟩), .int .i64 a, .slice A xs.length c] w fun e w' => e = .returned (.bool (inB P.length a xs.length)) ∧ TmM w' b bP (stD P.length D a xs) (stT P.length T a xs.length) P ∧ Turns [bP] w w' := by
  cases hi : inB P.length a xs.length with
  | false =>
    rw [stD, stT, hi, if_neg (by decide), if_neg (by decide)]
    exact (tm_store_no b bP D T P a A xs.length c w h ha (by omega) hi).mono fun e w' ⟨he, hb⟩ => ⟨he, h.grow hb, Turns.below hb⟩
  | true =>
    rw [stD, stT, hi, if_pos rfl, if_pos rfl]
    obtain ⟨i, rfl, hle⟩ := inB_split hi
    rw [Int.toNat_natCast]
    exact tm_store b bP D T P i A c xs w h hr hx hle hA

theorem tr_storeU (b bB bT bP : Nat) (D : List Int) (T P : List Bool) (a : Int) (A : Option Addr) (c : Nat) (xs : List Int) (w : World) (h : TrM w b bB bT bP D T P) (ha : inI a) (hr : RowU w (.slice A xs.length c) xs) (hx : isB xs) (hm : xs.length ≤ 9000)
    (hA : 0 < xs.length → ∀ ad, A = some ad → ad.block ∉ [bB, bT, bP]) :
    Calls Try.prog 60 #[.pointer (some ⟨b, 0, none⟩), .int .i64 a, .slice A xs.length c] w fun e w' => e = .returned (.bool (inB P.length a xs.length)) ∧ TrM w' b bB bT bP (stD P.length D a xs) (stT P.length T a xs.length) P ∧ Turns [bB, bT, bP] w w' := by
  cases hi : inB P.length a xs.length with
  | false =>
    rw [stD, stT, hi, if_neg (by decide), if_neg (by decide)]
    exact (tr_store_no b bB bT bP D T P a A xs.length c w h ha (by omega) hi).mono fun e w' ⟨he, hb⟩ => ⟨he, by subst hb; exact h, by subst hb; exact Turns.refl _ _⟩
  | true =>
    rw [stD, stT, hi, if_pos rfl, if_pos rfl]
    obtain ⟨i, rfl, hle⟩ := inB_split hi
    rw [Int.toNat_natCast]
    exact tr_store b bB bT bP D T P i A c xs w h hr hx hle hA

theorem tm_storecapU (mb bP : Nat) (D : List Int) (T P : List Bool) (at_ : Int) (t : Bool) (b p a q y : Int) (w : World) (h : TmM w mb bP D T P) (ha : inI at_) (hq : inI q) :
    Calls Try.prog 49 #[.pointer (some ⟨mb, 0, none⟩), .int .i64 at_, .agg #[.bool (t), .int .i64 (b), .int .i64 (p), .int .i64 (a), .int .i64 (q), .int .i64 (y)]] w fun e w' => e = .returned (.bool (scB P.length at_ t b p a q y)) ∧
      TmM w' mb bP (scD P.length D at_ t b p a q y) (scT P.length T at_ t b p a q y) (scP P at_ t b p a q y) ∧ Turns [bP] w w' := by
  cases hs : scB P.length at_ t b p a q y with
  | false =>
    rw [scD, scT, scP, hs, if_neg (by decide), if_neg (by decide), Bool.false_and, if_neg (by decide)]
    exact (tm_storecap_no mb bP D T P at_ t b p a q y w h ha hq hs).mono fun e w' ⟨he, hb⟩ => ⟨he, h.grow hb, Turns.below hb⟩
  | true =>
    rw [scD, scT, scP, hs, if_pos rfl, if_pos rfl, Bool.true_and]
    rw [scB, Bool.and_eq_true] at hs
    obtain ⟨i, k, hi, hk, rfl⟩ := pl_split hs.1
    rw [(pl_div i k).1, (pl_div i k).2.1 hk, (pl_div i k).2.2]
    exact tm_storecap mb bP D T P i k t b p a q y w h hi hk hq hs.2

theorem tr_storecapU (mb bB bT bP : Nat) (D : List Int) (T P : List Bool) (at_ : Int) (t : Bool) (b p a q y : Int) (w : World) (h : TrM w mb bB bT bP D T P) (ha : inI at_) :
    Calls Try.prog 50 #[.pointer (some ⟨mb, 0, none⟩), .int .i64 at_, .agg #[.bool (t), .int .i64 (b), .int .i64 (p), .int .i64 (a), .int .i64 (q), .int .i64 (y)]] w fun e w' => e = .returned (.bool (scB P.length at_ t b p a q y)) ∧
      TrM w' mb bB bT bP (scD P.length D at_ t b p a q y) (scT P.length T at_ t b p a q y) (scP P at_ t b p a q y) ∧ Turns [bB, bT, bP] w w' := by
  cases hs : scB P.length at_ t b p a q y with
  | false =>
    rw [scD, scT, scP, hs, if_neg (by decide), if_neg (by decide), Bool.false_and, if_neg (by decide)]
    exact (tr_storecap_no mb bB bT bP D T P at_ t b p a q y w h ha hs).mono fun e w' ⟨he, hb⟩ => ⟨he, h.grow hb, Turns.below hb⟩
  | true =>
    rw [scD, scT, scP, hs, if_pos rfl, if_pos rfl, Bool.true_and]
    rw [scB, Bool.and_eq_true] at hs
    obtain ⟨i, k, hi, hk, rfl⟩ := pl_split hs.1
    rw [(pl_div i k).1, (pl_div i k).2.1 hk, (pl_div i k).2.2]
    exact tr_storecap mb bB bT bP D T P i k t b p a q y w h hi hk hs.2
/-- A law's scene: the program's memory, what was there, a call's bytes, and the local that holds the call. -/
def Sc (w : World) (b bP lo : Nat) (v : Value) (bs : List Int) (cs : Array Value) (D : List Int) (T P : List Bool) (W : World) : Prop :=
  TmM W b bP D T P ∧ Below w.heap.size w W ∧ RowU W v bs ∧ Blk W lo cs 61
theorem Sc.grow {w : World} {b bP lo : Nat} {v : Value} {bs : List Int} {cs : Array Value} {D : List Int} {T P : List Bool} {W W1 : World} (h : Sc w b bP lo v bs cs D T P W) (hb : Below W.heap.size W W1) : Sc w b bP lo v bs cs D T P W1 :=
  ⟨h.1.grow hb, below_then h.2.1 h.2.1.size hb, h.2.2.1.below hb, h.2.2.2.below hb h.2.2.2.lt⟩
theorem below_turns {w W W1 : World} {bs : List Nat} (h : Below w.heap.size w W) (ht : Turns bs W W1) (hb : ∀ b ∈ bs, w.heap.size ≤ b) : Below w.heap.size w W1 :=
  ⟨ht.os.trans h.os, ht.tape.trans h.tape, ht.output.trans h.output, Nat.le_trans h.size ht.size, fun k hk => (ht.block k (Nat.lt_of_lt_of_le hk h.size) (fun hm => by have := hb k hm; omega)).trans (h.block k hk)⟩
theorem Sc.turns {w : World} {b bP lo : Nat} {A : Option Addr} {n c : Nat} {bs : List Int} {cs : Array Value} {D D1 : List Int} {T P T1 P1 : List Bool} {W W1 : World} (h : Sc w b bP lo (.slice A n c) bs cs D T P W) (h1 : TmM W1 b bP D1 T1 P1) (ht : Turns [bP] W W1)
    (hP : w.heap.size ≤ bP) (hn : lo ≠ bP) (hA : 0 < n → ∀ ad, A = some ad → ad.block ≠ bP) : Sc w b bP lo (.slice A n c) bs cs D1 T1 P1 W1 :=
  ⟨h1, below_turns h.2.1 ht (by simpa using hP), h.2.2.1.turns ht (by simpa using hA), h.2.2.2.turns ht (by simpa using hn)⟩
/-- A call's values. -/
def OpV (o : Op7) : Prop := inI o.what ∧ inI o.at_ ∧ inI o.b ∧ inI o.p ∧ inI o.a ∧ inI o.q ∧ inI o.y ∧ inI o.n ∧ isB o.bs ∧ o.bs.length ≤ maxLen
theorem OpsM.get {w W : World} {A : Option Addr} {n c : Nat} {L : List Op7} (h : OpsM w (.slice A n c) L) (hb : Below w.heap.size w W) {j : Nat} {o : Op7} (hj : L[j]? = some o) : ∃ bo oo Ab cb, A = some ⟨bo, oo, none⟩ ∧ n ≤ c ∧ bo < W.heap.size ∧ OpV o ∧ RowU W (.slice Ab o.bs.length cb) o.bs ∧ (∀ bx, w.heap.size ≤ bx → 0 < o.bs.length → ∀ ad, Ab = some ad → ad.block ≠ bx) ∧
    W.cell? ⟨bo, oo + j * 10, none⟩ = some (.int .i64 o.what) ∧ W.cell? ⟨bo, oo + j * 10 + 1, none⟩ = some (.int .i64 o.at_) ∧ W.cell? ⟨bo, oo + j * 10 + 2, none⟩ = some (.slice Ab o.bs.length cb) ∧ W.cell? ⟨bo, oo + j * 10 + 3, none⟩ = some (.bool o.t) ∧ W.cell? ⟨bo, oo + j * 10 + 4, none⟩ = some (.int .i64 o.b) ∧ W.cell? ⟨bo, oo + j * 10 + 5, none⟩ = some (.int .i64 o.p) ∧
    W.cell? ⟨bo, oo + j * 10 + 6, none⟩ = some (.int .i64 o.a) ∧ W.cell? ⟨bo, oo + j * 10 + 7, none⟩ = some (.int .i64 o.q) ∧ W.cell? ⟨bo, oo + j * 10 + 8, none⟩ = some (.int .i64 o.y) ∧ W.cell? ⟨bo, oo + j * 10 + 9, none⟩ = some (.int .i64 o.n) := by
  obtain ⟨bo, oo, rfl, hq, hat⟩ := h.at hj
  obtain ⟨h1, h2, h3, h4, h5, h6, h7, h8, h9, h10, hg, ⟨v, hr, hc⟩, _⟩ := id hat
  obtain ⟨_, _, _, _, _, _, _, _, _, _, hbo, _, k0, k1, k3, k4, k5, k6, k7, k8, k9⟩ := hat.below hb
  obtain ⟨Ab, cb, rfl, hrd, hle⟩ := id hr
  refine ⟨bo, oo, Ab, cb, rfl, hq, hbo, ⟨h1, h2, h3, h4, h5, h6, h7, h8, h9, h10⟩, hr.below hb, fun bx hx h0 ad e => ?_, k0, k1, (hb.cell (p := ⟨bo, _, none⟩) hg).trans hc, k3, k4, k5, k6, k7, k8, k9⟩
  subst e
  obtain ⟨g, o', c', hv, _, hcc⟩ := hr.cells h0
  cases hv
  have := World.block_lt_of_cell? w _ (hcc 0 h0)
  dsimp only at *
  omega
/-- A call's ten cells. -/
def OpX (W : World) (g x : Nat) (v : Value) (o : Op7) : Prop := g < W.heap.size ∧
    W.cell? ⟨g, x, none⟩ = some (.int .i64 o.what) ∧ W.cell? ⟨g, x + 1, none⟩ = some (.int .i64 o.at_) ∧ W.cell? ⟨g, x + 2, none⟩ = some v ∧ W.cell? ⟨g, x + 3, none⟩ = some (.bool o.t) ∧ W.cell? ⟨g, x + 4, none⟩ = some (.int .i64 o.b) ∧ W.cell? ⟨g, x + 5, none⟩ = some (.int .i64 o.p) ∧
    W.cell? ⟨g, x + 6, none⟩ = some (.int .i64 o.a) ∧ W.cell? ⟨g, x + 7, none⟩ = some (.int .i64 o.q) ∧ W.cell? ⟨g, x + 8, none⟩ = some (.int .i64 o.y) ∧ W.cell? ⟨g, x + 9, none⟩ = some (.int .i64 o.n)
theorem OpX.block {W W1 : World} {g x : Nat} {v : Value} {o : Op7} (h : OpX W g x v o) (hs : W.heap.size ≤ W1.heap.size) (hb : W1.heap[g]? = W.heap[g]?) : OpX W1 g x v o := by
  have hc : ∀ y, W1.cell? ⟨g, y, none⟩ = W.cell? ⟨g, y, none⟩ := fun y => by simp only [World.cell?, hb]
  obtain ⟨h0, h1⟩ := h
  refine ⟨Nat.lt_of_lt_of_le h0 hs, ?_⟩
  simp only [hc]
  exact h1
theorem OpX.below {W W1 : World} {g x : Nat} {v : Value} {o : Op7} (h : OpX W g x v o) (hb : Below W.heap.size W W1) : OpX W1 g x v o := h.block hb.size (hb.block g h.1)
theorem OpX.turns {W W1 : World} {g x : Nat} {v : Value} {o : Op7} {bs : List Nat} (h : OpX W g x v o) (ht : Turns bs W W1) (hn : g ∉ bs) : OpX W1 g x v o := h.block ht.size (ht.block g h.1 hn)
theorem OpsM.getX {w W : World} {A : Option Addr} {n c : Nat} {L : List Op7} (h : OpsM w (.slice A n c) L) (hb : Below w.heap.size w W) {j : Nat} {o : Op7} (hj : L[j]? = some o) : ∃ bo oo Ab cb, A = some ⟨bo, oo, none⟩ ∧ n ≤ c ∧ OpV o ∧ RowU W (.slice Ab o.bs.length cb) o.bs ∧ (∀ bx, w.heap.size ≤ bx → 0 < o.bs.length → ∀ ad, Ab = some ad → ad.block ≠ bx) ∧
    (∀ bx, w.heap.size ≤ bx → bo ≠ bx) ∧ OpX W bo (oo + j * 10) (.slice Ab o.bs.length cb) o := by
  obtain ⟨bo, oo, Ab, cb, e, h1, h2, h3, h4, h5, h6⟩ := h.get hb hj
  obtain ⟨bo', oo', e', _, hat⟩ := h.at hj
  subst e
  cases e'
  exact ⟨bo, oo, Ab, cb, rfl, h1, h3, h4, h5, fun bx hx e => by have := hat.2.2.2.2.2.2.2.2.2.2.1; omega, h2, h6⟩
theorem TmM.turnsM {w w1 : World} {b bP bX : Nat} {D : List Int} {T P : List Bool} (h : TmM w b bP D T P) (ht : Turns [bX] w w1) (h1 : b ≠ bX) (h2 : bP ≠ bX) : TmM w1 b bP D T P := h.turns ht (by simpa using h1) (by simpa using h2)
theorem RowU.apart {w : World} {A : Option Addr} {c : Nat} {xs : List Int} (h : RowU w (.slice A xs.length c) xs) (bx : Nat) (hx : w.heap.size ≤ bx) : 0 < xs.length → ∀ ad, A = some ad → ad.block ≠ bx := fun h0 ad e => by
  subst e
  obtain ⟨g, o', c', hv, _, hcc⟩ := h.cells h0
  cases hv
  have := World.block_lt_of_cell? w _ (hcc 0 h0)
  dsimp only at *
  omega
/-- Where a slice's rest begins. -/
def subA (A : Option Addr) (c l : Nat) : Option Addr := if c = l then A else A.map (·.add l)
theorem RowU.sub {w : World} {A : Option Addr} {n c : Nat} {xs : List Int} (h : RowU w (.slice A n c) xs) (l : Nat) (hl : l ≤ n) : RowU w (.slice (subA A c l) (n - l) (c - l)) (xs.drop l) := by
  obtain ⟨A', c', hv, hr, hc⟩ := h
  cases hv
  refine ⟨subA A c l, c - l, by rw [List.length_drop], fun j u hu => ?_, by rw [List.length_drop]; omega⟩
  rw [u8s, List.map_drop, List.getElem?_drop] at hu
  obtain ⟨ad, rfl, hcell⟩ := hr _ _ hu
  unfold subA
  split
  · rename_i e
    have := (List.getElem?_eq_some_iff.1 hu).1
    simp at this
    omega
  · exact ⟨_, rfl, by rw [Go.Deep.add_add]; exact hcell⟩
theorem subA_block {A : Option Addr} {c l bx : Nat} (h : ∀ ad, A = some ad → ad.block ≠ bx) : ∀ ad, subA A c l = some ad → ad.block ≠ bx := fun ad e => by
  unfold subA at e
  split at e
  · exact h ad e
  · cases A with
    | none => cases e
    | some x =>
      simp only [Option.map_some, Option.some.injEq] at e
      subst e
      have := h x rfl
      unfold Addr.add
      split
      · exact this
      · exact this
end Go.Proofs.Ytjimkkkiilcpoaa
