/- Load, the program's. -/
import Derived.Test.YtjimkkkiilcpoaaTmK
set_option linter.unusedVariables false
set_option linter.unusedSimpArgs false
namespace Go.Proofs.Ytjimkkkiilcpoaa
open Go.RowKit Go.Shelf
attribute [local go_sem] Oper.semAt_some

/-- How many bytes the first q parts are. -/
def offP (xs : List (Nat × Nat × Nat)) (q : Nat) : Nat := ((xs.take q).map fun x => x.2.2 - x.2.1).sum
theorem offP_succ {xs : List (Nat × Nat × Nat)} {q : Nat} {x : Nat × Nat × Nat} (h : xs[q]? = some x) : offP xs (q + 1) = offP xs q + (x.2.2 - x.2.1) := by
  simp [offP, List.take_add_one, h]
theorem parts_spec : ∀ (k a q : Nat) (x : Nat × Nat × Nat), (parts k a k)[q]? = some x → x.1 * 256 + x.2.1 = a + offP (parts k a k) q ∧ x.2.1 < x.2.2 ∧ x.2.2 ≤ 256 ∧ offP (parts k a k) q + (x.2.2 - x.2.1) ≤ k := by
  intro k
  induction k using Nat.strongRecOn with
  | _ k ih =>
    intro a q x hx
    rcases Nat.eq_zero_or_pos k with h0 | h0
    · subst h0; simp [parts] at hx
    · have hc := parts_cons a k _ h0 rfl
      generalize ht : min (a % 256 + k) 256 = t at hc
      rw [hc] at hx ⊢
      cases q with
      | zero =>
        simp at hx
        subst hx
        simp [offP]
        omega
      | succ q =>
        have h := ih (k - (t - a % 256)) (by omega) (a + t - a % 256) q x (by simpa using hx)
        have e : offP ((a / 256, a % 256, t) :: parts (k - (t - a % 256)) (a + t - a % 256) (k - (t - a % 256))) (q + 1) = (t - a % 256) + offP (parts (k - (t - a % 256)) (a + t - a % 256) (k - (t - a % 256))) q := by simp [offP]
        rw [e]
        omega
theorem parts_all : ∀ (k a : Nat), offP (parts k a k) (parts k a k).length = k := by
  intro k
  induction k using Nat.strongRecOn with
  | _ k ih =>
    intro a
    rcases Nat.eq_zero_or_pos k with h0 | h0
    · subst h0; simp [parts, offP]
    · have hc := parts_cons a k _ h0 rfl
      generalize ht : min (a % 256 + k) 256 = t at hc
      have h := ih (k - (t - a % 256)) (by omega) (a + t - a % 256)
      rw [hc]
      have e : offP ((a / 256, a % 256, t) :: parts (k - (t - a % 256)) (a + t - a % 256) (k - (t - a % 256))) ((a / 256, a % 256, t) :: parts (k - (t - a % 256)) (a + t - a % 256) (k - (t - a % 256))).length = (t - a % 256) + offP (parts (k - (t - a % 256)) (a + t - a % 256) (k - (t - a % 256))) (parts (k - (t - a % 256)) (a + t - a % 256) (k - (t - a % 256))).length := by simp [offP]
      rw [e, h]
      omega

theorem Blk.own {W W' : World} {row : Option Nat} {b : Nat} {cs : Array Value} {e : TypeId} (h : Blk W b cs e) (hg : W.grownBy W' row) (hr : ∀ r, row = some r → ∃ o : Obj, W.heap[r]? = some o ∧ o.isCells = false) : Blk W' b cs e :=
  h.grown hg fun e' => by
    obtain ⟨o, ho, hc⟩ := hr b e'.symm
    unfold Blk at h
    rw [h] at ho
    cases ho
    cases hc
theorem row_own {W W' : World} {row : Option Nat} {base : Nat} {e : TypeId} {size n : Nat} {v : Value} {xs : List Value} (h : W.ownsRow base e size v n xs) (hg : W.grownBy W' row) (hr : ∀ r, row = some r → ∃ o : Obj, W.heap[r]? = some o ∧ o.isCells = false) : W'.ownsRow base e size v n xs :=
  h.kept hg (by
    cases hv : v.ownBlock with
    | none => exact .inl rfl
    | some k =>
      right
      intro e'
      obtain ⟨o, ho, hc⟩ := hr k e'.symm
      rcases h.2 with ⟨rfl, _⟩ | ⟨g, cap, cur, rfl, _, hg', _⟩
      · cases hv
      · simp [Value.ownBlock] at hv
        subst hv
        rw [hg'] at ho
        cases ho
        cases hc)
theorem row_turns {W W' : World} {bs : List Nat} {base : Nat} {e : TypeId} {size n : Nat} {v : Value} {xs : List Value} (h : W.ownsRow base e size v n xs) (ht : Turns bs W W') (hb : ∀ b ∈ bs, b < base) : W'.ownsRow base e size v n xs := by
  refine ⟨h.1, ?_⟩
  rcases h.2 with h2 | ⟨g, cap, cur, hv, hg, hcell, r⟩
  · exact .inl h2
  · refine .inr ⟨g, cap, cur, hv, hg, ?_, r⟩
    rw [ht.block g (Array.getElem?_eq_some_iff.1 hcell).1 (fun hm => by have := hb g hm; omega)]
    exact hcell
theorem TmM.own {W W' : World} {row : Option Nat} {b bP : Nat} {D : List Int} {T P : List Bool} (h : TmM W b bP D T P) (hg : W.grownBy W' row) (hr : ∀ r, row = some r → ∃ o : Obj, W.heap[r]? = some o ∧ o.isCells = false) : TmM W' b bP D T P :=
  ⟨h.1, h.2.1, h.2.2.1.own hg hr, h.2.2.2.own hg hr⟩

theorem partL_append (D : List Int) (a m l : Nat) : partL D a (m + l) = partL D a m ++ partL D (a + m) l := by
  simp only [partL, List.take_add, List.drop_drop]
theorem TmM.rd {w : World} {b bP : Nat} {D : List Int} {T P : List Bool} (h : TmM w b bP D T P) {i f t : Nat} (hi : i < P.length) (hf : f ≤ t) (ht : t ≤ 256) : RdL w (some ⟨bP, i * 273 + f, none⟩) (u8s (partL D (i * 256 + f) (t - f))) := fun j u hu => by
  refine ⟨_, rfl, ?_⟩
  have hD := h.1.1
  simp only [partL, u8s, List.getElem?_map, List.getElem?_take, List.getElem?_drop] at hu
  split at hu
  · rename_i hj
    rw [add_plain, h.2.2.2.cell, show i * 273 + f + j = i * 273 + (f + j) by omega, pg_byte D T P i (f + j) hi (by omega), List.getD_eq_getElem?_getD, show i * 256 + (f + j) = i * 256 + f + j by omega]
    rw [List.getElem?_eq_getElem (by omega)] at hu ⊢
    simpa using hu
  · cases hu
theorem TmM.alloc {w : World} {b bP : Nat} {D : List Int} {T P : List Bool} (h : TmM w b bP D T P) (o : Obj) : TmM (w.alloc o) b bP D T P := ⟨h.1, h.2.1, h.2.2.1.alloc _, h.2.2.2.alloc _⟩
theorem TmM.grown {w w1 : World} {b bP : Nat} {D : List Int} {T P : List Bool} {row : Option Nat} (h : TmM w b bP D T P) (hg : w.grownBy w1 row) (h1 : some b ≠ row) (h2 : some bP ≠ row) : TmM w1 b bP D T P :=
  ⟨h.1, h.2.1, h.2.2.1.grown hg h1, h.2.2.2.grown hg h2⟩
theorem TmM.set_other {w : World} {b bP c : Nat} {D : List Int} {T P : List Bool} (h : TmM w b bP D T P) (h1 : b ≠ c) (h2 : bP ≠ c) (o : Nat) (v : Value) : TmM (w.setCell ⟨c, o, none⟩ v) b bP D T P :=
  ⟨h.1, h.2.1, h.2.2.1.set_other h1 _ _, h.2.2.2.set_other h2 _ _⟩
theorem TmM.drew {w : World} {b bP : Nat} {D : List Int} {T P : List Bool} (h : TmM w b bP D T P) : TmM w.drew b bP D T P := ⟨h.1, h.2.1, h.2.2.1.drew, h.2.2.2.drew⟩
theorem KeepsOthers.below {A B : World} (h : Below A.heap.size A B) : KeepsOthers A B := ⟨h.size, fun k o hk _ => (h.block k (Array.getElem?_eq_some_iff.1 hk).1).trans hk⟩
theorem row_block {W : World} {base : Nat} {e : TypeId} {size n : Nat} {v : Value} {xs : List Value} (h : W.ownsRow base e size v n xs) {j : Nat} {o : Obj} (hj : v.ownBlock = some j) (ho : W.heap[j]? = some o) : base ≤ j ∧ o.isCells = true := by
  rcases h.2 with ⟨rfl, _⟩ | ⟨g, cap, cur, rfl, hg, hc, _⟩
  · cases hj
  · simp [Value.ownBlock] at hj
    subst hj
    rw [hc] at ho
    cases ho
    exact ⟨hg, rfl⟩
theorem enc_size (bP : Nat) (x : Nat × Nat × Nat) : (encP bP x).size = 2 := rfl

set_option maxRecDepth 100000 in
set_option maxHeartbeats 3200000 in
theorem tm_load (b bP : Nat) (D : List Int) (T P : List Bool) (a k : Nat) (w : World) (h : TmM w b bP D T P) (hin : a + k ≤ 256 * P.length) :
    Calls Try.prog 55 #[.pointer (some ⟨b, 0, none⟩), .int .i64 a, .int .i64 k] w fun e w' => ∃ v, e = .returned (.tuple #[v, .bool true]) ∧ w'.ownsRow w.heap.size 5 1 v k (u8s (partL D a k)) ∧ Below w.heap.size w w' := by
  have hle := h.1.2.2.1
  have e1 : inB P.length a k = true := by rw [inB, decide_eq_true_eq]; omega
  have g1 := tm_in b bP D T P a k w h ⟨by omega, by omega⟩ ⟨by omega, by omega⟩
  rw [e1] at g1
  have G1 := Lib.hid g1
  have H := Lib.hid h
  have HIN := Lib.hid hin
  clear g1 e1 h hin
  refine (callsIn_wide (n := 9)).1 ?_
  refine callsIn_of_wp_marks Try.func55 rfl trivial ?_ rfl
  simp only [Try.ntmps55, List.size_toArray, List.length_cons, List.length_nil, Nat.reduceAdd, Nat.reduceSub, Array.replicate_succ, Array.replicate_zero, List.push_toArray, List.append_toArray, List.nil_append, List.cons_append]
  gi_wp2_with fail
  refine ⟨trivial, ?_⟩
  refine CallsIn.mono (callsIn_wide.2 G1.out) ?_
  rintro e w1 ⟨rfl, rfl⟩
  clear G1
  gi_wp2_with fail
  refine ⟨trivial, ?_⟩
  refine CallsIn.mono (callsIn_wide.2 (tm_runs _ _ _ _)) ?_
  rintro e w2 ⟨rfl, rfl⟩
  gi_wp2_with fail
  obtain ⟨W0, hW0⟩ : ∃ W0, ((((w.alloc (.cells #[.slice none 0 0] 24)).alloc (.cells #[.pointer (some ⟨b, 0, none⟩)] 56)).alloc (.cells #[.int .i64 a] 3)).alloc (.cells #[.int .i64 k] 3)) = W0 := ⟨_, rfl⟩
  have kO : Blk W0 w.heap.size #[.slice none 0 0] 24 := by rw [← hW0]; exact (((Blk.new w _ _).alloc _).alloc _).alloc _
  have kM : Blk W0 (w.heap.size + 1) #[.pointer (some ⟨b, 0, none⟩)] 56 := by
    rw [← hW0]
    have := Blk.new (w.alloc (.cells #[.slice none 0 0] 24)) #[.pointer (some ⟨b, 0, none⟩)] 56
    rw [World.size_alloc] at this
    exact (this.alloc _).alloc _
  have kA : Blk W0 (w.heap.size + 1 + 1) #[.int .i64 a] 3 := by
    rw [← hW0]
    have := Blk.new ((w.alloc (.cells #[.slice none 0 0] 24)).alloc (.cells #[.pointer (some ⟨b, 0, none⟩)] 56)) #[.int .i64 a] 3
    rw [World.size_alloc, World.size_alloc] at this
    exact this.alloc _
  have kN : Blk W0 (w.heap.size + 1 + 2) #[.int .i64 k] 3 := by
    rw [← hW0]
    have := Blk.new (((w.alloc (.cells #[.slice none 0 0] 24)).alloc (.cells #[.pointer (some ⟨b, 0, none⟩)] 56)).alloc (.cells #[.int .i64 a] 3)) #[.int .i64 k] 3
    rw [World.size_alloc, World.size_alloc, World.size_alloc] at this
    exact this
  have hB0 : Below w.heap.size w W0 := by rw [← hW0]; go_grown
  have hs0 : W0.heap.size = w.heap.size + 4 := by rw [← hW0]; simp
  rw [hW0]
  have hb := H.out.lt
  have hT0 := H.out.below hB0 hb.1 hb.2
  have HIT := runs_iter (9 - 1) b bP (w.heap.size + 1) (w.heap.size + 1 + 1) (w.heap.size + 1 + 2) P.length a k W0 kM kA kN hT0.2.2.1 (by omega) ⟨by omega, by omega⟩ ⟨by omega, by omega⟩ HIN.out hle
  have hps := parts_spec k a
  have hpa := parts_all k a
  generalize parts k a k = XS at *
  clear hW0
  refine wpIn_range Wide.wide rfl rfl (enters_of Try.func111 (by kernel_rfl) rfl) HIT (Below.refl _ _) (by intro x hx; simp at hx; omega)
    (fun h1 h2 x hx => (h2 x hx).trans (h1 x hx)) (fun W l o hl x hx => World.putObj_heap_other (by simp at hx; omega)) (fun x => rfl)
    (fun q W => ∃ v, Blk W w.heap.size #[v] 24 ∧ W.ownsRow W0.heap.size 5 1 v (offP XS q) (u8s (partL D a (offP XS q))) ∧ TmM W b bP D T P ∧ Below w.heap.size w W ∧ W0.heap.size ≤ W.heap.size)
    (fun q A B row ⟨v, i1, i2, i3, i4, i5⟩ hg hr => ⟨v, i1.own hg fun r e => (hr r e).2, row_own i2 hg fun r e => (hr r e).2, i3.own hg fun r e => (hr r e).2, i4.grown hg (by omega) (fun k e => by have := (hr k e).1; omega), Nat.le_trans i5 hg.size⟩)
    (fun q A B ⟨v, i1, i2, i3, i4, i5⟩ ht => ⟨v, i1.turns ht (by simp; omega), row_turns i2 ht (by intro x hx; simp at hx; omega), i3.turns ht (by simp; omega) (by simp; omega),
      ⟨ht.os.trans i4.os, ht.tape.trans i4.tape, ht.output.trans i4.output, Nat.le_trans i4.size ht.size, fun x hx => (ht.block x (by have := i4.size; omega) (by simp; omega)).trans (i4.block x hx)⟩, Nat.le_trans i5 ht.size⟩)
    ⟨.slice none 0 0, kO, World.ownsRow_nil _ _ _ _, hT0, hB0, Nat.le_refl _⟩
    (fun q x a' W => ∃ Bx, W0.heap.size ≤ Bx ∧ Blk W Bx #[.int .i64 x.2.1, .int .i64 x.2.2] 50 ∧
      a' = { tmps := #[.pointer (some ⟨b, 0, none⟩), .int .i64 a, .int .i64 k, undef, undef, undef, .slice none 0 0, .bool false, .pointer (some ⟨w.heap.size, 0, none⟩), .pointer (some ⟨bP, x.1 * 273, none⟩), .pointer (some ⟨Bx, 0, none⟩), .pointer (some ⟨b, 0, none⟩), .int .i64 a, .int .i64 k, .bool true, .bool false, .pointer (some ⟨b, 0, none⟩), .int .i64 a, .int .i64 k,
        .func (.func 111) #[] #[.pointer (some ⟨w.heap.size + 1 + 2, 0, none⟩), .pointer (some ⟨w.heap.size + 1 + 1, 0, none⟩), .pointer (some ⟨w.heap.size + 1, 0, none⟩)],
        .pointer (some ⟨bP, x.1 * 273, none⟩), .agg #[.int .i64 x.2.1, .int .i64 x.2.2], undef, undef, undef, undef, undef, undef, undef, undef, undef, undef, undef], defers := [] })
    (fun q x a' _ A B row ⟨Bx, i1, i2, i3⟩ hg hr => ⟨Bx, i1, i2.own hg fun r e => (hr r e).2, i3⟩) ?assign ?body ?done
  case assign =>
    intro l q x W K hx hi hK
    obtain ⟨pi, f, t⟩ := x
    simp only [encP]
    obtain ⟨v, i1, i2, i3, i4, i5⟩ := hi
    have HK := Lib.hid hK
    clear hK HIT hps hpa
    gi_wp2
    exact HK.out _ _ ((KeepsOthers.alloc _ _).from _) (fun x hx => Below.heap_alloc W _ x (by simp at hx; omega)) ⟨v, i1.alloc _, i2.alloc _, i3.alloc _, i4.alloc (by omega) _, by simp; omega⟩ ⟨W.heap.size, i5, Blk.new _ _ _, rfl⟩
  case body =>
    intro l q x a' W hlB hlW hx ⟨v, i1, i2, i3, i4, i5⟩ ⟨Bx, j1, j2, j3⟩
    obtain ⟨pi, f, t⟩ := x
    obtain ⟨p1, p2, p3, p4⟩ := hps q _ hx
    have hsucc := offP_succ hx
    dsimp only at p1 p2 p3 p4 j2 j3 hsucc
    subst j3
    generalize hm : offP XS q = m at *
    have hpi : pi < P.length := by have := HIN.out; omega
    have hnew := i3.rd hpi (Nat.le_of_lt p2) p3
    have hpl := partL_append D a m (t - f)
    rw [← p1] at hpl
    have hlen := partL_len D (pi * 256 + f) (t - f) (by have := i3.1.1; have := HIN.out; omega)
    have q1 : (f : Int) ≤ (t : Int) := by omega
    have q2 : (t : Int) ≤ 256 := by omega
    have q3 : ¬ f = 256 := by omega
    have q4 : ¬ 256 = f := by omega
    have HI1 := Lib.hid i1
    have HI2 := Lib.hid i2
    have HI3 := Lib.hid i3
    have HI4 := Lib.hid i4
    have HJ2 := Lib.hid j2
    have HN := Lib.hid hnew
    have HPL := Lib.hid hpl
    have HLEN := Lib.hid hlen
    have HSU := Lib.hid hsucc
    clear HIT hps hpa i1 i2 i3 i4 j2 hnew hpl hlen hsucc hx
    gi_wp2_with fail
    refine wpIn_flow_lit (Wide.round l) 9 (fun w' => Blk w' w.heap.size #[v] 24 ∧ Blk w' Bx #[.int .i64 f, .int .i64 t] 50 ∧ TmM w' b bP D T P ∧ w'.ownsRow W0.heap.size 5 1 v m (u8s (partL D a m)))
      [none, none, none, none, none, none, none, none, none] (by kernel_rfl) (by kernel_rfl) (by kernel_rfl) ⟨HI1.out.drew, HJ2.out.drew, HI3.out.drew, HI2.out⟩
      (fun w1 w2 h hb => ⟨h.1.below hb h.1.lt, h.2.1.below hb h.2.1.lt, h.2.2.1.below hb h.2.2.1.lt.1 h.2.2.1.lt.2, own_below h.2.2.2 hb⟩) trivial ?_
    try simp (config := { maxSteps := 10000000 }) only [specV, addF, Act.put, List.setIfInBounds_toArray, List.set_cons_zero, List.set_cons_succ, List.take_succ_cons, List.take_zero, List.drop_succ_cons, List.drop_zero]
    (apply Exists.intro; refine ⟨fun vs w1 hS hB hf => ?_, ?_⟩; (focus (have c1 := hS.1.cell; have l1 := hS.1.lt; clear hS hB hf; go_simp; first | exact ⟨Below.refl _ _, rfl⟩ | exact rfl)); try simp (config := { maxSteps := 10000000 }) only [specV, addF, Act.put, List.setIfInBounds_toArray, List.set_cons_zero, List.set_cons_succ, List.take_succ_cons, List.take_zero, List.drop_succ_cons, List.drop_zero])
    (apply Exists.intro; refine ⟨fun vs w1 hS hB hf => ?_, ?_⟩; (focus (clear hS hB hf; go_simp; first | exact ⟨Below.refl _ _, rfl⟩ | exact rfl)); try simp (config := { maxSteps := 10000000 }) only [specV, addF, Act.put, List.setIfInBounds_toArray, List.set_cons_zero, List.set_cons_succ, List.take_succ_cons, List.take_zero, List.drop_succ_cons, List.drop_zero])
    (apply Exists.intro; refine ⟨fun vs w1 hS hB hf => ?_, ?_⟩; (focus (clear hS hB hf; go_simp; first | exact ⟨Below.refl _ _, rfl⟩ | exact rfl)); try simp (config := { maxSteps := 10000000 }) only [specV, addF, Act.put, List.setIfInBounds_toArray, List.set_cons_zero, List.set_cons_succ, List.take_succ_cons, List.take_zero, List.drop_succ_cons, List.drop_zero])
    (apply Exists.intro; refine ⟨fun vs w1 hS hB hf => ?_, ?_⟩; (focus (clear hS hB hf; go_simp; first | exact ⟨Below.refl _ _, rfl⟩ | exact rfl)); try simp (config := { maxSteps := 10000000 }) only [specV, addF, Act.put, List.setIfInBounds_toArray, List.set_cons_zero, List.set_cons_succ, List.take_succ_cons, List.take_zero, List.drop_succ_cons, List.drop_zero])
    (apply Exists.intro; refine ⟨fun vs w1 hS hB hf => ?_, ?_⟩; (focus (clear hS hB hf; go_simp; first | exact ⟨Below.refl _ _, rfl⟩ | exact rfl)); try simp (config := { maxSteps := 10000000 }) only [specV, addF, Act.put, List.setIfInBounds_toArray, List.set_cons_zero, List.set_cons_succ, List.take_succ_cons, List.take_zero, List.drop_succ_cons, List.drop_zero])
    (apply Exists.intro; refine ⟨fun vs w1 hS hB hf => ?_, ?_⟩; (focus (have c1 := hS.2.1.cell; have l1 := hS.2.1.lt; clear hS hB hf; go_simp; first | exact ⟨Below.refl _ _, rfl⟩ | exact rfl)); try simp (config := { maxSteps := 10000000 }) only [specV, addF, Act.put, List.setIfInBounds_toArray, List.set_cons_zero, List.set_cons_succ, List.take_succ_cons, List.take_zero, List.drop_succ_cons, List.drop_zero])
    (apply Exists.intro; refine ⟨fun vs w1 hS hB hf => ?_, ?_⟩; (focus (clear hS hB hf; go_simp; first | exact ⟨Below.refl _ _, rfl⟩ | exact rfl)); try simp (config := { maxSteps := 10000000 }) only [specV, addF, Act.put, List.setIfInBounds_toArray, List.set_cons_zero, List.set_cons_succ, List.take_succ_cons, List.take_zero, List.drop_succ_cons, List.drop_zero])
    (apply Exists.intro; refine ⟨fun vs w1 hS hB hf => ?_, ?_⟩; (focus (have c1 := hS.2.1.cell; have l1 := hS.2.1.lt; clear hS hB hf; go_simp; first | exact ⟨Below.refl _ _, rfl⟩ | exact rfl)); try simp (config := { maxSteps := 10000000 }) only [specV, addF, Act.put, List.setIfInBounds_toArray, List.set_cons_zero, List.set_cons_succ, List.take_succ_cons, List.take_zero, List.drop_succ_cons, List.drop_zero])
    (apply Exists.intro; refine ⟨fun vs w1 hS hB hf => ?_, ?_⟩; (focus (clear hS hB hf; go_simp; first | exact ⟨Below.refl _ _, rfl⟩ | exact rfl)); try simp (config := { maxSteps := 10000000 }) only [specV, addF, Act.put, List.setIfInBounds_toArray, List.set_cons_zero, List.set_cons_succ, List.take_succ_cons, List.take_zero, List.drop_succ_cons, List.drop_zero])
    intro vs W5 hS hB5 _
    dsimp only
    obtain ⟨s1, _, s3, s4⟩ := hS
    have hn5 : RdL W5 (some ⟨bP, pi * 273 + f, none⟩) (u8s (partL D (pi * 256 + f) (t - f))) := s3.rd hpi (Nat.le_of_lt p2) p3
    have hs5 := hB5.size
    have hs4 := HI4.out.size
    obtain ⟨i0, hi, hz0, hz1, hz2⟩ := info_parts infoU8'
    have S1 := Lib.hid s1
    have S3 := Lib.hid s3
    have S4 := Lib.hid s4
    have HB5 := Lib.hid hB5
    clear s1 s3 s4 hB5 HI1 HI2 HI3 HJ2 HN
    have hbd : m + (t - f) ≤ 16777216 := by have := HIN.out; omega
    refine wpListIn_append_own W5 rfl _ _ 24 rfl W0.heap.size 5 i0 (.int .u8 0) 1 1 Try.underlying24 hi hz0 hz1 hz2 rfl (by decide) v m _ rfl S4.out ⟨bP, pi * 273 + f, none⟩ (t - f) _ (u8s (partL D (pi * 256 + f) (t - f))) rfl (by rw [u8s, List.length_map, HLEN.out, Nat.mul_one]) (fun j u hu => by obtain ⟨ad, e, hc⟩ := hn5 j u hu; cases e; exact hc) (by intro u hu; simp [u8s] at hu; obtain ⟨y, _, rfl⟩ := hu; rfl) (by simp only [maxLen]; omega) (by omega) (by omega) ?_
    intro v' w' hown' hg' _
    obtain ⟨A', c', rfl⟩ := own_form hown'
    have hne : ∀ y, y < W0.heap.size → some y ≠ v.ownBlock := (fun y hy e => by have := (S4.out.lt y e.symm).1; omega)
    have cB := (S1.out.grown hg' (hne _ (by omega))).cell
    have fB := (S1.out.grown hg' (hne _ (by omega))).frozen
    have lB := (S1.out.grown hg' (hne _ (by omega))).lt
    gi_wp2
    have hown2 := hown'
    rw [← u8s_append, ← HPL.out] at hown2
    have HK : Hid (KeepsOthers W w') := Lib.hid ((KeepsOthers.below HB5.out).trans (KeepsOthers.of_grownBy hg' fun j o e ho => (row_block S4.out e ho).2))
    have hne' : ∀ y, y < W0.heap.size → some y ≠ (Value.slice A' (m + (t - f)) c').ownBlock := fun y hy e => by have := (hown'.lt y e.symm).1; omega
    refine ⟨(HK.out.trans (KeepsOthers.setCell _ _ _)).from _, fun x hx => ?_, _, (S1.out.grown hg' (hne _ (by omega))).set 0 _, ?_, ?_, ?_, ?_⟩
    · have hx2 : x < w.heap.size + 4 ∧ x ≠ w.heap.size := by simp only [List.mem_cons, List.not_mem_nil, or_false] at hx; have := H.out.lt.1; omega
      have hx3 : x < W.heap.size := by omega
      have hx4 : x < W5.heap.size := by omega
      have hx5 : x < W0.heap.size := by omega
      have hx6 : x ≠ (⟨w.heap.size, 0, none⟩ : Addr).block := hx2.2
      rw [Below.heap_setCell _ _ _ x hx6, hg'.block x hx4 (hne x hx5), HB5.out.block x hx3]
    · rw [HSU.out, ← hs0]
      exact hown2.kept (grownBy_setCell' _ _ _) (by
        cases hv : (Value.slice A' (m + (t - f)) c').ownBlock with
        | none => exact .inl rfl
        | some y => right; intro e; injection e with e; exact hne' w.heap.size (by omega) (by rw [hv, e]))
    · exact (S3.out.grown hg' (hne _ (by omega)) (hne _ (by omega))).set_other (by omega) (by omega) _ _
    · exact ((below_then HI4.out HI4.out.size HB5.out).grown hg' (by omega) (fun y e => by have := (S4.out.lt y e).1; omega)).setCell (by simp) _
    · have := hg'.size
      simp
      omega
  case done =>
    intro D' W hD ⟨v, i1, i2, i3, i4, i5⟩ hK
    rw [hpa] at i2
    have L := i1.cell
    have hl := i1.lt
    gi_wp2
    refine ⟨by simp, .inl ⟨_, _, rfl, run_takeDeferred hK, ?_⟩⟩
    refine ⟨_, results_tmp2 rfl _ _ _, v, rfl, ?_, ?_⟩
    · exact own_mono (row_own i2 (grownBy_putObj' _ _ _) (fun r e => by cases e; exact ⟨_, hK, rfl⟩)) (by omega)
    · exact i4.grown (grownBy_putObj' _ _ _) (by have := i4.size; omega) (fun k e => by cases e; omega)
end Go.Proofs.Ytjimkkkiilcpoaa
