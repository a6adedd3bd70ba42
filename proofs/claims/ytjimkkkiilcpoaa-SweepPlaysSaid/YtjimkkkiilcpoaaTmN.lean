/- Store, the program's. -/
import Derived.Test.YtjimkkkiilcpoaaTmL
import Derived.Test.YtjimkkkiilcpoaaFlowG
import Derived.Laws.CopyRow
set_option linter.unusedVariables false
set_option linter.unusedSimpArgs false
namespace Go.Proofs.Ytjimkkkiilcpoaa
open Go.RowKit Go.Shelf
attribute [local go_sem] Oper.semAt_some

theorem Turns.setRow (w : World) (g : Nat) (cs : Array Value) : Turns [g] w (w.setRow g cs) :=
  ⟨rfl, rfl, rfl, by simp, fun k _ hk => setRow_other w g k cs (by simpa using hk)⟩
theorem opOk_copy {G : World → World → Prop} {P : Program} {ops : Array Oper} {o : Oper} {a : Act} {w w' : World} {R : Value → World → Prop} {d s : Operand} {t1 t2 : TypeId} {vd vs v : Value} (hg : o.guard = none)
    (ho : o.op = .call { callee := .builtin .copy, args := #[d, s], argTypes := #[t1, t2] }) (hd : a.eval d = vd) (hs : a.eval s = vs) (hrun : (Builtin.copy_ #[t1, t2] o.type #[vd, vs]).run P w = .ok v w') (hG : G w w') (hR : R v w') :
    FG.opOk G P ops o a w R := by
  unfold FG.opOk
  rw [if_pos (by simp [Region.wanted, hg])]
  have e : (execOp a.eval o).run P w = .ok (.value v) w' := by
    unfold execOp
    simp [ho, resolve, invoke, builtin, hd, hs, hrun]
  rw [e]
  exact ⟨hG, hR⟩
/-- A slice that is read, where other blocks turn. -/
theorem RdL.turns {w w1 : World} {A : Option Addr} {xs : List Value} {bs : List Nat} (h : RdL w A xs) (ht : Turns bs w w1) (hA : 0 < xs.length → ∀ ad, A = some ad → ad.block ∉ bs) : RdL w1 A xs := fun j u hu => by
  obtain ⟨ad, e, hc⟩ := h j u hu
  have hj : j < xs.length := (List.getElem?_eq_some_iff.1 hu).1
  have hb : (ad.add j).block = ad.block := by unfold Addr.add; split <;> rfl
  exact ⟨ad, e, (World.cell?_of_block (ht.block _ (World.block_lt_of_cell? w _ hc) (by rw [hb]; exact hA (by omega) ad e))).trans hc⟩
theorem RowU.turns {w w1 : World} {A : Option Addr} {n c : Nat} {xs : List Int} {bs : List Nat} (h : RowU w (.slice A n c) xs) (ht : Turns bs w w1) (hA : 0 < n → ∀ ad, A = some ad → ad.block ∉ bs) : RowU w1 (.slice A n c) xs := by
  obtain ⟨A', c', hv, h1, h2⟩ := h
  cases hv
  exact ⟨A, c, rfl, h1.turns ht (fun hl => hA (by simpa [u8s] using hl)), h2⟩
theorem RowU.ownk {w w1 : World} {v : Value} {xs : List Int} {row : Option Nat} (h : RowU w v xs) (hg : w.grownBy w1 row) (hr : ∀ r, row = some r → ∃ o : Obj, w.heap[r]? = some o ∧ o.isCells = false) : RowU w1 v xs := by
  obtain ⟨A, c, hv, h1, h2⟩ := h
  refine ⟨A, c, hv, fun j u hu => ?_, h2⟩
  obtain ⟨ad, e, hc⟩ := h1 j u hu
  exact ⟨ad, e, cell_kept hc hg hr⟩
theorem RowU.drop {w : World} {b o n c : Nat} {xs : List Int} (h : RowU w (.slice (some ⟨b, o, none⟩) n c) xs) (d : Nat) (hd : d ≤ n) : RowU w (.slice (some ⟨b, o + d, none⟩) (n - d) (c - d)) (xs.drop d) := by
  obtain ⟨A', c', hv, h1, h2⟩ := h
  cases hv
  refine ⟨_, _, by rw [List.length_drop], fun j u hu => ?_, by rw [List.length_drop]; omega⟩
  obtain ⟨ad, e, hc⟩ := h1 (d + j) u (by simpa [u8s, List.getElem?_drop] using hu)
  cases e
  rw [add_plain] at hc
  exact ⟨_, rfl, by rw [add_plain, show o + d + j = o + (d + j) by omega]; exact hc⟩
theorem writeL_writeL (D : List Int) (a : Nat) (x y : List Int) (h : a + x.length + y.length ≤ D.length) : writeL (writeL D a x) (a + x.length) y = writeL D a (x ++ y) := by
  refine list_ext_getD _ _ 0 (by rw [writeL_length _ _ _ (by rw [writeL_length _ _ _ (by omega)]; omega), writeL_length _ _ _ (by omega), writeL_length _ _ _ (by simp; omega)]) fun k hk => ?_
  rw [writeL_getD _ _ _ (by rw [writeL_length _ _ _ (by omega)]; omega), writeL_getD _ _ _ (by omega), writeL_getD _ _ _ (by simp; omega), List.length_append]
  by_cases h1 : a + x.length ≤ k ∧ k < a + x.length + y.length
  · rw [if_pos h1, if_pos ⟨by omega, by omega⟩, List.getD_eq_getElem?_getD, List.getD_eq_getElem?_getD, List.getElem?_append_right (by omega), show k - a - x.length = k - (a + x.length) by omega]
  · rw [if_neg h1]
    by_cases h2 : a ≤ k ∧ k < a + x.length
    · rw [if_pos h2, if_pos ⟨h2.1, by omega⟩, List.getD_eq_getElem?_getD, List.getD_eq_getElem?_getD, List.getElem?_append_left (by omega)]
    · rw [if_neg h2, if_neg (by omega)]
theorem writeL_again (D : List Int) (a : Nat) (x : List Int) (h : a + x.length ≤ D.length) : writeL (writeL D a x) a x = writeL D a x := by
  refine list_ext_getD _ _ 0 (by rw [writeL_length _ _ _ (by rw [writeL_length _ _ _ (by omega)]; omega)]) fun k hk => ?_
  rw [writeL_getD _ _ _ (by rw [writeL_length _ _ _ (by omega)]; omega), writeL_getD _ _ _ (by omega)]
  split <;> rfl
/-- Tags lo to hi - 1 off. -/
def clrT (T : List Bool) (lo hi : Nat) : List Bool := (List.range T.length).map fun k => T.getD k false && !decide (lo ≤ k ∧ k < hi)
theorem clrT_length (T : List Bool) (lo hi : Nat) : (clrT T lo hi).length = T.length := by simp [clrT]
theorem clrT_getD (T : List Bool) (lo hi k : Nat) : (clrT T lo hi).getD k false = (T.getD k false && !decide (lo ≤ k ∧ k < hi)) := by
  by_cases hk : k < T.length
  · rw [List.getD_eq_getElem?_getD, clrT, List.getElem?_map, List.getElem?_range hk]; rfl
  · rw [List.getD_eq_getElem?_getD, List.getElem?_eq_none (by rw [clrT_length]; omega), List.getD_eq_getElem?_getD, List.getElem?_eq_none (by omega)]; rfl
theorem clrT_zero (T : List Bool) (lo : Nat) : clrT T lo lo = T := by
  refine list_ext_getD _ _ false (clrT_length ..) fun k _ => ?_
  rw [clrT_getD, decide_eq_false (by omega)]; simp
theorem clrT_succ (T : List Bool) (lo hi : Nat) (hl : lo ≤ hi) (h : hi < T.length) : clrT T lo (hi + 1) = (clrT T lo hi).set hi false := by
  refine list_ext_getD _ _ false (by rw [List.length_set, clrT_length, clrT_length]) fun k hk => ?_
  rw [getD_setL _ _ _ _ _ (by rw [clrT_length]; exact h), clrT_getD, clrT_getD]
  by_cases e : hi = k
  · rw [if_pos e, decide_eq_true (by omega)]; simp
  · rw [if_neg e]
    congr 2
    by_cases h1 : lo ≤ k ∧ k < hi
    · rw [decide_eq_true h1, decide_eq_true (by omega)]
    · rw [decide_eq_false h1, decide_eq_false (by omega)]
theorem clrT_store (T : List Bool) (a m pi f t : Nat) (h : pi * 256 + f = a + m) (h1 : f < t) : clrT (storeT T a m) (pi * 16 + f / 16) (pi * 16 + ((t - 1) / 16 + 1)) = storeT T a (m + (t - f)) := by
  refine list_ext_getD _ _ false (by rw [clrT_length, storeT_length, storeT_length]) fun k hk => ?_
  rw [clrT_getD, storeT_getD, storeT_getD, Bool.and_assoc]
  congr 1
  rw [← Bool.not_or]
  congr 1
  rw [← Bool.decide_or]
  apply decide_eq_decide.2
  constructor
  · rintro (h2 | h2) <;> omega
  · intro h2
    by_cases h3 : pi * 16 + f / 16 ≤ k
    · exact .inr ⟨h3, by omega⟩
    · exact .inl (by omega)
theorem TmM.write {w : World} {b bP : Nat} {D : List Int} {T P : List Bool} (h : TmM w b bP D T P) {i j : Nat} {bs : List Int} (hi : i < P.length) (hj : j + bs.length ≤ 256) (hb : isB bs) :
    TmM (w.setRow bP ((pagesA D T P).toList.take (i * 273 + j) ++ u8s bs ++ (pagesA D T P).toList.drop (i * 273 + j + (u8s bs).length)).toArray) b bP (writeL D (i * 256 + j) bs) T P := by
  obtain ⟨⟨h1, h2, h3, h4⟩, hne, hB, hP⟩ := h
  refine ⟨⟨by rw [writeL_length _ _ _ (by omega)]; exact h1, h2, h3, writeL_isB h4 hb⟩, hne, ?_, ?_⟩
  · exact (setRow_other w bP b _ hne).trans hB
  · rw [← pg_write D T P i j bs hi hj h1]
    have e : (u8s bs).length = bs.length := by simp [u8s]
    rw [e]
    exact setRow_heap w bP _ _ _ (0, 0) hP

theorem KeepsOthers.turns {A B : World} {bs : List Nat} (h : Turns bs A B) (hb : ∀ b ∈ bs, ∃ cs e, Blk A b cs e) : KeepsOthers A B :=
  ⟨h.size, fun k o hk ho => (h.block k (Array.getElem?_eq_some_iff.1 hk).1 (fun hm => by
    obtain ⟨cs, e, hB⟩ := hb k hm
    unfold Blk at hB
    rw [hB] at hk
    cases hk
    cases ho)).trans hk⟩
theorem Turns.sub {bs cs : List Nat} {A B : World} (h : Turns bs A B) (hs : ∀ b ∈ bs, b ∈ cs) : Turns cs A B := ⟨h.os, h.tape, h.output, h.size, fun k hk hn => h.block k hk (fun hm => hn (hs k hm))⟩

set_option maxRecDepth 100000 in
set_option maxHeartbeats 3200000 in
theorem tm_store (b bP : Nat) (D : List Int) (T P : List Bool) (a : Nat) (A : Option Addr) (c : Nat) (xs : List Int) (w : World) (h : TmM w b bP D T P) (hr : RowU w (.slice A xs.length c) xs) (hx : isB xs) (hin : a + xs.length ≤ 256 * P.length)
    (hA : 0 < xs.length → ∀ ad, A = some ad → ad.block ≠ bP) :
    Calls Try.prog 59 #[.pointer (some ⟨b, 0, none⟩), .int .i64 a, .slice A xs.length c] w fun e w' => e = .returned (.bool true) ∧ TmM w' b bP (writeL D a xs) (storeT T a xs.length) P ∧ Turns [bP] w w' := by
  have hle := h.1.2.2.1
  have e1 : inB P.length a (xs.length : Nat) = true := by rw [inB, decide_eq_true_eq]; omega
  have g1 := fun W hW => tm_in b bP D T P a (xs.length : Nat) W hW ⟨by omega, by omega⟩ ⟨by omega, by omega⟩
  rw [e1] at g1
  have G1 := Lib.hid g1
  have H := Lib.hid h
  have HIN := Lib.hid hin
  have HR := Lib.hid hr
  have HX := Lib.hid hx
  have HA := Lib.hid hA
  clear g1 e1 h hin hr hx hA
  generalize hn : xs.length = n at *
  have HN := Lib.hid hn
  clear hn
  refine (callsIn_wide (n := 9)).1 ?_
  refine callsIn_of_wp_marks Try.func59 rfl trivial ?_ rfl
  simp only [Try.ntmps59, List.size_toArray, List.length_cons, List.length_nil, Nat.reduceAdd, Nat.reduceSub, Array.replicate_succ, Array.replicate_zero, List.push_toArray, List.append_toArray, List.nil_append, List.cons_append]
  gi_wp2_with fail
  refine ⟨trivial, ?_⟩
  refine CallsIn.mono (callsIn_wide.2 (G1.out _ (H.out.alloc _))) ?_
  rintro e w1 ⟨rfl, rfl⟩
  clear G1
  gi_wp2_with fail
  refine ⟨trivial, ?_⟩
  refine CallsIn.mono (callsIn_wide.2 (tm_runs _ _ _ _)) ?_
  rintro e w2 ⟨rfl, rfl⟩
  gi_wp2_with fail
  obtain ⟨W0, hW0⟩ : ∃ W0, ((((w.alloc (.cells #[.slice A n c] 24)).alloc (.cells #[.pointer (some ⟨b, 0, none⟩)] 56)).alloc (.cells #[.int .i64 a] 3)).alloc (.cells #[.int .i64 n] 3)) = W0 := ⟨_, rfl⟩
  have kO : Blk W0 w.heap.size #[.slice A n c] 24 := by rw [← hW0]; exact (((Blk.new w _ _).alloc _).alloc _).alloc _
  have kM : Blk W0 (w.heap.size + 1) #[.pointer (some ⟨b, 0, none⟩)] 56 := by
    rw [← hW0]
    have := Blk.new (w.alloc (.cells #[.slice A n c] 24)) #[.pointer (some ⟨b, 0, none⟩)] 56
    rw [World.size_alloc] at this
    exact (this.alloc _).alloc _
  have kA : Blk W0 (w.heap.size + 1 + 1) #[.int .i64 a] 3 := by
    rw [← hW0]
    have := Blk.new ((w.alloc (.cells #[.slice A n c] 24)).alloc (.cells #[.pointer (some ⟨b, 0, none⟩)] 56)) #[.int .i64 a] 3
    rw [World.size_alloc, World.size_alloc] at this
    exact this.alloc _
  have kN : Blk W0 (w.heap.size + 1 + 2) #[.int .i64 n] 3 := by
    rw [← hW0]
    have := Blk.new (((w.alloc (.cells #[.slice A n c] 24)).alloc (.cells #[.pointer (some ⟨b, 0, none⟩)] 56)).alloc (.cells #[.int .i64 a] 3)) #[.int .i64 n] 3
    rw [World.size_alloc, World.size_alloc, World.size_alloc] at this
    exact this
  have hB0 : Below w.heap.size w W0 := by rw [← hW0]; go_grown
  have hs0 : W0.heap.size = w.heap.size + 4 := by rw [← hW0]; simp
  rw [hW0]
  have hb := H.out.lt
  have hT0 := H.out.below hB0 hb.1 hb.2
  have hR0 : RowU W0 (.slice A n c) xs := by have := HR.out.below hB0; exact this
  have hA0 : 0 < n → ∀ ad, A = some ad → ad.block < w.heap.size ∧ ad.block ≠ bP := fun h0 ad e => by
    obtain ⟨g, o, c', hv, _, hc⟩ := HR.out.cells (by rw [HN.out]; exact h0)
    cases hv
    cases e
    exact ⟨World.block_lt_of_cell? w _ (hc 0 (by rw [HN.out]; exact h0)), HA.out h0 _ rfl⟩
  have HIT := runs_iter (9 - 1) b bP (w.heap.size + 1) (w.heap.size + 1 + 1) (w.heap.size + 1 + 2) P.length a n W0 kM kA kN hT0.2.2.1 (by omega) ⟨by omega, by omega⟩ ⟨by omega, by omega⟩ HIN.out hle
  have hps := parts_spec n a
  have hpa := parts_all n a
  generalize parts n a n = XS at *
  clear hW0
  have hturn : ∀ {A B : World} {bs : List Nat}, Turns [bP] w A → Turns bs A B → (∀ x ∈ bs, w.heap.size ≤ x) → Turns [bP] w B := fun h1 h2 h3 =>
    ⟨h2.os.trans h1.os, h2.tape.trans h1.tape, h2.output.trans h1.output, Nat.le_trans h1.size h2.size, fun x hx hn => (h2.block x (Nat.lt_of_lt_of_le hx h1.size) (fun hm => by have := h3 x hm; omega)).trans (h1.block x hx hn)⟩
  refine wpIn_range Wide.wide rfl rfl (enters_of Try.func111 (by kernel_rfl) rfl) HIT (Below.refl _ _) (by intro x hx; simp at hx; omega)
    (fun h1 h2 x hx => (h2 x hx).trans (h1 x hx)) (fun W l o hl x hx => World.putObj_heap_other (by simp at hx; omega)) (fun x => rfl)
    (fun q W => ∃ Ar cr, Blk W w.heap.size #[.slice Ar (n - offP XS q) cr] 24 ∧ RowU W (.slice Ar (n - offP XS q) cr) (xs.drop (offP XS q)) ∧ (0 < n - offP XS q → ∀ ad, Ar = some ad → ad.block < w.heap.size ∧ ad.block ≠ bP) ∧
      TmM W b bP (writeL D a (xs.take (offP XS q))) (storeT T a (offP XS q)) P ∧ Turns [bP] w W ∧ W0.heap.size ≤ W.heap.size)
    (fun q A B row ⟨Ar, cr, i1, i2, i3, i4, i5, i6⟩ hg hr => ⟨Ar, cr, i1.own hg fun r e => (hr r e).2, i2.ownk hg fun r e => (hr r e).2, i3, i4.own hg fun r e => (hr r e).2,
      ⟨hg.os.trans i5.os, hg.tape.trans i5.tape, hg.output.trans i5.output, Nat.le_trans i5.size hg.size, fun x hx hn => (hg.block x (Nat.lt_of_lt_of_le hx i5.size) (fun e => by have := (hr x e.symm).1; omega)).trans (i5.block x hx hn)⟩, Nat.le_trans i6 hg.size⟩)
    (fun q A B ⟨Ar, cr, i1, i2, i3, i4, i5, i6⟩ ht => ⟨Ar, cr, i1.turns ht (by simp; omega), i2.turns ht (fun h0 ad e => by have := (i3 h0 ad e).1; simp; omega), i3, i4.turns ht (by simp; omega) (by simp; omega), hturn i5 ht (by intro x hx; simp at hx; omega), Nat.le_trans i6 ht.size⟩)
    ⟨A, c, by simpa [offP] using kO, by simpa [offP] using hR0, fun h0 => hA0 (by simpa [offP] using h0), by simpa [offP, writeL_nil, storeT_zero] using hT0, Turns.below hB0, Nat.le_refl _⟩
    (fun q x a' W => ∃ Bx, W0.heap.size ≤ Bx ∧ Blk W Bx #[.int .i64 x.2.1, .int .i64 x.2.2] 50 ∧
      a' = { tmps := #[.pointer (some ⟨b, 0, none⟩), .int .i64 a, .slice A n c, undef, undef, .pointer (some ⟨w.heap.size, 0, none⟩), .bool false, .pointer (some ⟨bP, x.1 * 273, none⟩), .pointer (some ⟨Bx, 0, none⟩), undef, .pointer (some ⟨b, 0, none⟩), .int .i64 a, .slice A n c, .int .i64 n, .bool true, .bool false, .pointer (some ⟨b, 0, none⟩), .int .i64 a, .slice A n c, .int .i64 n,
        .func (.func 111) #[] #[.pointer (some ⟨w.heap.size + 1 + 2, 0, none⟩), .pointer (some ⟨w.heap.size + 1 + 1, 0, none⟩), .pointer (some ⟨w.heap.size + 1, 0, none⟩)],
        .pointer (some ⟨bP, x.1 * 273, none⟩), .agg #[.int .i64 x.2.1, .int .i64 x.2.2], undef, undef, undef, undef, undef, undef, undef, undef, undef, undef, undef, undef, undef, undef, undef, undef, undef, undef, undef, undef, undef, undef, undef, undef, undef, undef, undef, undef], defers := [] })
    (fun q x a' _ A B row ⟨Bx, i1, i2, i3⟩ hg hr => ⟨Bx, i1, i2.own hg fun r e => (hr r e).2, i3⟩) ?assign ?body ?done
  case assign =>
    intro l q x W K hx hi hK
    obtain ⟨pi, f, t⟩ := x
    simp only [encP]
    have HI := Lib.hid hi
    have HK := Lib.hid hK
    clear hK HIT hps hpa hi
    gi_wp2
    obtain ⟨Ar, cr, i1, i2, i3, i4, i5, i6⟩ := HI.out
    refine HK.out _ _ ((KeepsOthers.alloc _ _).from _) (fun x hx => Below.heap_alloc W _ x (by simp at hx; omega)) ⟨Ar, cr, i1.alloc _, ?_, i3, i4.alloc _, i5.trans (Turns.below ((Below.refl _ _).alloc (Nat.le_refl _) _)), by simp; omega⟩ ⟨W.heap.size, i6, Blk.new _ _ _, rfl⟩
    have hbl : Below W.heap.size W (W.alloc (.cells #[.int .i64 f, .int .i64 t] 50)) := (Below.refl _ _).alloc (Nat.le_refl _) _
    exact i2.below hbl
  case body =>
    intro l q x a' W hlB hlW hx ⟨Ar, cr, i1, i2, i3, i4, i5, i6⟩ ⟨Bx, j1, j2, j3⟩
    obtain ⟨pi, f, t⟩ := x
    obtain ⟨p1, p2, p3, p4⟩ := hps q _ hx
    have hsucc := offP_succ hx
    dsimp only at p1 p2 p3 p4 j2 j3 hsucc
    subst j3
    generalize hm : offP XS q = m at *
    obtain ⟨d, hd⟩ : ∃ d, t - f = d := ⟨_, rfl⟩
    rw [hd] at p4 hsucc
    obtain ⟨nm, hnm⟩ : ∃ nm, n - m = nm := ⟨_, rfl⟩
    rw [hnm] at i1 i2 i3
    have hpi : pi < P.length := by have := HIN.out; omega
    have hld : (xs.drop m).length = nm := by rw [List.length_drop, HN.out]; exact hnm
    obtain ⟨g, o, c2, hv, hc2, hcell⟩ := i2.cells (by omega)
    injection hv with e1 e2 e3
    subst e1
    subst e3
    have hgb := i3 (by omega) _ rfl
    dsimp only at hgb
    have hbsl : ((xs.drop m).take d).length = d := by rw [List.length_take]; omega
    have hbsB : isB ((xs.drop m).take d) := fun y hy => HX.out y (List.mem_of_mem_drop (List.mem_of_mem_take hy))
    have hD1 : (writeL D a (xs.take m)).length = 256 * P.length := i4.1.1
    have hD2 : writeL (writeL D a (xs.take m)) (pi * 256 + f) ((xs.drop m).take d) = writeL D a (xs.take (m + d)) := by
      have hl : (xs.take m).length = m := by rw [List.length_take, HN.out]; omega
      have hDl : D.length = 256 * P.length := H.out.1.1
      rw [p1]
      have := writeL_writeL D a (xs.take m) ((xs.drop m).take d) (by have := HIN.out; omega)
      rw [hl] at this
      rw [this, ← List.take_add]
    have hD2' : writeL (writeL D a (xs.take (m + d))) (pi * 256 + f) ((xs.drop m).take d) = writeL D a (xs.take (m + d)) := by
      rw [← hD2]
      exact writeL_again _ _ _ (by have := HIN.out; omega)
    have hT2 := clrT_store T a m pi f t p1 p2
    rw [hd] at hT2
    have HT2 := Lib.hid hT2
    have HSU := Lib.hid hsucc
    have HD2 := Lib.hid hD2
    have HD2' := Lib.hid hD2'
    have HI5 := Lib.hid i5
    generalize hD1g : writeL D a (xs.take m) = D1 at *
    generalize hD2g : writeL D a (xs.take (m + d)) = D2 at *
    have HD2g := Lib.hid hD2g
    generalize hT1g : storeT T a m = T1 at *
    generalize hbg : (xs.drop m).take d = bs at *
    have hcopy : ∀ (DD : List Int) (W1 : World), writeL DD (pi * 256 + f) bs = D2 → TmM W1 b bP DD T1 P → RowU W1 (.slice (some ⟨g, o, none⟩) nm cr) (xs.drop m) →
        ∃ W2, (Builtin.copy_ #[24, 24] 3 #[.slice (some ⟨bP, pi * 273 + f, none⟩) d (256 - f), .slice (some ⟨g, o, none⟩) nm cr]).run Try.prog W1 = .ok (.int .i64 (d : Int)) W2 ∧ TmM W2 b bP D2 T1 P ∧ Turns [bP] W1 W2 := fun DD W1 hw hT hr => by
      have hrd := (hr.take d (by omega)).row
      rw [hbg] at hrd
      have hl2 : (u8s bs).length = d := by rw [u8s, List.length_map]; exact hbsl
      have hrun := run_copy_row (P := Try.prog) W1 24 24 3 5 bP (pi * 273 + f) d (256 - f) ⟨g, o, none⟩ nm cr (pagesA DD T1 P) 116 (u8s bs) Try.underlying24 (by kernel_rfl) hT.2.2.2
        (by rw [hl2]; exact (Nat.min_eq_right (by omega)).symm) (fun j u hu => by obtain ⟨ad, e, hc⟩ := hrd j u hu; cases e; exact hc) (by rw [hl2, pagesA_size]; omega) (by intro u hu; simp [u8s] at hu; obtain ⟨y, _, rfl⟩ := hu; rfl)
      have hTw := hT.write (i := pi) (j := f) (bs := bs) hpi (by omega) hbsB
      rw [hw] at hTw
      rw [hl2] at hrun hTw
      exact ⟨_, hrun, hTw, Turns.setRow _ _ _⟩
    have hcells : (∃ cs e, Blk W bP cs e) ∧ (∃ cs e, Blk W w.heap.size cs e) := ⟨⟨_, _, i4.2.2.2⟩, ⟨_, _, i1⟩⟩
    have HCELLS := Lib.hid hcells
    clear hcells
    obtain ⟨G, hGd⟩ : ∃ G : World → World → Prop, G = fun X Y => Turns [bP] X Y ∧ (TmM X b bP D2 T1 P → TmM Y b bP D2 T1 P) ∧ (TmM X b bP D1 T1 P → TmM Y b bP D1 T1 P ∨ TmM Y b bP D2 T1 P) := ⟨_, rfl⟩
    have hG : FG.Pre G := by
      subst hGd
      exact ⟨fun X => ⟨Turns.refl _ _, id, .inl⟩, fun h k => ⟨h.1.trans k.1, fun x => k.2.1 (h.2.1 x), fun x => by rcases h.2.2 x with y | y; exact k.2.2 y; exact .inr (k.2.1 y)⟩, fun X => ⟨Turns.below (Below.refl _ _).drew, fun h => h.drew, fun h => .inl h.drew⟩⟩
    have hGT : ∀ X Y : World, G X Y → Turns [bP] X Y ∧ (TmM X b bP D2 T1 P → TmM Y b bP D2 T1 P) ∧ (TmM X b bP D1 T1 P → TmM Y b bP D1 T1 P ∨ TmM Y b bP D2 T1 P) := fun X Y h => by subst hGd; exact h
    have hGi : ∀ X Y : World, Turns [bP] X Y → TmM Y b bP D2 T1 P → G X Y := fun X Y h k => by subst hGd; exact ⟨h, fun _ => k, fun _ => .inr k⟩
    have HG := Lib.hid hG
    have HGT := Lib.hid hGT
    have HGI := Lib.hid hGi
    have HCO := Lib.hid hcopy
    have q1 : (f : Int) ≤ (t : Int) := by omega
    have q2 : (t : Int) ≤ 256 := by omega
    have q3 : ¬ f = 256 := by omega
    have q4 : ¬ 256 = f := by omega
    have HI1 := Lib.hid i1
    have HI2 := Lib.hid i2
    have HI4 := Lib.hid i4
    have HJ2 := Lib.hid j2
    have HP1 := Lib.hid (show pi * 256 + f = a + m ∧ f < t ∧ t ≤ 256 ∧ m + d ≤ n ∧ n - m = nm ∧ d ≤ nm ∧ nm ≤ cr ∧ t - f = d ∧ (xs.drop m).length = nm by omega)
    have HGB := Lib.hid hgb
    have q5 : (d : Int) ≤ nm := by omega
    have q6 : (nm : Int) ≤ cr := by omega
    have q7 : (cr : Int) ≤ 9223372036854775807 ∨ True := .inr trivial
    clear q7
    clear p1 p2 p3 p4 hnm hld hc2 hgb e2
    clear HIT hps hpa i1 i2 i3 i4 i5 j2 hx hcopy hGi hGT hG hGd hT2 hsucc hD2 hD2' hbg hT1g hD1g hD2g hbsl hbsB hcell hD1
    gi_wp2_with fail
    refine FG.wpIn_flow_lit HG.out (Wide.round l) 11 (fun w' => Blk w' w.heap.size #[.slice (some ⟨g, o, none⟩) nm cr] 24 ∧ Blk w' Bx #[.int .i64 f, .int .i64 t] 50 ∧ RowU w' (.slice (some ⟨g, o, none⟩) nm cr) (xs.drop m) ∧ (TmM w' b bP D1 T1 P ∨ TmM w' b bP D2 T1 P))
      [none, none, none, none, none, none, none, none, none, none, some (fun v w' => v = .int .i64 (d : Int) ∧ TmM w' b bP D2 T1 P)] (by kernel_rfl) (by kernel_rfl) (by kernel_rfl) ⟨HI1.out.drew, HJ2.out.drew, HI2.out, .inl HI4.out.drew⟩
      (fun w1 w2 h hb => ⟨h.1.turns (HGT.out _ _ hb).1 (by simp; omega), h.2.1.turns (HGT.out _ _ hb).1 (by simp; omega), h.2.2.1.turns (HGT.out _ _ hb).1 (fun _ ad e => by cases e; simp; exact HGB.out.2), by rcases h.2.2.2 with y | y; exact (HGT.out _ _ hb).2.2 y; exact .inr ((HGT.out _ _ hb).2.1 y)⟩)
      ⟨fun v w1 w2 h hb => ⟨h.1, (HGT.out _ _ hb).2.1 h.2⟩, trivial⟩ ?_
    try simp (config := { maxSteps := 10000000 }) only [specV, addF, Act.put, List.setIfInBounds_toArray, List.set_cons_zero, List.set_cons_succ, List.take_succ_cons, List.take_zero, List.drop_succ_cons, List.drop_zero]
    (apply Exists.intro; refine ⟨fun vs w1 hS hB hf => ?_, ?_⟩; (focus (have c1 := hS.1.cell; have l1 := hS.1.lt; clear hS hB hf; go_simp; first | exact ⟨HG.out.refl _, rfl⟩ | exact rfl)); try simp (config := { maxSteps := 10000000 }) only [specV, addF, Act.put, List.setIfInBounds_toArray, List.set_cons_zero, List.set_cons_succ, List.take_succ_cons, List.take_zero, List.drop_succ_cons, List.drop_zero])
    (apply Exists.intro; refine ⟨fun vs w1 hS hB hf => ?_, ?_⟩; (focus (clear hS hB hf; go_simp; first | exact ⟨HG.out.refl _, rfl⟩ | exact rfl)); try simp (config := { maxSteps := 10000000 }) only [specV, addF, Act.put, List.setIfInBounds_toArray, List.set_cons_zero, List.set_cons_succ, List.take_succ_cons, List.take_zero, List.drop_succ_cons, List.drop_zero])
    (apply Exists.intro; refine ⟨fun vs w1 hS hB hf => ?_, ?_⟩; (focus (clear hS hB hf; go_simp; first | exact ⟨HG.out.refl _, rfl⟩ | exact rfl)); try simp (config := { maxSteps := 10000000 }) only [specV, addF, Act.put, List.setIfInBounds_toArray, List.set_cons_zero, List.set_cons_succ, List.take_succ_cons, List.take_zero, List.drop_succ_cons, List.drop_zero])
    (apply Exists.intro; refine ⟨fun vs w1 hS hB hf => ?_, ?_⟩; (focus (clear hS hB hf; go_simp; first | exact ⟨HG.out.refl _, rfl⟩ | exact rfl)); try simp (config := { maxSteps := 10000000 }) only [specV, addF, Act.put, List.setIfInBounds_toArray, List.set_cons_zero, List.set_cons_succ, List.take_succ_cons, List.take_zero, List.drop_succ_cons, List.drop_zero])
    (apply Exists.intro; refine ⟨fun vs w1 hS hB hf => ?_, ?_⟩; (focus (clear hS hB hf; go_simp; first | exact ⟨HG.out.refl _, rfl⟩ | exact rfl)); try simp (config := { maxSteps := 10000000 }) only [specV, addF, Act.put, List.setIfInBounds_toArray, List.set_cons_zero, List.set_cons_succ, List.take_succ_cons, List.take_zero, List.drop_succ_cons, List.drop_zero])
    (apply Exists.intro; refine ⟨fun vs w1 hS hB hf => ?_, ?_⟩; (focus (have c1 := hS.2.1.cell; have l1 := hS.2.1.lt; clear hS hB hf; go_simp; first | exact ⟨HG.out.refl _, rfl⟩ | exact rfl)); try simp (config := { maxSteps := 10000000 }) only [specV, addF, Act.put, List.setIfInBounds_toArray, List.set_cons_zero, List.set_cons_succ, List.take_succ_cons, List.take_zero, List.drop_succ_cons, List.drop_zero])
    (apply Exists.intro; refine ⟨fun vs w1 hS hB hf => ?_, ?_⟩; (focus (clear hS hB hf; go_simp; first | exact ⟨HG.out.refl _, rfl⟩ | exact rfl)); try simp (config := { maxSteps := 10000000 }) only [specV, addF, Act.put, List.setIfInBounds_toArray, List.set_cons_zero, List.set_cons_succ, List.take_succ_cons, List.take_zero, List.drop_succ_cons, List.drop_zero])
    (apply Exists.intro; refine ⟨fun vs w1 hS hB hf => ?_, ?_⟩; (focus (have c1 := hS.2.1.cell; have l1 := hS.2.1.lt; clear hS hB hf; go_simp; first | exact ⟨HG.out.refl _, rfl⟩ | exact rfl)); try simp (config := { maxSteps := 10000000 }) only [specV, addF, Act.put, List.setIfInBounds_toArray, List.set_cons_zero, List.set_cons_succ, List.take_succ_cons, List.take_zero, List.drop_succ_cons, List.drop_zero])
    (apply Exists.intro; refine ⟨fun vs w1 hS hB hf => ?_, ?_⟩; (focus (clear hS hB hf; go_simp; first | exact ⟨HG.out.refl _, rfl⟩ | exact rfl)); try simp (config := { maxSteps := 10000000 }) only [specV, addF, Act.put, List.setIfInBounds_toArray, List.set_cons_zero, List.set_cons_succ, List.take_succ_cons, List.take_zero, List.drop_succ_cons, List.drop_zero])
    (apply Exists.intro; refine ⟨fun vs w1 hS hB hf => ?_, ?_⟩; (focus (have c1 := hS.1.cell; have l1 := hS.1.lt; clear hS hB hf; go_simp; first | exact ⟨HG.out.refl _, rfl⟩ | exact rfl)); try simp (config := { maxSteps := 10000000 }) only [specV, addF, Act.put, List.setIfInBounds_toArray, List.set_cons_zero, List.set_cons_succ, List.take_succ_cons, List.take_zero, List.drop_succ_cons, List.drop_zero])
    (refine ⟨fun vs w1 hS hB hf => ?_, ?_⟩; (focus (rcases hS.2.2.2 with y | y; (obtain ⟨W2, r1, r2, r3⟩ := HCO.out D1 w1 HD2.out y hS.2.2.1; exact opOk_copy rfl rfl rfl rfl r1 (HGI.out _ _ r3 r2) ⟨rfl, r2⟩); (obtain ⟨W2, r1, r2, r3⟩ := HCO.out D2 w1 HD2'.out y hS.2.2.1; exact opOk_copy rfl rfl rfl rfl r1 (HGI.out _ _ r3 r2) ⟨rfl, r2⟩))); try simp (config := { maxSteps := 10000000 }) only [specV, addF, Act.put, List.setIfInBounds_toArray, List.set_cons_zero, List.set_cons_succ, List.take_succ_cons, List.take_zero, List.drop_succ_cons, List.drop_zero])
    intro vs W5 hS hB5 hF
    obtain ⟨⟨hv5, hT5⟩, _⟩ := hF
    dsimp only
    rw [hv5]
    obtain ⟨s1, s2, s3, _⟩ := hS
    have t5 := (HGT.out _ _ hB5).1
    have S1 := Lib.hid s1
    have S2 := Lib.hid s2
    have S3 := Lib.hid s3
    have T5 := Lib.hid t5
    have HT5 := Lib.hid hT5
    have cB := s1.cell
    have fB := s1.frozen
    have lB := s1.lt
    have cX := s2.cell
    have lX := s2.lt
    have nX : ¬ Bx = w.heap.size := by omega
    clear s1 s2 s3 t5 hT5 hv5 hB5 HI1 HI2 HI4 HJ2 HG HGT HGI HCO
    have q8 : ((f : Nat) : Int) / 16 = ((f / 16 : Nat) : Int) := by omega
    have q9 : ((t : Nat) : Int) - 1 = ((t - 1 : Nat) : Int) := by have := HP1.out; omega
    have q10 : ((t - 1 : Nat) : Int) / 16 = (((t - 1) / 16 : Nat) : Int) := by omega
    have HQ : Hid (f / 16 ≤ (t - 1) / 16 ∧ (t - 1) / 16 < 16) := Lib.hid (by have := HP1.out; omega)
    generalize hfu : f / 16 = fu at *
    generalize htu : (t - 1) / 16 = tu at *
    generalize htm : t - 1 = tm at *
    have HT2' := Lib.hid HT2.out
    clear hfu htu htm
    by_cases hq : cr = d
    · obtain ⟨e1, e2⟩ : d = cr ∧ d = nm := by omega
      subst e1
      subst e2
      clear hq q5 q6
      gi_wp2
      obtain ⟨WL, hWL⟩ : ∃ WL, W5.setCell ⟨w.heap.size, 0, none⟩ (.slice (some ⟨g, o, none⟩) 0 0) = WL := ⟨_, rfl⟩
      have L1 : Hid (Blk WL w.heap.size #[.slice (some ⟨g, o, none⟩) 0 0] 24) := Lib.hid (by rw [← hWL]; exact S1.out.set 0 _)
      have L2 : Hid (Blk WL Bx #[.int .i64 f, .int .i64 t] 50) := Lib.hid (by rw [← hWL]; exact S2.out.set_other nX _ _)
      have L3 : Hid (TmM WL b bP D2 T1 P) := Lib.hid (by rw [← hWL]; exact HT5.out.set_other (by omega) (by omega) _ _)
      have L6 : Turns [w.heap.size] W5 WL := by rw [← hWL]; exact Turns.set _ (by simp) _ _
      have L4 : Hid (RowU WL (.slice (some ⟨g, o, none⟩) 0 0) (xs.drop (m + d))) := Lib.hid (by
        rw [← List.drop_drop]
        have e2 : (xs.drop m).drop d = [] := List.drop_of_length_le (by have := HP1.out; omega)
        rw [e2]
        exact ⟨_, _, rfl, RdL.nil _ _, Nat.zero_le _⟩)
      have L7 : Hid (Turns [bP, w.heap.size] W WL) := Lib.hid ((T5.out.sub (by simp)).trans (L6.sub (by simp)))
      rw [hWL]
      clear hWL L6 S1 S2 S3 HT5 T5 cB fB lB cX lX
      gi_loopw [9] (fun u wr => ∃ i : Nat, u = .int .i64 i ∧ fu ≤ i ∧ i ≤ tu + 1 ∧ TmM wr b bP D2 (clrT T1 (pi * 16 + fu) (pi * 16 + i)) P ∧ Turns [bP] WL wr) (fun u wr => match u with | .int _ z => 17 - z.toNat | _ => 0)
      case atStart => exact ⟨fu, rfl, Nat.le_refl _, by have := HQ.out; omega, by rw [clrT_zero]; exact L3.out, Turns.refl _ _⟩
      case round =>
        obtain ⟨i, rfl, hi1, hi2, hiT, hit⟩ := hrel
        have k2 := L2.out.turns hit (by simp; omega)
        have cX := k2.cell
        have lX := k2.lt
        have lP := hiT.lt.2
        have HiT := Lib.hid hiT
        have Hit := Lib.hid hit
        have HI := Lib.hid (And.intro hi1 hi2)
        clear k2 hiT hit hi1 hi2
        rcases Nat.lt_or_ge tu i with hlt | hge
        · have j1 : ¬ (i : Int) ≤ (tu : Int) := by omega
          have e : i = tu + 1 := by have := HI.out; omega
          subst e
          have HF := Lib.hid HiT.out
          rw [HT2.out] at HF
          clear hlt
          gi_wp2
          have TT := L7.out.trans (Hit.out.sub (cs := [bP, w.heap.size]) (by simp))
          have hW1 := HCELLS.out
          refine ⟨(KeepsOthers.turns TT (by intro x hx; simp at hx; rcases hx with rfl | rfl; exact hW1.1; exact hW1.2)).from _, fun x hx => ?_, (some ⟨g, o, none⟩), 0, ?_, ?_, ?_, ?_, ?_, ?_⟩
          · have hx2 : x ≠ bP ∧ x ≠ w.heap.size ∧ x < w.heap.size + 4 := by simp only [List.mem_cons, List.not_mem_nil, or_false] at hx; have := H.out.lt; have := H.out.2.1; omega
            exact TT.block x (by omega) (by simp; omega)
          · have en : n - offP XS (q + 1) = 0 := by rw [HSU.out]; have := HP1.out; omega
            rw [en]
            exact L1.out.turns Hit.out (by simp; omega)
          · have en : n - offP XS (q + 1) = 0 := by rw [HSU.out]; have := HP1.out; omega
            rw [en, HSU.out]
            exact L4.out.turns Hit.out (fun _ ad e => by cases e; simp; exact HGB.out.2)
          · intro _ ad e
            cases e
            exact HGB.out
          · rw [HSU.out, HD2g.out]
            exact HF.out
          · exact ⟨TT.os.trans HI5.out.os, TT.tape.trans HI5.out.tape, TT.output.trans HI5.out.output, Nat.le_trans HI5.out.size TT.size, fun x hx hn => (TT.block x (Nat.lt_of_lt_of_le hx HI5.out.size) (by simp at hn ⊢; omega)).trans (HI5.out.block x hx hn)⟩
          · have := TT.size; omega
        · have j1 : (i : Int) ≤ (tu : Int) := by omega
          have hi16 : i < 16 := by have := HQ.out; omega
          have j2 : (i : Int) < 16 := by omega
          obtain ⟨cT, fT⟩ := HiT.out.tag (k := i) hpi hi16
          have hTl : T1.length = 16 * P.length := by have := HiT.out.1.2.1; rwa [clrT_length] at this
          have hsu := clrT_succ T1 (pi * 16 + fu) (pi * 16 + i) (by have := HI.out; omega) (by omega)
          have HSU2 := Lib.hid hsu
          have HI16 := Lib.hid hi16
          have HGE := Lib.hid hge
          clear hsu hTl hi16 hge
          gi_wp2
          go_roundw
          case rel => exact ⟨i + 1, by go_num, by have := HI.out; omega, by have := HGE.out; omega, by rw [← Nat.add_assoc, HSU2.out]; exact HiT.out.setTag hpi HI16.out false, Hit.out.trans (Turns.set _ (by simp) _ _)⟩
          case measure => have := HI16.out; simp; omega
    · have hq2 : ¬ d = cr := fun e => hq e.symm
      gi_wp2
      obtain ⟨WL, hWL⟩ : ∃ WL, W5.setCell ⟨w.heap.size, 0, none⟩ (.slice (some ⟨g, o + d, none⟩) (nm - d) (cr - d)) = WL := ⟨_, rfl⟩
      have L1 : Hid (Blk WL w.heap.size #[.slice (some ⟨g, o + d, none⟩) (nm - d) (cr - d)] 24) := Lib.hid (by rw [← hWL]; exact S1.out.set 0 _)
      have L2 : Hid (Blk WL Bx #[.int .i64 f, .int .i64 t] 50) := Lib.hid (by rw [← hWL]; exact S2.out.set_other nX _ _)
      have L3 : Hid (TmM WL b bP D2 T1 P) := Lib.hid (by rw [← hWL]; exact HT5.out.set_other (by omega) (by omega) _ _)
      have L6 : Turns [w.heap.size] W5 WL := by rw [← hWL]; exact Turns.set _ (by simp) _ _
      have L4 : Hid (RowU WL (.slice (some ⟨g, o + d, none⟩) (nm - d) (cr - d)) (xs.drop (m + d))) := Lib.hid (by
        rw [← List.drop_drop]
        exact (S3.out.drop d (by have := HP1.out; omega)).turns L6 (fun _ ad e => by cases e; simp; have := HGB.out.1; omega))
      have L7 : Hid (Turns [bP, w.heap.size] W WL) := Lib.hid ((T5.out.sub (by simp)).trans (L6.sub (by simp)))
      rw [hWL]
      clear hWL L6 S1 S2 S3 HT5 T5 cB fB lB cX lX
      gi_loopw [9] (fun u wr => ∃ i : Nat, u = .int .i64 i ∧ fu ≤ i ∧ i ≤ tu + 1 ∧ TmM wr b bP D2 (clrT T1 (pi * 16 + fu) (pi * 16 + i)) P ∧ Turns [bP] WL wr) (fun u wr => match u with | .int _ z => 17 - z.toNat | _ => 0)
      case atStart => exact ⟨fu, rfl, Nat.le_refl _, by have := HQ.out; omega, by rw [clrT_zero]; exact L3.out, Turns.refl _ _⟩
      case round =>
        obtain ⟨i, rfl, hi1, hi2, hiT, hit⟩ := hrel
        have k2 := L2.out.turns hit (by simp; omega)
        have cX := k2.cell
        have lX := k2.lt
        have lP := hiT.lt.2
        have HiT := Lib.hid hiT
        have Hit := Lib.hid hit
        have HI := Lib.hid (And.intro hi1 hi2)
        clear k2 hiT hit hi1 hi2
        rcases Nat.lt_or_ge tu i with hlt | hge
        · have j1 : ¬ (i : Int) ≤ (tu : Int) := by omega
          have e : i = tu + 1 := by have := HI.out; omega
          subst e
          have HF := Lib.hid HiT.out
          rw [HT2.out] at HF
          clear hlt
          gi_wp2
          have TT := L7.out.trans (Hit.out.sub (cs := [bP, w.heap.size]) (by simp))
          have hW1 := HCELLS.out
          refine ⟨(KeepsOthers.turns TT (by intro x hx; simp at hx; rcases hx with rfl | rfl; exact hW1.1; exact hW1.2)).from _, fun x hx => ?_, (some ⟨g, o + d, none⟩), cr - d, ?_, ?_, ?_, ?_, ?_, ?_⟩
          · have hx2 : x ≠ bP ∧ x ≠ w.heap.size ∧ x < w.heap.size + 4 := by simp only [List.mem_cons, List.not_mem_nil, or_false] at hx; have := H.out.lt; have := H.out.2.1; omega
            exact TT.block x (by omega) (by simp; omega)
          · have en : n - offP XS (q + 1) = nm - d := by rw [HSU.out]; have := HP1.out; omega
            rw [en]
            exact L1.out.turns Hit.out (by simp; omega)
          · have en : n - offP XS (q + 1) = nm - d := by rw [HSU.out]; have := HP1.out; omega
            rw [en, HSU.out]
            exact L4.out.turns Hit.out (fun _ ad e => by cases e; simp; exact HGB.out.2)
          · intro _ ad e
            cases e
            exact HGB.out
          · rw [HSU.out, HD2g.out]
            exact HF.out
          · exact ⟨TT.os.trans HI5.out.os, TT.tape.trans HI5.out.tape, TT.output.trans HI5.out.output, Nat.le_trans HI5.out.size TT.size, fun x hx hn => (TT.block x (Nat.lt_of_lt_of_le hx HI5.out.size) (by simp at hn ⊢; omega)).trans (HI5.out.block x hx hn)⟩
          · have := TT.size; omega
        · have j1 : (i : Int) ≤ (tu : Int) := by omega
          have hi16 : i < 16 := by have := HQ.out; omega
          have j2 : (i : Int) < 16 := by omega
          obtain ⟨cT, fT⟩ := HiT.out.tag (k := i) hpi hi16
          have hTl : T1.length = 16 * P.length := by have := HiT.out.1.2.1; rwa [clrT_length] at this
          have hsu := clrT_succ T1 (pi * 16 + fu) (pi * 16 + i) (by have := HI.out; omega) (by omega)
          have HSU2 := Lib.hid hsu
          have HI16 := Lib.hid hi16
          have HGE := Lib.hid hge
          clear hsu hTl hi16 hge
          gi_wp2
          go_roundw
          case rel => exact ⟨i + 1, by go_num, by have := HI.out; omega, by have := HGE.out; omega, by rw [← Nat.add_assoc, HSU2.out]; exact HiT.out.setTag hpi HI16.out false, Hit.out.trans (Turns.set _ (by simp) _ _)⟩
          case measure => have := HI16.out; simp; omega
  case done =>
    intro D' W hD ⟨Ar, cr, i1, i2, i3, i4, i5, i6⟩ hK
    rw [hpa] at i4
    have e : xs.take n = xs := List.take_of_length_le (by rw [HN.out]; exact Nat.le_refl _)
    rw [e] at i4
    have HI4 := Lib.hid i4
    have HI5 := Lib.hid i5
    clear i4 i5 i1 i2 i3 hps hpa HIT
    gi_wp2
    refine ⟨by simp, .inl ⟨_, _, rfl, run_takeDeferred hK, ?_⟩⟩
    refine ⟨_, results_tmp rfl _ _ _, rfl, ?_, ?_⟩
    · exact HI4.out.own (grownBy_putObj' _ _ _) (fun r e => by cases e; exact ⟨_, hK, rfl⟩)
    · exact hturn HI5.out (bs := [D']) ⟨rfl, rfl, rfl, by simp, fun k _ hk => World.putObj_heap_other (by simpa using hk)⟩ (by intro x hx; simp at hx; omega)
end Go.Proofs.Ytjimkkkiilcpoaa
