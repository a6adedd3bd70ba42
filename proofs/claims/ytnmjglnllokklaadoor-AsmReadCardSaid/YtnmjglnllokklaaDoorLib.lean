/- Small laws on rows, slices that are read, and blocks of the call's own. No program in it. -/
import Derived.Test.YtnmjglnllokklaaDoorNum
import Derived.OwnWalk
import Derived.Below
import Derived.Laws.OwnMore
import Derived.Lib.Hide
import Derived.Deep.Draws
import Derived.Deep.MidRow
import Derived.Deep.OwnRows
import Derived.WalkKit
set_option linter.unusedVariables false
set_option linter.unusedSimpArgs false
namespace Go.Proofs.YtnmjglnllokklaaDoor
open Go.RowKit

theorem add_plain (g o j : Nat) : (⟨g, o, none⟩ : Addr).add j = ⟨g, o + j, none⟩ := Addr.add_lit ..

/-- The cells from A on are these. -/
def RdL (w : World) (A : Option Addr) (xs : List Value) : Prop := ∀ j u, xs[j]? = some u → ∃ ad, A = some ad ∧ w.cell? (ad.add j) = some u

theorem RdL.nil (w : World) (A : Option Addr) : RdL w A [] := fun j u h => by simp at h

theorem RdL.below {w w1 : World} {A : Option Addr} {xs : List Value} (h : RdL w A xs) (hb : Below w.heap.size w w1) : RdL w1 A xs := fun j u hu => by
  obtain ⟨ad, e, hc⟩ := h j u hu
  exact ⟨ad, e, (hb.cell (World.block_lt_of_cell? w _ hc)).trans hc⟩

theorem RdL.new (W : World) (cs : Array Value) (e : TypeId) : RdL (W.alloc (.cells cs e)) (some ⟨W.heap.size, 0, none⟩) cs.toList := fun j u hu => by
  refine ⟨_, rfl, ?_⟩
  rw [add_plain, Nat.zero_add, cell_of_row _ _ j cs e (0, 0) (heap_alloc_new W _)]
  simpa using hu

theorem rd_on {W W1 w2 : World} {b : Nat} {cs : Array Value} {e : TypeId} {xs : List Value} (h1 : Below (W.alloc (.cells cs e)).heap.size (W.alloc (.cells cs e)) W1) (h2 : Below W1.heap.size W1 w2) (hb : W.heap.size = b) (hx : cs.toList = xs) : RdL w2 (some ⟨b, 0, none⟩) xs := by
  subst hb
  subst hx
  exact ((RdL.new W cs e).below h1).below h2

theorem RdL.own {w : World} {base : Nat} {e : TypeId} {size : Nat} {A : Option Addr} {n c : Nat} {xs : List Value} (h : w.ownsRow base e size (.slice A n c) n xs) : RdL w A xs := fun j u hu => by
  rcases h.2 with ⟨hv, hn⟩ | ⟨g, cap, cur, hv, _⟩
  · have h1 := h.1
    subst hn
    have : xs = [] := List.eq_nil_of_length_eq_zero (by simpa using h1)
    subst this
    simp at hu
  · cases hv
    exact ⟨_, rfl, h.cells (g := g) rfl j u hu⟩

theorem own_form {w : World} {base : Nat} {e : TypeId} {size : Nat} {v : Value} {n : Nat} {xs : List Value} (h : w.ownsRow base e size v n xs) : ∃ A c, v = .slice A n c := by
  rcases h.2 with ⟨rfl, rfl⟩ | ⟨g, cap, cur, rfl, _⟩
  · exact ⟨none, 0, rfl⟩
  · exact ⟨_, cap, rfl⟩

theorem own_below {w w1 : World} {base : Nat} {e : TypeId} {size n : Nat} {v : Value} {xs : List Value} (h : w.ownsRow base e size v n xs) (hb : Below w.heap.size w w1) : w1.ownsRow base e size v n xs :=
  h.kept (row := none) ⟨hb.os, hb.tape, hb.output, hb.size, fun i hi _ => hb.block i hi⟩ (by cases v.ownBlock <;> simp)

theorem own_on {w w1 w2 : World} {base : Nat} {e : TypeId} {size n : Nat} {v : Value} {xs : List Value} (h : w.ownsRow base e size v n xs) (h1 : Below w.heap.size w w1) (h2 : Below w1.heap.size w1 w2) : w2.ownsRow base e size v n xs :=
  own_below (own_below h h1) h2
theorem own_mono {w : World} {base base' : Nat} {e : TypeId} {size n : Nat} {v : Value} {xs : List Value} (h : w.ownsRow base e size v n xs) (hb : base' ≤ base) : w.ownsRow base' e size v n xs := by
  refine ⟨h.1, ?_⟩
  rcases h.2 with h2 | ⟨g, cap, cur, hv, hg, r⟩
  · exact .inl h2
  · exact .inr ⟨g, cap, cur, hv, Nat.le_trans hb hg, r⟩

theorem below_then {B : Nat} {w w1 w2 : World} (h : Below B w w1) (hB : B ≤ w1.heap.size) (k : Below w1.heap.size w1 w2) : Below B w w2 :=
  h.trans ⟨k.os, k.tape, k.output, k.size, fun i hi => k.block i (Nat.lt_of_lt_of_le hi hB)⟩

theorem below_drewN {B : Nat} {w W : World} (h : Below B w W) (n : Nat) : Below B w (W.drewN n) := ⟨h.os, h.tape, h.output, h.size, h.block⟩

/-- A block of one's own: its cells, and that none is frozen. -/
def Blk (w : World) (b : Nat) (cs : Array Value) (e : TypeId) : Prop := w.heap[b]? = some (.cells cs e (0, 0))
theorem Blk.new (W : World) (cs : Array Value) (e : TypeId) : Blk (W.alloc (.cells cs e)) W.heap.size cs e := heap_alloc_new W _
theorem Blk.lt {w : World} {b : Nat} {cs : Array Value} {e : TypeId} (h : Blk w b cs e) : b < w.heap.size := (Array.getElem?_eq_some_iff.1 h).1
theorem Blk.below {w w1 : World} {b B : Nat} {cs : Array Value} {e : TypeId} (h : Blk w b cs e) (hb : Below B w w1) (hB : b < B) : Blk w1 b cs e := (hb.block b hB).trans h
theorem Blk.alloc {w : World} {b : Nat} {cs : Array Value} {e : TypeId} (h : Blk w b cs e) (o : Obj) : Blk (w.alloc o) b cs e := (Below.heap_alloc w o b h.lt).trans h
theorem Blk.on {w w1 w2 : World} {b : Nat} {cs : Array Value} {e : TypeId} (h : Blk w b cs e) (h1 : Below w.heap.size w w1) (h2 : Below w1.heap.size w1 w2) : Blk w2 b cs e :=
  (h.below h1 h.lt).below h2 (h.below h1 h.lt).lt
theorem Blk.drew {w : World} {b : Nat} {cs : Array Value} {e : TypeId} (h : Blk w b cs e) : Blk w.drew b cs e := h
theorem Blk.cell {w : World} {b : Nat} {cs : Array Value} {e : TypeId} (h : Blk w b cs e) : ∀ o, w.cell? ⟨b, o, none⟩ = cs[o]? := fun o => cell_of_row w b o cs e (0, 0) h
theorem Blk.frozen {w : World} {b : Nat} {cs : Array Value} {e : TypeId} (h : Blk w b cs e) : ∀ o, w.frozen? ⟨b, o, none⟩ = false := fun o => by
  unfold Blk at h
  simp [World.frozen?, h]
theorem Blk.shape {w : World} {b : Nat} {cs : Array Value} {e : TypeId} (h : Blk w b cs e) : w.shape? b = some (e, cs.size) := by
  unfold Blk at h
  simp [World.shape?, h]
theorem Blk.range {w : World} {b : Nat} {cs : Array Value} {e : TypeId} (h : Blk w b cs e) : w.rangeAt b 0 cs.toList := fun j v hv => by
  rw [Nat.zero_add, h.cell j]
  simpa using hv
theorem Blk.set {w : World} {b : Nat} {cs : Array Value} {e : TypeId} (h : Blk w b cs e) (o : Nat) (v : Value) : Blk (w.setCell ⟨b, o, none⟩ v) b (cs.setIfInBounds o v) e := by
  unfold Blk at *
  simp [World.setCell, Array.getElem?_modify, h]
theorem Blk.set_other {w : World} {b c : Nat} {cs : Array Value} {e : TypeId} (h : Blk w b cs e) (hne : b ≠ c) (o : Nat) (v : Value) : Blk (w.setCell ⟨c, o, none⟩ v) b cs e := by
  unfold Blk at *
  rw [Below.heap_setCell _ _ _ _ hne]
  exact h
theorem Blk.grown {w w1 : World} {b : Nat} {cs : Array Value} {e : TypeId} {row : Option Nat} (h : Blk w b cs e) (hg : w.grownBy w1 row) (hne : some b ≠ row) : Blk w1 b cs e :=
  (hg.block b h.lt hne).trans h

section
variable {P : Program} {ops : Array Oper} {rest : List Oper} {o : Oper} {a : Act} {Q : Exit → Act → World → Prop}
/-- append(v, x...): v a row of the call's own, x any slice that reads as news: the one operation. -/
theorem app_wp {w0 W : World} {K : Act → World → Prop} (base : Nat) (s x : Operand) (t e : TypeId) (z : Value) (size bytes : Nat)
    (ho : o.op = .call { callee := .builtin .append, args := #[s, x], argTypes := #[t, t] })
    (ht : P.underlying t = some (.slice e)) (hinfo : (P.info? e).map (fun i => (i.zero, i.size, i.bytes)) = some (some z, size, bytes)) (hz : z.cells.size = size) (hs0 : 0 < size) (hb0 : 0 < bytes)
    (v : Value) (n : Nat) (xs news : List Value) (A : Option Addr) (m c : Nat) (hs : a.eval s = v) (hx : a.eval x = .slice A m c) (hl : news.length = m * size) (h1 : ∀ u ∈ news, u.oneCell' = true)
    (HO : W.ownsRow base e size v n xs) (HR : RdL W A news) (HB : Below base w0 W) (hbase : base ≤ W.heap.size) (hle : (n + m) * bytes ≤ 140737488355328)
    (h : ∀ v1 w1, w1.ownsRow base e size v1 (n + m) (xs ++ news) → Below base w0 w1 → W.grownBy w1 v.ownBlock → K (a.put o.dst v1) w1) :
    o.wp P a W K Q := by
  obtain ⟨i0, hi, hz0, hz1, hz2⟩ := info_parts hinfo
  have hlen : n + m ≤ 140737488355328 := Nat.le_trans (Nat.le_mul_of_pos_right _ hb0) hle
  have hown : ∀ k, v.ownBlock = some k → base ≤ k := fun k hk => (HO.lt k hk).1
  cases A with
  | some ad =>
    refine wp_append_own W s x t ho base e i0 z size bytes ht hi hz0 hz1 hz2 hz hs0 v n xs hs HO ad m c news hx hl (fun j u hu => ?_) h1 (by simp only [maxLen]; omega) hle hbase ?_
    · obtain ⟨ad', e1, hc⟩ := HR j u hu
      cases e1
      exact hc
    · intro v1 w1 hown1 hg _
      exact h v1 w1 hown1 (HB.grown hg hbase hown) hg
  | none =>
    have hn : news = [] := by
      cases news with
      | nil => rfl
      | cons u l => obtain ⟨_, e1, _⟩ := HR 0 u rfl; cases e1
    subst hn
    have hm : m = 0 := by
      rcases Nat.eq_zero_or_pos m with h0 | h0
      · exact h0
      · have := Nat.mul_pos h0 hs0; simp at hl; omega
    subst hm
    have hrun : (Builtin.append_ #[t, t] o.type #[v, .slice none 0 c]).run P W = .ok v W := by
      rcases HO.2 with ⟨rfl, hn⟩ | ⟨g, cap, cur, rfl, _, _, hnc, _⟩
      · simp [Builtin.append_, run_underlying ht, sizeOf, typeInfo, hi, Builtin.lenOf, Builtin.firstCells]
      · simp [Builtin.append_, run_underlying ht, sizeOf, typeInfo, hi, Builtin.lenOf, Builtin.firstCells, hnc, storeCells]
    unfold Oper.wp execOp
    simp only [ho, resolve, invoke, builtin, Sem.run_bind, Sem.run_pure, Result.andThen_ok, List.map_toArray, List.map_cons, List.map_nil, hs, hx, hrun]
    exact h v W (by simpa using HO) HB (World.grownBy.refl _ _)

/-- .. in a list of operations. -/
theorem app {w0 W : World} (base : Nat) (hgd : o.guard = none) (s x : Operand) (t e : TypeId) (z : Value) (size bytes : Nat)
    (ho : o.op = .call { callee := .builtin .append, args := #[s, x], argTypes := #[t, t] })
    (ht : P.underlying t = some (.slice e)) (hinfo : (P.info? e).map (fun i => (i.zero, i.size, i.bytes)) = some (some z, size, bytes)) (hz : z.cells.size = size) (hs0 : 0 < size) (hb0 : 0 < bytes)
    (v : Value) (n : Nat) (xs news : List Value) (A : Option Addr) (m c : Nat) (hs : a.eval s = v) (hx : a.eval x = .slice A m c) (hl : news.length = m * size) (h1 : ∀ u ∈ news, u.oneCell' = true)
    (HO : W.ownsRow base e size v n xs) (HR : RdL W A news) (HB : Below base w0 W) (hbase : base ≤ W.heap.size) (hle : (n + m) * bytes ≤ 140737488355328)
    (h : ∀ v1 w1, w1.ownsRow base e size v1 (n + m) (xs ++ news) → Below base w0 w1 → W.grownBy w1 v.ownBlock → wpList P ops Q rest (a.put o.dst v1) w1) :
    wpList P ops Q (o :: rest) a W :=
  wpList_plain hgd fun K hK => app_wp base s x t e z size bytes ho ht hinfo hz hs0 hb0 v n xs news A m c hs hx hl h1 HO HR HB hbase hle fun v1 w1 a1 a2 a3 => hK _ _ (h v1 w1 a1 a2 a3)

/-- .. in a region that draws its order. -/
theorem app_step {w0 W : World} {K : Act → World → Prop} {E : Prop} (base : Nat) (hgd : o.guard = none) (s x : Operand) (t e : TypeId) (z : Value) (size bytes : Nat)
    (ho : o.op = .call { callee := .builtin .append, args := #[s, x], argTypes := #[t, t] })
    (ht : P.underlying t = some (.slice e)) (hinfo : (P.info? e).map (fun i => (i.zero, i.size, i.bytes)) = some (some z, size, bytes)) (hz : z.cells.size = size) (hs0 : 0 < size) (hb0 : 0 < bytes)
    (v : Value) (n : Nat) (xs news : List Value) (A : Option Addr) (m c : Nat) (hs : a.eval s = v) (hx : a.eval x = .slice A m c) (hl : news.length = m * size) (h1 : ∀ u ∈ news, u.oneCell' = true)
    (HO : W.ownsRow base e size v n xs) (HR : RdL W A news) (HB : Below base w0 W) (hbase : base ≤ W.heap.size) (hle : (n + m) * bytes ≤ 140737488355328)
    (h : ∀ v1 w1, w1.ownsRow base e size v1 (n + m) (xs ++ news) → Below base w0 w1 → W.grownBy w1 v.ownBlock → K (a.put o.dst v1) w1) :
    if Region.wanted o (yielded ops a.tmps) = true then o.wp P a W K Q else E := by
  have hw : Region.wanted o (yielded ops a.tmps) = true := by simp [Region.wanted, hgd]
  rw [if_pos hw]
  exact app_wp base s x t e z size bytes ho ht hinfo hz hs0 hb0 v n xs news A m c hs hx hl h1 HO HR HB hbase hle h
end

/-- The world forgotten, but for what is said of it. -/
theorem wp_gen {P : Program} {c : Code} {Q : Exit → Act → World → Prop} {a : Act} {w : World} (R : World → Prop) (hR : R w) (h : ∀ w', R w' → c.wp P Q a w') : c.wp P Q a w := h w hR

/-- Two results, the first a struct in memory. -/
theorem results_cell2 {P : Program} {fn : Func} {t u : Nat} {T e : TypeId} {d : TypeDesc} {tmps : Array Value} {w : World} {b : Nat} {cs : Array Value} (h : fn.results = #[.cell t T, .tmp u]) (hB : Blk w b cs e) (hu : P.underlying T = some d) (hd : d.isRow = true)
    (hi : (P.info? T).map (·.size) = some cs.toList.length) (hp : tmps.getD t undef = .pointer (some ⟨b, 0, none⟩)) : (results fn tmps).run P w = .ok (.tuple #[.agg cs, tmps.getD u undef]) w := by
  have hl := run_loadVar_mid w b 0 T cs.toList d hB.range hu hd hi
  rw [Array.getD_eq_getD_getElem?] at hp
  simp [results, h, hp, hl, asAddr]
/-- One result, a struct in memory. -/
theorem results_cell1 {P : Program} {fn : Func} {t : Nat} {T e : TypeId} {d : TypeDesc} {tmps : Array Value} {w : World} {b : Nat} {cs : Array Value} (h : fn.results = #[.cell t T]) (hB : Blk w b cs e) (hu : P.underlying T = some d) (hd : d.isRow = true)
    (hi : (P.info? T).map (·.size) = some cs.toList.length) (hp : tmps.getD t undef = .pointer (some ⟨b, 0, none⟩)) : (results fn tmps).run P w = .ok (.agg cs) w := by
  have hl := run_loadVar_mid w b 0 T cs.toList d hB.range hu hd hi
  rw [Array.getD_eq_getD_getElem?] at hp
  simp [results, h, hp, hl, asAddr]

/-- [n]T(x): the array that a slice as long as it lies over. -/
theorem run_arrayAt {P : Program} {T E : TypeId} {n : Nat} (hT : P.underlying T = some (.array n E)) (a : Addr) (c : Nat) (w : World) : (Instr.arrayAt T (.slice (some a) n c)).run P w = .ok (.pointer (some a)) w := by
  simp [Instr.arrayAt, run_underlying hT]
end Go.Proofs.YtnmjglnllokklaaDoor
