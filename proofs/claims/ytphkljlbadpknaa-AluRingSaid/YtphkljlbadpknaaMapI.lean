/- Maps keyed by integers whose entries are known: a store of a new key, a look-up. No program in it. -/
import Derived.Test.YtphkljlbadpknaaLib
import Derived.Maps.OwnOps
set_option linter.unusedVariables false
set_option linter.unusedSimpArgs false
namespace Go.Proofs.Ytphkljlbadpknaa
open Go.RowKit Go.ChangeMaps

/-- A block that is a map of these entries. -/
def MapB (w : World) (b : Nat) (es : Array MapEntry) (clock : Nat) : Prop := w.heap[b]? = some (.map es clock)
theorem MapB.lt {w : World} {b : Nat} {es : Array MapEntry} {c : Nat} (h : MapB w b es c) : b < w.heap.size := (Array.getElem?_eq_some_iff.1 h).1
theorem MapB.below {w w1 : World} {b B : Nat} {es : Array MapEntry} {c : Nat} (h : MapB w b es c) (hb : Below B w w1) (hB : b < B) : MapB w1 b es c := (hb.block b hB).trans h
theorem MapB.new (W : World) : MapB (W.alloc (.map #[] 0)) W.heap.size #[] 0 := heap_alloc_new W _

theorem run_check_int {P : Program} {K : TypeId} {q : IntKind} (hK : P.underlying K = some (.int q)) (e : Bool) (n : Nat) (k : Int) (w : World) : (Instr.checkKey e (n + 1) K (.int q k)).run P w = .ok () w := by
  simp [Instr.checkKey, run_underlying hK, Result.andThen]

theorem run_map_set {P : Program} {T K E : TypeId} {q : IntKind} {b c : Nat} {es : Array MapEntry} {k : Int} {v : Value} {w : World} (hT : P.underlying T = some (.map K E)) (hK : P.underlying K = some (.int q)) (hb : MapB w b es c)
    (hf : Instr.findNow (.int q) (.int q k) es.toList 0 = some none) :
    (Instr.mapUpdate T (.map (some b)) (.int q k) v).run P w = .ok () { w with heap := w.heap.setIfInBounds b (.map (es.push { key := .int q k, val := v, born := c }) (c + 1)) } := by
  have hc := run_check_int hK false 9999 k w
  simp [Instr.mapUpdate, run_underlying hT, MapKept.run_getObj_map hb, hc, MapKept.run_findKey hK hf, MapKept.run_setObj_map _ hb, Result.andThen]

theorem run_map_get {P : Program} {T K E : TypeId} {q : IntKind} {b c i : Nat} {es : Array MapEntry} {k : Int} {v : Value} {w : World} (hT : P.underlying T = some (.map K E)) (hK : P.underlying K = some (.int q)) (hb : MapB w b es c)
    (hf : Instr.findNow (.int q) (.int q k) es.toList 0 = some (some (i, v))) :
    (Instr.lookup T (.map (some b)) (.int q k) true).run P w = .ok (.tuple #[v, .bool true]) w := by
  have hc := run_check_int hK es.isEmpty 9999 k w
  simp [Instr.lookup, run_underlying hT, MapKept.run_getObj_map hb, hc, MapKept.run_findKey hK hf, Result.andThen]

theorem run_map_none {P : Program} {T K E : TypeId} {q : IntKind} {b c : Nat} {es : Array MapEntry} {k : Int} {z : Value} {w : World} (hT : P.underlying T = some (.map K E)) (hK : P.underlying K = some (.int q)) (hb : MapB w b es c)
    (hf : Instr.findNow (.int q) (.int q k) es.toList 0 = some none) (hz : (zeroValue E).run P w = .ok z w) :
    (Instr.lookup T (.map (some b)) (.int q k) true).run P w = .ok (.tuple #[z, .bool false]) w := by
  have hc := run_check_int hK es.isEmpty 9999 k w
  simp [Instr.lookup, run_underlying hT, MapKept.run_getObj_map hb, hc, MapKept.run_findKey hK hf, hz, Result.andThen]

/-- A map of the call's own: its entries, and what has become of the world below. -/
def MapO (w0 : World) (base : Nat) (W : World) (b : Nat) (es : Array MapEntry) (c : Nat) : Prop := MapB W b es c ∧ Below base w0 W ∧ base ≤ b
theorem MapO.new (w0 : World) : MapO w0 w0.heap.size (w0.alloc (.map #[] 0)) w0.heap.size #[] 0 := ⟨MapB.new _, by go_grown, Nat.le_refl _⟩

/-- A new key's entry, laid in a map of the call's own. -/
theorem map_insert {P : Program} {w0 W : World} {base : Nat} {ops : Array Oper} {rest : List Oper} {o : Oper} {a : Act} {Q : Exit → Act → World → Prop}
    (hg : o.guard = none) (m x v : Operand) (T : TypeId) (hop : o.op = Op.insert T m x v) (K E : TypeId) (q : IntKind) (hT : P.underlying T = some (.map K E)) (hK : P.underlying K = some (.int q))
    (b c : Nat) (es : Array MapEntry) (k : Int) (val : Value) (hm : a.eval m = .map (some b)) (hx : a.eval x = .int q k) (hv : a.eval v = val) (hO : MapO w0 base W b es c) (hf : Instr.findNow (.int q) (.int q k) es.toList 0 = some none)
    (h : ∀ w1, MapO w0 base w1 b (es.push { key := .int q k, val := val, born := c }) (c + 1) → wpList P ops Q rest (a.put o.dst undef) w1) :
    wpList P ops Q (o :: rest) a W := by
  obtain ⟨hB, HB, hbase⟩ := hO
  refine wpList_plain hg fun K' hK' => ?_
  have hrun := run_map_set (v := val) hT hK hB hf
  unfold Oper.wp
  simp [execOp, hop, hm, hx, hv, hrun, Result.andThen]
  refine hK' _ _ (h _ ⟨?_, ?_, hbase⟩)
  · unfold MapB; simp [hB.lt]
  · exact ⟨HB.os, HB.tape, HB.output, by simpa using HB.size, fun i hi => by rw [← HB.block i hi]; simp [Array.getElem?_setIfInBounds]; omega⟩
end Go.Proofs.Ytphkljlbadpknaa
