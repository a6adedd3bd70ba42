/- What the rows of this seat share: what the listed variables give; the witness; the wrap. -/
import Derived.Test.YtnmjglnllokklaaDoorAsC
import Derived.Test.YtnmjglnllokklaaDoorTie
import Derived.Test.YtnmjglnllokklaaDoorCards
import Derived.ProofKit
import Derived.OpenShut
import Derived.Handed
import Derived.HandedShaped
import Derived.LaidMore
import Derived.Lay
import Derived.SevenTiedAt
import Derived.Stop.Joined
import Derived.Stop.LaidErr
import Derived.Shelf.Vars
set_option linter.unusedVariables false
set_option linter.unusedSimpArgs false
namespace Go.Proofs.YtnmjglnllokklaaDoor
open Go.ChangeShapes Go.WideShapes Go.ChangeAt Go.RowKit

/-- The plain wrap, with what the listed variables read as and with the world's shape. -/
theorem ret_and_shaped {H : Type} {enc : TypeId × Value → H} {a : Assume} {C : Checked} {os : Os} {f : FuncId} {fn : Func} {s : ChangeSpec} {conds : List PathCond} {apart fresh handsOn again : Bool} {X : World → Array Value → Prop}
    (hX : ∀ (w w' : World) (args : Array Value), w.heap = w'.heap → X w args → X w' args)
    (own : ownKnob C.prog.godebug = none) (started : os.Started) (noInit : C.prog.inits.idxOf? f = none) (hfn : C.prog.funcs[f]? = some fn)
    (witness : ∃ (w : World) (tape : Tape) (i : Input), w.os = os ∧ (w.forCall tape i).Shaped C.prog ∧ i.vars = [] ∧ Input.okWide C.prog (w.forCall tape i) .any w.heap.size f i ∧
      ((s.pre enc C.prog fn conds apart (w.forCall tape i).memory i.args ∧ X (w.forCall tape i).memory i.args) ∧ sizedMet enc C.prog fn (OpenSpec.ofChange s) apart (w.forCall tape i).memory i.args) ∧ a.holds C.prog (lone (Frame.enter C.prog f i.args .normal) [] (w.forCall tape i)))
    (contract : ∀ (W : World) (base : Nat) (args : Array Value) (ds gs : List (DataW H)) (before : List MemPlace),
      (∀ (j : Nat) t v, fn.params[j]? = some t → args[j]? = some v → Value.okWide C.prog W .any base t v) →
      DataW.Whole enc C.prog fn.params.toList s.vars apart W args.toList ds gs before →
      X W args → W.ShapedOpen C.prog →
      Calls C.prog f args W fun e W' => ∃ v, e = .returned v ∧ s.post enc C.prog fn apart fresh handsOn again W args v W') :
    ReturnsInHanded a C os f .any (fun w args => (s.pre enc C.prog fn conds apart w args ∧ X w args) ∧ sizedMet enc C.prog fn (OpenSpec.ofChange s) apart w args) (s.post enc C.prog fn apart fresh handsOn again) := by
  refine returnsInHanded_of_calls own started noInit witness ?_
  intro w tape i _ hsh _ hok hpre hholds
  obtain ⟨_, _, _, fn', hfn', _, _, _, _, hval⟩ := hok
  have e : fn' = fn := Option.some.inj (hfn'.symm.trans hfn)
  subst e
  obtain ⟨⟨⟨ds, gs, before, hw, hc⟩, hx⟩, hz⟩ := hpre
  have hw' := DataW.Whole.of_heap (w' := w.forCall tape i) (by rfl) hw
  refine (contract (w.forCall tape i) w.heap.size i.args ds gs before hval hw' (hX _ _ _ (by rfl) hx) hsh).mono fun e W' ⟨v, he, hp⟩ => ?_
  subst he
  exact ChangeSpec.post_blind hp

theorem own : ownKnob Tryd.prog.godebug = none := by kernel_rfl
theorem laidOut : laidOutB Tryd.prog = true := by kernel_rfl
/-- What the rows list. -/
abbrev LL : List (String × DataW Unit) := Rows.asmTellsRow.laid
theorem ll_plain {w : World} : laidMetH Tryd.prog LL w = laidMet Tryd.prog LL w := MakeChecks.laidMetH_plain _ _ _ (by kernel_rfl)
theorem ll_shaped (os : Os) (args : Array Value) : ((World.laidAll Tryd.prog os LL).forCall (fun _ _ => 0) ⟨#[], args, []⟩).Shaped Tryd.prog := World.shaped_of_ZipB (by kernel_rfl) (by kernel_rfl)
theorem ll_met (os : Os) (args : Array Value) : laidMetH Tryd.prog LL ((World.laidAll Tryd.prog os LL).forCall (fun _ _ => 0) ⟨#[], args, []⟩).memory := by
  rw [ll_plain]
  exact laidMet_laidAll _ (by kernel_rfl) (by kernel_rfl)
theorem star : "*" ++ "errors.errorString" = "*errors.errorString" := by decide
theorem row130 (u : TypeId) (h : Tryd.prog.typeName? 3 u = some "*errors.errorString") : u = 130 :=
  typeName_ptr_named (nm := "errors.errorString") (by rw [star]; kernel_rfl) (by kernel_rfl) (by decide) u (by rw [star]; exact h)
theorem cell_of_var {P : Program} {W : World} {n : String} {g : Nat} {v : Value} (hg : P.globalNamed n = some g) (h : W.var? P n = some #[v]) : W.cell? ⟨g, 0, none⟩ = some v := by
  have := World.var?_cell hg h 0
  simpa using this
set_option maxRecDepth 100000 in
theorem env_of {W : World} (hL : laidMetH Tryd.prog LL W) (hS : W.ShapedOpen Tryd.prog) : Env W := by
  rw [ll_plain] at hL
  have h2 := laidMet.tail (laidMet.tail hL)
  have h4 := laidMet.tail (laidMet.tail h2)
  have h5 := laidMet.tail h4
  have h7 := laidMet.tail (laidMet.tail h5)
  have t1 : Lib.TabIs Tryd.prog W "internal/strconv.uint64pow10" .u64 Lib.pow10Tab := Lib.tabIs_of_head (g := 5) (t := 134) (e := 114) (n := 20) (by kernel_rfl) (by kernel_rfl) Tryd.underlying134 Tryd.underlying114 (by kernel_rfl) (by kernel_rfl) h2
  have t2 : Lib.TabIs Tryd.prog W "strings.asciiSpace" .u8 Lib.asciiSpaceTab := Lib.tabIs_of_head (g := 0) (t := 67) (e := 5) (n := 256) (by kernel_rfl) (by kernel_rfl) Tryd.underlying67 Tryd.underlying5 (by kernel_rfl) (by kernel_rfl) h7
  obtain ⟨m, hm⟩ := Go.Proofs.cell_of_shapedOpen_int (zero := #[.int .i64 0]) (t := 3) (g := 2) hS (of_decide_eq_true (by kernel_rfl)) (by kernel_rfl) rfl (by kernel_rfl) (by kernel_rfl) Tryd.underlying3
  have c9 : Tryd.prog.cellsOf 9 = 1 := by kernel_rfl
  have c132 : Tryd.prog.cellsOf 132 = 1 := by kernel_rfl
  obtain ⟨a4, s4, v4, _, _, _⟩ := laid_sentinel (g := 4) h4 (by kernel_rfl) (by kernel_rfl) Tryd.underlying48 row130 Tryd.underlying130 Tryd.underlying132 rfl rfl Tryd.underlying9 c132 c9
  obtain ⟨a3, s3, v3, _, _, _⟩ := laid_sentinel (g := 3) h5 (by kernel_rfl) (by kernel_rfl) Tryd.underlying48 row130 Tryd.underlying130 Tryd.underlying132 rfl rfl Tryd.underlying9 c132 c9
  refine ⟨t1, t2, ⟨m, hm⟩, ⟨_, _, cell_of_var (by kernel_rfl) v3⟩, ⟨_, _, cell_of_var (by kernel_rfl) v4⟩, ?_⟩
  exact World.block_lt_of_cell? W ⟨5, 0, none⟩ (t1.cell (g := 5) (by kernel_rfl) 0 (by decide))
end Go.Proofs.YtnmjglnllokklaaDoor
