/-
  No cell of these rows narrows 'for every input' (looked for: loops, veiled, ifaces, maps, wideKeys, modest, calm, conditions, laid).
  DERIVED. THE GIVEN ROWS OF THIS SEAT. 6 by the template 'for every input the law returns true; each argument reads behind the call as it read before'; 0 by the template 'total and deterministic' (their statements: YtphkljlbadpknaaTotals.lean).
  GIVEN WITH THE SEED: the statements are not yours to turn. If you find one false, say at which input.
  Laid BY PROGRAM, IN A SANDBOX (cutbox-rows.mjs): the forced cells as the released guide's own fill.sh prints them over the translation 86354ba8d5419ae9… (all of the seat's roots in one cut). By AI agents, Wed Nov 11 2026. No macro, syntax, notation, axiom, sorry.
-/
import Derived.Test.YtphkljlbadpknaaChecked
import GoSem.Claim
import GoSem.ClaimJoined
import GoSem.ClaimMapViews
import Derived.JoinedTies
import Derived.KernelRfl
namespace Go.Proofs.Ytphkljlbadpknaa
/- THE CELL 'sum', in the pinned program and in every row, IS THE sha256 OF THE DUMP (.gsa) THAT YtphkljlbadpknaaProg.lean LOADS. Nothing in Lean hashes anything: it is a label: what it is worth is what the hold of that sum in a sandbox is worth. -/
noncomputable def Try.pinned : Pinned := { name := "ytphkljlbadpknaa", sum := "86354ba8d5419ae95cb7d2dbd95462e1d7df6bf8fad5910a5a82b8ebd738ebe3", checked := Try.checked }
namespace Rows
def none {H : Type} : Left H := { results := [], args := [] }

/-- 'seizinlaw20.AluTells': WHATEVER THE INPUT: true; the input reads as it did. -/
def aluTellsSpec : ChangeSpec := { name := "aluTells", fn := fun _ => fun
  | [d1, d2, d3, d4, d5] => { results := [.lit (.bool true)], args := [d1, d2, d3, d4, d5] }
  | _ => none }
def aluTellsRow : OpenClaim := { program := "ytphkljlbadpknaa", sum := "86354ba8d5419ae95cb7d2dbd95462e1d7df6bf8fad5910a5a82b8ebd738ebe3", func := "seizin/seizinlaw20.AluTells", spec := "aluTells", unfollowed := true, recurses := true, apart := false }
def AluTellsSaid : Prop := aluTellsRow.holds Try.pinned (OpenSpec.ofChange aluTellsSpec)

/-- ITS FALSE NEIGHBOUR: 'it returns false'. Refute it at one input. -/
def aluTellsWrong : ChangeSpec := { name := "aluTells", fn := fun _ => fun
  | [d1, d2, d3, d4, d5] => { results := [.lit (.bool false)], args := [d1, d2, d3, d4, d5] }
  | _ => none }
def AluTellsWrongFalsely : Prop := aluTellsRow.holds Try.pinned (OpenSpec.ofChange aluTellsWrong)

/-- 'seizinlaw20.AluRing': WHATEVER THE INPUT: true; the input reads as it did. -/
def aluRingSpec : ChangeSpec := { name := "aluRing", fn := fun _ => fun
  | [d1, d2, d3] => { results := [.lit (.bool true)], args := [d1, d2, d3] }
  | _ => none }
def aluRingRow : OpenClaim := { program := "ytphkljlbadpknaa", sum := "86354ba8d5419ae95cb7d2dbd95462e1d7df6bf8fad5910a5a82b8ebd738ebe3", func := "seizin/seizinlaw20.AluRing", spec := "aluRing", unfollowed := true, recurses := true, apart := false }
def AluRingSaid : Prop := aluRingRow.holds Try.pinned (OpenSpec.ofChange aluRingSpec)

/-- ITS FALSE NEIGHBOUR: 'it returns false'. Refute it at one input. -/
def aluRingWrong : ChangeSpec := { name := "aluRing", fn := fun _ => fun
  | [d1, d2, d3] => { results := [.lit (.bool false)], args := [d1, d2, d3] }
  | _ => none }
def AluRingWrongFalsely : Prop := aluRingRow.holds Try.pinned (OpenSpec.ofChange aluRingWrong)

/-- 'seizinlaw20.AluDivides': WHATEVER THE INPUT: true; the input reads as it did. -/
def aluDividesSpec : ChangeSpec := { name := "aluDivides", fn := fun _ => fun
  | [d1, d2] => { results := [.lit (.bool true)], args := [d1, d2] }
  | _ => none }
def aluDividesRow : OpenClaim := { program := "ytphkljlbadpknaa", sum := "86354ba8d5419ae95cb7d2dbd95462e1d7df6bf8fad5910a5a82b8ebd738ebe3", func := "seizin/seizinlaw20.AluDivides", spec := "aluDivides", unfollowed := true, recurses := true, apart := false }
def AluDividesSaid : Prop := aluDividesRow.holds Try.pinned (OpenSpec.ofChange aluDividesSpec)

/-- ITS FALSE NEIGHBOUR: 'it returns false'. Refute it at one input. -/
def aluDividesWrong : ChangeSpec := { name := "aluDivides", fn := fun _ => fun
  | [d1, d2] => { results := [.lit (.bool false)], args := [d1, d2] }
  | _ => none }
def AluDividesWrongFalsely : Prop := aluDividesRow.holds Try.pinned (OpenSpec.ofChange aluDividesWrong)

/-- 'seizinlaw20.AluMod': WHATEVER THE INPUT: true; the input reads as it did. -/
def aluModSpec : ChangeSpec := { name := "aluMod", fn := fun _ => fun
  | [d1, d2, d3, d4, d5] => { results := [.lit (.bool true)], args := [d1, d2, d3, d4, d5] }
  | _ => none }
def aluModRow : OpenClaim := { program := "ytphkljlbadpknaa", sum := "86354ba8d5419ae95cb7d2dbd95462e1d7df6bf8fad5910a5a82b8ebd738ebe3", func := "seizin/seizinlaw20.AluMod", spec := "aluMod", unfollowed := true, recurses := true, apart := false }
def AluModSaid : Prop := aluModRow.holds Try.pinned (OpenSpec.ofChange aluModSpec)

/-- ITS FALSE NEIGHBOUR: 'it returns false'. Refute it at one input. -/
def aluModWrong : ChangeSpec := { name := "aluMod", fn := fun _ => fun
  | [d1, d2, d3, d4, d5] => { results := [.lit (.bool false)], args := [d1, d2, d3, d4, d5] }
  | _ => none }
def AluModWrongFalsely : Prop := aluModRow.holds Try.pinned (OpenSpec.ofChange aluModWrong)

/-- 'seizinlaw20.AluBack': WHATEVER THE INPUT: true; the input reads as it did. -/
def aluBackSpec : ChangeSpec := { name := "aluBack", fn := fun _ => fun
  | [d1, d2, d3] => { results := [.lit (.bool true)], args := [d1, d2, d3] }
  | _ => none }
def aluBackRow : OpenClaim := { program := "ytphkljlbadpknaa", sum := "86354ba8d5419ae95cb7d2dbd95462e1d7df6bf8fad5910a5a82b8ebd738ebe3", func := "seizin/seizinlaw20.AluBack", spec := "aluBack", unfollowed := true, recurses := true, apart := false }
def AluBackSaid : Prop := aluBackRow.holds Try.pinned (OpenSpec.ofChange aluBackSpec)

/-- ITS FALSE NEIGHBOUR: 'it returns false'. Refute it at one input. -/
def aluBackWrong : ChangeSpec := { name := "aluBack", fn := fun _ => fun
  | [d1, d2, d3] => { results := [.lit (.bool false)], args := [d1, d2, d3] }
  | _ => none }
def AluBackWrongFalsely : Prop := aluBackRow.holds Try.pinned (OpenSpec.ofChange aluBackWrong)

/-- 'seizinlaw20.AluOrder': WHATEVER THE INPUT: true; the input reads as it did. -/
def aluOrderSpec : ChangeSpec := { name := "aluOrder", fn := fun _ => fun
  | [d1, d2, d3] => { results := [.lit (.bool true)], args := [d1, d2, d3] }
  | _ => none }
def aluOrderRow : OpenClaim := { program := "ytphkljlbadpknaa", sum := "86354ba8d5419ae95cb7d2dbd95462e1d7df6bf8fad5910a5a82b8ebd738ebe3", func := "seizin/seizinlaw20.AluOrder", spec := "aluOrder", unfollowed := true, recurses := true, apart := false }
def AluOrderSaid : Prop := aluOrderRow.holds Try.pinned (OpenSpec.ofChange aluOrderSpec)

/-- ITS FALSE NEIGHBOUR: 'it returns false'. Refute it at one input. -/
def aluOrderWrong : ChangeSpec := { name := "aluOrder", fn := fun _ => fun
  | [d1, d2, d3] => { results := [.lit (.bool false)], args := [d1, d2, d3] }
  | _ => none }
def AluOrderWrongFalsely : Prop := aluOrderRow.holds Try.pinned (OpenSpec.ofChange aluOrderWrong)

/- THE SECOND FORM. 'bulk': how many values and letters a reading holds, each counted each time it is reached (what is shared counts as often as it is met; a slice's spare places count too). A statement '..UptoSaid' is the law's where the arguments, and the package variables that the reading takes, are together of bulk at most 1048576: NARROWER than '..Said'. Prove '..Said' where nothing that the law and all that it calls make is longer than what came in: it says more and counts as full. Else prove '..UptoSaid'. A law counts once. -/
mutual
def uptoBulk {H : Type} : DataW H → Nat
  | .lit (.string bytes) => bytes.length + 1
  | .lit _ => 1
  | .nil => 1
  | .ptr d => uptoBulk d + 1
  | .slice elems spare => uptoBulkAll elems + uptoBulkAll spare + 1
  | .agg parts => uptoBulkAll parts + 1
  | .iface _ d => uptoBulk d + 1
  | .map entries => uptoBulkEntries entries + 1
  | .held _ => 1
def uptoBulkAll {H : Type} : List (DataW H) → Nat
  | [] => 0
  | d :: r => uptoBulk d + uptoBulkAll r
def uptoBulkEntries {H : Type} : List (Lit × DataW H) → Nat
  | [] => 0
  | x :: r => uptoBulkEntry x + uptoBulkEntries r
def uptoBulkEntry {H : Type} : Lit × DataW H → Nat
  | (.string bytes, d) => bytes.length + uptoBulk d + 1
  | (_, d) => uptoBulk d + 1
 end
def uptoSmall : (H : Type) → List (DataW H) → Bool := fun _ ds => decide (uptoBulkAll ds ≤ 1048576)
def OpenSpec.upto (s : _root_.Go.ChangeSpec) : _root_.Go.OpenSpec := { _root_.Go.OpenSpec.ofChange s with cond := some uptoSmall }

/-- 'seizinlaw20.AluTells', WHERE WHAT IT READS IS OF BULK AT MOST 1048576: true; the input reads as it did. -/
def aluTellsUptoRow : OpenClaim := { program := "ytphkljlbadpknaa", sum := "86354ba8d5419ae95cb7d2dbd95462e1d7df6bf8fad5910a5a82b8ebd738ebe3", func := "seizin/seizinlaw20.AluTells", spec := "aluTells", unfollowed := true, recurses := true, apart := false, narrowed := true }
def AluTellsUptoSaid : Prop := aluTellsUptoRow.holds Try.pinned (OpenSpec.upto aluTellsSpec)

/-- 'seizinlaw20.AluRing', WHERE WHAT IT READS IS OF BULK AT MOST 1048576: true; the input reads as it did. -/
def aluRingUptoRow : OpenClaim := { program := "ytphkljlbadpknaa", sum := "86354ba8d5419ae95cb7d2dbd95462e1d7df6bf8fad5910a5a82b8ebd738ebe3", func := "seizin/seizinlaw20.AluRing", spec := "aluRing", unfollowed := true, recurses := true, apart := false, narrowed := true }
def AluRingUptoSaid : Prop := aluRingUptoRow.holds Try.pinned (OpenSpec.upto aluRingSpec)

/-- 'seizinlaw20.AluDivides', WHERE WHAT IT READS IS OF BULK AT MOST 1048576: true; the input reads as it did. -/
def aluDividesUptoRow : OpenClaim := { program := "ytphkljlbadpknaa", sum := "86354ba8d5419ae95cb7d2dbd95462e1d7df6bf8fad5910a5a82b8ebd738ebe3", func := "seizin/seizinlaw20.AluDivides", spec := "aluDivides", unfollowed := true, recurses := true, apart := false, narrowed := true }
def AluDividesUptoSaid : Prop := aluDividesUptoRow.holds Try.pinned (OpenSpec.upto aluDividesSpec)

/-- 'seizinlaw20.AluMod', WHERE WHAT IT READS IS OF BULK AT MOST 1048576: true; the input reads as it did. -/
def aluModUptoRow : OpenClaim := { program := "ytphkljlbadpknaa", sum := "86354ba8d5419ae95cb7d2dbd95462e1d7df6bf8fad5910a5a82b8ebd738ebe3", func := "seizin/seizinlaw20.AluMod", spec := "aluMod", unfollowed := true, recurses := true, apart := false, narrowed := true }
def AluModUptoSaid : Prop := aluModUptoRow.holds Try.pinned (OpenSpec.upto aluModSpec)

/-- 'seizinlaw20.AluBack', WHERE WHAT IT READS IS OF BULK AT MOST 1048576: true; the input reads as it did. -/
def aluBackUptoRow : OpenClaim := { program := "ytphkljlbadpknaa", sum := "86354ba8d5419ae95cb7d2dbd95462e1d7df6bf8fad5910a5a82b8ebd738ebe3", func := "seizin/seizinlaw20.AluBack", spec := "aluBack", unfollowed := true, recurses := true, apart := false, narrowed := true }
def AluBackUptoSaid : Prop := aluBackUptoRow.holds Try.pinned (OpenSpec.upto aluBackSpec)

/-- 'seizinlaw20.AluOrder', WHERE WHAT IT READS IS OF BULK AT MOST 1048576: true; the input reads as it did. -/
def aluOrderUptoRow : OpenClaim := { program := "ytphkljlbadpknaa", sum := "86354ba8d5419ae95cb7d2dbd95462e1d7df6bf8fad5910a5a82b8ebd738ebe3", func := "seizin/seizinlaw20.AluOrder", spec := "aluOrder", unfollowed := true, recurses := true, apart := false, narrowed := true }
def AluOrderUptoSaid : Prop := aluOrderUptoRow.holds Try.pinned (OpenSpec.upto aluOrderSpec)

end Rows
end Go.Proofs.Ytphkljlbadpknaa
