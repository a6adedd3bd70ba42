/-
  No cell of these rows narrows 'for every input' (looked for: loops, veiled, ifaces, maps, wideKeys, modest, calm, conditions, laid).
  DERIVED. THE GIVEN ROWS OF THIS SEAT. 7 by the template 'for every input the law returns true; each argument reads behind the call as it read before'; 0 by the template 'total and deterministic' (their statements: YtjbfidgggfokcaaTotals.lean).
  GIVEN WITH THE SEED: the statements are not yours to turn. If you find one false, say at which input.
  Laid BY PROGRAM, IN A SANDBOX (cutbox-rows.mjs): the forced cells as the released guide's own fill.sh prints them over the translation 33e358ee14fe4c7f… (all of the seat's roots in one cut). By AI agents, Wed Nov 11 2026. No macro, syntax, notation, axiom, sorry.
-/
import Derived.Test.YtjbfidgggfokcaaChecked
import GoSem.Claim
import GoSem.ClaimJoined
import GoSem.ClaimMapViews
import Derived.JoinedTies
import Derived.KernelRfl
namespace Go.Proofs.Ytjbfidgggfokcaa
/- THE CELL 'sum', in the pinned program and in every row, IS THE sha256 OF THE DUMP (.gsa) THAT YtjbfidgggfokcaaProg.lean LOADS. Nothing in Lean hashes anything: it is a label: what it is worth is what the hold of that sum in a sandbox is worth. -/
noncomputable def Try.pinned : Pinned := { name := "ytjbfidgggfokcaa", sum := "33e358ee14fe4c7ffc8d6b660556e46d292466f8069943fb55080697380fc00f", checked := Try.checked }
namespace Rows
def none {H : Type} : Left H := { results := [], args := [] }

/-- 'seizinlaw01.PermTells': WHATEVER THE INPUT: true; the input reads as it did. -/
def permTellsSpec : ChangeSpec := { name := "permTells", fn := fun _ => fun
  | [d1, d2, d3] => { results := [.lit (.bool true)], args := [d1, d2, d3] }
  | _ => none }
def permTellsRow : OpenClaim := { program := "ytjbfidgggfokcaa", sum := "33e358ee14fe4c7ffc8d6b660556e46d292466f8069943fb55080697380fc00f", func := "seizin/seizinlaw01.PermTells", spec := "permTells", inPlace := ["internal/bytealg.IndexByteString", "internal/bytealg.IndexString", "internal/abi.NoEscape"], named := ["internal/bytealg.MaxLen"], apart := false }
def PermTellsSaid : Prop := permTellsRow.holds Try.pinned (OpenSpec.ofChange permTellsSpec)

/-- ITS FALSE NEIGHBOUR: 'it returns false'. Refute it at one input. -/
def permTellsWrong : ChangeSpec := { name := "permTells", fn := fun _ => fun
  | [d1, d2, d3] => { results := [.lit (.bool false)], args := [d1, d2, d3] }
  | _ => none }
def PermTellsWrongFalsely : Prop := permTellsRow.holds Try.pinned (OpenSpec.ofChange permTellsWrong)

/-- 'seizinlaw01.PermOf': WHATEVER THE INPUT: true; the input reads as it did. -/
def permOfSpec : ChangeSpec := { name := "permOf", fn := fun _ => fun
  | [d] => { results := [.lit (.bool true)], args := [d] }
  | _ => none }
def permOfRow : OpenClaim := { program := "ytjbfidgggfokcaa", sum := "33e358ee14fe4c7ffc8d6b660556e46d292466f8069943fb55080697380fc00f", func := "seizin/seizinlaw01.PermOf", spec := "permOf", inPlace := ["internal/bytealg.IndexByteString", "internal/bytealg.IndexString", "internal/abi.NoEscape"], named := ["internal/bytealg.MaxLen"], apart := false }
def PermOfSaid : Prop := permOfRow.holds Try.pinned (OpenSpec.ofChange permOfSpec)

/-- ITS FALSE NEIGHBOUR: 'it returns false'. Refute it at one input. -/
def permOfWrong : ChangeSpec := { name := "permOf", fn := fun _ => fun
  | [d] => { results := [.lit (.bool false)], args := [d] }
  | _ => none }
def PermOfWrongFalsely : Prop := permOfRow.holds Try.pinned (OpenSpec.ofChange permOfWrong)

/-- 'seizinlaw01.PermOrder': WHATEVER THE INPUT: true; the input reads as it did. -/
def permOrderSpec : ChangeSpec := { name := "permOrder", fn := fun _ => fun
  | [d1, d2, d3] => { results := [.lit (.bool true)], args := [d1, d2, d3] }
  | _ => none }
def permOrderRow : OpenClaim := { program := "ytjbfidgggfokcaa", sum := "33e358ee14fe4c7ffc8d6b660556e46d292466f8069943fb55080697380fc00f", func := "seizin/seizinlaw01.PermOrder", spec := "permOrder", inPlace := ["internal/bytealg.IndexByteString", "internal/bytealg.IndexString", "internal/abi.NoEscape"], named := ["internal/bytealg.MaxLen"], apart := false }
def PermOrderSaid : Prop := permOrderRow.holds Try.pinned (OpenSpec.ofChange permOrderSpec)

/-- ITS FALSE NEIGHBOUR: 'it returns false'. Refute it at one input. -/
def permOrderWrong : ChangeSpec := { name := "permOrder", fn := fun _ => fun
  | [d1, d2, d3] => { results := [.lit (.bool false)], args := [d1, d2, d3] }
  | _ => none }
def PermOrderWrongFalsely : Prop := permOrderRow.holds Try.pinned (OpenSpec.ofChange permOrderWrong)

/-- 'seizinlaw01.PermLeast': WHATEVER THE INPUT: true; the input reads as it did. -/
def permLeastSpec : ChangeSpec := { name := "permLeast", fn := fun _ => fun
  | [d1, d2, d3] => { results := [.lit (.bool true)], args := [d1, d2, d3] }
  | _ => none }
def permLeastRow : OpenClaim := { program := "ytjbfidgggfokcaa", sum := "33e358ee14fe4c7ffc8d6b660556e46d292466f8069943fb55080697380fc00f", func := "seizin/seizinlaw01.PermLeast", spec := "permLeast", inPlace := ["internal/bytealg.IndexByteString", "internal/bytealg.IndexString", "internal/abi.NoEscape"], named := ["internal/bytealg.MaxLen"], apart := false }
def PermLeastSaid : Prop := permLeastRow.holds Try.pinned (OpenSpec.ofChange permLeastSpec)

/-- ITS FALSE NEIGHBOUR: 'it returns false'. Refute it at one input. -/
def permLeastWrong : ChangeSpec := { name := "permLeast", fn := fun _ => fun
  | [d1, d2, d3] => { results := [.lit (.bool false)], args := [d1, d2, d3] }
  | _ => none }
def PermLeastWrongFalsely : Prop := permLeastRow.holds Try.pinned (OpenSpec.ofChange permLeastWrong)

/-- 'seizinlaw01.PermBack': WHATEVER THE INPUT: true; the input reads as it did. -/
def permBackSpec : ChangeSpec := { name := "permBack", fn := fun _ => fun
  | [d1, d2] => { results := [.lit (.bool true)], args := [d1, d2] }
  | _ => none }
def permBackRow : OpenClaim := { program := "ytjbfidgggfokcaa", sum := "33e358ee14fe4c7ffc8d6b660556e46d292466f8069943fb55080697380fc00f", func := "seizin/seizinlaw01.PermBack", spec := "permBack", inPlace := ["internal/bytealg.IndexByteString", "internal/bytealg.IndexString", "internal/abi.NoEscape"], named := ["internal/bytealg.MaxLen"], apart := false }
def PermBackSaid : Prop := permBackRow.holds Try.pinned (OpenSpec.ofChange permBackSpec)

/-- ITS FALSE NEIGHBOUR: 'it returns false'. Refute it at one input. -/
def permBackWrong : ChangeSpec := { name := "permBack", fn := fun _ => fun
  | [d1, d2] => { results := [.lit (.bool false)], args := [d1, d2] }
  | _ => none }
def PermBackWrongFalsely : Prop := permBackRow.holds Try.pinned (OpenSpec.ofChange permBackWrong)

/-- 'seizinlaw01.PermMany': WHATEVER THE INPUT: true; the input reads as it did. -/
def permManySpec : ChangeSpec := { name := "permMany", fn := fun _ => fun
  | [d1, d2] => { results := [.lit (.bool true)], args := [d1, d2] }
  | _ => none }
def permManyRow : OpenClaim := { program := "ytjbfidgggfokcaa", sum := "33e358ee14fe4c7ffc8d6b660556e46d292466f8069943fb55080697380fc00f", func := "seizin/seizinlaw01.PermMany", spec := "permMany", inPlace := ["internal/bytealg.IndexByteString", "internal/bytealg.IndexString", "internal/abi.NoEscape"], named := ["internal/bytealg.MaxLen"], apart := false }
def PermManySaid : Prop := permManyRow.holds Try.pinned (OpenSpec.ofChange permManySpec)

/-- ITS FALSE NEIGHBOUR: 'it returns false'. Refute it at one input. -/
def permManyWrong : ChangeSpec := { name := "permMany", fn := fun _ => fun
  | [d1, d2] => { results := [.lit (.bool false)], args := [d1, d2] }
  | _ => none }
def PermManyWrongFalsely : Prop := permManyRow.holds Try.pinned (OpenSpec.ofChange permManyWrong)

/-- 'seizinlaw01.PermAny': WHATEVER THE INPUT: true; the input reads as it did. -/
def permAnySpec : ChangeSpec := { name := "permAny", fn := fun _ => fun
  | [d] => { results := [.lit (.bool true)], args := [d] }
  | _ => none }
def permAnyRow : OpenClaim := { program := "ytjbfidgggfokcaa", sum := "33e358ee14fe4c7ffc8d6b660556e46d292466f8069943fb55080697380fc00f", func := "seizin/seizinlaw01.PermAny", spec := "permAny", inPlace := ["internal/bytealg.IndexByteString", "internal/bytealg.IndexString", "internal/abi.NoEscape"], named := ["internal/bytealg.MaxLen"], apart := false }
def PermAnySaid : Prop := permAnyRow.holds Try.pinned (OpenSpec.ofChange permAnySpec)

/-- ITS FALSE NEIGHBOUR: 'it returns false'. Refute it at one input. -/
def permAnyWrong : ChangeSpec := { name := "permAny", fn := fun _ => fun
  | [d] => { results := [.lit (.bool false)], args := [d] }
  | _ => none }
def PermAnyWrongFalsely : Prop := permAnyRow.holds Try.pinned (OpenSpec.ofChange permAnyWrong)

/- THE SECOND FORM. 'bulk': how many values and letters a reading holds, each counted each time it is reached (what is shared counts as often as it is met; a slice's spare places count too). A statement '..UptoSaid' is the law's where the arguments, and the package variables that the reading takes, are together of bulk at most 1048576: NARROWER than '..Said'. Prove '..Said' where nothing that the law and all that it calls make is longer than what came in: it says more and counts as full. Else prove '..UptoSaid'. A law counts once. -/
mutual
def uptoBulk {H : Type} : DataW H → Nat
  | .lit (.string bytes) => bytes.length + 1
  | .lit _ => 1
  | .nil => 1
  | .ptr d => uptoBulk d + 1
  | .slice elems spare => uptoBulkAll elems + uptoBulkAll spare + 1
  | .agg parts => uptoBulkAll parts + 1
  | .iface _ d => uptoBulk d + 1
  | .map entries => uptoBulkEntries entries + 1
  | .held _ => 1
def uptoBulkAll {H : Type} : List (DataW H) → Nat
  | [] => 0
  | d :: r => uptoBulk d + uptoBulkAll r
def uptoBulkEntries {H : Type} : List (Lit × DataW H) → Nat
  | [] => 0
  | x :: r => uptoBulkEntry x + uptoBulkEntries r
def uptoBulkEntry {H : Type} : Lit × DataW H → Nat
  | (.string bytes, d) => bytes.length + uptoBulk d + 1
  | (_, d) => uptoBulk d + 1
 end
def uptoSmall : (H : Type) → List (DataW H) → Bool := fun _ ds => decide (uptoBulkAll ds ≤ 1048576)
def OpenSpec.upto (s : _root_.Go.ChangeSpec) : _root_.Go.OpenSpec := { _root_.Go.OpenSpec.ofChange s with cond := some uptoSmall }

/-- 'seizinlaw01.PermTells', WHERE WHAT IT READS IS OF BULK AT MOST 1048576: true; the input reads as it did. -/
def permTellsUptoRow : OpenClaim := { program := "ytjbfidgggfokcaa", sum := "33e358ee14fe4c7ffc8d6b660556e46d292466f8069943fb55080697380fc00f", func := "seizin/seizinlaw01.PermTells", spec := "permTells", inPlace := ["internal/bytealg.IndexByteString", "internal/bytealg.IndexString", "internal/abi.NoEscape"], named := ["internal/bytealg.MaxLen"], apart := false, narrowed := true }
def PermTellsUptoSaid : Prop := permTellsUptoRow.holds Try.pinned (OpenSpec.upto permTellsSpec)

/-- 'seizinlaw01.PermOf', WHERE WHAT IT READS IS OF BULK AT MOST 1048576: true; the input reads as it did. -/
def permOfUptoRow : OpenClaim := { program := "ytjbfidgggfokcaa", sum := "33e358ee14fe4c7ffc8d6b660556e46d292466f8069943fb55080697380fc00f", func := "seizin/seizinlaw01.PermOf", spec := "permOf", inPlace := ["internal/bytealg.IndexByteString", "internal/bytealg.IndexString", "internal/abi.NoEscape"], named := ["internal/bytealg.MaxLen"], apart := false, narrowed := true }
def PermOfUptoSaid : Prop := permOfUptoRow.holds Try.pinned (OpenSpec.upto permOfSpec)

/-- 'seizinlaw01.PermOrder', WHERE WHAT IT READS IS OF BULK AT MOST 1048576: true; the input reads as it did. -/
def permOrderUptoRow : OpenClaim := { program := "ytjbfidgggfokcaa", sum := "33e358ee14fe4c7ffc8d6b660556e46d292466f8069943fb55080697380fc00f", func := "seizin/seizinlaw01.PermOrder", spec := "permOrder", inPlace := ["internal/bytealg.IndexByteString", "internal/bytealg.IndexString", "internal/abi.NoEscape"], named := ["internal/bytealg.MaxLen"], apart := false, narrowed := true }
def PermOrderUptoSaid : Prop := permOrderUptoRow.holds Try.pinned (OpenSpec.upto permOrderSpec)

/-- 'seizinlaw01.PermLeast', WHERE WHAT IT READS IS OF BULK AT MOST 1048576: true; the input reads as it did. -/
def permLeastUptoRow : OpenClaim := { program := "ytjbfidgggfokcaa", sum := "33e358ee14fe4c7ffc8d6b660556e46d292466f8069943fb55080697380fc00f", func := "seizin/seizinlaw01.PermLeast", spec := "permLeast", inPlace := ["internal/bytealg.IndexByteString", "internal/bytealg.IndexString", "internal/abi.NoEscape"], named := ["internal/bytealg.MaxLen"], apart := false, narrowed := true }
def PermLeastUptoSaid : Prop := permLeastUptoRow.holds Try.pinned (OpenSpec.upto permLeastSpec)

/-- 'seizinlaw01.PermBack', WHERE WHAT IT READS IS OF BULK AT MOST 1048576: true; the input reads as it did. -/
def permBackUptoRow : OpenClaim := { program := "ytjbfidgggfokcaa", sum := "33e358ee14fe4c7ffc8d6b660556e46d292466f8069943fb55080697380fc00f", func := "seizin/seizinlaw01.PermBack", spec := "permBack", inPlace := ["internal/bytealg.IndexByteString", "internal/bytealg.IndexString", "internal/abi.NoEscape"], named := ["internal/bytealg.MaxLen"], apart := false, narrowed := true }
def PermBackUptoSaid : Prop := permBackUptoRow.holds Try.pinned (OpenSpec.upto permBackSpec)

/-- 'seizinlaw01.PermMany', WHERE WHAT IT READS IS OF BULK AT MOST 1048576: true; the input reads as it did. -/
def permManyUptoRow : OpenClaim := { program := "ytjbfidgggfokcaa", sum := "33e358ee14fe4c7ffc8d6b660556e46d292466f8069943fb55080697380fc00f", func := "seizin/seizinlaw01.PermMany", spec := "permMany", inPlace := ["internal/bytealg.IndexByteString", "internal/bytealg.IndexString", "internal/abi.NoEscape"], named := ["internal/bytealg.MaxLen"], apart := false, narrowed := true }
def PermManyUptoSaid : Prop := permManyUptoRow.holds Try.pinned (OpenSpec.upto permManySpec)

/-- 'seizinlaw01.PermAny', WHERE WHAT IT READS IS OF BULK AT MOST 1048576: true; the input reads as it did. -/
def permAnyUptoRow : OpenClaim := { program := "ytjbfidgggfokcaa", sum := "33e358ee14fe4c7ffc8d6b660556e46d292466f8069943fb55080697380fc00f", func := "seizin/seizinlaw01.PermAny", spec := "permAny", inPlace := ["internal/bytealg.IndexByteString", "internal/bytealg.IndexString", "internal/abi.NoEscape"], named := ["internal/bytealg.MaxLen"], apart := false, narrowed := true }
def PermAnyUptoSaid : Prop := permAnyUptoRow.holds Try.pinned (OpenSpec.upto permAnySpec)

end Rows
end Go.Proofs.Ytjbfidgggfokcaa
