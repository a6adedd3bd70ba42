/-
  No cell of these rows narrows 'for every input' (looked for: loops, veiled, ifaces, maps, wideKeys, modest, calm, conditions, laid).
  DERIVED. THE GIVEN ROWS OF THIS SEAT. 20 by the template 'for every input the law returns true; each argument reads behind the call as it read before'; 0 by the template 'total and deterministic' (their statements: YtjimkkkiilcpoaaTotals.lean).
  GIVEN WITH THE SEED: the statements are not yours to turn. If you find one false, say at which input.
  Laid BY PROGRAM, IN A SANDBOX (cutbox-rows.mjs): the forced cells as the released guide's own fill.sh prints them over the translation 0d0cc57164bc2116… (all of the seat's roots in one cut). By AI agents, Wed Nov 11 2026. No macro, syntax, notation, axiom, sorry.
-/
import Derived.Test.YtjimkkkiilcpoaaChecked
import GoSem.Claim
import GoSem.ClaimJoined
import GoSem.ClaimMapViews
import Derived.JoinedTies
import Derived.KernelRfl
namespace Go.Proofs.Ytjimkkkiilcpoaa
/- THE CELL 'sum', in the pinned program and in every row, IS THE sha256 OF THE DUMP (.gsa) THAT YtjimkkkiilcpoaaProg.lean LOADS. Nothing in Lean hashes anything: it is a label: what it is worth is what the hold of that sum in a sandbox is worth. -/
noncomputable def Try.pinned : Pinned := { name := "ytjimkkkiilcpoaa", sum := "0d0cc57164bc21168df91ce07952dc38c66fae3dcf08660af3090272e808a513", checked := Try.checked }
namespace Rows
def none {H : Type} : Left H := { results := [], args := [] }

/-- 'seizinlaw03.EncTells': WHATEVER THE INPUT: true; the input reads as it did. -/
def encTellsSpec : ChangeSpec := { name := "encTells", fn := fun _ => fun
  | [d1, d2, d3, d4] => { results := [.lit (.bool true)], args := [d1, d2, d3, d4] }
  | _ => none }
def encTellsRow : OpenClaim := { program := "ytjimkkkiilcpoaa", sum := "0d0cc57164bc21168df91ce07952dc38c66fae3dcf08660af3090272e808a513", func := "seizin/seizinlaw03.EncTells", spec := "encTells", apart := false }
def EncTellsSaid : Prop := encTellsRow.holds Try.pinned (OpenSpec.ofChange encTellsSpec)

/-- ITS FALSE NEIGHBOUR: 'it returns false'. Refute it at one input. -/
def encTellsWrong : ChangeSpec := { name := "encTells", fn := fun _ => fun
  | [d1, d2, d3, d4] => { results := [.lit (.bool false)], args := [d1, d2, d3, d4] }
  | _ => none }
def EncTellsWrongFalsely : Prop := encTellsRow.holds Try.pinned (OpenSpec.ofChange encTellsWrong)

/-- 'seizinlaw03.EncBack': WHATEVER THE INPUT: true; the input reads as it did. -/
def encBackSpec : ChangeSpec := { name := "encBack", fn := fun _ => fun
  | [d] => { results := [.lit (.bool true)], args := [d] }
  | _ => none }
def encBackRow : OpenClaim := { program := "ytjimkkkiilcpoaa", sum := "0d0cc57164bc21168df91ce07952dc38c66fae3dcf08660af3090272e808a513", func := "seizin/seizinlaw03.EncBack", spec := "encBack", apart := false }
def EncBackSaid : Prop := encBackRow.holds Try.pinned (OpenSpec.ofChange encBackSpec)

/-- ITS FALSE NEIGHBOUR: 'it returns false'. Refute it at one input. -/
def encBackWrong : ChangeSpec := { name := "encBack", fn := fun _ => fun
  | [d] => { results := [.lit (.bool false)], args := [d] }
  | _ => none }
def EncBackWrongFalsely : Prop := encBackRow.holds Try.pinned (OpenSpec.ofChange encBackWrong)

/-- 'seizinlaw03.EncBytes': WHATEVER THE INPUT: true; the input reads as it did. -/
def encBytesSpec : ChangeSpec := { name := "encBytes", fn := fun _ => fun
  | [d1, d2, d3] => { results := [.lit (.bool true)], args := [d1, d2, d3] }
  | _ => none }
def encBytesRow : OpenClaim := { program := "ytjimkkkiilcpoaa", sum := "0d0cc57164bc21168df91ce07952dc38c66fae3dcf08660af3090272e808a513", func := "seizin/seizinlaw03.EncBytes", spec := "encBytes", apart := false }
def EncBytesSaid : Prop := encBytesRow.holds Try.pinned (OpenSpec.ofChange encBytesSpec)

/-- ITS FALSE NEIGHBOUR: 'it returns false'. Refute it at one input. -/
def encBytesWrong : ChangeSpec := { name := "encBytes", fn := fun _ => fun
  | [d1, d2, d3] => { results := [.lit (.bool false)], args := [d1, d2, d3] }
  | _ => none }
def EncBytesWrongFalsely : Prop := encBytesRow.holds Try.pinned (OpenSpec.ofChange encBytesWrong)

/-- 'seizinlaw03.EncUnlike': WHATEVER THE INPUT: true; the input reads as it did. -/
def encUnlikeSpec : ChangeSpec := { name := "encUnlike", fn := fun _ => fun
  | [d1, d2] => { results := [.lit (.bool true)], args := [d1, d2] }
  | _ => none }
def encUnlikeRow : OpenClaim := { program := "ytjimkkkiilcpoaa", sum := "0d0cc57164bc21168df91ce07952dc38c66fae3dcf08660af3090272e808a513", func := "seizin/seizinlaw03.EncUnlike", spec := "encUnlike", apart := false }
def EncUnlikeSaid : Prop := encUnlikeRow.holds Try.pinned (OpenSpec.ofChange encUnlikeSpec)

/-- ITS FALSE NEIGHBOUR: 'it returns false'. Refute it at one input. -/
def encUnlikeWrong : ChangeSpec := { name := "encUnlike", fn := fun _ => fun
  | [d1, d2] => { results := [.lit (.bool false)], args := [d1, d2] }
  | _ => none }
def EncUnlikeWrongFalsely : Prop := encUnlikeRow.holds Try.pinned (OpenSpec.ofChange encUnlikeWrong)

/-- 'seizinlaw03.EncFields': WHATEVER THE INPUT: true; the input reads as it did. -/
def encFieldsSpec : ChangeSpec := { name := "encFields", fn := fun _ => fun
  | [d1, d2] => { results := [.lit (.bool true)], args := [d1, d2] }
  | _ => none }
def encFieldsRow : OpenClaim := { program := "ytjimkkkiilcpoaa", sum := "0d0cc57164bc21168df91ce07952dc38c66fae3dcf08660af3090272e808a513", func := "seizin/seizinlaw03.EncFields", spec := "encFields", apart := false }
def EncFieldsSaid : Prop := encFieldsRow.holds Try.pinned (OpenSpec.ofChange encFieldsSpec)

/-- ITS FALSE NEIGHBOUR: 'it returns false'. Refute it at one input. -/
def encFieldsWrong : ChangeSpec := { name := "encFields", fn := fun _ => fun
  | [d1, d2] => { results := [.lit (.bool false)], args := [d1, d2] }
  | _ => none }
def EncFieldsWrongFalsely : Prop := encFieldsRow.holds Try.pinned (OpenSpec.ofChange encFieldsWrong)

/-- 'seizinlaw08.ShadowPlays': WHATEVER THE INPUT: true; the input reads as it did. -/
def shadowPlaysSpec : ChangeSpec := { name := "shadowPlays", fn := fun _ => fun
  | [d1, d2, d3, d4] => { results := [.lit (.bool true)], args := [d1, d2, d3, d4] }
  | _ => none }
def shadowPlaysRow : OpenClaim := { program := "ytjimkkkiilcpoaa", sum := "0d0cc57164bc21168df91ce07952dc38c66fae3dcf08660af3090272e808a513", func := "seizin/seizinlaw08.ShadowPlays", spec := "shadowPlays", apart := false }
def ShadowPlaysSaid : Prop := shadowPlaysRow.holds Try.pinned (OpenSpec.ofChange shadowPlaysSpec)

/-- ITS FALSE NEIGHBOUR: 'it returns false'. Refute it at one input. -/
def shadowPlaysWrong : ChangeSpec := { name := "shadowPlays", fn := fun _ => fun
  | [d1, d2, d3, d4] => { results := [.lit (.bool false)], args := [d1, d2, d3, d4] }
  | _ => none }
def ShadowPlaysWrongFalsely : Prop := shadowPlaysRow.holds Try.pinned (OpenSpec.ofChange shadowPlaysWrong)

/-- 'seizinlaw08.ShadowSet': WHATEVER THE INPUT: true; the input reads as it did. -/
def shadowSetSpec : ChangeSpec := { name := "shadowSet", fn := fun _ => fun
  | [d1, d2] => { results := [.lit (.bool true)], args := [d1, d2] }
  | _ => none }
def shadowSetRow : OpenClaim := { program := "ytjimkkkiilcpoaa", sum := "0d0cc57164bc21168df91ce07952dc38c66fae3dcf08660af3090272e808a513", func := "seizin/seizinlaw08.ShadowSet", spec := "shadowSet", apart := false }
def ShadowSetSaid : Prop := shadowSetRow.holds Try.pinned (OpenSpec.ofChange shadowSetSpec)

/-- ITS FALSE NEIGHBOUR: 'it returns false'. Refute it at one input. -/
def shadowSetWrong : ChangeSpec := { name := "shadowSet", fn := fun _ => fun
  | [d1, d2] => { results := [.lit (.bool false)], args := [d1, d2] }
  | _ => none }
def ShadowSetWrongFalsely : Prop := shadowSetRow.holds Try.pinned (OpenSpec.ofChange shadowSetWrong)

/-- 'seizinlaw08.ShadowRows': WHATEVER THE INPUT: true; the input reads as it did. -/
def shadowRowsSpec : ChangeSpec := { name := "shadowRows", fn := fun _ => fun
  | [d] => { results := [.lit (.bool true)], args := [d] }
  | _ => none }
def shadowRowsRow : OpenClaim := { program := "ytjimkkkiilcpoaa", sum := "0d0cc57164bc21168df91ce07952dc38c66fae3dcf08660af3090272e808a513", func := "seizin/seizinlaw08.ShadowRows", spec := "shadowRows", apart := false }
def ShadowRowsSaid : Prop := shadowRowsRow.holds Try.pinned (OpenSpec.ofChange shadowRowsSpec)

/-- ITS FALSE NEIGHBOUR: 'it returns false'. Refute it at one input. -/
def shadowRowsWrong : ChangeSpec := { name := "shadowRows", fn := fun _ => fun
  | [d] => { results := [.lit (.bool false)], args := [d] }
  | _ => none }
def ShadowRowsWrongFalsely : Prop := shadowRowsRow.holds Try.pinned (OpenSpec.ofChange shadowRowsWrong)

/-- 'seizinlaw08.ShadowBack': WHATEVER THE INPUT: true; the input reads as it did. -/
def shadowBackSpec : ChangeSpec := { name := "shadowBack", fn := fun _ => fun
  | [d1, d2, d3] => { results := [.lit (.bool true)], args := [d1, d2, d3] }
  | _ => none }
def shadowBackRow : OpenClaim := { program := "ytjimkkkiilcpoaa", sum := "0d0cc57164bc21168df91ce07952dc38c66fae3dcf08660af3090272e808a513", func := "seizin/seizinlaw08.ShadowBack", spec := "shadowBack", apart := false }
def ShadowBackSaid : Prop := shadowBackRow.holds Try.pinned (OpenSpec.ofChange shadowBackSpec)

/-- ITS FALSE NEIGHBOUR: 'it returns false'. Refute it at one input. -/
def shadowBackWrong : ChangeSpec := { name := "shadowBack", fn := fun _ => fun
  | [d1, d2, d3] => { results := [.lit (.bool false)], args := [d1, d2, d3] }
  | _ => none }
def ShadowBackWrongFalsely : Prop := shadowBackRow.holds Try.pinned (OpenSpec.ofChange shadowBackWrong)

/-- 'seizinlaw08.ShadowParts': WHATEVER THE INPUT: true; the input reads as it did. -/
def shadowPartsSpec : ChangeSpec := { name := "shadowParts", fn := fun _ => fun
  | [d1, d2, d3, d4, d5] => { results := [.lit (.bool true)], args := [d1, d2, d3, d4, d5] }
  | _ => none }
def shadowPartsRow : OpenClaim := { program := "ytjimkkkiilcpoaa", sum := "0d0cc57164bc21168df91ce07952dc38c66fae3dcf08660af3090272e808a513", func := "seizin/seizinlaw08.ShadowParts", spec := "shadowParts", apart := false }
def ShadowPartsSaid : Prop := shadowPartsRow.holds Try.pinned (OpenSpec.ofChange shadowPartsSpec)

/-- ITS FALSE NEIGHBOUR: 'it returns false'. Refute it at one input. -/
def shadowPartsWrong : ChangeSpec := { name := "shadowParts", fn := fun _ => fun
  | [d1, d2, d3, d4, d5] => { results := [.lit (.bool false)], args := [d1, d2, d3, d4, d5] }
  | _ => none }
def ShadowPartsWrongFalsely : Prop := shadowPartsRow.holds Try.pinned (OpenSpec.ofChange shadowPartsWrong)

/-- 'seizinlaw07.TagmemPlays': WHATEVER THE INPUT: true; the input reads as it did. -/
def tagmemPlaysSpec : ChangeSpec := { name := "tagmemPlays", fn := fun _ => fun
  | [d1, d2] => { results := [.lit (.bool true)], args := [d1, d2] }
  | _ => none }
def tagmemPlaysRow : OpenClaim := { program := "ytjimkkkiilcpoaa", sum := "0d0cc57164bc21168df91ce07952dc38c66fae3dcf08660af3090272e808a513", func := "seizin/seizinlaw07.TagmemPlays", spec := "tagmemPlays", unfollowed := true, recurses := true, apart := false }
def TagmemPlaysSaid : Prop := tagmemPlaysRow.holds Try.pinned (OpenSpec.ofChange tagmemPlaysSpec)

/-- ITS FALSE NEIGHBOUR: 'it returns false'. Refute it at one input. -/
def tagmemPlaysWrong : ChangeSpec := { name := "tagmemPlays", fn := fun _ => fun
  | [d1, d2] => { results := [.lit (.bool false)], args := [d1, d2] }
  | _ => none }
def TagmemPlaysWrongFalsely : Prop := tagmemPlaysRow.holds Try.pinned (OpenSpec.ofChange tagmemPlaysWrong)

/-- 'seizinlaw07.TagmemTags': WHATEVER THE INPUT: true; the input reads as it did. -/
def tagmemTagsSpec : ChangeSpec := { name := "tagmemTags", fn := fun _ => fun
  | [d1, d2] => { results := [.lit (.bool true)], args := [d1, d2] }
  | _ => none }
def tagmemTagsRow : OpenClaim := { program := "ytjimkkkiilcpoaa", sum := "0d0cc57164bc21168df91ce07952dc38c66fae3dcf08660af3090272e808a513", func := "seizin/seizinlaw07.TagmemTags", spec := "tagmemTags", unfollowed := true, recurses := true, apart := false }
def TagmemTagsSaid : Prop := tagmemTagsRow.holds Try.pinned (OpenSpec.ofChange tagmemTagsSpec)

/-- ITS FALSE NEIGHBOUR: 'it returns false'. Refute it at one input. -/
def tagmemTagsWrong : ChangeSpec := { name := "tagmemTags", fn := fun _ => fun
  | [d1, d2] => { results := [.lit (.bool false)], args := [d1, d2] }
  | _ => none }
def TagmemTagsWrongFalsely : Prop := tagmemTagsRow.holds Try.pinned (OpenSpec.ofChange tagmemTagsWrong)

/-- 'seizinlaw07.TagmemBack': WHATEVER THE INPUT: true; the input reads as it did. -/
def tagmemBackSpec : ChangeSpec := { name := "tagmemBack", fn := fun _ => fun
  | [d1, d2, d3, d4] => { results := [.lit (.bool true)], args := [d1, d2, d3, d4] }
  | _ => none }
def tagmemBackRow : OpenClaim := { program := "ytjimkkkiilcpoaa", sum := "0d0cc57164bc21168df91ce07952dc38c66fae3dcf08660af3090272e808a513", func := "seizin/seizinlaw07.TagmemBack", spec := "tagmemBack", unfollowed := true, recurses := true, apart := false }
def TagmemBackSaid : Prop := tagmemBackRow.holds Try.pinned (OpenSpec.ofChange tagmemBackSpec)

/-- ITS FALSE NEIGHBOUR: 'it returns false'. Refute it at one input. -/
def tagmemBackWrong : ChangeSpec := { name := "tagmemBack", fn := fun _ => fun
  | [d1, d2, d3, d4] => { results := [.lit (.bool false)], args := [d1, d2, d3, d4] }
  | _ => none }
def TagmemBackWrongFalsely : Prop := tagmemBackRow.holds Try.pinned (OpenSpec.ofChange tagmemBackWrong)

/-- 'seizinlaw07.TagmemRefuses': WHATEVER THE INPUT: true; the input reads as it did. -/
def tagmemRefusesSpec : ChangeSpec := { name := "tagmemRefuses", fn := fun _ => fun
  | [d] => { results := [.lit (.bool true)], args := [d] }
  | _ => none }
def tagmemRefusesRow : OpenClaim := { program := "ytjimkkkiilcpoaa", sum := "0d0cc57164bc21168df91ce07952dc38c66fae3dcf08660af3090272e808a513", func := "seizin/seizinlaw07.TagmemRefuses", spec := "tagmemRefuses", unfollowed := true, recurses := true, apart := false }
def TagmemRefusesSaid : Prop := tagmemRefusesRow.holds Try.pinned (OpenSpec.ofChange tagmemRefusesSpec)

/-- ITS FALSE NEIGHBOUR: 'it returns false'. Refute it at one input. -/
def tagmemRefusesWrong : ChangeSpec := { name := "tagmemRefuses", fn := fun _ => fun
  | [d] => { results := [.lit (.bool false)], args := [d] }
  | _ => none }
def TagmemRefusesWrongFalsely : Prop := tagmemRefusesRow.holds Try.pinned (OpenSpec.ofChange tagmemRefusesWrong)

/-- 'seizinlaw07.TagmemParts': WHATEVER THE INPUT: true; the input reads as it did. -/
def tagmemPartsSpec : ChangeSpec := { name := "tagmemParts", fn := fun _ => fun
  | [d1, d2, d3, d4] => { results := [.lit (.bool true)], args := [d1, d2, d3, d4] }
  | _ => none }
def tagmemPartsRow : OpenClaim := { program := "ytjimkkkiilcpoaa", sum := "0d0cc57164bc21168df91ce07952dc38c66fae3dcf08660af3090272e808a513", func := "seizin/seizinlaw07.TagmemParts", spec := "tagmemParts", unfollowed := true, recurses := true, apart := false }
def TagmemPartsSaid : Prop := tagmemPartsRow.holds Try.pinned (OpenSpec.ofChange tagmemPartsSpec)

/-- ITS FALSE NEIGHBOUR: 'it returns false'. Refute it at one input. -/
def tagmemPartsWrong : ChangeSpec := { name := "tagmemParts", fn := fun _ => fun
  | [d1, d2, d3, d4] => { results := [.lit (.bool false)], args := [d1, d2, d3, d4] }
  | _ => none }
def TagmemPartsWrongFalsely : Prop := tagmemPartsRow.holds Try.pinned (OpenSpec.ofChange tagmemPartsWrong)

/-- 'seizinlaw10.SweepPlays': WHATEVER THE INPUT: true; the input reads as it did. -/
def sweepPlaysSpec : ChangeSpec := { name := "sweepPlays", fn := fun _ => fun
  | [d1, d2] => { results := [.lit (.bool true)], args := [d1, d2] }
  | _ => none }
def sweepPlaysRow : OpenClaim := { program := "ytjimkkkiilcpoaa", sum := "0d0cc57164bc21168df91ce07952dc38c66fae3dcf08660af3090272e808a513", func := "seizin/seizinlaw10.SweepPlays", spec := "sweepPlays", unfollowed := true, recurses := true, apart := false }
def SweepPlaysSaid : Prop := sweepPlaysRow.holds Try.pinned (OpenSpec.ofChange sweepPlaysSpec)

/-- ITS FALSE NEIGHBOUR: 'it returns false'. Refute it at one input. -/
def sweepPlaysWrong : ChangeSpec := { name := "sweepPlays", fn := fun _ => fun
  | [d1, d2] => { results := [.lit (.bool false)], args := [d1, d2] }
  | _ => none }
def SweepPlaysWrongFalsely : Prop := sweepPlaysRow.holds Try.pinned (OpenSpec.ofChange sweepPlaysWrong)

/-- 'seizinlaw10.SweepAll': WHATEVER THE INPUT: true; the input reads as it did. -/
def sweepAllSpec : ChangeSpec := { name := "sweepAll", fn := fun _ => fun
  | [d1, d2, d3, d4] => { results := [.lit (.bool true)], args := [d1, d2, d3, d4] }
  | _ => none }
def sweepAllRow : OpenClaim := { program := "ytjimkkkiilcpoaa", sum := "0d0cc57164bc21168df91ce07952dc38c66fae3dcf08660af3090272e808a513", func := "seizin/seizinlaw10.SweepAll", spec := "sweepAll", unfollowed := true, recurses := true, apart := false }
def SweepAllSaid : Prop := sweepAllRow.holds Try.pinned (OpenSpec.ofChange sweepAllSpec)

/-- ITS FALSE NEIGHBOUR: 'it returns false'. Refute it at one input. -/
def sweepAllWrong : ChangeSpec := { name := "sweepAll", fn := fun _ => fun
  | [d1, d2, d3, d4] => { results := [.lit (.bool false)], args := [d1, d2, d3, d4] }
  | _ => none }
def SweepAllWrongFalsely : Prop := sweepAllRow.holds Try.pinned (OpenSpec.ofChange sweepAllWrong)

/-- 'seizinlaw10.SweepSteps': WHATEVER THE INPUT: true; the input reads as it did. -/
def sweepStepsSpec : ChangeSpec := { name := "sweepSteps", fn := fun _ => fun
  | [d1, d2, d3] => { results := [.lit (.bool true)], args := [d1, d2, d3] }
  | _ => none }
def sweepStepsRow : OpenClaim := { program := "ytjimkkkiilcpoaa", sum := "0d0cc57164bc21168df91ce07952dc38c66fae3dcf08660af3090272e808a513", func := "seizin/seizinlaw10.SweepSteps", spec := "sweepSteps", unfollowed := true, recurses := true, apart := false }
def SweepStepsSaid : Prop := sweepStepsRow.holds Try.pinned (OpenSpec.ofChange sweepStepsSpec)

/-- ITS FALSE NEIGHBOUR: 'it returns false'. Refute it at one input. -/
def sweepStepsWrong : ChangeSpec := { name := "sweepSteps", fn := fun _ => fun
  | [d1, d2, d3] => { results := [.lit (.bool false)], args := [d1, d2, d3] }
  | _ => none }
def SweepStepsWrongFalsely : Prop := sweepStepsRow.holds Try.pinned (OpenSpec.ofChange sweepStepsWrong)

/-- 'seizinlaw10.SweepHeld': WHATEVER THE INPUT: true; the input reads as it did. -/
def sweepHeldSpec : ChangeSpec := { name := "sweepHeld", fn := fun _ => fun
  | [d1, d2] => { results := [.lit (.bool true)], args := [d1, d2] }
  | _ => none }
def sweepHeldRow : OpenClaim := { program := "ytjimkkkiilcpoaa", sum := "0d0cc57164bc21168df91ce07952dc38c66fae3dcf08660af3090272e808a513", func := "seizin/seizinlaw10.SweepHeld", spec := "sweepHeld", unfollowed := true, recurses := true, apart := false }
def SweepHeldSaid : Prop := sweepHeldRow.holds Try.pinned (OpenSpec.ofChange sweepHeldSpec)

/-- ITS FALSE NEIGHBOUR: 'it returns false'. Refute it at one input. -/
def sweepHeldWrong : ChangeSpec := { name := "sweepHeld", fn := fun _ => fun
  | [d1, d2] => { results := [.lit (.bool false)], args := [d1, d2] }
  | _ => none }
def SweepHeldWrongFalsely : Prop := sweepHeldRow.holds Try.pinned (OpenSpec.ofChange sweepHeldWrong)

/-- 'seizinlaw10.SweepNoOther': WHATEVER THE INPUT: true; the input reads as it did. -/
def sweepNoOtherSpec : ChangeSpec := { name := "sweepNoOther", fn := fun _ => fun
  | [d1, d2] => { results := [.lit (.bool true)], args := [d1, d2] }
  | _ => none }
def sweepNoOtherRow : OpenClaim := { program := "ytjimkkkiilcpoaa", sum := "0d0cc57164bc21168df91ce07952dc38c66fae3dcf08660af3090272e808a513", func := "seizin/seizinlaw10.SweepNoOther", spec := "sweepNoOther", unfollowed := true, recurses := true, apart := false }
def SweepNoOtherSaid : Prop := sweepNoOtherRow.holds Try.pinned (OpenSpec.ofChange sweepNoOtherSpec)

/-- ITS FALSE NEIGHBOUR: 'it returns false'. Refute it at one input. -/
def sweepNoOtherWrong : ChangeSpec := { name := "sweepNoOther", fn := fun _ => fun
  | [d1, d2] => { results := [.lit (.bool false)], args := [d1, d2] }
  | _ => none }
def SweepNoOtherWrongFalsely : Prop := sweepNoOtherRow.holds Try.pinned (OpenSpec.ofChange sweepNoOtherWrong)

/- THE SECOND FORM. 'bulk': how many values and letters a reading holds, each counted each time it is reached (what is shared counts as often as it is met; a slice's spare places count too). A statement '..UptoSaid' is the law's where the arguments, and the package variables that the reading takes, are together of bulk at most 1048576: NARROWER than '..Said'. Prove '..Said' where nothing that the law and all that it calls make is longer than what came in: it says more and counts as full. Else prove '..UptoSaid'. A law counts once. -/
mutual
def uptoBulk {H : Type} : DataW H → Nat
  | .lit (.string bytes) => bytes.length + 1
  | .lit _ => 1
  | .nil => 1
  | .ptr d => uptoBulk d + 1
  | .slice elems spare => uptoBulkAll elems + uptoBulkAll spare + 1
  | .agg parts => uptoBulkAll parts + 1
  | .iface _ d => uptoBulk d + 1
  | .map entries => uptoBulkEntries entries + 1
  | .held _ => 1
def uptoBulkAll {H : Type} : List (DataW H) → Nat
  | [] => 0
  | d :: r => uptoBulk d + uptoBulkAll r
def uptoBulkEntries {H : Type} : List (Lit × DataW H) → Nat
  | [] => 0
  | x :: r => uptoBulkEntry x + uptoBulkEntries r
def uptoBulkEntry {H : Type} : Lit × DataW H → Nat
  | (.string bytes, d) => bytes.length + uptoBulk d + 1
  | (_, d) => uptoBulk d + 1
 end
def uptoSmall : (H : Type) → List (DataW H) → Bool := fun _ ds => decide (uptoBulkAll ds ≤ 1048576)
def OpenSpec.upto (s : _root_.Go.ChangeSpec) : _root_.Go.OpenSpec := { _root_.Go.OpenSpec.ofChange s with cond := some uptoSmall }

/-- 'seizinlaw03.EncTells', WHERE WHAT IT READS IS OF BULK AT MOST 1048576: true; the input reads as it did. -/
def encTellsUptoRow : OpenClaim := { program := "ytjimkkkiilcpoaa", sum := "0d0cc57164bc21168df91ce07952dc38c66fae3dcf08660af3090272e808a513", func := "seizin/seizinlaw03.EncTells", spec := "encTells", apart := false, narrowed := true }
def EncTellsUptoSaid : Prop := encTellsUptoRow.holds Try.pinned (OpenSpec.upto encTellsSpec)

/-- 'seizinlaw03.EncBack', WHERE WHAT IT READS IS OF BULK AT MOST 1048576: true; the input reads as it did. -/
def encBackUptoRow : OpenClaim := { program := "ytjimkkkiilcpoaa", sum := "0d0cc57164bc21168df91ce07952dc38c66fae3dcf08660af3090272e808a513", func := "seizin/seizinlaw03.EncBack", spec := "encBack", apart := false, narrowed := true }
def EncBackUptoSaid : Prop := encBackUptoRow.holds Try.pinned (OpenSpec.upto encBackSpec)

/-- 'seizinlaw03.EncBytes', WHERE WHAT IT READS IS OF BULK AT MOST 1048576: true; the input reads as it did. -/
def encBytesUptoRow : OpenClaim := { program := "ytjimkkkiilcpoaa", sum := "0d0cc57164bc21168df91ce07952dc38c66fae3dcf08660af3090272e808a513", func := "seizin/seizinlaw03.EncBytes", spec := "encBytes", apart := false, narrowed := true }
def EncBytesUptoSaid : Prop := encBytesUptoRow.holds Try.pinned (OpenSpec.upto encBytesSpec)

/-- 'seizinlaw03.EncUnlike', WHERE WHAT IT READS IS OF BULK AT MOST 1048576: true; the input reads as it did. -/
def encUnlikeUptoRow : OpenClaim := { program := "ytjimkkkiilcpoaa", sum := "0d0cc57164bc21168df91ce07952dc38c66fae3dcf08660af3090272e808a513", func := "seizin/seizinlaw03.EncUnlike", spec := "encUnlike", apart := false, narrowed := true }
def EncUnlikeUptoSaid : Prop := encUnlikeUptoRow.holds Try.pinned (OpenSpec.upto encUnlikeSpec)

/-- 'seizinlaw03.EncFields', WHERE WHAT IT READS IS OF BULK AT MOST 1048576: true; the input reads as it did. -/
def encFieldsUptoRow : OpenClaim := { program := "ytjimkkkiilcpoaa", sum := "0d0cc57164bc21168df91ce07952dc38c66fae3dcf08660af3090272e808a513", func := "seizin/seizinlaw03.EncFields", spec := "encFields", apart := false, narrowed := true }
def EncFieldsUptoSaid : Prop := encFieldsUptoRow.holds Try.pinned (OpenSpec.upto encFieldsSpec)

/-- 'seizinlaw08.ShadowPlays', WHERE WHAT IT READS IS OF BULK AT MOST 1048576: true; the input reads as it did. -/
def shadowPlaysUptoRow : OpenClaim := { program := "ytjimkkkiilcpoaa", sum := "0d0cc57164bc21168df91ce07952dc38c66fae3dcf08660af3090272e808a513", func := "seizin/seizinlaw08.ShadowPlays", spec := "shadowPlays", apart := false, narrowed := true }
def ShadowPlaysUptoSaid : Prop := shadowPlaysUptoRow.holds Try.pinned (OpenSpec.upto shadowPlaysSpec)

/-- 'seizinlaw08.ShadowSet', WHERE WHAT IT READS IS OF BULK AT MOST 1048576: true; the input reads as it did. -/
def shadowSetUptoRow : OpenClaim := { program := "ytjimkkkiilcpoaa", sum := "0d0cc57164bc21168df91ce07952dc38c66fae3dcf08660af3090272e808a513", func := "seizin/seizinlaw08.ShadowSet", spec := "shadowSet", apart := false, narrowed := true }
def ShadowSetUptoSaid : Prop := shadowSetUptoRow.holds Try.pinned (OpenSpec.upto shadowSetSpec)

/-- 'seizinlaw08.ShadowRows', WHERE WHAT IT READS IS OF BULK AT MOST 1048576: true; the input reads as it did. -/
def shadowRowsUptoRow : OpenClaim := { program := "ytjimkkkiilcpoaa", sum := "0d0cc57164bc21168df91ce07952dc38c66fae3dcf08660af3090272e808a513", func := "seizin/seizinlaw08.ShadowRows", spec := "shadowRows", apart := false, narrowed := true }
def ShadowRowsUptoSaid : Prop := shadowRowsUptoRow.holds Try.pinned (OpenSpec.upto shadowRowsSpec)

/-- 'seizinlaw08.ShadowBack', WHERE WHAT IT READS IS OF BULK AT MOST 1048576: true; the input reads as it did. -/
def shadowBackUptoRow : OpenClaim := { program := "ytjimkkkiilcpoaa", sum := "0d0cc57164bc21168df91ce07952dc38c66fae3dcf08660af3090272e808a513", func := "seizin/seizinlaw08.ShadowBack", spec := "shadowBack", apart := false, narrowed := true }
def ShadowBackUptoSaid : Prop := shadowBackUptoRow.holds Try.pinned (OpenSpec.upto shadowBackSpec)

/-- 'seizinlaw08.ShadowParts', WHERE WHAT IT READS IS OF BULK AT MOST 1048576: true; the input reads as it did. -/
def shadowPartsUptoRow : OpenClaim := { program := "ytjimkkkiilcpoaa", sum := "0d0cc57164bc21168df91ce07952dc38c66fae3dcf08660af3090272e808a513", func := "seizin/seizinlaw08.ShadowParts", spec := "shadowParts", apart := false, narrowed := true }
def ShadowPartsUptoSaid : Prop := shadowPartsUptoRow.holds Try.pinned (OpenSpec.upto shadowPartsSpec)

/-- 'seizinlaw07.TagmemPlays', WHERE WHAT IT READS IS OF BULK AT MOST 1048576: true; the input reads as it did. -/
def tagmemPlaysUptoRow : OpenClaim := { program := "ytjimkkkiilcpoaa", sum := "0d0cc57164bc21168df91ce07952dc38c66fae3dcf08660af3090272e808a513", func := "seizin/seizinlaw07.TagmemPlays", spec := "tagmemPlays", unfollowed := true, recurses := true, apart := false, narrowed := true }
def TagmemPlaysUptoSaid : Prop := tagmemPlaysUptoRow.holds Try.pinned (OpenSpec.upto tagmemPlaysSpec)

/-- 'seizinlaw07.TagmemTags', WHERE WHAT IT READS IS OF BULK AT MOST 1048576: true; the input reads as it did. -/
def tagmemTagsUptoRow : OpenClaim := { program := "ytjimkkkiilcpoaa", sum := "0d0cc57164bc21168df91ce07952dc38c66fae3dcf08660af3090272e808a513", func := "seizin/seizinlaw07.TagmemTags", spec := "tagmemTags", unfollowed := true, recurses := true, apart := false, narrowed := true }
def TagmemTagsUptoSaid : Prop := tagmemTagsUptoRow.holds Try.pinned (OpenSpec.upto tagmemTagsSpec)

/-- 'seizinlaw07.TagmemBack', WHERE WHAT IT READS IS OF BULK AT MOST 1048576: true; the input reads as it did. -/
def tagmemBackUptoRow : OpenClaim := { program := "ytjimkkkiilcpoaa", sum := "0d0cc57164bc21168df91ce07952dc38c66fae3dcf08660af3090272e808a513", func := "seizin/seizinlaw07.TagmemBack", spec := "tagmemBack", unfollowed := true, recurses := true, apart := false, narrowed := true }
def TagmemBackUptoSaid : Prop := tagmemBackUptoRow.holds Try.pinned (OpenSpec.upto tagmemBackSpec)

/-- 'seizinlaw07.TagmemRefuses', WHERE WHAT IT READS IS OF BULK AT MOST 1048576: true; the input reads as it did. -/
def tagmemRefusesUptoRow : OpenClaim := { program := "ytjimkkkiilcpoaa", sum := "0d0cc57164bc21168df91ce07952dc38c66fae3dcf08660af3090272e808a513", func := "seizin/seizinlaw07.TagmemRefuses", spec := "tagmemRefuses", unfollowed := true, recurses := true, apart := false, narrowed := true }
def TagmemRefusesUptoSaid : Prop := tagmemRefusesUptoRow.holds Try.pinned (OpenSpec.upto tagmemRefusesSpec)

/-- 'seizinlaw07.TagmemParts', WHERE WHAT IT READS IS OF BULK AT MOST 1048576: true; the input reads as it did. -/
def tagmemPartsUptoRow : OpenClaim := { program := "ytjimkkkiilcpoaa", sum := "0d0cc57164bc21168df91ce07952dc38c66fae3dcf08660af3090272e808a513", func := "seizin/seizinlaw07.TagmemParts", spec := "tagmemParts", unfollowed := true, recurses := true, apart := false, narrowed := true }
def TagmemPartsUptoSaid : Prop := tagmemPartsUptoRow.holds Try.pinned (OpenSpec.upto tagmemPartsSpec)

/-- 'seizinlaw10.SweepPlays', WHERE WHAT IT READS IS OF BULK AT MOST 1048576: true; the input reads as it did. -/
def sweepPlaysUptoRow : OpenClaim := { program := "ytjimkkkiilcpoaa", sum := "0d0cc57164bc21168df91ce07952dc38c66fae3dcf08660af3090272e808a513", func := "seizin/seizinlaw10.SweepPlays", spec := "sweepPlays", unfollowed := true, recurses := true, apart := false, narrowed := true }
def SweepPlaysUptoSaid : Prop := sweepPlaysUptoRow.holds Try.pinned (OpenSpec.upto sweepPlaysSpec)

/-- 'seizinlaw10.SweepAll', WHERE WHAT IT READS IS OF BULK AT MOST 1048576: true; the input reads as it did. -/
def sweepAllUptoRow : OpenClaim := { program := "ytjimkkkiilcpoaa", sum := "0d0cc57164bc21168df91ce07952dc38c66fae3dcf08660af3090272e808a513", func := "seizin/seizinlaw10.SweepAll", spec := "sweepAll", unfollowed := true, recurses := true, apart := false, narrowed := true }
def SweepAllUptoSaid : Prop := sweepAllUptoRow.holds Try.pinned (OpenSpec.upto sweepAllSpec)

/-- 'seizinlaw10.SweepSteps', WHERE WHAT IT READS IS OF BULK AT MOST 1048576: true; the input reads as it did. -/
def sweepStepsUptoRow : OpenClaim := { program := "ytjimkkkiilcpoaa", sum := "0d0cc57164bc21168df91ce07952dc38c66fae3dcf08660af3090272e808a513", func := "seizin/seizinlaw10.SweepSteps", spec := "sweepSteps", unfollowed := true, recurses := true, apart := false, narrowed := true }
def SweepStepsUptoSaid : Prop := sweepStepsUptoRow.holds Try.pinned (OpenSpec.upto sweepStepsSpec)

/-- 'seizinlaw10.SweepHeld', WHERE WHAT IT READS IS OF BULK AT MOST 1048576: true; the input reads as it did. -/
def sweepHeldUptoRow : OpenClaim := { program := "ytjimkkkiilcpoaa", sum := "0d0cc57164bc21168df91ce07952dc38c66fae3dcf08660af3090272e808a513", func := "seizin/seizinlaw10.SweepHeld", spec := "sweepHeld", unfollowed := true, recurses := true, apart := false, narrowed := true }
def SweepHeldUptoSaid : Prop := sweepHeldUptoRow.holds Try.pinned (OpenSpec.upto sweepHeldSpec)

/-- 'seizinlaw10.SweepNoOther', WHERE WHAT IT READS IS OF BULK AT MOST 1048576: true; the input reads as it did. -/
def sweepNoOtherUptoRow : OpenClaim := { program := "ytjimkkkiilcpoaa", sum := "0d0cc57164bc21168df91ce07952dc38c66fae3dcf08660af3090272e808a513", func := "seizin/seizinlaw10.SweepNoOther", spec := "sweepNoOther", unfollowed := true, recurses := true, apart := false, narrowed := true }
def SweepNoOtherUptoSaid : Prop := sweepNoOtherUptoRow.holds Try.pinned (OpenSpec.upto sweepNoOtherSpec)

end Rows
end Go.Proofs.Ytjimkkkiilcpoaa
