/-
  DERIVED. GIVEN WITH THE SEED: THE CARDS: each row of YtnmjglnllokklaaDoorRows.lean that lists a variable, with what it lists TIED to the program's text (the seventh form; the later family's looks); each row that meets fmt, with fmt's text TOLD by the authors' own Lean function (tested against real Go, not proved from fmt's source: count such statements apart). THE CARD IS WHAT COUNTS. Prove the row's statement (the work); the ties are given (YtnmjglnllokklaaDoorTie.lean); close each card by the builder's one call (the guide's Derived/Test/ToyasCard.lean, 'card_holds'). Laid BY PROGRAM, IN A SANDBOX (cutbox-door.mjs). By AI agents, Wed Nov 11 2026. No macro, syntax, notation, axiom, sorry.
-/
import Derived.Test.YtnmjglnllokklaaDoorRows
import GoSem.ClaimSeven
namespace Go.Proofs.YtnmjglnllokklaaDoor
namespace Rows

/-- THE TIED CARD OF 'seizinlaw16.AsmTells'. -/
def asmTellsCard : Claim7 := { stood := { row := asmTellsRow, standIns := [], harness := (true, "393eb7eca8e3127ef631d1e7bb87a9eb559ac171480103dffff9dc6a8e1e9d01"), looks := true }, kinds := [], alts := [], laidByText := true, laidKinds := [.data, .data, .data, .data, .sentinel, .sentinel, .listed, .data, .pinned], laidTests := true, laidLooks := .later }
def AsmTellsCardSaid : Prop := Claim7.holds Tryd.pinned (.plain (OpenSpec.ofChange asmTellsSpec)) asmTellsCard

/-- THE TIED CARD OF 'seizinlaw16.AsmBack'. -/
def asmBackCard : Claim7 := { stood := { row := asmBackRow, standIns := [], harness := (true, "393eb7eca8e3127ef631d1e7bb87a9eb559ac171480103dffff9dc6a8e1e9d01"), looks := true }, kinds := [], alts := [], laidByText := true, laidKinds := [.data, .data, .data, .data, .sentinel, .sentinel, .listed, .data, .pinned], laidTests := true, laidLooks := .later }
def AsmBackCardSaid : Prop := Claim7.holds Tryd.pinned (.plain (OpenSpec.ofChange asmBackSpec)) asmBackCard

/-- THE TIED CARD OF 'seizinlaw16.AsmUnlike'. -/
def asmUnlikeCard : Claim7 := { stood := { row := asmUnlikeRow, standIns := [], harness := (true, "393eb7eca8e3127ef631d1e7bb87a9eb559ac171480103dffff9dc6a8e1e9d01"), looks := true }, kinds := [], alts := [], laidByText := true, laidKinds := [.data, .data, .data, .data, .sentinel, .sentinel, .listed, .data, .pinned], laidTests := true, laidLooks := .later }
def AsmUnlikeCardSaid : Prop := Claim7.holds Tryd.pinned (.plain (OpenSpec.ofChange asmUnlikeSpec)) asmUnlikeCard

/-- THE TIED CARD OF 'seizinlaw16.AsmNames'. -/
def asmNamesCard : Claim7 := { stood := { row := asmNamesRow, standIns := [], harness := (true, "393eb7eca8e3127ef631d1e7bb87a9eb559ac171480103dffff9dc6a8e1e9d01"), looks := true }, kinds := [], alts := [], laidByText := true, laidKinds := [.data, .data, .data, .data, .sentinel, .sentinel, .listed, .data, .pinned], laidTests := true, laidLooks := .later }
def AsmNamesCardSaid : Prop := Claim7.holds Tryd.pinned (.plain (OpenSpec.ofChange asmNamesSpec)) asmNamesCard

/-- THE TIED CARD OF 'seizinlaw16.AsmLines'. -/
def asmLinesCard : Claim7 := { stood := { row := asmLinesRow, standIns := [], harness := (true, "393eb7eca8e3127ef631d1e7bb87a9eb559ac171480103dffff9dc6a8e1e9d01"), looks := true }, kinds := [], alts := [], laidByText := true, laidKinds := [.data, .data, .data, .data, .sentinel, .sentinel, .listed, .data, .pinned], laidTests := true, laidLooks := .later }
def AsmLinesCardSaid : Prop := Claim7.holds Tryd.pinned (.plain (OpenSpec.ofChange asmLinesSpec)) asmLinesCard

/-- THE TIED CARD OF 'seizinlaw16.AsmRead'. -/
def asmReadCard : Claim7 := { stood := { row := asmReadRow, standIns := [], harness := (true, "393eb7eca8e3127ef631d1e7bb87a9eb559ac171480103dffff9dc6a8e1e9d01"), looks := true }, kinds := [], alts := [], laidByText := true, laidKinds := [.data, .data, .data, .data, .sentinel, .sentinel, .listed, .data, .pinned], laidTests := true, laidLooks := .later }
def AsmReadCardSaid : Prop := Claim7.holds Tryd.pinned (.plain (OpenSpec.ofChange asmReadSpec)) asmReadCard

/-- THE SECOND FORM's CARD OF 'seizinlaw16.AsmTells'. -/
def asmTellsUptoCard : Claim7 := { stood := { row := asmTellsUptoRow, standIns := [], harness := (true, "393eb7eca8e3127ef631d1e7bb87a9eb559ac171480103dffff9dc6a8e1e9d01"), looks := true }, kinds := [], alts := [], laidByText := true, laidKinds := [.data, .data, .data, .data, .sentinel, .sentinel, .listed, .data, .pinned], laidTests := true, laidLooks := .later }
def AsmTellsUptoCardSaid : Prop := Claim7.holds Tryd.pinned (.plain (OpenSpec.upto asmTellsSpec)) asmTellsUptoCard

/-- THE SECOND FORM's CARD OF 'seizinlaw16.AsmBack'. -/
def asmBackUptoCard : Claim7 := { stood := { row := asmBackUptoRow, standIns := [], harness := (true, "393eb7eca8e3127ef631d1e7bb87a9eb559ac171480103dffff9dc6a8e1e9d01"), looks := true }, kinds := [], alts := [], laidByText := true, laidKinds := [.data, .data, .data, .data, .sentinel, .sentinel, .listed, .data, .pinned], laidTests := true, laidLooks := .later }
def AsmBackUptoCardSaid : Prop := Claim7.holds Tryd.pinned (.plain (OpenSpec.upto asmBackSpec)) asmBackUptoCard

/-- THE SECOND FORM's CARD OF 'seizinlaw16.AsmUnlike'. -/
def asmUnlikeUptoCard : Claim7 := { stood := { row := asmUnlikeUptoRow, standIns := [], harness := (true, "393eb7eca8e3127ef631d1e7bb87a9eb559ac171480103dffff9dc6a8e1e9d01"), looks := true }, kinds := [], alts := [], laidByText := true, laidKinds := [.data, .data, .data, .data, .sentinel, .sentinel, .listed, .data, .pinned], laidTests := true, laidLooks := .later }
def AsmUnlikeUptoCardSaid : Prop := Claim7.holds Tryd.pinned (.plain (OpenSpec.upto asmUnlikeSpec)) asmUnlikeUptoCard

/-- THE SECOND FORM's CARD OF 'seizinlaw16.AsmNames'. -/
def asmNamesUptoCard : Claim7 := { stood := { row := asmNamesUptoRow, standIns := [], harness := (true, "393eb7eca8e3127ef631d1e7bb87a9eb559ac171480103dffff9dc6a8e1e9d01"), looks := true }, kinds := [], alts := [], laidByText := true, laidKinds := [.data, .data, .data, .data, .sentinel, .sentinel, .listed, .data, .pinned], laidTests := true, laidLooks := .later }
def AsmNamesUptoCardSaid : Prop := Claim7.holds Tryd.pinned (.plain (OpenSpec.upto asmNamesSpec)) asmNamesUptoCard

/-- THE SECOND FORM's CARD OF 'seizinlaw16.AsmLines'. -/
def asmLinesUptoCard : Claim7 := { stood := { row := asmLinesUptoRow, standIns := [], harness := (true, "393eb7eca8e3127ef631d1e7bb87a9eb559ac171480103dffff9dc6a8e1e9d01"), looks := true }, kinds := [], alts := [], laidByText := true, laidKinds := [.data, .data, .data, .data, .sentinel, .sentinel, .listed, .data, .pinned], laidTests := true, laidLooks := .later }
def AsmLinesUptoCardSaid : Prop := Claim7.holds Tryd.pinned (.plain (OpenSpec.upto asmLinesSpec)) asmLinesUptoCard

/-- THE SECOND FORM's CARD OF 'seizinlaw16.AsmRead'. -/
def asmReadUptoCard : Claim7 := { stood := { row := asmReadUptoRow, standIns := [], harness := (true, "393eb7eca8e3127ef631d1e7bb87a9eb559ac171480103dffff9dc6a8e1e9d01"), looks := true }, kinds := [], alts := [], laidByText := true, laidKinds := [.data, .data, .data, .data, .sentinel, .sentinel, .listed, .data, .pinned], laidTests := true, laidLooks := .later }
def AsmReadUptoCardSaid : Prop := Claim7.holds Tryd.pinned (.plain (OpenSpec.upto asmReadSpec)) asmReadUptoCard
end Rows
end Go.Proofs.YtnmjglnllokklaaDoor
