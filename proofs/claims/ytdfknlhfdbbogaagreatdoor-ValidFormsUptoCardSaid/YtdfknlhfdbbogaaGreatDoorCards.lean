/-
  DERIVED. GIVEN WITH THE SEED: THE CARDS: each row of YtdfknlhfdbbogaaGreatDoorRows.lean that lists a variable, with what it lists TIED to the program's text (the seventh form; the later family's looks); each row that meets fmt, with fmt's text TOLD by the authors' own Lean function (tested against real Go, not proved from fmt's source: count such statements apart). THE CARD IS WHAT COUNTS. Prove the row's statement (the work); the ties are given (YtdfknlhfdbbogaaGreatDoorTie.lean); close each card by the builder's one call (the guide's Derived/Test/ToyasCard.lean, 'card_holds'). Laid BY PROGRAM, IN A SANDBOX (cutbox-door.mjs). By AI agents, Wed Nov 11 2026. No macro, syntax, notation, axiom, sorry.
-/
import Derived.Test.YtdfknlhfdbbogaaGreatDoorRows
import GoSem.ClaimSeven
namespace Go.Proofs.YtdfknlhfdbbogaaGreatDoor
namespace Rows

/-- THE TIED CARD OF 'arboretlaw15.ValidSizes'. -/
def validSizesCard : Claim7 := { stood := { row := validSizesRow, standIns := [], harness := (true, "2e53c25ad349846fc2b55f70545fd1113475b8f138436fbf052006ec0a7d1e0f"), looks := true }, kinds := [], alts := [], laidByText := true, laidKinds := [.data, .pinned], laidTests := true, laidLooks := .later }
def ValidSizesCardSaid : Prop := Claim7.holds Tryz.pinned (.plain (OpenSpec.ofChange validSizesSpec)) validSizesCard

/-- THE TIED CARD OF 'arboretlaw15.ValidForms'. -/
def validFormsCard : Claim7 := { stood := { row := validFormsRow, standIns := [], harness := (true, "2e53c25ad349846fc2b55f70545fd1113475b8f138436fbf052006ec0a7d1e0f"), looks := true }, kinds := [], alts := [], laidByText := true, laidKinds := [.data, .handle, .pinned], laidTests := true, laidLooks := .later }
def ValidFormsCardSaid : Prop := Claim7.holds Tryz.pinned (.plain (OpenSpec.ofChange validFormsSpec)) validFormsCard

/-- THE TIED CARD OF 'arborettop.TopInvalid'. -/
def topInvalidCard : Claim7 := { stood := { row := topInvalidRow, standIns := [], harness := (true, "2e53c25ad349846fc2b55f70545fd1113475b8f138436fbf052006ec0a7d1e0f"), looks := true }, kinds := [], alts := [], laidByText := true, laidKinds := [.data, .data, .handle, .pinned], laidTests := true, laidLooks := .later }
def TopInvalidCardSaid : Prop := Claim7.holds Tryz.pinned (.plain (OpenSpec.ofChange topInvalidSpec)) topInvalidCard

/-- THE TIED CARD OF 'arborettop.TopSame'. -/
def topSameCard : Claim7 := { stood := { row := topSameRow, standIns := [], harness := (true, "2e53c25ad349846fc2b55f70545fd1113475b8f138436fbf052006ec0a7d1e0f"), looks := true }, kinds := [], alts := [], laidByText := true, laidKinds := [.data, .data, .handle, .pinned], laidTests := true, laidLooks := .later }
def TopSameCardSaid : Prop := Claim7.holds Tryz.pinned (.plain (OpenSpec.ofChange topSameSpec)) topSameCard

/-- THE TIED CARD OF 'arborettop.TopFewer'. -/
def topFewerCard : Claim7 := { stood := { row := topFewerRow, standIns := [], harness := (true, "2e53c25ad349846fc2b55f70545fd1113475b8f138436fbf052006ec0a7d1e0f"), looks := true }, kinds := [], alts := [], laidByText := true, laidKinds := [.data, .data, .handle, .pinned], laidTests := true, laidLooks := .later }
def TopFewerCardSaid : Prop := Claim7.holds Tryz.pinned (.plain (OpenSpec.ofChange topFewerSpec)) topFewerCard

/-- THE TIED CARD OF 'arboretlaw22.SocWhere'. -/
def socWhereCard : Claim7 := { stood := { row := socWhereRow, standIns := [], harness := (true, "2e53c25ad349846fc2b55f70545fd1113475b8f138436fbf052006ec0a7d1e0f"), looks := true }, kinds := [], alts := [], laidByText := true, laidKinds := [.data, .data, .handle, .pinned], laidTests := true, laidLooks := .later }
def SocWhereCardSaid : Prop := Claim7.holds Tryz.pinned (.plain (OpenSpec.ofChange socWhereSpec)) socWhereCard

/-- THE TIED CARD OF 'arboretlaw23.ProbeReads'. -/
def probeReadsCard : Claim7 := { stood := { row := probeReadsRow, standIns := [], harness := (true, "2e53c25ad349846fc2b55f70545fd1113475b8f138436fbf052006ec0a7d1e0f"), looks := true }, kinds := [], alts := [], laidByText := true, laidKinds := [.data, .handle, .pinned], laidTests := true, laidLooks := .later }
def ProbeReadsCardSaid : Prop := Claim7.holds Tryz.pinned (.plain (OpenSpec.ofChange probeReadsSpec)) probeReadsCard

/-- THE TIED CARD OF 'arboretlaw22.SocNil'. -/
def socNilCard : Claim7 := { stood := { row := socNilRow, standIns := [], harness := (true, "2e53c25ad349846fc2b55f70545fd1113475b8f138436fbf052006ec0a7d1e0f"), looks := true }, kinds := [], alts := [], laidByText := true, laidKinds := [.data, .data, .pinned], laidTests := true, laidLooks := .later }
def SocNilCardSaid : Prop := Claim7.holds Tryz.pinned (.plain (OpenSpec.ofChange socNilSpec)) socNilCard

/-- THE TIED CARD OF 'arboretlaw22.SocPlays'. -/
def socPlaysCard : Claim7 := { stood := { row := socPlaysRow, standIns := [], harness := (true, "2e53c25ad349846fc2b55f70545fd1113475b8f138436fbf052006ec0a7d1e0f"), looks := true }, kinds := [], alts := [], laidByText := true, laidKinds := [.data, .data, .handle, .pinned], laidTests := true, laidLooks := .later }
def SocPlaysCardSaid : Prop := Claim7.holds Tryz.pinned (.plain (OpenSpec.ofChange socPlaysSpec)) socPlaysCard

/-- THE TIED CARD OF 'arboretlaw24.PlayOdd'. -/
def playOddCard : Claim7 := { stood := { row := playOddRow, standIns := [], harness := (true, "2e53c25ad349846fc2b55f70545fd1113475b8f138436fbf052006ec0a7d1e0f"), looks := true }, kinds := [], alts := [], laidByText := true, laidKinds := [.data, .data, .handle, .pinned], laidTests := true, laidLooks := .later }
def PlayOddCardSaid : Prop := Claim7.holds Tryz.pinned (.plain (OpenSpec.ofChange playOddSpec)) playOddCard

/-- THE SECOND FORM's CARD OF 'arboretlaw15.ValidSizes'. -/
def validSizesUptoCard : Claim7 := { stood := { row := validSizesUptoRow, standIns := [], harness := (true, "2e53c25ad349846fc2b55f70545fd1113475b8f138436fbf052006ec0a7d1e0f"), looks := true }, kinds := [], alts := [], laidByText := true, laidKinds := [.data, .pinned], laidTests := true, laidLooks := .later }
def ValidSizesUptoCardSaid : Prop := Claim7.holds Tryz.pinned (.plain (OpenSpec.upto validSizesSpec)) validSizesUptoCard

/-- THE SECOND FORM's CARD OF 'arboretlaw15.ValidForms'. -/
def validFormsUptoCard : Claim7 := { stood := { row := validFormsUptoRow, standIns := [], harness := (true, "2e53c25ad349846fc2b55f70545fd1113475b8f138436fbf052006ec0a7d1e0f"), looks := true }, kinds := [], alts := [], laidByText := true, laidKinds := [.data, .handle, .pinned], laidTests := true, laidLooks := .later }
def ValidFormsUptoCardSaid : Prop := Claim7.holds Tryz.pinned (.plain (OpenSpec.upto validFormsSpec)) validFormsUptoCard

/-- THE SECOND FORM's CARD OF 'arborettop.TopInvalid'. -/
def topInvalidUptoCard : Claim7 := { stood := { row := topInvalidUptoRow, standIns := [], harness := (true, "2e53c25ad349846fc2b55f70545fd1113475b8f138436fbf052006ec0a7d1e0f"), looks := true }, kinds := [], alts := [], laidByText := true, laidKinds := [.data, .data, .handle, .pinned], laidTests := true, laidLooks := .later }
def TopInvalidUptoCardSaid : Prop := Claim7.holds Tryz.pinned (.plain (OpenSpec.upto topInvalidSpec)) topInvalidUptoCard

/-- THE SECOND FORM's CARD OF 'arborettop.TopSame'. -/
def topSameUptoCard : Claim7 := { stood := { row := topSameUptoRow, standIns := [], harness := (true, "2e53c25ad349846fc2b55f70545fd1113475b8f138436fbf052006ec0a7d1e0f"), looks := true }, kinds := [], alts := [], laidByText := true, laidKinds := [.data, .data, .handle, .pinned], laidTests := true, laidLooks := .later }
def TopSameUptoCardSaid : Prop := Claim7.holds Tryz.pinned (.plain (OpenSpec.upto topSameSpec)) topSameUptoCard

/-- THE SECOND FORM's CARD OF 'arborettop.TopFewer'. -/
def topFewerUptoCard : Claim7 := { stood := { row := topFewerUptoRow, standIns := [], harness := (true, "2e53c25ad349846fc2b55f70545fd1113475b8f138436fbf052006ec0a7d1e0f"), looks := true }, kinds := [], alts := [], laidByText := true, laidKinds := [.data, .data, .handle, .pinned], laidTests := true, laidLooks := .later }
def TopFewerUptoCardSaid : Prop := Claim7.holds Tryz.pinned (.plain (OpenSpec.upto topFewerSpec)) topFewerUptoCard

/-- THE SECOND FORM's CARD OF 'arboretlaw22.SocWhere'. -/
def socWhereUptoCard : Claim7 := { stood := { row := socWhereUptoRow, standIns := [], harness := (true, "2e53c25ad349846fc2b55f70545fd1113475b8f138436fbf052006ec0a7d1e0f"), looks := true }, kinds := [], alts := [], laidByText := true, laidKinds := [.data, .data, .handle, .pinned], laidTests := true, laidLooks := .later }
def SocWhereUptoCardSaid : Prop := Claim7.holds Tryz.pinned (.plain (OpenSpec.upto socWhereSpec)) socWhereUptoCard

/-- THE SECOND FORM's CARD OF 'arboretlaw23.ProbeReads'. -/
def probeReadsUptoCard : Claim7 := { stood := { row := probeReadsUptoRow, standIns := [], harness := (true, "2e53c25ad349846fc2b55f70545fd1113475b8f138436fbf052006ec0a7d1e0f"), looks := true }, kinds := [], alts := [], laidByText := true, laidKinds := [.data, .handle, .pinned], laidTests := true, laidLooks := .later }
def ProbeReadsUptoCardSaid : Prop := Claim7.holds Tryz.pinned (.plain (OpenSpec.upto probeReadsSpec)) probeReadsUptoCard

/-- THE SECOND FORM's CARD OF 'arboretlaw22.SocNil'. -/
def socNilUptoCard : Claim7 := { stood := { row := socNilUptoRow, standIns := [], harness := (true, "2e53c25ad349846fc2b55f70545fd1113475b8f138436fbf052006ec0a7d1e0f"), looks := true }, kinds := [], alts := [], laidByText := true, laidKinds := [.data, .data, .pinned], laidTests := true, laidLooks := .later }
def SocNilUptoCardSaid : Prop := Claim7.holds Tryz.pinned (.plain (OpenSpec.upto socNilSpec)) socNilUptoCard

/-- THE SECOND FORM's CARD OF 'arboretlaw22.SocPlays'. -/
def socPlaysUptoCard : Claim7 := { stood := { row := socPlaysUptoRow, standIns := [], harness := (true, "2e53c25ad349846fc2b55f70545fd1113475b8f138436fbf052006ec0a7d1e0f"), looks := true }, kinds := [], alts := [], laidByText := true, laidKinds := [.data, .data, .handle, .pinned], laidTests := true, laidLooks := .later }
def SocPlaysUptoCardSaid : Prop := Claim7.holds Tryz.pinned (.plain (OpenSpec.upto socPlaysSpec)) socPlaysUptoCard

/-- THE SECOND FORM's CARD OF 'arboretlaw24.PlayOdd'. -/
def playOddUptoCard : Claim7 := { stood := { row := playOddUptoRow, standIns := [], harness := (true, "2e53c25ad349846fc2b55f70545fd1113475b8f138436fbf052006ec0a7d1e0f"), looks := true }, kinds := [], alts := [], laidByText := true, laidKinds := [.data, .data, .handle, .pinned], laidTests := true, laidLooks := .later }
def PlayOddUptoCardSaid : Prop := Claim7.holds Tryz.pinned (.plain (OpenSpec.upto playOddSpec)) playOddUptoCard
end Rows
end Go.Proofs.YtdfknlhfdbbogaaGreatDoor
