/-
  DERIVED. GIVEN WITH THE SEED: THE CARDS: each row of YtdihhdmndjjknaaDoorRows.lean that lists a variable, with what it lists TIED to the program's text (the seventh form; the later family's looks); each row that meets fmt, with fmt's text TOLD by the authors' own Lean function (tested against real Go, not proved from fmt's source: count such statements apart). THE CARD IS WHAT COUNTS. Prove the row's statement (the work); the ties are given (YtdihhdmndjjknaaDoorTie.lean); close each card by the builder's one call (the guide's Derived/Test/ToyasCard.lean, 'card_holds'). Laid BY PROGRAM, IN A SANDBOX (cutbox-door.mjs). By AI agents, Wed Nov 11 2026. No macro, syntax, notation, axiom, sorry.
-/
import Derived.Test.YtdihhdmndjjknaaDoorRows
import GoSem.ClaimSeven
namespace Go.Proofs.YtdihhdmndjjknaaDoor
namespace Rows

/-- THE TIED CARD OF 'skerrylaw16.WalkPaths'. -/
def walkPathsCard : Claim7 := { stood := { row := walkPathsRow, standIns := [], harness := (true, "5e7899fbd8913749e52a0531c3138268ab2df04f1605ac5b7024f8bda184a267"), looks := false }, kinds := [], alts := [], laidByText := true, laidKinds := [.data, .pinned], laidTests := true, laidLooks := .later }
def WalkPathsCardSaid : Prop := Claim7.holds Tryd.pinned (.plain (OpenSpec.ofChange walkPathsSpec)) walkPathsCard

/-- THE TIED CARD OF 'skerrylaw16.WalkBack'. -/
def walkBackCard : Claim7 := { stood := { row := walkBackRow, standIns := [], harness := (true, "5e7899fbd8913749e52a0531c3138268ab2df04f1605ac5b7024f8bda184a267"), looks := false }, kinds := [], alts := [], laidByText := true, laidKinds := [.data, .pinned], laidTests := true, laidLooks := .later }
def WalkBackCardSaid : Prop := Claim7.holds Tryd.pinned (.plain (OpenSpec.ofChange walkBackSpec)) walkBackCard

/-- THE TIED CARD OF 'skerrylaw16.WalkKeeps'. -/
def walkKeepsCard : Claim7 := { stood := { row := walkKeepsRow, standIns := [], harness := (true, "5e7899fbd8913749e52a0531c3138268ab2df04f1605ac5b7024f8bda184a267"), looks := false }, kinds := [], alts := [], laidByText := true, laidKinds := [.data, .pinned], laidTests := true, laidLooks := .later }
def WalkKeepsCardSaid : Prop := Claim7.holds Tryd.pinned (.plain (OpenSpec.ofChange walkKeepsSpec)) walkKeepsCard

/-- THE TIED CARD OF 'skerrylaw16.WalkOrders'. -/
def walkOrdersCard : Claim7 := { stood := { row := walkOrdersRow, standIns := [], harness := (true, "5e7899fbd8913749e52a0531c3138268ab2df04f1605ac5b7024f8bda184a267"), looks := false }, kinds := [], alts := [], laidByText := true, laidKinds := [.data, .pinned], laidTests := true, laidLooks := .later }
def WalkOrdersCardSaid : Prop := Claim7.holds Tryd.pinned (.plain (OpenSpec.ofChange walkOrdersSpec)) walkOrdersCard

/-- THE TIED CARD OF 'skerrylaw16.WalkSorts'. -/
def walkSortsCard : Claim7 := { stood := { row := walkSortsRow, standIns := [], harness := (true, "5e7899fbd8913749e52a0531c3138268ab2df04f1605ac5b7024f8bda184a267"), looks := false }, kinds := [], alts := [], laidByText := true, laidKinds := [.data, .pinned], laidTests := true, laidLooks := .later }
def WalkSortsCardSaid : Prop := Claim7.holds Tryd.pinned (.plain (OpenSpec.ofChange walkSortsSpec)) walkSortsCard

/-- THE SECOND FORM's CARD OF 'skerrylaw16.WalkPaths'. -/
def walkPathsUptoCard : Claim7 := { stood := { row := walkPathsUptoRow, standIns := [], harness := (true, "5e7899fbd8913749e52a0531c3138268ab2df04f1605ac5b7024f8bda184a267"), looks := false }, kinds := [], alts := [], laidByText := true, laidKinds := [.data, .pinned], laidTests := true, laidLooks := .later }
def WalkPathsUptoCardSaid : Prop := Claim7.holds Tryd.pinned (.plain (OpenSpec.upto walkPathsSpec)) walkPathsUptoCard

/-- THE SECOND FORM's CARD OF 'skerrylaw16.WalkBack'. -/
def walkBackUptoCard : Claim7 := { stood := { row := walkBackUptoRow, standIns := [], harness := (true, "5e7899fbd8913749e52a0531c3138268ab2df04f1605ac5b7024f8bda184a267"), looks := false }, kinds := [], alts := [], laidByText := true, laidKinds := [.data, .pinned], laidTests := true, laidLooks := .later }
def WalkBackUptoCardSaid : Prop := Claim7.holds Tryd.pinned (.plain (OpenSpec.upto walkBackSpec)) walkBackUptoCard

/-- THE SECOND FORM's CARD OF 'skerrylaw16.WalkKeeps'. -/
def walkKeepsUptoCard : Claim7 := { stood := { row := walkKeepsUptoRow, standIns := [], harness := (true, "5e7899fbd8913749e52a0531c3138268ab2df04f1605ac5b7024f8bda184a267"), looks := false }, kinds := [], alts := [], laidByText := true, laidKinds := [.data, .pinned], laidTests := true, laidLooks := .later }
def WalkKeepsUptoCardSaid : Prop := Claim7.holds Tryd.pinned (.plain (OpenSpec.upto walkKeepsSpec)) walkKeepsUptoCard

/-- THE SECOND FORM's CARD OF 'skerrylaw16.WalkOrders'. -/
def walkOrdersUptoCard : Claim7 := { stood := { row := walkOrdersUptoRow, standIns := [], harness := (true, "5e7899fbd8913749e52a0531c3138268ab2df04f1605ac5b7024f8bda184a267"), looks := false }, kinds := [], alts := [], laidByText := true, laidKinds := [.data, .pinned], laidTests := true, laidLooks := .later }
def WalkOrdersUptoCardSaid : Prop := Claim7.holds Tryd.pinned (.plain (OpenSpec.upto walkOrdersSpec)) walkOrdersUptoCard

/-- THE SECOND FORM's CARD OF 'skerrylaw16.WalkSorts'. -/
def walkSortsUptoCard : Claim7 := { stood := { row := walkSortsUptoRow, standIns := [], harness := (true, "5e7899fbd8913749e52a0531c3138268ab2df04f1605ac5b7024f8bda184a267"), looks := false }, kinds := [], alts := [], laidByText := true, laidKinds := [.data, .pinned], laidTests := true, laidLooks := .later }
def WalkSortsUptoCardSaid : Prop := Claim7.holds Tryd.pinned (.plain (OpenSpec.upto walkSortsSpec)) walkSortsUptoCard
end Rows
end Go.Proofs.YtdihhdmndjjknaaDoor
