/-
  DERIVED. GIVEN WITH THE SEED: THE CARDS: each row of YtkfeigigjilaiaaDoorRows.lean that lists a variable, with what it lists TIED to the program's text (the seventh form; the later family's looks); each row that meets fmt, with fmt's text TOLD by the authors' own Lean function (tested against real Go, not proved from fmt's source: count such statements apart). THE CARD IS WHAT COUNTS. Prove the row's statement (the work); the ties are given (YtkfeigigjilaiaaDoorTie.lean); close each card by the builder's one call (the guide's Derived/Test/ToyasCard.lean, 'card_holds'). Laid BY PROGRAM, IN A SANDBOX (cutbox-door.mjs). By AI agents, Wed Nov 11 2026. No macro, syntax, notation, axiom, sorry.
-/
import Derived.Test.YtkfeigigjilaiaaDoorRows
import GoSem.ClaimSeven
namespace Go.Proofs.YtkfeigigjilaiaaDoor
namespace Rows

/-- THE TIED CARD OF 'skerrylaw01.FieldNames'. -/
def fieldNamesCard : Claim7 := { stood := { row := fieldNamesRow, standIns := [], harness := (true, "8fe3ecec85c33d2a58d70860e7fce23e768c511d12a238d9f9619fdbd66081d3"), looks := false }, kinds := [], alts := [], laidByText := true, laidKinds := [.data, .pinned], laidTests := true, laidLooks := .later }
def FieldNamesCardSaid : Prop := Claim7.holds Tryd.pinned (.plain (OpenSpec.ofChange fieldNamesSpec)) fieldNamesCard

/-- THE TIED CARD OF 'skerrylaw01.FieldKeeps'. -/
def fieldKeepsCard : Claim7 := { stood := { row := fieldKeepsRow, standIns := [], harness := (true, "8fe3ecec85c33d2a58d70860e7fce23e768c511d12a238d9f9619fdbd66081d3"), looks := false }, kinds := [], alts := [], laidByText := true, laidKinds := [.data, .pinned], laidTests := true, laidLooks := .later }
def FieldKeepsCardSaid : Prop := Claim7.holds Tryd.pinned (.plain (OpenSpec.ofChange fieldKeepsSpec)) fieldKeepsCard

/-- THE SECOND FORM's CARD OF 'skerrylaw01.FieldNames'. -/
def fieldNamesUptoCard : Claim7 := { stood := { row := fieldNamesUptoRow, standIns := [], harness := (true, "8fe3ecec85c33d2a58d70860e7fce23e768c511d12a238d9f9619fdbd66081d3"), looks := false }, kinds := [], alts := [], laidByText := true, laidKinds := [.data, .pinned], laidTests := true, laidLooks := .later }
def FieldNamesUptoCardSaid : Prop := Claim7.holds Tryd.pinned (.plain (OpenSpec.upto fieldNamesSpec)) fieldNamesUptoCard

/-- THE SECOND FORM's CARD OF 'skerrylaw01.FieldKeeps'. -/
def fieldKeepsUptoCard : Claim7 := { stood := { row := fieldKeepsUptoRow, standIns := [], harness := (true, "8fe3ecec85c33d2a58d70860e7fce23e768c511d12a238d9f9619fdbd66081d3"), looks := false }, kinds := [], alts := [], laidByText := true, laidKinds := [.data, .pinned], laidTests := true, laidLooks := .later }
def FieldKeepsUptoCardSaid : Prop := Claim7.holds Tryd.pinned (.plain (OpenSpec.upto fieldKeepsSpec)) fieldKeepsUptoCard
end Rows
end Go.Proofs.YtkfeigigjilaiaaDoor
