/-
  DERIVED. GIVEN WITH THE SEED: THE CARDS: each row of YtbplffdmggbcdaaDoorRows.lean that lists a variable, with what it lists TIED to the program's text (the seventh form; the later family's looks); each row that meets fmt, with fmt's text TOLD by the authors' own Lean function (tested against real Go, not proved from fmt's source: count such statements apart). THE CARD IS WHAT COUNTS. Prove the row's statement (the work); the ties are given (YtbplffdmggbcdaaDoorTie.lean); close each card by the builder's one call (the guide's Derived/Test/ToyasCard.lean, 'card_holds'). Laid BY PROGRAM, IN A SANDBOX (cutbox-door.mjs). By AI agents, Wed Nov 11 2026. No macro, syntax, notation, axiom, sorry.
-/
import Derived.Test.YtbplffdmggbcdaaDoorRows
import GoSem.ClaimSeven
namespace Go.Proofs.YtbplffdmggbcdaaDoor
namespace Rows

/-- THE TIED CARD OF 'skerrylaw06.CodecInodes'. -/
def codecInodesCard : Claim7 := { stood := { row := codecInodesRow, standIns := [], harness := (true, "3b0db6ffb44c1d4c950503c90a9ef16bbb5f1e5ad2e8e75f75ed568838701415"), looks := false }, kinds := [], alts := [], laidByText := true, laidKinds := [.data, .pinned], laidTests := true, laidLooks := .later }
def CodecInodesCardSaid : Prop := Claim7.holds Tryd.pinned (.plain (OpenSpec.ofChange codecInodesSpec)) codecInodesCard

/-- THE TIED CARD OF 'skerrylaw06.CodecBack'. -/
def codecBackCard : Claim7 := { stood := { row := codecBackRow, standIns := [], harness := (true, "3b0db6ffb44c1d4c950503c90a9ef16bbb5f1e5ad2e8e75f75ed568838701415"), looks := false }, kinds := [], alts := [], laidByText := true, laidKinds := [.data, .pinned], laidTests := true, laidLooks := .later }
def CodecBackCardSaid : Prop := Claim7.holds Tryd.pinned (.plain (OpenSpec.ofChange codecBackSpec)) codecBackCard

/-- THE TIED CARD OF 'skerrylaw06.CodecKeeps'. -/
def codecKeepsCard : Claim7 := { stood := { row := codecKeepsRow, standIns := [], harness := (true, "3b0db6ffb44c1d4c950503c90a9ef16bbb5f1e5ad2e8e75f75ed568838701415"), looks := false }, kinds := [], alts := [], laidByText := true, laidKinds := [.data, .pinned], laidTests := true, laidLooks := .later }
def CodecKeepsCardSaid : Prop := Claim7.holds Tryd.pinned (.plain (OpenSpec.ofChange codecKeepsSpec)) codecKeepsCard

/-- THE SECOND FORM's CARD OF 'skerrylaw06.CodecInodes'. -/
def codecInodesUptoCard : Claim7 := { stood := { row := codecInodesUptoRow, standIns := [], harness := (true, "3b0db6ffb44c1d4c950503c90a9ef16bbb5f1e5ad2e8e75f75ed568838701415"), looks := false }, kinds := [], alts := [], laidByText := true, laidKinds := [.data, .pinned], laidTests := true, laidLooks := .later }
def CodecInodesUptoCardSaid : Prop := Claim7.holds Tryd.pinned (.plain (OpenSpec.upto codecInodesSpec)) codecInodesUptoCard

/-- THE SECOND FORM's CARD OF 'skerrylaw06.CodecBack'. -/
def codecBackUptoCard : Claim7 := { stood := { row := codecBackUptoRow, standIns := [], harness := (true, "3b0db6ffb44c1d4c950503c90a9ef16bbb5f1e5ad2e8e75f75ed568838701415"), looks := false }, kinds := [], alts := [], laidByText := true, laidKinds := [.data, .pinned], laidTests := true, laidLooks := .later }
def CodecBackUptoCardSaid : Prop := Claim7.holds Tryd.pinned (.plain (OpenSpec.upto codecBackSpec)) codecBackUptoCard

/-- THE SECOND FORM's CARD OF 'skerrylaw06.CodecKeeps'. -/
def codecKeepsUptoCard : Claim7 := { stood := { row := codecKeepsUptoRow, standIns := [], harness := (true, "3b0db6ffb44c1d4c950503c90a9ef16bbb5f1e5ad2e8e75f75ed568838701415"), looks := false }, kinds := [], alts := [], laidByText := true, laidKinds := [.data, .pinned], laidTests := true, laidLooks := .later }
def CodecKeepsUptoCardSaid : Prop := Claim7.holds Tryd.pinned (.plain (OpenSpec.upto codecKeepsSpec)) codecKeepsUptoCard
end Rows
end Go.Proofs.YtbplffdmggbcdaaDoor
