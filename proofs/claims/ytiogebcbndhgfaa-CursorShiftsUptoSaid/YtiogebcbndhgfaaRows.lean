/-
  No cell of these rows narrows 'for every input' (looked for: loops, veiled, ifaces, maps, wideKeys, modest, calm, conditions, laid).
  DERIVED. THE GIVEN ROWS OF THIS SEAT. 3 by the template 'for every input the law returns true; each argument reads behind the call as it read before'; 0 by the template 'total and deterministic' (their statements: YtiogebcbndhgfaaTotals.lean).
  GIVEN WITH THE SEED: the statements are not yours to turn. If you find one false, say at which input.
  Laid BY PROGRAM, IN A SANDBOX (cutbox-rows.mjs): the forced cells as the released guide's own fill.sh prints them over the translation 9b51304093f862d5… (all of the seat's roots in one cut). By AI agents, Wed Nov 11 2026. No macro, syntax, notation, axiom, sorry.
-/
import Derived.Test.YtiogebcbndhgfaaChecked
import GoSem.Claim
import GoSem.ClaimJoined
import GoSem.ClaimMapViews
import Derived.JoinedTies
import Derived.KernelRfl
namespace Go.Proofs.Ytiogebcbndhgfaa
/- THE CELL 'sum', in the pinned program and in every row, IS THE sha256 OF THE DUMP (.gsa) THAT YtiogebcbndhgfaaProg.lean LOADS. Nothing in Lean hashes anything: it is a label: what it is worth is what the hold of that sum in a sandbox is worth. -/
noncomputable def Try.pinned : Pinned := { name := "ytiogebcbndhgfaa", sum := "9b51304093f862d5a12dd22da40f18d3fbda78aab193de2e622df673cfce13f4", checked := Try.checked }
namespace Rows
def none {H : Type} : Left H := { results := [], args := [] }

/-- 'skerrylaw21.CursorLines': WHATEVER THE INPUT: true; the input reads as it did. -/
def cursorLinesSpec : ChangeSpec := { name := "cursorLines", fn := fun _ => fun
  | [d1, d2, d3] => { results := [.lit (.bool true)], args := [d1, d2, d3] }
  | _ => none }
def cursorLinesRow : OpenClaim := { program := "ytiogebcbndhgfaa", sum := "9b51304093f862d5a12dd22da40f18d3fbda78aab193de2e622df673cfce13f4", func := "skerry/skerrylaw21.CursorLines", spec := "cursorLines", inPlace := ["internal/bytealg.CountString", "internal/bytealg.IndexByteString", "internal/bytealg.IndexString"], named := ["internal/bytealg.MaxLen"], apart := false }
def CursorLinesSaid : Prop := cursorLinesRow.holds Try.pinned (OpenSpec.ofChange cursorLinesSpec)

/-- ITS FALSE NEIGHBOUR: 'it returns false'. Refute it at one input. -/
def cursorLinesWrong : ChangeSpec := { name := "cursorLines", fn := fun _ => fun
  | [d1, d2, d3] => { results := [.lit (.bool false)], args := [d1, d2, d3] }
  | _ => none }
def CursorLinesWrongFalsely : Prop := cursorLinesRow.holds Try.pinned (OpenSpec.ofChange cursorLinesWrong)

/-- 'skerrylaw21.CursorBack': WHATEVER THE INPUT: true; the input reads as it did. -/
def cursorBackSpec : ChangeSpec := { name := "cursorBack", fn := fun _ => fun
  | [d1, d2] => { results := [.lit (.bool true)], args := [d1, d2] }
  | _ => none }
def cursorBackRow : OpenClaim := { program := "ytiogebcbndhgfaa", sum := "9b51304093f862d5a12dd22da40f18d3fbda78aab193de2e622df673cfce13f4", func := "skerry/skerrylaw21.CursorBack", spec := "cursorBack", inPlace := ["internal/bytealg.CountString", "internal/bytealg.IndexByteString", "internal/bytealg.IndexString", "math.archTrunc", "math.Float64bits", "math.Float64frombits"], named := ["internal/bytealg.MaxLen"], apart := false }
def CursorBackSaid : Prop := cursorBackRow.holds Try.pinned (OpenSpec.ofChange cursorBackSpec)

/-- ITS FALSE NEIGHBOUR: 'it returns false'. Refute it at one input. -/
def cursorBackWrong : ChangeSpec := { name := "cursorBack", fn := fun _ => fun
  | [d1, d2] => { results := [.lit (.bool false)], args := [d1, d2] }
  | _ => none }
def CursorBackWrongFalsely : Prop := cursorBackRow.holds Try.pinned (OpenSpec.ofChange cursorBackWrong)

/-- 'skerrylaw21.CursorShifts': WHATEVER THE INPUT: true; the input reads as it did. -/
def cursorShiftsSpec : ChangeSpec := { name := "cursorShifts", fn := fun _ => fun
  | [d1, d2, d3] => { results := [.lit (.bool true)], args := [d1, d2, d3] }
  | _ => none }
def cursorShiftsRow : OpenClaim := { program := "ytiogebcbndhgfaa", sum := "9b51304093f862d5a12dd22da40f18d3fbda78aab193de2e622df673cfce13f4", func := "skerry/skerrylaw21.CursorShifts", spec := "cursorShifts", inPlace := ["internal/bytealg.CountString", "internal/bytealg.IndexByteString", "internal/bytealg.IndexString", "math.archTrunc", "math.Float64bits", "math.Float64frombits"], named := ["internal/bytealg.MaxLen"], apart := false }
def CursorShiftsSaid : Prop := cursorShiftsRow.holds Try.pinned (OpenSpec.ofChange cursorShiftsSpec)

/-- ITS FALSE NEIGHBOUR: 'it returns false'. Refute it at one input. -/
def cursorShiftsWrong : ChangeSpec := { name := "cursorShifts", fn := fun _ => fun
  | [d1, d2, d3] => { results := [.lit (.bool false)], args := [d1, d2, d3] }
  | _ => none }
def CursorShiftsWrongFalsely : Prop := cursorShiftsRow.holds Try.pinned (OpenSpec.ofChange cursorShiftsWrong)

/- THE SECOND FORM. 'bulk': how many values and letters a reading holds, each counted each time it is reached (what is shared counts as often as it is met; a slice's spare places count too). A statement '..UptoSaid' is the law's where the arguments, and the package variables that the reading takes, are together of bulk at most 1048576: NARROWER than '..Said'. Prove '..Said' where nothing that the law and all that it calls make is longer than what came in: it says more and counts as full. Else prove '..UptoSaid'. A law counts once. -/
mutual
def uptoBulk {H : Type} : DataW H → Nat
  | .lit (.string bytes) => bytes.length + 1
  | .lit _ => 1
  | .nil => 1
  | .ptr d => uptoBulk d + 1
  | .slice elems spare => uptoBulkAll elems + uptoBulkAll spare + 1
  | .agg parts => uptoBulkAll parts + 1
  | .iface _ d => uptoBulk d + 1
  | .map entries => uptoBulkEntries entries + 1
  | .held _ => 1
def uptoBulkAll {H : Type} : List (DataW H) → Nat
  | [] => 0
  | d :: r => uptoBulk d + uptoBulkAll r
def uptoBulkEntries {H : Type} : List (Lit × DataW H) → Nat
  | [] => 0
  | x :: r => uptoBulkEntry x + uptoBulkEntries r
def uptoBulkEntry {H : Type} : Lit × DataW H → Nat
  | (.string bytes, d) => bytes.length + uptoBulk d + 1
  | (_, d) => uptoBulk d + 1
 end
def uptoSmall : (H : Type) → List (DataW H) → Bool := fun _ ds => decide (uptoBulkAll ds ≤ 1048576)
def OpenSpec.upto (s : _root_.Go.ChangeSpec) : _root_.Go.OpenSpec := { _root_.Go.OpenSpec.ofChange s with cond := some uptoSmall }

/-- 'skerrylaw21.CursorLines', WHERE WHAT IT READS IS OF BULK AT MOST 1048576: true; the input reads as it did. -/
def cursorLinesUptoRow : OpenClaim := { program := "ytiogebcbndhgfaa", sum := "9b51304093f862d5a12dd22da40f18d3fbda78aab193de2e622df673cfce13f4", func := "skerry/skerrylaw21.CursorLines", spec := "cursorLines", inPlace := ["internal/bytealg.CountString", "internal/bytealg.IndexByteString", "internal/bytealg.IndexString"], named := ["internal/bytealg.MaxLen"], apart := false, narrowed := true }
def CursorLinesUptoSaid : Prop := cursorLinesUptoRow.holds Try.pinned (OpenSpec.upto cursorLinesSpec)

/-- 'skerrylaw21.CursorBack', WHERE WHAT IT READS IS OF BULK AT MOST 1048576: true; the input reads as it did. -/
def cursorBackUptoRow : OpenClaim := { program := "ytiogebcbndhgfaa", sum := "9b51304093f862d5a12dd22da40f18d3fbda78aab193de2e622df673cfce13f4", func := "skerry/skerrylaw21.CursorBack", spec := "cursorBack", inPlace := ["internal/bytealg.CountString", "internal/bytealg.IndexByteString", "internal/bytealg.IndexString", "math.archTrunc", "math.Float64bits", "math.Float64frombits"], named := ["internal/bytealg.MaxLen"], apart := false, narrowed := true }
def CursorBackUptoSaid : Prop := cursorBackUptoRow.holds Try.pinned (OpenSpec.upto cursorBackSpec)

/-- 'skerrylaw21.CursorShifts', WHERE WHAT IT READS IS OF BULK AT MOST 1048576: true; the input reads as it did. -/
def cursorShiftsUptoRow : OpenClaim := { program := "ytiogebcbndhgfaa", sum := "9b51304093f862d5a12dd22da40f18d3fbda78aab193de2e622df673cfce13f4", func := "skerry/skerrylaw21.CursorShifts", spec := "cursorShifts", inPlace := ["internal/bytealg.CountString", "internal/bytealg.IndexByteString", "internal/bytealg.IndexString", "math.archTrunc", "math.Float64bits", "math.Float64frombits"], named := ["internal/bytealg.MaxLen"], apart := false, narrowed := true }
def CursorShiftsUptoSaid : Prop := cursorShiftsUptoRow.holds Try.pinned (OpenSpec.upto cursorShiftsSpec)

end Rows
end Go.Proofs.Ytiogebcbndhgfaa
