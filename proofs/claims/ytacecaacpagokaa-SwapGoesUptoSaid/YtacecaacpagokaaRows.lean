/-
  No cell of these rows narrows 'for every input' (looked for: loops, veiled, ifaces, maps, wideKeys, modest, calm, conditions, laid).
  DERIVED. THE GIVEN ROWS OF THIS SEAT. 5 by the template 'for every input the law returns true; each argument reads behind the call as it read before'; 0 by the template 'total and deterministic' (their statements: YtacecaacpagokaaTotals.lean).
  GIVEN WITH THE SEED: the statements are not yours to turn. If you find one false, say at which input.
  Laid BY PROGRAM, IN A SANDBOX (cutbox-rows.mjs): the forced cells as the released guide's own fill.sh prints them over the translation e2a21710c98cff45… (all of the seat's roots in one cut). By AI agents, Wed Nov 11 2026. No macro, syntax, notation, axiom, sorry.
-/
import Derived.Test.YtacecaacpagokaaChecked
import GoSem.Claim
import GoSem.ClaimJoined
import GoSem.ClaimMapViews
import Derived.JoinedTies
import Derived.KernelRfl
namespace Go.Proofs.Ytacecaacpagokaa
/- THE CELL 'sum', in the pinned program and in every row, IS THE sha256 OF THE DUMP (.gsa) THAT YtacecaacpagokaaProg.lean LOADS. Nothing in Lean hashes anything: it is a label: what it is worth is what the hold of that sum in a sandbox is worth. -/
noncomputable def Try.pinned : Pinned := { name := "ytacecaacpagokaa", sum := "e2a21710c98cff45bb7e87b8756b2ffc2da4d55ea965b8b44608bdee71ab4582", checked := Try.checked }
namespace Rows
def none {H : Type} : Left H := { results := [], args := [] }

/-- 'skerrylaw22.SwapScans': WHATEVER THE INPUT: true; the input reads as it did. -/
def swapScansSpec : ChangeSpec := { name := "swapScans", fn := fun _ => fun
  | [d1, d2, d3] => { results := [.lit (.bool true)], args := [d1, d2, d3] }
  | _ => none }
def swapScansRow : OpenClaim := { program := "ytacecaacpagokaa", sum := "e2a21710c98cff45bb7e87b8756b2ffc2da4d55ea965b8b44608bdee71ab4582", func := "skerry/skerrylaw22.SwapScans", spec := "swapScans", inPlace := ["math.archTrunc", "math.Float64bits", "math.Float64frombits"], unfollowed := true, recurses := true, apart := false }
def SwapScansSaid : Prop := swapScansRow.holds Try.pinned (OpenSpec.ofChange swapScansSpec)

/-- ITS FALSE NEIGHBOUR: 'it returns false'. Refute it at one input. -/
def swapScansWrong : ChangeSpec := { name := "swapScans", fn := fun _ => fun
  | [d1, d2, d3] => { results := [.lit (.bool false)], args := [d1, d2, d3] }
  | _ => none }
def SwapScansWrongFalsely : Prop := swapScansRow.holds Try.pinned (OpenSpec.ofChange swapScansWrong)

/-- 'skerrylaw22.SwapBack': WHATEVER THE INPUT: true; the input reads as it did. -/
def swapBackSpec : ChangeSpec := { name := "swapBack", fn := fun _ => fun
  | [d1, d2, d3, d4] => { results := [.lit (.bool true)], args := [d1, d2, d3, d4] }
  | _ => none }
def swapBackRow : OpenClaim := { program := "ytacecaacpagokaa", sum := "e2a21710c98cff45bb7e87b8756b2ffc2da4d55ea965b8b44608bdee71ab4582", func := "skerry/skerrylaw22.SwapBack", spec := "swapBack", inPlace := ["math.archTrunc", "math.Float64bits", "math.Float64frombits"], unfollowed := true, recurses := true, apart := false }
def SwapBackSaid : Prop := swapBackRow.holds Try.pinned (OpenSpec.ofChange swapBackSpec)

/-- ITS FALSE NEIGHBOUR: 'it returns false'. Refute it at one input. -/
def swapBackWrong : ChangeSpec := { name := "swapBack", fn := fun _ => fun
  | [d1, d2, d3, d4] => { results := [.lit (.bool false)], args := [d1, d2, d3, d4] }
  | _ => none }
def SwapBackWrongFalsely : Prop := swapBackRow.holds Try.pinned (OpenSpec.ofChange swapBackWrong)

/-- 'skerrylaw22.SwapGoes': WHATEVER THE INPUT: true; the input reads as it did. -/
def swapGoesSpec : ChangeSpec := { name := "swapGoes", fn := fun _ => fun
  | [d1, d2, d3, d4] => { results := [.lit (.bool true)], args := [d1, d2, d3, d4] }
  | _ => none }
def swapGoesRow : OpenClaim := { program := "ytacecaacpagokaa", sum := "e2a21710c98cff45bb7e87b8756b2ffc2da4d55ea965b8b44608bdee71ab4582", func := "skerry/skerrylaw22.SwapGoes", spec := "swapGoes", inPlace := ["math.archTrunc", "math.Float64bits", "math.Float64frombits"], unfollowed := true, recurses := true, apart := false }
def SwapGoesSaid : Prop := swapGoesRow.holds Try.pinned (OpenSpec.ofChange swapGoesSpec)

/-- ITS FALSE NEIGHBOUR: 'it returns false'. Refute it at one input. -/
def swapGoesWrong : ChangeSpec := { name := "swapGoes", fn := fun _ => fun
  | [d1, d2, d3, d4] => { results := [.lit (.bool false)], args := [d1, d2, d3, d4] }
  | _ => none }
def SwapGoesWrongFalsely : Prop := swapGoesRow.holds Try.pinned (OpenSpec.ofChange swapGoesWrong)

/-- 'skerrylaw22.SwapKeeps': WHATEVER THE INPUT: true; the input reads as it did. -/
def swapKeepsSpec : ChangeSpec := { name := "swapKeeps", fn := fun _ => fun
  | [d1, d2, d3, d4] => { results := [.lit (.bool true)], args := [d1, d2, d3, d4] }
  | _ => none }
def swapKeepsRow : OpenClaim := { program := "ytacecaacpagokaa", sum := "e2a21710c98cff45bb7e87b8756b2ffc2da4d55ea965b8b44608bdee71ab4582", func := "skerry/skerrylaw22.SwapKeeps", spec := "swapKeeps", inPlace := ["math.archTrunc", "math.Float64bits", "math.Float64frombits"], unfollowed := true, recurses := true, apart := false }
def SwapKeepsSaid : Prop := swapKeepsRow.holds Try.pinned (OpenSpec.ofChange swapKeepsSpec)

/-- ITS FALSE NEIGHBOUR: 'it returns false'. Refute it at one input. -/
def swapKeepsWrong : ChangeSpec := { name := "swapKeeps", fn := fun _ => fun
  | [d1, d2, d3, d4] => { results := [.lit (.bool false)], args := [d1, d2, d3, d4] }
  | _ => none }
def SwapKeepsWrongFalsely : Prop := swapKeepsRow.holds Try.pinned (OpenSpec.ofChange swapKeepsWrong)

/-- 'skerrylaw22.SwapTorn': WHATEVER THE INPUT: true; the input reads as it did. -/
def swapTornSpec : ChangeSpec := { name := "swapTorn", fn := fun _ => fun
  | [d1, d2, d3, d4] => { results := [.lit (.bool true)], args := [d1, d2, d3, d4] }
  | _ => none }
def swapTornRow : OpenClaim := { program := "ytacecaacpagokaa", sum := "e2a21710c98cff45bb7e87b8756b2ffc2da4d55ea965b8b44608bdee71ab4582", func := "skerry/skerrylaw22.SwapTorn", spec := "swapTorn", inPlace := ["math.archTrunc", "math.Float64bits", "math.Float64frombits"], unfollowed := true, recurses := true, apart := false }
def SwapTornSaid : Prop := swapTornRow.holds Try.pinned (OpenSpec.ofChange swapTornSpec)

/-- ITS FALSE NEIGHBOUR: 'it returns false'. Refute it at one input. -/
def swapTornWrong : ChangeSpec := { name := "swapTorn", fn := fun _ => fun
  | [d1, d2, d3, d4] => { results := [.lit (.bool false)], args := [d1, d2, d3, d4] }
  | _ => none }
def SwapTornWrongFalsely : Prop := swapTornRow.holds Try.pinned (OpenSpec.ofChange swapTornWrong)

/- THE SECOND FORM. 'bulk': how many values and letters a reading holds, each counted each time it is reached (what is shared counts as often as it is met; a slice's spare places count too). A statement '..UptoSaid' is the law's where the arguments, and the package variables that the reading takes, are together of bulk at most 1048576: NARROWER than '..Said'. Prove '..Said' where nothing that the law and all that it calls make is longer than what came in: it says more and counts as full. Else prove '..UptoSaid'. A law counts once. -/
mutual
def uptoBulk {H : Type} : DataW H → Nat
  | .lit (.string bytes) => bytes.length + 1
  | .lit _ => 1
  | .nil => 1
  | .ptr d => uptoBulk d + 1
  | .slice elems spare => uptoBulkAll elems + uptoBulkAll spare + 1
  | .agg parts => uptoBulkAll parts + 1
  | .iface _ d => uptoBulk d + 1
  | .map entries => uptoBulkEntries entries + 1
  | .held _ => 1
def uptoBulkAll {H : Type} : List (DataW H) → Nat
  | [] => 0
  | d :: r => uptoBulk d + uptoBulkAll r
def uptoBulkEntries {H : Type} : List (Lit × DataW H) → Nat
  | [] => 0
  | x :: r => uptoBulkEntry x + uptoBulkEntries r
def uptoBulkEntry {H : Type} : Lit × DataW H → Nat
  | (.string bytes, d) => bytes.length + uptoBulk d + 1
  | (_, d) => uptoBulk d + 1
 end
def uptoSmall : (H : Type) → List (DataW H) → Bool := fun _ ds => decide (uptoBulkAll ds ≤ 1048576)
def OpenSpec.upto (s : _root_.Go.ChangeSpec) : _root_.Go.OpenSpec := { _root_.Go.OpenSpec.ofChange s with cond := some uptoSmall }

/-- 'skerrylaw22.SwapScans', WHERE WHAT IT READS IS OF BULK AT MOST 1048576: true; the input reads as it did. -/
def swapScansUptoRow : OpenClaim := { program := "ytacecaacpagokaa", sum := "e2a21710c98cff45bb7e87b8756b2ffc2da4d55ea965b8b44608bdee71ab4582", func := "skerry/skerrylaw22.SwapScans", spec := "swapScans", inPlace := ["math.archTrunc", "math.Float64bits", "math.Float64frombits"], unfollowed := true, recurses := true, apart := false, narrowed := true }
def SwapScansUptoSaid : Prop := swapScansUptoRow.holds Try.pinned (OpenSpec.upto swapScansSpec)

/-- 'skerrylaw22.SwapBack', WHERE WHAT IT READS IS OF BULK AT MOST 1048576: true; the input reads as it did. -/
def swapBackUptoRow : OpenClaim := { program := "ytacecaacpagokaa", sum := "e2a21710c98cff45bb7e87b8756b2ffc2da4d55ea965b8b44608bdee71ab4582", func := "skerry/skerrylaw22.SwapBack", spec := "swapBack", inPlace := ["math.archTrunc", "math.Float64bits", "math.Float64frombits"], unfollowed := true, recurses := true, apart := false, narrowed := true }
def SwapBackUptoSaid : Prop := swapBackUptoRow.holds Try.pinned (OpenSpec.upto swapBackSpec)

/-- 'skerrylaw22.SwapGoes', WHERE WHAT IT READS IS OF BULK AT MOST 1048576: true; the input reads as it did. -/
def swapGoesUptoRow : OpenClaim := { program := "ytacecaacpagokaa", sum := "e2a21710c98cff45bb7e87b8756b2ffc2da4d55ea965b8b44608bdee71ab4582", func := "skerry/skerrylaw22.SwapGoes", spec := "swapGoes", inPlace := ["math.archTrunc", "math.Float64bits", "math.Float64frombits"], unfollowed := true, recurses := true, apart := false, narrowed := true }
def SwapGoesUptoSaid : Prop := swapGoesUptoRow.holds Try.pinned (OpenSpec.upto swapGoesSpec)

/-- 'skerrylaw22.SwapKeeps', WHERE WHAT IT READS IS OF BULK AT MOST 1048576: true; the input reads as it did. -/
def swapKeepsUptoRow : OpenClaim := { program := "ytacecaacpagokaa", sum := "e2a21710c98cff45bb7e87b8756b2ffc2da4d55ea965b8b44608bdee71ab4582", func := "skerry/skerrylaw22.SwapKeeps", spec := "swapKeeps", inPlace := ["math.archTrunc", "math.Float64bits", "math.Float64frombits"], unfollowed := true, recurses := true, apart := false, narrowed := true }
def SwapKeepsUptoSaid : Prop := swapKeepsUptoRow.holds Try.pinned (OpenSpec.upto swapKeepsSpec)

/-- 'skerrylaw22.SwapTorn', WHERE WHAT IT READS IS OF BULK AT MOST 1048576: true; the input reads as it did. -/
def swapTornUptoRow : OpenClaim := { program := "ytacecaacpagokaa", sum := "e2a21710c98cff45bb7e87b8756b2ffc2da4d55ea965b8b44608bdee71ab4582", func := "skerry/skerrylaw22.SwapTorn", spec := "swapTorn", inPlace := ["math.archTrunc", "math.Float64bits", "math.Float64frombits"], unfollowed := true, recurses := true, apart := false, narrowed := true }
def SwapTornUptoSaid : Prop := swapTornUptoRow.holds Try.pinned (OpenSpec.upto swapTornSpec)

end Rows
end Go.Proofs.Ytacecaacpagokaa
