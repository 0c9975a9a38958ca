/-
  No cell of these rows narrows 'for every input' (looked for: loops, veiled, ifaces, maps, wideKeys, modest, calm, conditions, laid).
  DERIVED. THE GIVEN ROWS OF THIS SEAT. 4 by the template 'for every input the law returns true; each argument reads behind the call as it read before'; 0 by the template 'total and deterministic' (their statements: YtmjgmompcaanlaaTotals.lean).
  GIVEN WITH THE SEED: the statements are not yours to turn. If you find one false, say at which input.
  Laid BY PROGRAM, IN A SANDBOX (cutbox-rows.mjs): the forced cells as the released guide's own fill.sh prints them over the translation a6f5376c346b36e2… (all of the seat's roots in one cut). By AI agents, Wed Nov 11 2026. No macro, syntax, notation, axiom, sorry.
-/
import Derived.Test.YtmjgmompcaanlaaChecked
import GoSem.Claim
import GoSem.ClaimJoined
import GoSem.ClaimMapViews
import Derived.JoinedTies
import Derived.KernelRfl
namespace Go.Proofs.Ytmjgmompcaanlaa
/- THE CELL 'sum', in the pinned program and in every row, IS THE sha256 OF THE DUMP (.gsa) THAT YtmjgmompcaanlaaProg.lean LOADS. Nothing in Lean hashes anything: it is a label: what it is worth is what the hold of that sum in a sandbox is worth. -/
noncomputable def Try.pinned : Pinned := { name := "ytmjgmompcaanlaa", sum := "a6f5376c346b36e2a67dc4c0bf873c43e128a23ff795580fed014ed6d2d318e4", checked := Try.checked }
namespace Rows
def none {H : Type} : Left H := { results := [], args := [] }

/-- 'skerrylaw03.TurnBytes': WHATEVER THE INPUT: true; the input reads as it did. -/
def turnBytesSpec : ChangeSpec := { name := "turnBytes", fn := fun _ => fun
  | [d1, d2] => { results := [.lit (.bool true)], args := [d1, d2] }
  | _ => none }
def turnBytesRow : OpenClaim := { program := "ytmjgmompcaanlaa", sum := "a6f5376c346b36e2a67dc4c0bf873c43e128a23ff795580fed014ed6d2d318e4", func := "skerry/skerrylaw03.TurnBytes", spec := "turnBytes", apart := false }
def TurnBytesSaid : Prop := turnBytesRow.holds Try.pinned (OpenSpec.ofChange turnBytesSpec)

/-- ITS FALSE NEIGHBOUR: 'it returns false'. Refute it at one input. -/
def turnBytesWrong : ChangeSpec := { name := "turnBytes", fn := fun _ => fun
  | [d1, d2] => { results := [.lit (.bool false)], args := [d1, d2] }
  | _ => none }
def TurnBytesWrongFalsely : Prop := turnBytesRow.holds Try.pinned (OpenSpec.ofChange turnBytesWrong)

/-- 'skerrylaw03.TurnPowers': WHATEVER THE INPUT: true; the input reads as it did. -/
def turnPowersSpec : ChangeSpec := { name := "turnPowers", fn := fun _ => fun
  | [d1, d2] => { results := [.lit (.bool true)], args := [d1, d2] }
  | _ => none }
def turnPowersRow : OpenClaim := { program := "ytmjgmompcaanlaa", sum := "a6f5376c346b36e2a67dc4c0bf873c43e128a23ff795580fed014ed6d2d318e4", func := "skerry/skerrylaw03.TurnPowers", spec := "turnPowers", apart := false }
def TurnPowersSaid : Prop := turnPowersRow.holds Try.pinned (OpenSpec.ofChange turnPowersSpec)

/-- ITS FALSE NEIGHBOUR: 'it returns false'. Refute it at one input. -/
def turnPowersWrong : ChangeSpec := { name := "turnPowers", fn := fun _ => fun
  | [d1, d2] => { results := [.lit (.bool false)], args := [d1, d2] }
  | _ => none }
def TurnPowersWrongFalsely : Prop := turnPowersRow.holds Try.pinned (OpenSpec.ofChange turnPowersWrong)

/-- 'skerrylaw03.TurnBack': WHATEVER THE INPUT: true; the input reads as it did. -/
def turnBackSpec : ChangeSpec := { name := "turnBack", fn := fun _ => fun
  | [d] => { results := [.lit (.bool true)], args := [d] }
  | _ => none }
def turnBackRow : OpenClaim := { program := "ytmjgmompcaanlaa", sum := "a6f5376c346b36e2a67dc4c0bf873c43e128a23ff795580fed014ed6d2d318e4", func := "skerry/skerrylaw03.TurnBack", spec := "turnBack", inPlace := ["math.archTrunc", "math.Float64bits", "math.Float64frombits"], apart := false }
def TurnBackSaid : Prop := turnBackRow.holds Try.pinned (OpenSpec.ofChange turnBackSpec)

/-- ITS FALSE NEIGHBOUR: 'it returns false'. Refute it at one input. -/
def turnBackWrong : ChangeSpec := { name := "turnBack", fn := fun _ => fun
  | [d] => { results := [.lit (.bool false)], args := [d] }
  | _ => none }
def TurnBackWrongFalsely : Prop := turnBackRow.holds Try.pinned (OpenSpec.ofChange turnBackWrong)

/-- 'skerrylaw03.TurnWhole': WHATEVER THE INPUT: true; the input reads as it did. -/
def turnWholeSpec : ChangeSpec := { name := "turnWhole", fn := fun _ => fun
  | [d1, d2, d3] => { results := [.lit (.bool true)], args := [d1, d2, d3] }
  | _ => none }
def turnWholeRow : OpenClaim := { program := "ytmjgmompcaanlaa", sum := "a6f5376c346b36e2a67dc4c0bf873c43e128a23ff795580fed014ed6d2d318e4", func := "skerry/skerrylaw03.TurnWhole", spec := "turnWhole", inPlace := ["math.archTrunc", "math.Float64bits", "math.Float64frombits"], apart := false }
def TurnWholeSaid : Prop := turnWholeRow.holds Try.pinned (OpenSpec.ofChange turnWholeSpec)

/-- ITS FALSE NEIGHBOUR: 'it returns false'. Refute it at one input. -/
def turnWholeWrong : ChangeSpec := { name := "turnWhole", fn := fun _ => fun
  | [d1, d2, d3] => { results := [.lit (.bool false)], args := [d1, d2, d3] }
  | _ => none }
def TurnWholeWrongFalsely : Prop := turnWholeRow.holds Try.pinned (OpenSpec.ofChange turnWholeWrong)

/- THE SECOND FORM. 'bulk': how many values and letters a reading holds, each counted each time it is reached (what is shared counts as often as it is met; a slice's spare places count too). A statement '..UptoSaid' is the law's where the arguments, and the package variables that the reading takes, are together of bulk at most 1048576: NARROWER than '..Said'. Prove '..Said' where nothing that the law and all that it calls make is longer than what came in: it says more and counts as full. Else prove '..UptoSaid'. A law counts once. -/
mutual
def uptoBulk {H : Type} : DataW H → Nat
  | .lit (.string bytes) => bytes.length + 1
  | .lit _ => 1
  | .nil => 1
  | .ptr d => uptoBulk d + 1
  | .slice elems spare => uptoBulkAll elems + uptoBulkAll spare + 1
  | .agg parts => uptoBulkAll parts + 1
  | .iface _ d => uptoBulk d + 1
  | .map entries => uptoBulkEntries entries + 1
  | .held _ => 1
def uptoBulkAll {H : Type} : List (DataW H) → Nat
  | [] => 0
  | d :: r => uptoBulk d + uptoBulkAll r
def uptoBulkEntries {H : Type} : List (Lit × DataW H) → Nat
  | [] => 0
  | x :: r => uptoBulkEntry x + uptoBulkEntries r
def uptoBulkEntry {H : Type} : Lit × DataW H → Nat
  | (.string bytes, d) => bytes.length + uptoBulk d + 1
  | (_, d) => uptoBulk d + 1
 end
def uptoSmall : (H : Type) → List (DataW H) → Bool := fun _ ds => decide (uptoBulkAll ds ≤ 1048576)
def OpenSpec.upto (s : _root_.Go.ChangeSpec) : _root_.Go.OpenSpec := { _root_.Go.OpenSpec.ofChange s with cond := some uptoSmall }

/-- 'skerrylaw03.TurnBytes', WHERE WHAT IT READS IS OF BULK AT MOST 1048576: true; the input reads as it did. -/
def turnBytesUptoRow : OpenClaim := { program := "ytmjgmompcaanlaa", sum := "a6f5376c346b36e2a67dc4c0bf873c43e128a23ff795580fed014ed6d2d318e4", func := "skerry/skerrylaw03.TurnBytes", spec := "turnBytes", apart := false, narrowed := true }
def TurnBytesUptoSaid : Prop := turnBytesUptoRow.holds Try.pinned (OpenSpec.upto turnBytesSpec)

/-- 'skerrylaw03.TurnPowers', WHERE WHAT IT READS IS OF BULK AT MOST 1048576: true; the input reads as it did. -/
def turnPowersUptoRow : OpenClaim := { program := "ytmjgmompcaanlaa", sum := "a6f5376c346b36e2a67dc4c0bf873c43e128a23ff795580fed014ed6d2d318e4", func := "skerry/skerrylaw03.TurnPowers", spec := "turnPowers", apart := false, narrowed := true }
def TurnPowersUptoSaid : Prop := turnPowersUptoRow.holds Try.pinned (OpenSpec.upto turnPowersSpec)

/-- 'skerrylaw03.TurnBack', WHERE WHAT IT READS IS OF BULK AT MOST 1048576: true; the input reads as it did. -/
def turnBackUptoRow : OpenClaim := { program := "ytmjgmompcaanlaa", sum := "a6f5376c346b36e2a67dc4c0bf873c43e128a23ff795580fed014ed6d2d318e4", func := "skerry/skerrylaw03.TurnBack", spec := "turnBack", inPlace := ["math.archTrunc", "math.Float64bits", "math.Float64frombits"], apart := false, narrowed := true }
def TurnBackUptoSaid : Prop := turnBackUptoRow.holds Try.pinned (OpenSpec.upto turnBackSpec)

/-- 'skerrylaw03.TurnWhole', WHERE WHAT IT READS IS OF BULK AT MOST 1048576: true; the input reads as it did. -/
def turnWholeUptoRow : OpenClaim := { program := "ytmjgmompcaanlaa", sum := "a6f5376c346b36e2a67dc4c0bf873c43e128a23ff795580fed014ed6d2d318e4", func := "skerry/skerrylaw03.TurnWhole", spec := "turnWhole", inPlace := ["math.archTrunc", "math.Float64bits", "math.Float64frombits"], apart := false, narrowed := true }
def TurnWholeUptoSaid : Prop := turnWholeUptoRow.holds Try.pinned (OpenSpec.upto turnWholeSpec)

end Rows
end Go.Proofs.Ytmjgmompcaanlaa
