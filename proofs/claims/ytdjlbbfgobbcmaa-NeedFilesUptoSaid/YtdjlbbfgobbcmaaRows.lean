/-
  No cell of these rows narrows 'for every input' (looked for: loops, veiled, ifaces, maps, wideKeys, modest, calm, conditions, laid).
  DERIVED. THE GIVEN ROWS OF THIS SEAT. 3 by the template 'for every input the law returns true; each argument reads behind the call as it read before'; 0 by the template 'total and deterministic' (their statements: YtdjlbbfgobbcmaaTotals.lean).
  GIVEN WITH THE SEED: the statements are not yours to turn. If you find one false, say at which input.
  Laid BY PROGRAM, IN A SANDBOX (cutbox-rows.mjs): the forced cells as the released guide's own fill.sh prints them over the translation 5e5d87a160ef4d06… (all of the seat's roots in one cut). By AI agents, Wed Nov 11 2026. No macro, syntax, notation, axiom, sorry.
-/
import Derived.Test.YtdjlbbfgobbcmaaChecked
import GoSem.Claim
import GoSem.ClaimJoined
import GoSem.ClaimMapViews
import Derived.JoinedTies
import Derived.KernelRfl
namespace Go.Proofs.Ytdjlbbfgobbcmaa
/- THE CELL 'sum', in the pinned program and in every row, IS THE sha256 OF THE DUMP (.gsa) THAT YtdjlbbfgobbcmaaProg.lean LOADS. Nothing in Lean hashes anything: it is a label: what it is worth is what the hold of that sum in a sandbox is worth. -/
noncomputable def Try.pinned : Pinned := { name := "ytdjlbbfgobbcmaa", sum := "5e5d87a160ef4d0616305ed7f1edc82cb62e7d2b0d2ffbec8e411f2b666e3b10", checked := Try.checked }
namespace Rows
def none {H : Type} : Left H := { results := [], args := [] }

/-- 'skerrylaw10.NeedGrows': WHATEVER THE INPUT: true; the input reads as it did. -/
def needGrowsSpec : ChangeSpec := { name := "needGrows", fn := fun _ => fun
  | [d1, d2, d3] => { results := [.lit (.bool true)], args := [d1, d2, d3] }
  | _ => none }
def needGrowsRow : OpenClaim := { program := "ytdjlbbfgobbcmaa", sum := "5e5d87a160ef4d0616305ed7f1edc82cb62e7d2b0d2ffbec8e411f2b666e3b10", func := "skerry/skerrylaw10.NeedGrows", spec := "needGrows", inPlace := ["math.archTrunc", "math.Float64bits", "math.Float64frombits"], unfollowed := true, recurses := true, apart := false }
def NeedGrowsSaid : Prop := needGrowsRow.holds Try.pinned (OpenSpec.ofChange needGrowsSpec)

/-- ITS FALSE NEIGHBOUR: 'it returns false'. Refute it at one input. -/
def needGrowsWrong : ChangeSpec := { name := "needGrows", fn := fun _ => fun
  | [d1, d2, d3] => { results := [.lit (.bool false)], args := [d1, d2, d3] }
  | _ => none }
def NeedGrowsWrongFalsely : Prop := needGrowsRow.holds Try.pinned (OpenSpec.ofChange needGrowsWrong)

/-- 'skerrylaw10.NeedWhole': WHATEVER THE INPUT: true; the input reads as it did. -/
def needWholeSpec : ChangeSpec := { name := "needWhole", fn := fun _ => fun
  | [d1, d2, d3, d4] => { results := [.lit (.bool true)], args := [d1, d2, d3, d4] }
  | _ => none }
def needWholeRow : OpenClaim := { program := "ytdjlbbfgobbcmaa", sum := "5e5d87a160ef4d0616305ed7f1edc82cb62e7d2b0d2ffbec8e411f2b666e3b10", func := "skerry/skerrylaw10.NeedWhole", spec := "needWhole", inPlace := ["math.archTrunc", "math.Float64bits", "math.Float64frombits"], unfollowed := true, recurses := true, apart := false }
def NeedWholeSaid : Prop := needWholeRow.holds Try.pinned (OpenSpec.ofChange needWholeSpec)

/-- ITS FALSE NEIGHBOUR: 'it returns false'. Refute it at one input. -/
def needWholeWrong : ChangeSpec := { name := "needWhole", fn := fun _ => fun
  | [d1, d2, d3, d4] => { results := [.lit (.bool false)], args := [d1, d2, d3, d4] }
  | _ => none }
def NeedWholeWrongFalsely : Prop := needWholeRow.holds Try.pinned (OpenSpec.ofChange needWholeWrong)

/-- 'skerrylaw10.NeedFiles': WHATEVER THE INPUT: true; the input reads as it did. -/
def needFilesSpec : ChangeSpec := { name := "needFiles", fn := fun _ => fun
  | [d1, d2, d3, d4] => { results := [.lit (.bool true)], args := [d1, d2, d3, d4] }
  | _ => none }
def needFilesRow : OpenClaim := { program := "ytdjlbbfgobbcmaa", sum := "5e5d87a160ef4d0616305ed7f1edc82cb62e7d2b0d2ffbec8e411f2b666e3b10", func := "skerry/skerrylaw10.NeedFiles", spec := "needFiles", inPlace := ["math.archTrunc", "math.Float64bits", "math.Float64frombits"], unfollowed := true, recurses := true, apart := false }
def NeedFilesSaid : Prop := needFilesRow.holds Try.pinned (OpenSpec.ofChange needFilesSpec)

/-- ITS FALSE NEIGHBOUR: 'it returns false'. Refute it at one input. -/
def needFilesWrong : ChangeSpec := { name := "needFiles", fn := fun _ => fun
  | [d1, d2, d3, d4] => { results := [.lit (.bool false)], args := [d1, d2, d3, d4] }
  | _ => none }
def NeedFilesWrongFalsely : Prop := needFilesRow.holds Try.pinned (OpenSpec.ofChange needFilesWrong)

/- THE SECOND FORM. 'bulk': how many values and letters a reading holds, each counted each time it is reached (what is shared counts as often as it is met; a slice's spare places count too). A statement '..UptoSaid' is the law's where the arguments, and the package variables that the reading takes, are together of bulk at most 1048576: NARROWER than '..Said'. Prove '..Said' where nothing that the law and all that it calls make is longer than what came in: it says more and counts as full. Else prove '..UptoSaid'. A law counts once. -/
mutual
def uptoBulk {H : Type} : DataW H → Nat
  | .lit (.string bytes) => bytes.length + 1
  | .lit _ => 1
  | .nil => 1
  | .ptr d => uptoBulk d + 1
  | .slice elems spare => uptoBulkAll elems + uptoBulkAll spare + 1
  | .agg parts => uptoBulkAll parts + 1
  | .iface _ d => uptoBulk d + 1
  | .map entries => uptoBulkEntries entries + 1
  | .held _ => 1
def uptoBulkAll {H : Type} : List (DataW H) → Nat
  | [] => 0
  | d :: r => uptoBulk d + uptoBulkAll r
def uptoBulkEntries {H : Type} : List (Lit × DataW H) → Nat
  | [] => 0
  | x :: r => uptoBulkEntry x + uptoBulkEntries r
def uptoBulkEntry {H : Type} : Lit × DataW H → Nat
  | (.string bytes, d) => bytes.length + uptoBulk d + 1
  | (_, d) => uptoBulk d + 1
 end
def uptoSmall : (H : Type) → List (DataW H) → Bool := fun _ ds => decide (uptoBulkAll ds ≤ 1048576)
def OpenSpec.upto (s : _root_.Go.ChangeSpec) : _root_.Go.OpenSpec := { _root_.Go.OpenSpec.ofChange s with cond := some uptoSmall }

/-- 'skerrylaw10.NeedGrows', WHERE WHAT IT READS IS OF BULK AT MOST 1048576: true; the input reads as it did. -/
def needGrowsUptoRow : OpenClaim := { program := "ytdjlbbfgobbcmaa", sum := "5e5d87a160ef4d0616305ed7f1edc82cb62e7d2b0d2ffbec8e411f2b666e3b10", func := "skerry/skerrylaw10.NeedGrows", spec := "needGrows", inPlace := ["math.archTrunc", "math.Float64bits", "math.Float64frombits"], unfollowed := true, recurses := true, apart := false, narrowed := true }
def NeedGrowsUptoSaid : Prop := needGrowsUptoRow.holds Try.pinned (OpenSpec.upto needGrowsSpec)

/-- 'skerrylaw10.NeedWhole', WHERE WHAT IT READS IS OF BULK AT MOST 1048576: true; the input reads as it did. -/
def needWholeUptoRow : OpenClaim := { program := "ytdjlbbfgobbcmaa", sum := "5e5d87a160ef4d0616305ed7f1edc82cb62e7d2b0d2ffbec8e411f2b666e3b10", func := "skerry/skerrylaw10.NeedWhole", spec := "needWhole", inPlace := ["math.archTrunc", "math.Float64bits", "math.Float64frombits"], unfollowed := true, recurses := true, apart := false, narrowed := true }
def NeedWholeUptoSaid : Prop := needWholeUptoRow.holds Try.pinned (OpenSpec.upto needWholeSpec)

/-- 'skerrylaw10.NeedFiles', WHERE WHAT IT READS IS OF BULK AT MOST 1048576: true; the input reads as it did. -/
def needFilesUptoRow : OpenClaim := { program := "ytdjlbbfgobbcmaa", sum := "5e5d87a160ef4d0616305ed7f1edc82cb62e7d2b0d2ffbec8e411f2b666e3b10", func := "skerry/skerrylaw10.NeedFiles", spec := "needFiles", inPlace := ["math.archTrunc", "math.Float64bits", "math.Float64frombits"], unfollowed := true, recurses := true, apart := false, narrowed := true }
def NeedFilesUptoSaid : Prop := needFilesUptoRow.holds Try.pinned (OpenSpec.upto needFilesSpec)

end Rows
end Go.Proofs.Ytdjlbbfgobbcmaa
