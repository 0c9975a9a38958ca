/-
  No cell of these rows narrows 'for every input' (looked for: loops, veiled, ifaces, maps, wideKeys, modest, calm, conditions, laid).
  DERIVED. THE GIVEN ROWS OF THIS SEAT. 6 by the template 'for every input the law returns true; each argument reads behind the call as it read before'; 0 by the template 'total and deterministic' (their statements: YtmjgmompcaanlabTotals.lean).
  GIVEN WITH THE SEED: the statements are not yours to turn. If you find one false, say at which input.
  Laid BY PROGRAM, IN A SANDBOX (cutbox-rows.mjs): the forced cells as the released guide's own fill.sh prints them over the translation ee35dc93bbd7811b… (all of the seat's roots in one cut). By AI agents, Wed Nov 11 2026. No macro, syntax, notation, axiom, sorry.
-/
import Derived.Test.YtmjgmompcaanlabChecked
import GoSem.Claim
import GoSem.ClaimJoined
import GoSem.ClaimMapViews
import Derived.JoinedTies
import Derived.KernelRfl
namespace Go.Proofs.Ytmjgmompcaanlab
/- THE CELL 'sum', in the pinned program and in every row, IS THE sha256 OF THE DUMP (.gsa) THAT YtmjgmompcaanlabProg.lean LOADS. Nothing in Lean hashes anything: it is a label: what it is worth is what the hold of that sum in a sandbox is worth. -/
noncomputable def Try.pinned : Pinned := { name := "ytmjgmompcaanlab", sum := "ee35dc93bbd7811b0d3c3b1855b1fded40fac57707d0714f9799aee3aac295a5", checked := Try.checked }
namespace Rows
def none {H : Type} : Left H := { results := [], args := [] }

/-- 'skerrylaw04.BitsMakes': WHATEVER THE INPUT: true; the input reads as it did. -/
def bitsMakesSpec : ChangeSpec := { name := "bitsMakes", fn := fun _ => fun
  | [d1, d2] => { results := [.lit (.bool true)], args := [d1, d2] }
  | _ => none }
def bitsMakesRow : OpenClaim := { program := "ytmjgmompcaanlab", sum := "ee35dc93bbd7811b0d3c3b1855b1fded40fac57707d0714f9799aee3aac295a5", func := "skerry/skerrylaw04.BitsMakes", spec := "bitsMakes", apart := false }
def BitsMakesSaid : Prop := bitsMakesRow.holds Try.pinned (OpenSpec.ofChange bitsMakesSpec)

/-- ITS FALSE NEIGHBOUR: 'it returns false'. Refute it at one input. -/
def bitsMakesWrong : ChangeSpec := { name := "bitsMakes", fn := fun _ => fun
  | [d1, d2] => { results := [.lit (.bool false)], args := [d1, d2] }
  | _ => none }
def BitsMakesWrongFalsely : Prop := bitsMakesRow.holds Try.pinned (OpenSpec.ofChange bitsMakesWrong)

/-- 'skerrylaw04.BitsSingle': WHATEVER THE INPUT: true; the input reads as it did. -/
def bitsSingleSpec : ChangeSpec := { name := "bitsSingle", fn := fun _ => fun
  | [d1, d2, d3] => { results := [.lit (.bool true)], args := [d1, d2, d3] }
  | _ => none }
def bitsSingleRow : OpenClaim := { program := "ytmjgmompcaanlab", sum := "ee35dc93bbd7811b0d3c3b1855b1fded40fac57707d0714f9799aee3aac295a5", func := "skerry/skerrylaw04.BitsSingle", spec := "bitsSingle", apart := false }
def BitsSingleSaid : Prop := bitsSingleRow.holds Try.pinned (OpenSpec.ofChange bitsSingleSpec)

/-- ITS FALSE NEIGHBOUR: 'it returns false'. Refute it at one input. -/
def bitsSingleWrong : ChangeSpec := { name := "bitsSingle", fn := fun _ => fun
  | [d1, d2, d3] => { results := [.lit (.bool false)], args := [d1, d2, d3] }
  | _ => none }
def BitsSingleWrongFalsely : Prop := bitsSingleRow.holds Try.pinned (OpenSpec.ofChange bitsSingleWrong)

/-- 'skerrylaw04.BitsTurns': WHATEVER THE INPUT: true; the input reads as it did. -/
def bitsTurnsSpec : ChangeSpec := { name := "bitsTurns", fn := fun _ => fun
  | [d1, d2, d3, d4] => { results := [.lit (.bool true)], args := [d1, d2, d3, d4] }
  | _ => none }
def bitsTurnsRow : OpenClaim := { program := "ytmjgmompcaanlab", sum := "ee35dc93bbd7811b0d3c3b1855b1fded40fac57707d0714f9799aee3aac295a5", func := "skerry/skerrylaw04.BitsTurns", spec := "bitsTurns", apart := false }
def BitsTurnsSaid : Prop := bitsTurnsRow.holds Try.pinned (OpenSpec.ofChange bitsTurnsSpec)

/-- ITS FALSE NEIGHBOUR: 'it returns false'. Refute it at one input. -/
def bitsTurnsWrong : ChangeSpec := { name := "bitsTurns", fn := fun _ => fun
  | [d1, d2, d3, d4] => { results := [.lit (.bool false)], args := [d1, d2, d3, d4] }
  | _ => none }
def BitsTurnsWrongFalsely : Prop := bitsTurnsRow.holds Try.pinned (OpenSpec.ofChange bitsTurnsWrong)

/-- 'skerrylaw04.BitsParts': WHATEVER THE INPUT: true; the input reads as it did. -/
def bitsPartsSpec : ChangeSpec := { name := "bitsParts", fn := fun _ => fun
  | [d1, d2, d3] => { results := [.lit (.bool true)], args := [d1, d2, d3] }
  | _ => none }
def bitsPartsRow : OpenClaim := { program := "ytmjgmompcaanlab", sum := "ee35dc93bbd7811b0d3c3b1855b1fded40fac57707d0714f9799aee3aac295a5", func := "skerry/skerrylaw04.BitsParts", spec := "bitsParts", apart := false }
def BitsPartsSaid : Prop := bitsPartsRow.holds Try.pinned (OpenSpec.ofChange bitsPartsSpec)

/-- ITS FALSE NEIGHBOUR: 'it returns false'. Refute it at one input. -/
def bitsPartsWrong : ChangeSpec := { name := "bitsParts", fn := fun _ => fun
  | [d1, d2, d3] => { results := [.lit (.bool false)], args := [d1, d2, d3] }
  | _ => none }
def BitsPartsWrongFalsely : Prop := bitsPartsRow.holds Try.pinned (OpenSpec.ofChange bitsPartsWrong)

/-- 'skerrylaw04.BitsTakes': WHATEVER THE INPUT: true; the input reads as it did. -/
def bitsTakesSpec : ChangeSpec := { name := "bitsTakes", fn := fun _ => fun
  | [d1, d2, d3] => { results := [.lit (.bool true)], args := [d1, d2, d3] }
  | _ => none }
def bitsTakesRow : OpenClaim := { program := "ytmjgmompcaanlab", sum := "ee35dc93bbd7811b0d3c3b1855b1fded40fac57707d0714f9799aee3aac295a5", func := "skerry/skerrylaw04.BitsTakes", spec := "bitsTakes", apart := false }
def BitsTakesSaid : Prop := bitsTakesRow.holds Try.pinned (OpenSpec.ofChange bitsTakesSpec)

/-- ITS FALSE NEIGHBOUR: 'it returns false'. Refute it at one input. -/
def bitsTakesWrong : ChangeSpec := { name := "bitsTakes", fn := fun _ => fun
  | [d1, d2, d3] => { results := [.lit (.bool false)], args := [d1, d2, d3] }
  | _ => none }
def BitsTakesWrongFalsely : Prop := bitsTakesRow.holds Try.pinned (OpenSpec.ofChange bitsTakesWrong)

/-- 'skerrylaw04.BitsKeeps': WHATEVER THE INPUT: true; the input reads as it did. -/
def bitsKeepsSpec : ChangeSpec := { name := "bitsKeeps", fn := fun _ => fun
  | [d1, d2, d3] => { results := [.lit (.bool true)], args := [d1, d2, d3] }
  | _ => none }
def bitsKeepsRow : OpenClaim := { program := "ytmjgmompcaanlab", sum := "ee35dc93bbd7811b0d3c3b1855b1fded40fac57707d0714f9799aee3aac295a5", func := "skerry/skerrylaw04.BitsKeeps", spec := "bitsKeeps", apart := false }
def BitsKeepsSaid : Prop := bitsKeepsRow.holds Try.pinned (OpenSpec.ofChange bitsKeepsSpec)

/-- ITS FALSE NEIGHBOUR: 'it returns false'. Refute it at one input. -/
def bitsKeepsWrong : ChangeSpec := { name := "bitsKeeps", fn := fun _ => fun
  | [d1, d2, d3] => { results := [.lit (.bool false)], args := [d1, d2, d3] }
  | _ => none }
def BitsKeepsWrongFalsely : Prop := bitsKeepsRow.holds Try.pinned (OpenSpec.ofChange bitsKeepsWrong)

/- THE SECOND FORM. 'bulk': how many values and letters a reading holds, each counted each time it is reached (what is shared counts as often as it is met; a slice's spare places count too). A statement '..UptoSaid' is the law's where the arguments, and the package variables that the reading takes, are together of bulk at most 1048576: NARROWER than '..Said'. Prove '..Said' where nothing that the law and all that it calls make is longer than what came in: it says more and counts as full. Else prove '..UptoSaid'. A law counts once. -/
mutual
def uptoBulk {H : Type} : DataW H → Nat
  | .lit (.string bytes) => bytes.length + 1
  | .lit _ => 1
  | .nil => 1
  | .ptr d => uptoBulk d + 1
  | .slice elems spare => uptoBulkAll elems + uptoBulkAll spare + 1
  | .agg parts => uptoBulkAll parts + 1
  | .iface _ d => uptoBulk d + 1
  | .map entries => uptoBulkEntries entries + 1
  | .held _ => 1
def uptoBulkAll {H : Type} : List (DataW H) → Nat
  | [] => 0
  | d :: r => uptoBulk d + uptoBulkAll r
def uptoBulkEntries {H : Type} : List (Lit × DataW H) → Nat
  | [] => 0
  | x :: r => uptoBulkEntry x + uptoBulkEntries r
def uptoBulkEntry {H : Type} : Lit × DataW H → Nat
  | (.string bytes, d) => bytes.length + uptoBulk d + 1
  | (_, d) => uptoBulk d + 1
 end
def uptoSmall : (H : Type) → List (DataW H) → Bool := fun _ ds => decide (uptoBulkAll ds ≤ 1048576)
def OpenSpec.upto (s : _root_.Go.ChangeSpec) : _root_.Go.OpenSpec := { _root_.Go.OpenSpec.ofChange s with cond := some uptoSmall }

/-- 'skerrylaw04.BitsMakes', WHERE WHAT IT READS IS OF BULK AT MOST 1048576: true; the input reads as it did. -/
def bitsMakesUptoRow : OpenClaim := { program := "ytmjgmompcaanlab", sum := "ee35dc93bbd7811b0d3c3b1855b1fded40fac57707d0714f9799aee3aac295a5", func := "skerry/skerrylaw04.BitsMakes", spec := "bitsMakes", apart := false, narrowed := true }
def BitsMakesUptoSaid : Prop := bitsMakesUptoRow.holds Try.pinned (OpenSpec.upto bitsMakesSpec)

/-- 'skerrylaw04.BitsSingle', WHERE WHAT IT READS IS OF BULK AT MOST 1048576: true; the input reads as it did. -/
def bitsSingleUptoRow : OpenClaim := { program := "ytmjgmompcaanlab", sum := "ee35dc93bbd7811b0d3c3b1855b1fded40fac57707d0714f9799aee3aac295a5", func := "skerry/skerrylaw04.BitsSingle", spec := "bitsSingle", apart := false, narrowed := true }
def BitsSingleUptoSaid : Prop := bitsSingleUptoRow.holds Try.pinned (OpenSpec.upto bitsSingleSpec)

/-- 'skerrylaw04.BitsTurns', WHERE WHAT IT READS IS OF BULK AT MOST 1048576: true; the input reads as it did. -/
def bitsTurnsUptoRow : OpenClaim := { program := "ytmjgmompcaanlab", sum := "ee35dc93bbd7811b0d3c3b1855b1fded40fac57707d0714f9799aee3aac295a5", func := "skerry/skerrylaw04.BitsTurns", spec := "bitsTurns", apart := false, narrowed := true }
def BitsTurnsUptoSaid : Prop := bitsTurnsUptoRow.holds Try.pinned (OpenSpec.upto bitsTurnsSpec)

/-- 'skerrylaw04.BitsParts', WHERE WHAT IT READS IS OF BULK AT MOST 1048576: true; the input reads as it did. -/
def bitsPartsUptoRow : OpenClaim := { program := "ytmjgmompcaanlab", sum := "ee35dc93bbd7811b0d3c3b1855b1fded40fac57707d0714f9799aee3aac295a5", func := "skerry/skerrylaw04.BitsParts", spec := "bitsParts", apart := false, narrowed := true }
def BitsPartsUptoSaid : Prop := bitsPartsUptoRow.holds Try.pinned (OpenSpec.upto bitsPartsSpec)

/-- 'skerrylaw04.BitsTakes', WHERE WHAT IT READS IS OF BULK AT MOST 1048576: true; the input reads as it did. -/
def bitsTakesUptoRow : OpenClaim := { program := "ytmjgmompcaanlab", sum := "ee35dc93bbd7811b0d3c3b1855b1fded40fac57707d0714f9799aee3aac295a5", func := "skerry/skerrylaw04.BitsTakes", spec := "bitsTakes", apart := false, narrowed := true }
def BitsTakesUptoSaid : Prop := bitsTakesUptoRow.holds Try.pinned (OpenSpec.upto bitsTakesSpec)

/-- 'skerrylaw04.BitsKeeps', WHERE WHAT IT READS IS OF BULK AT MOST 1048576: true; the input reads as it did. -/
def bitsKeepsUptoRow : OpenClaim := { program := "ytmjgmompcaanlab", sum := "ee35dc93bbd7811b0d3c3b1855b1fded40fac57707d0714f9799aee3aac295a5", func := "skerry/skerrylaw04.BitsKeeps", spec := "bitsKeeps", apart := false, narrowed := true }
def BitsKeepsUptoSaid : Prop := bitsKeepsUptoRow.holds Try.pinned (OpenSpec.upto bitsKeepsSpec)

end Rows
end Go.Proofs.Ytmjgmompcaanlab
