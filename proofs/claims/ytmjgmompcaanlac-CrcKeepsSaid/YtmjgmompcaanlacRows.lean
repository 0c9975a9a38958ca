/-
  No cell of these rows narrows 'for every input' (looked for: loops, veiled, ifaces, maps, wideKeys, modest, calm, conditions, laid).
  DERIVED. THE GIVEN ROWS OF THIS SEAT. 6 by the template 'for every input the law returns true; each argument reads behind the call as it read before'; 0 by the template 'total and deterministic' (their statements: YtmjgmompcaanlacTotals.lean).
  GIVEN WITH THE SEED: the statements are not yours to turn. If you find one false, say at which input.
  Laid BY PROGRAM, IN A SANDBOX (cutbox-rows.mjs): the forced cells as the released guide's own fill.sh prints them over the translation 6b2d736adad7e8f3… (all of the seat's roots in one cut). By AI agents, Wed Nov 11 2026. No macro, syntax, notation, axiom, sorry.
-/
import Derived.Test.YtmjgmompcaanlacChecked
import GoSem.Claim
import GoSem.ClaimJoined
import GoSem.ClaimMapViews
import Derived.JoinedTies
import Derived.KernelRfl
namespace Go.Proofs.Ytmjgmompcaanlac
/- THE CELL 'sum', in the pinned program and in every row, IS THE sha256 OF THE DUMP (.gsa) THAT YtmjgmompcaanlacProg.lean LOADS. Nothing in Lean hashes anything: it is a label: what it is worth is what the hold of that sum in a sandbox is worth. -/
noncomputable def Try.pinned : Pinned := { name := "ytmjgmompcaanlac", sum := "6b2d736adad7e8f385cf0890b408d5603ff0d2be8a96541fc04a278ab46071c8", checked := Try.checked }
namespace Rows
def none {H : Type} : Left H := { results := [], args := [] }

/-- 'skerrylaw02.CrcFlips': WHATEVER THE INPUT: true; the input reads as it did. -/
def crcFlipsSpec : ChangeSpec := { name := "crcFlips", fn := fun _ => fun
  | [d1, d2, d3, d4] => { results := [.lit (.bool true)], args := [d1, d2, d3, d4] }
  | _ => none }
def crcFlipsRow : OpenClaim := { program := "ytmjgmompcaanlac", sum := "6b2d736adad7e8f385cf0890b408d5603ff0d2be8a96541fc04a278ab46071c8", func := "skerry/skerrylaw02.CrcFlips", spec := "crcFlips", apart := false }
def CrcFlipsSaid : Prop := crcFlipsRow.holds Try.pinned (OpenSpec.ofChange crcFlipsSpec)

/-- ITS FALSE NEIGHBOUR: 'it returns false'. Refute it at one input. -/
def crcFlipsWrong : ChangeSpec := { name := "crcFlips", fn := fun _ => fun
  | [d1, d2, d3, d4] => { results := [.lit (.bool false)], args := [d1, d2, d3, d4] }
  | _ => none }
def CrcFlipsWrongFalsely : Prop := crcFlipsRow.holds Try.pinned (OpenSpec.ofChange crcFlipsWrong)

/-- 'skerrylaw02.CrcSums': WHATEVER THE INPUT: true; the input reads as it did. -/
def crcSumsSpec : ChangeSpec := { name := "crcSums", fn := fun _ => fun
  | [d1, d2] => { results := [.lit (.bool true)], args := [d1, d2] }
  | _ => none }
def crcSumsRow : OpenClaim := { program := "ytmjgmompcaanlac", sum := "6b2d736adad7e8f385cf0890b408d5603ff0d2be8a96541fc04a278ab46071c8", func := "skerry/skerrylaw02.CrcSums", spec := "crcSums", apart := false }
def CrcSumsSaid : Prop := crcSumsRow.holds Try.pinned (OpenSpec.ofChange crcSumsSpec)

/-- ITS FALSE NEIGHBOUR: 'it returns false'. Refute it at one input. -/
def crcSumsWrong : ChangeSpec := { name := "crcSums", fn := fun _ => fun
  | [d1, d2] => { results := [.lit (.bool false)], args := [d1, d2] }
  | _ => none }
def CrcSumsWrongFalsely : Prop := crcSumsRow.holds Try.pinned (OpenSpec.ofChange crcSumsWrong)

/-- 'skerrylaw02.CrcJoins': WHATEVER THE INPUT: true; the input reads as it did. -/
def crcJoinsSpec : ChangeSpec := { name := "crcJoins", fn := fun _ => fun
  | [d1, d2] => { results := [.lit (.bool true)], args := [d1, d2] }
  | _ => none }
def crcJoinsRow : OpenClaim := { program := "ytmjgmompcaanlac", sum := "6b2d736adad7e8f385cf0890b408d5603ff0d2be8a96541fc04a278ab46071c8", func := "skerry/skerrylaw02.CrcJoins", spec := "crcJoins", apart := false }
def CrcJoinsSaid : Prop := crcJoinsRow.holds Try.pinned (OpenSpec.ofChange crcJoinsSpec)

/-- ITS FALSE NEIGHBOUR: 'it returns false'. Refute it at one input. -/
def crcJoinsWrong : ChangeSpec := { name := "crcJoins", fn := fun _ => fun
  | [d1, d2] => { results := [.lit (.bool false)], args := [d1, d2] }
  | _ => none }
def CrcJoinsWrongFalsely : Prop := crcJoinsRow.holds Try.pinned (OpenSpec.ofChange crcJoinsWrong)

/-- 'skerrylaw02.CrcFrames': WHATEVER THE INPUT: true; the input reads as it did. -/
def crcFramesSpec : ChangeSpec := { name := "crcFrames", fn := fun _ => fun
  | [d1, d2] => { results := [.lit (.bool true)], args := [d1, d2] }
  | _ => none }
def crcFramesRow : OpenClaim := { program := "ytmjgmompcaanlac", sum := "6b2d736adad7e8f385cf0890b408d5603ff0d2be8a96541fc04a278ab46071c8", func := "skerry/skerrylaw02.CrcFrames", spec := "crcFrames", unfollowed := true, recurses := true, apart := false }
def CrcFramesSaid : Prop := crcFramesRow.holds Try.pinned (OpenSpec.ofChange crcFramesSpec)

/-- ITS FALSE NEIGHBOUR: 'it returns false'. Refute it at one input. -/
def crcFramesWrong : ChangeSpec := { name := "crcFrames", fn := fun _ => fun
  | [d1, d2] => { results := [.lit (.bool false)], args := [d1, d2] }
  | _ => none }
def CrcFramesWrongFalsely : Prop := crcFramesRow.holds Try.pinned (OpenSpec.ofChange crcFramesWrong)

/-- 'skerrylaw02.CrcBack': WHATEVER THE INPUT: true; the input reads as it did. -/
def crcBackSpec : ChangeSpec := { name := "crcBack", fn := fun _ => fun
  | [d1, d2, d3, d4] => { results := [.lit (.bool true)], args := [d1, d2, d3, d4] }
  | _ => none }
def crcBackRow : OpenClaim := { program := "ytmjgmompcaanlac", sum := "6b2d736adad7e8f385cf0890b408d5603ff0d2be8a96541fc04a278ab46071c8", func := "skerry/skerrylaw02.CrcBack", spec := "crcBack", unfollowed := true, recurses := true, apart := false }
def CrcBackSaid : Prop := crcBackRow.holds Try.pinned (OpenSpec.ofChange crcBackSpec)

/-- ITS FALSE NEIGHBOUR: 'it returns false'. Refute it at one input. -/
def crcBackWrong : ChangeSpec := { name := "crcBack", fn := fun _ => fun
  | [d1, d2, d3, d4] => { results := [.lit (.bool false)], args := [d1, d2, d3, d4] }
  | _ => none }
def CrcBackWrongFalsely : Prop := crcBackRow.holds Try.pinned (OpenSpec.ofChange crcBackWrong)

/-- 'skerrylaw02.CrcKeeps': WHATEVER THE INPUT: true; the input reads as it did. -/
def crcKeepsSpec : ChangeSpec := { name := "crcKeeps", fn := fun _ => fun
  | [d1, d2] => { results := [.lit (.bool true)], args := [d1, d2] }
  | _ => none }
def crcKeepsRow : OpenClaim := { program := "ytmjgmompcaanlac", sum := "6b2d736adad7e8f385cf0890b408d5603ff0d2be8a96541fc04a278ab46071c8", func := "skerry/skerrylaw02.CrcKeeps", spec := "crcKeeps", unfollowed := true, recurses := true, apart := false }
def CrcKeepsSaid : Prop := crcKeepsRow.holds Try.pinned (OpenSpec.ofChange crcKeepsSpec)

/-- ITS FALSE NEIGHBOUR: 'it returns false'. Refute it at one input. -/
def crcKeepsWrong : ChangeSpec := { name := "crcKeeps", fn := fun _ => fun
  | [d1, d2] => { results := [.lit (.bool false)], args := [d1, d2] }
  | _ => none }
def CrcKeepsWrongFalsely : Prop := crcKeepsRow.holds Try.pinned (OpenSpec.ofChange crcKeepsWrong)

/- THE SECOND FORM. 'bulk': how many values and letters a reading holds, each counted each time it is reached (what is shared counts as often as it is met; a slice's spare places count too). A statement '..UptoSaid' is the law's where the arguments, and the package variables that the reading takes, are together of bulk at most 1048576: NARROWER than '..Said'. Prove '..Said' where nothing that the law and all that it calls make is longer than what came in: it says more and counts as full. Else prove '..UptoSaid'. A law counts once. -/
mutual
def uptoBulk {H : Type} : DataW H → Nat
  | .lit (.string bytes) => bytes.length + 1
  | .lit _ => 1
  | .nil => 1
  | .ptr d => uptoBulk d + 1
  | .slice elems spare => uptoBulkAll elems + uptoBulkAll spare + 1
  | .agg parts => uptoBulkAll parts + 1
  | .iface _ d => uptoBulk d + 1
  | .map entries => uptoBulkEntries entries + 1
  | .held _ => 1
def uptoBulkAll {H : Type} : List (DataW H) → Nat
  | [] => 0
  | d :: r => uptoBulk d + uptoBulkAll r
def uptoBulkEntries {H : Type} : List (Lit × DataW H) → Nat
  | [] => 0
  | x :: r => uptoBulkEntry x + uptoBulkEntries r
def uptoBulkEntry {H : Type} : Lit × DataW H → Nat
  | (.string bytes, d) => bytes.length + uptoBulk d + 1
  | (_, d) => uptoBulk d + 1
 end
def uptoSmall : (H : Type) → List (DataW H) → Bool := fun _ ds => decide (uptoBulkAll ds ≤ 1048576)
def OpenSpec.upto (s : _root_.Go.ChangeSpec) : _root_.Go.OpenSpec := { _root_.Go.OpenSpec.ofChange s with cond := some uptoSmall }

/-- 'skerrylaw02.CrcFlips', WHERE WHAT IT READS IS OF BULK AT MOST 1048576: true; the input reads as it did. -/
def crcFlipsUptoRow : OpenClaim := { program := "ytmjgmompcaanlac", sum := "6b2d736adad7e8f385cf0890b408d5603ff0d2be8a96541fc04a278ab46071c8", func := "skerry/skerrylaw02.CrcFlips", spec := "crcFlips", apart := false, narrowed := true }
def CrcFlipsUptoSaid : Prop := crcFlipsUptoRow.holds Try.pinned (OpenSpec.upto crcFlipsSpec)

/-- 'skerrylaw02.CrcSums', WHERE WHAT IT READS IS OF BULK AT MOST 1048576: true; the input reads as it did. -/
def crcSumsUptoRow : OpenClaim := { program := "ytmjgmompcaanlac", sum := "6b2d736adad7e8f385cf0890b408d5603ff0d2be8a96541fc04a278ab46071c8", func := "skerry/skerrylaw02.CrcSums", spec := "crcSums", apart := false, narrowed := true }
def CrcSumsUptoSaid : Prop := crcSumsUptoRow.holds Try.pinned (OpenSpec.upto crcSumsSpec)

/-- 'skerrylaw02.CrcJoins', WHERE WHAT IT READS IS OF BULK AT MOST 1048576: true; the input reads as it did. -/
def crcJoinsUptoRow : OpenClaim := { program := "ytmjgmompcaanlac", sum := "6b2d736adad7e8f385cf0890b408d5603ff0d2be8a96541fc04a278ab46071c8", func := "skerry/skerrylaw02.CrcJoins", spec := "crcJoins", apart := false, narrowed := true }
def CrcJoinsUptoSaid : Prop := crcJoinsUptoRow.holds Try.pinned (OpenSpec.upto crcJoinsSpec)

/-- 'skerrylaw02.CrcFrames', WHERE WHAT IT READS IS OF BULK AT MOST 1048576: true; the input reads as it did. -/
def crcFramesUptoRow : OpenClaim := { program := "ytmjgmompcaanlac", sum := "6b2d736adad7e8f385cf0890b408d5603ff0d2be8a96541fc04a278ab46071c8", func := "skerry/skerrylaw02.CrcFrames", spec := "crcFrames", unfollowed := true, recurses := true, apart := false, narrowed := true }
def CrcFramesUptoSaid : Prop := crcFramesUptoRow.holds Try.pinned (OpenSpec.upto crcFramesSpec)

/-- 'skerrylaw02.CrcBack', WHERE WHAT IT READS IS OF BULK AT MOST 1048576: true; the input reads as it did. -/
def crcBackUptoRow : OpenClaim := { program := "ytmjgmompcaanlac", sum := "6b2d736adad7e8f385cf0890b408d5603ff0d2be8a96541fc04a278ab46071c8", func := "skerry/skerrylaw02.CrcBack", spec := "crcBack", unfollowed := true, recurses := true, apart := false, narrowed := true }
def CrcBackUptoSaid : Prop := crcBackUptoRow.holds Try.pinned (OpenSpec.upto crcBackSpec)

/-- 'skerrylaw02.CrcKeeps', WHERE WHAT IT READS IS OF BULK AT MOST 1048576: true; the input reads as it did. -/
def crcKeepsUptoRow : OpenClaim := { program := "ytmjgmompcaanlac", sum := "6b2d736adad7e8f385cf0890b408d5603ff0d2be8a96541fc04a278ab46071c8", func := "skerry/skerrylaw02.CrcKeeps", spec := "crcKeeps", unfollowed := true, recurses := true, apart := false, narrowed := true }
def CrcKeepsUptoSaid : Prop := crcKeepsUptoRow.holds Try.pinned (OpenSpec.upto crcKeepsSpec)

end Rows
end Go.Proofs.Ytmjgmompcaanlac
