/-
  No cell of these rows narrows 'for every input' (looked for: loops, veiled, ifaces, maps, wideKeys, modest, calm, conditions, laid).
  DERIVED. THE GIVEN ROWS OF THIS SEAT. 6 by the template 'for every input the law returns true; each argument reads behind the call as it read before'; 0 by the template 'total and deterministic' (their statements: YtenomjfaodfjhaaTotals.lean).
  GIVEN WITH THE SEED: the statements are not yours to turn. If you find one false, say at which input.
  Laid BY PROGRAM, IN A SANDBOX (cutbox-rows.mjs): the forced cells as the released guide's own fill.sh prints them over the translation dfa48194c0017520… (all of the seat's roots in one cut). By AI agents, Wed Nov 11 2026. No macro, syntax, notation, axiom, sorry.
-/
import Derived.Test.YtenomjfaodfjhaaChecked
import GoSem.Claim
import GoSem.ClaimJoined
import GoSem.ClaimMapViews
import Derived.JoinedTies
import Derived.KernelRfl
namespace Go.Proofs.Ytenomjfaodfjhaa
/- THE CELL 'sum', in the pinned program and in every row, IS THE sha256 OF THE DUMP (.gsa) THAT YtenomjfaodfjhaaProg.lean LOADS. Nothing in Lean hashes anything: it is a label: what it is worth is what the hold of that sum in a sandbox is worth. -/
noncomputable def Try.pinned : Pinned := { name := "ytenomjfaodfjhaa", sum := "dfa48194c0017520a40badc526574c931e2442a1fc52cdabaee31b6fd84f409a", checked := Try.checked }
namespace Rows
def none {H : Type} : Left H := { results := [], args := [] }

/-- 'skerrylaw07.DeviceApart': WHATEVER THE INPUT: true; the input reads as it did. -/
def deviceApartSpec : ChangeSpec := { name := "deviceApart", fn := fun _ => fun
  | [d] => { results := [.lit (.bool true)], args := [d] }
  | _ => none }
def deviceApartRow : OpenClaim := { program := "ytenomjfaodfjhaa", sum := "dfa48194c0017520a40badc526574c931e2442a1fc52cdabaee31b6fd84f409a", func := "skerry/skerrylaw07.DeviceApart", spec := "deviceApart", apart := false }
def DeviceApartSaid : Prop := deviceApartRow.holds Try.pinned (OpenSpec.ofChange deviceApartSpec)

/-- ITS FALSE NEIGHBOUR: 'it returns false'. Refute it at one input. -/
def deviceApartWrong : ChangeSpec := { name := "deviceApart", fn := fun _ => fun
  | [d] => { results := [.lit (.bool false)], args := [d] }
  | _ => none }
def DeviceApartWrongFalsely : Prop := deviceApartRow.holds Try.pinned (OpenSpec.ofChange deviceApartWrong)

/-- 'skerrylaw07.DeviceKeeps': WHATEVER THE INPUT: true; the input reads as it did. -/
def deviceKeepsSpec : ChangeSpec := { name := "deviceKeeps", fn := fun _ => fun
  | [d1, d2, d3] => { results := [.lit (.bool true)], args := [d1, d2, d3] }
  | _ => none }
def deviceKeepsRow : OpenClaim := { program := "ytenomjfaodfjhaa", sum := "dfa48194c0017520a40badc526574c931e2442a1fc52cdabaee31b6fd84f409a", func := "skerry/skerrylaw07.DeviceKeeps", spec := "deviceKeeps", apart := false }
def DeviceKeepsSaid : Prop := deviceKeepsRow.holds Try.pinned (OpenSpec.ofChange deviceKeepsSpec)

/-- ITS FALSE NEIGHBOUR: 'it returns false'. Refute it at one input. -/
def deviceKeepsWrong : ChangeSpec := { name := "deviceKeeps", fn := fun _ => fun
  | [d1, d2, d3] => { results := [.lit (.bool false)], args := [d1, d2, d3] }
  | _ => none }
def DeviceKeepsWrongFalsely : Prop := deviceKeepsRow.holds Try.pinned (OpenSpec.ofChange deviceKeepsWrong)

/-- 'skerrylaw07.DeviceCrashes': WHATEVER THE INPUT: true; the input reads as it did. -/
def deviceCrashesSpec : ChangeSpec := { name := "deviceCrashes", fn := fun _ => fun
  | [d1, d2, d3, d4] => { results := [.lit (.bool true)], args := [d1, d2, d3, d4] }
  | _ => none }
def deviceCrashesRow : OpenClaim := { program := "ytenomjfaodfjhaa", sum := "dfa48194c0017520a40badc526574c931e2442a1fc52cdabaee31b6fd84f409a", func := "skerry/skerrylaw07.DeviceCrashes", spec := "deviceCrashes", apart := false }
def DeviceCrashesSaid : Prop := deviceCrashesRow.holds Try.pinned (OpenSpec.ofChange deviceCrashesSpec)

/-- ITS FALSE NEIGHBOUR: 'it returns false'. Refute it at one input. -/
def deviceCrashesWrong : ChangeSpec := { name := "deviceCrashes", fn := fun _ => fun
  | [d1, d2, d3, d4] => { results := [.lit (.bool false)], args := [d1, d2, d3, d4] }
  | _ => none }
def DeviceCrashesWrongFalsely : Prop := deviceCrashesRow.holds Try.pinned (OpenSpec.ofChange deviceCrashesWrong)

/-- 'skerrylaw07.DeviceFuses': WHATEVER THE INPUT: true; the input reads as it did. -/
def deviceFusesSpec : ChangeSpec := { name := "deviceFuses", fn := fun _ => fun
  | [d1, d2] => { results := [.lit (.bool true)], args := [d1, d2] }
  | _ => none }
def deviceFusesRow : OpenClaim := { program := "ytenomjfaodfjhaa", sum := "dfa48194c0017520a40badc526574c931e2442a1fc52cdabaee31b6fd84f409a", func := "skerry/skerrylaw07.DeviceFuses", spec := "deviceFuses", apart := false }
def DeviceFusesSaid : Prop := deviceFusesRow.holds Try.pinned (OpenSpec.ofChange deviceFusesSpec)

/-- ITS FALSE NEIGHBOUR: 'it returns false'. Refute it at one input. -/
def deviceFusesWrong : ChangeSpec := { name := "deviceFuses", fn := fun _ => fun
  | [d1, d2] => { results := [.lit (.bool false)], args := [d1, d2] }
  | _ => none }
def DeviceFusesWrongFalsely : Prop := deviceFusesRow.holds Try.pinned (OpenSpec.ofChange deviceFusesWrong)

/-- 'skerrylaw07.DeviceScripts': WHATEVER THE INPUT: true; the input reads as it did. -/
def deviceScriptsSpec : ChangeSpec := { name := "deviceScripts", fn := fun _ => fun
  | [d1, d2, d3] => { results := [.lit (.bool true)], args := [d1, d2, d3] }
  | _ => none }
def deviceScriptsRow : OpenClaim := { program := "ytenomjfaodfjhaa", sum := "dfa48194c0017520a40badc526574c931e2442a1fc52cdabaee31b6fd84f409a", func := "skerry/skerrylaw07.DeviceScripts", spec := "deviceScripts", apart := false }
def DeviceScriptsSaid : Prop := deviceScriptsRow.holds Try.pinned (OpenSpec.ofChange deviceScriptsSpec)

/-- ITS FALSE NEIGHBOUR: 'it returns false'. Refute it at one input. -/
def deviceScriptsWrong : ChangeSpec := { name := "deviceScripts", fn := fun _ => fun
  | [d1, d2, d3] => { results := [.lit (.bool false)], args := [d1, d2, d3] }
  | _ => none }
def DeviceScriptsWrongFalsely : Prop := deviceScriptsRow.holds Try.pinned (OpenSpec.ofChange deviceScriptsWrong)

/-- 'skerrylaw07.DeviceNil': WHATEVER THE INPUT: true; the input reads as it did. -/
def deviceNilSpec : ChangeSpec := { name := "deviceNil", fn := fun _ => fun
  | [] => { results := [.lit (.bool true)], args := [] }
  | _ => none }
def deviceNilRow : OpenClaim := { program := "ytenomjfaodfjhaa", sum := "dfa48194c0017520a40badc526574c931e2442a1fc52cdabaee31b6fd84f409a", func := "skerry/skerrylaw07.DeviceNil", spec := "deviceNil", apart := false }
def DeviceNilSaid : Prop := deviceNilRow.holds Try.pinned (OpenSpec.ofChange deviceNilSpec)

/-- ITS FALSE NEIGHBOUR: 'it returns false'. Refute it at one input. -/
def deviceNilWrong : ChangeSpec := { name := "deviceNil", fn := fun _ => fun
  | [] => { results := [.lit (.bool false)], args := [] }
  | _ => none }
def DeviceNilWrongFalsely : Prop := deviceNilRow.holds Try.pinned (OpenSpec.ofChange deviceNilWrong)

/- THE SECOND FORM. 'bulk': how many values and letters a reading holds, each counted each time it is reached (what is shared counts as often as it is met; a slice's spare places count too). A statement '..UptoSaid' is the law's where the arguments, and the package variables that the reading takes, are together of bulk at most 1048576: NARROWER than '..Said'. Prove '..Said' where nothing that the law and all that it calls make is longer than what came in: it says more and counts as full. Else prove '..UptoSaid'. A law counts once. -/
mutual
def uptoBulk {H : Type} : DataW H → Nat
  | .lit (.string bytes) => bytes.length + 1
  | .lit _ => 1
  | .nil => 1
  | .ptr d => uptoBulk d + 1
  | .slice elems spare => uptoBulkAll elems + uptoBulkAll spare + 1
  | .agg parts => uptoBulkAll parts + 1
  | .iface _ d => uptoBulk d + 1
  | .map entries => uptoBulkEntries entries + 1
  | .held _ => 1
def uptoBulkAll {H : Type} : List (DataW H) → Nat
  | [] => 0
  | d :: r => uptoBulk d + uptoBulkAll r
def uptoBulkEntries {H : Type} : List (Lit × DataW H) → Nat
  | [] => 0
  | x :: r => uptoBulkEntry x + uptoBulkEntries r
def uptoBulkEntry {H : Type} : Lit × DataW H → Nat
  | (.string bytes, d) => bytes.length + uptoBulk d + 1
  | (_, d) => uptoBulk d + 1
 end
def uptoSmall : (H : Type) → List (DataW H) → Bool := fun _ ds => decide (uptoBulkAll ds ≤ 1048576)
def OpenSpec.upto (s : _root_.Go.ChangeSpec) : _root_.Go.OpenSpec := { _root_.Go.OpenSpec.ofChange s with cond := some uptoSmall }

/-- 'skerrylaw07.DeviceApart', WHERE WHAT IT READS IS OF BULK AT MOST 1048576: true; the input reads as it did. -/
def deviceApartUptoRow : OpenClaim := { program := "ytenomjfaodfjhaa", sum := "dfa48194c0017520a40badc526574c931e2442a1fc52cdabaee31b6fd84f409a", func := "skerry/skerrylaw07.DeviceApart", spec := "deviceApart", apart := false, narrowed := true }
def DeviceApartUptoSaid : Prop := deviceApartUptoRow.holds Try.pinned (OpenSpec.upto deviceApartSpec)

/-- 'skerrylaw07.DeviceKeeps', WHERE WHAT IT READS IS OF BULK AT MOST 1048576: true; the input reads as it did. -/
def deviceKeepsUptoRow : OpenClaim := { program := "ytenomjfaodfjhaa", sum := "dfa48194c0017520a40badc526574c931e2442a1fc52cdabaee31b6fd84f409a", func := "skerry/skerrylaw07.DeviceKeeps", spec := "deviceKeeps", apart := false, narrowed := true }
def DeviceKeepsUptoSaid : Prop := deviceKeepsUptoRow.holds Try.pinned (OpenSpec.upto deviceKeepsSpec)

/-- 'skerrylaw07.DeviceCrashes', WHERE WHAT IT READS IS OF BULK AT MOST 1048576: true; the input reads as it did. -/
def deviceCrashesUptoRow : OpenClaim := { program := "ytenomjfaodfjhaa", sum := "dfa48194c0017520a40badc526574c931e2442a1fc52cdabaee31b6fd84f409a", func := "skerry/skerrylaw07.DeviceCrashes", spec := "deviceCrashes", apart := false, narrowed := true }
def DeviceCrashesUptoSaid : Prop := deviceCrashesUptoRow.holds Try.pinned (OpenSpec.upto deviceCrashesSpec)

/-- 'skerrylaw07.DeviceFuses', WHERE WHAT IT READS IS OF BULK AT MOST 1048576: true; the input reads as it did. -/
def deviceFusesUptoRow : OpenClaim := { program := "ytenomjfaodfjhaa", sum := "dfa48194c0017520a40badc526574c931e2442a1fc52cdabaee31b6fd84f409a", func := "skerry/skerrylaw07.DeviceFuses", spec := "deviceFuses", apart := false, narrowed := true }
def DeviceFusesUptoSaid : Prop := deviceFusesUptoRow.holds Try.pinned (OpenSpec.upto deviceFusesSpec)

/-- 'skerrylaw07.DeviceScripts', WHERE WHAT IT READS IS OF BULK AT MOST 1048576: true; the input reads as it did. -/
def deviceScriptsUptoRow : OpenClaim := { program := "ytenomjfaodfjhaa", sum := "dfa48194c0017520a40badc526574c931e2442a1fc52cdabaee31b6fd84f409a", func := "skerry/skerrylaw07.DeviceScripts", spec := "deviceScripts", apart := false, narrowed := true }
def DeviceScriptsUptoSaid : Prop := deviceScriptsUptoRow.holds Try.pinned (OpenSpec.upto deviceScriptsSpec)

/-- 'skerrylaw07.DeviceNil', WHERE WHAT IT READS IS OF BULK AT MOST 1048576: true; the input reads as it did. -/
def deviceNilUptoRow : OpenClaim := { program := "ytenomjfaodfjhaa", sum := "dfa48194c0017520a40badc526574c931e2442a1fc52cdabaee31b6fd84f409a", func := "skerry/skerrylaw07.DeviceNil", spec := "deviceNil", apart := false, narrowed := true }
def DeviceNilUptoSaid : Prop := deviceNilUptoRow.holds Try.pinned (OpenSpec.upto deviceNilSpec)

end Rows
end Go.Proofs.Ytenomjfaodfjhaa
