/-
  NARROWER THAN 'FOR EVERY INPUT', by the rows' own cells (each row's printed sentence says how): WalkPaths: laid · WalkBack: laid · WalkKeeps: laid · WalkOrders: laid · WalkSorts: laid.
  DERIVED. THE GIVEN ROWS OF THIS SEAT. 5 by the template 'for every input the law returns true; each argument reads behind the call as it read before'; 0 by the template 'total and deterministic' (their statements: YtdihhdmndjjknaaDoorTotals.lean).
  GIVEN WITH THE SEED: the statements are not yours to turn. If you find one false, say at which input.
  Laid BY PROGRAM, IN A SANDBOX (cutbox-rows.mjs): the forced cells as the released guide's own fill.sh prints them over the translation 6baf2147486c0e55… (all of the seat's roots in one cut). By AI agents, Wed Nov 11 2026. No macro, syntax, notation, axiom, sorry.
-/
import Derived.Test.YtdihhdmndjjknaaDoorChecked
import GoSem.PinnedTables
import GoSem.Claim
import GoSem.ClaimJoined
import GoSem.ClaimMapViews
import Derived.JoinedTies
import Derived.KernelRfl
namespace Go.Proofs.YtdihhdmndjjknaaDoor
/- THE CELL 'sum', in the pinned program and in every row, IS THE sha256 OF THE DUMP (.gsa) THAT YtdihhdmndjjknaaDoorProg.lean LOADS. Nothing in Lean hashes anything: it is a label: what it is worth is what the hold of that sum in a sandbox is worth. -/
noncomputable def Tryd.pinned : Pinned := { name := "ytdihhdmndjjknaadoor", sum := "6baf2147486c0e558106c065c0bd49dd2f4de062e3d78598cc783d4128a9b795", checked := Tryd.checked }
namespace Rows
def none {H : Type} : Left H := { results := [], args := [] }

/- WHAT THE LISTED PACKAGE-LEVEL VARIABLES READ AS WHEN THE CALL BEGINS. Each datum BY PROGRAM (the guide's laid-datum.mjs) off the statement by which the dump's own 'gosem.cut.vars' lays the variable. In a bare row this is a premise. The card (YtdihhdmndjjknaaDoorCards.lean) ties it to the program's text. -/
def laid_unicode_utf8_acceptRanges {H : Type} : DataW H := .agg [.agg [.lit (.int .u8 128), .lit (.int .u8 191)], .agg [.lit (.int .u8 160), .lit (.int .u8 191)], .agg [.lit (.int .u8 128), .lit (.int .u8 159)], .agg [.lit (.int .u8 144), .lit (.int .u8 191)], .agg [.lit (.int .u8 128), .lit (.int .u8 143)], .agg [.lit (.int .u8 0), .lit (.int .u8 0)], .agg [.lit (.int .u8 0), .lit (.int .u8 0)], .agg [.lit (.int .u8 0), .lit (.int .u8 0)], .agg [.lit (.int .u8 0), .lit (.int .u8 0)], .agg [.lit (.int .u8 0), .lit (.int .u8 0)], .agg [.lit (.int .u8 0), .lit (.int .u8 0)], .agg [.lit (.int .u8 0), .lit (.int .u8 0)], .agg [.lit (.int .u8 0), .lit (.int .u8 0)], .agg [.lit (.int .u8 0), .lit (.int .u8 0)], .agg [.lit (.int .u8 0), .lit (.int .u8 0)], .agg [.lit (.int .u8 0), .lit (.int .u8 0)]]
/-- One of Go's own tables, pinned by name: the form's constant. -/
def laid_unicode_utf8_first : DataW Unit := Go.Pinned.utf8First

/-- 'skerrylaw16.WalkPaths': WHATEVER THE INPUT: true; the input reads as it did. -/
def walkPathsSpec : ChangeSpec := { name := "walkPaths", fn := fun _ => fun
  | [d1, d2] => { results := [.lit (.bool true)], args := [d1, d2] }
  | _ => none }
def walkPathsRow : OpenClaim := { program := "ytdihhdmndjjknaadoor", sum := "6baf2147486c0e558106c065c0bd49dd2f4de062e3d78598cc783d4128a9b795", func := "skerry/skerrylaw16.WalkPaths", spec := "walkPaths", inPlace := ["internal/bytealg.CountString", "internal/bytealg.IndexByteString", "internal/bytealg.IndexString", "internal/abi.NoEscape", "internal/bytealg.MakeNoZero"], unfollowed := true, recurses := true, named := ["unicode/utf8.first", "unicode/utf8.acceptRanges", "internal/bytealg.MaxLen"], apart := false, laid := [("unicode/utf8.acceptRanges", laid_unicode_utf8_acceptRanges), ("unicode/utf8.first", laid_unicode_utf8_first)] }
def WalkPathsSaid : Prop := walkPathsRow.holds Tryd.pinned (OpenSpec.ofChange walkPathsSpec)

/-- ITS FALSE NEIGHBOUR: 'it returns false'. Refute it at one input. -/
def walkPathsWrong : ChangeSpec := { name := "walkPaths", fn := fun _ => fun
  | [d1, d2] => { results := [.lit (.bool false)], args := [d1, d2] }
  | _ => none }
def WalkPathsWrongFalsely : Prop := walkPathsRow.holds Tryd.pinned (OpenSpec.ofChange walkPathsWrong)

/-- 'skerrylaw16.WalkBack': WHATEVER THE INPUT: true; the input reads as it did. -/
def walkBackSpec : ChangeSpec := { name := "walkBack", fn := fun _ => fun
  | [d] => { results := [.lit (.bool true)], args := [d] }
  | _ => none }
def walkBackRow : OpenClaim := { program := "ytdihhdmndjjknaadoor", sum := "6baf2147486c0e558106c065c0bd49dd2f4de062e3d78598cc783d4128a9b795", func := "skerry/skerrylaw16.WalkBack", spec := "walkBack", inPlace := ["internal/bytealg.CountString", "internal/bytealg.IndexByteString", "internal/bytealg.IndexString", "internal/abi.NoEscape", "internal/bytealg.MakeNoZero"], unfollowed := true, recurses := true, named := ["unicode/utf8.first", "unicode/utf8.acceptRanges", "internal/bytealg.MaxLen"], apart := false, laid := [("unicode/utf8.acceptRanges", laid_unicode_utf8_acceptRanges), ("unicode/utf8.first", laid_unicode_utf8_first)] }
def WalkBackSaid : Prop := walkBackRow.holds Tryd.pinned (OpenSpec.ofChange walkBackSpec)

/-- ITS FALSE NEIGHBOUR: 'it returns false'. Refute it at one input. -/
def walkBackWrong : ChangeSpec := { name := "walkBack", fn := fun _ => fun
  | [d] => { results := [.lit (.bool false)], args := [d] }
  | _ => none }
def WalkBackWrongFalsely : Prop := walkBackRow.holds Tryd.pinned (OpenSpec.ofChange walkBackWrong)

/-- 'skerrylaw16.WalkKeeps': WHATEVER THE INPUT: true; the input reads as it did. -/
def walkKeepsSpec : ChangeSpec := { name := "walkKeeps", fn := fun _ => fun
  | [d1, d2] => { results := [.lit (.bool true)], args := [d1, d2] }
  | _ => none }
def walkKeepsRow : OpenClaim := { program := "ytdihhdmndjjknaadoor", sum := "6baf2147486c0e558106c065c0bd49dd2f4de062e3d78598cc783d4128a9b795", func := "skerry/skerrylaw16.WalkKeeps", spec := "walkKeeps", inPlace := ["internal/bytealg.CountString", "internal/bytealg.IndexByteString", "internal/bytealg.IndexString", "internal/abi.NoEscape", "internal/bytealg.MakeNoZero"], unfollowed := true, recurses := true, named := ["unicode/utf8.first", "unicode/utf8.acceptRanges", "internal/bytealg.MaxLen"], apart := false, laid := [("unicode/utf8.acceptRanges", laid_unicode_utf8_acceptRanges), ("unicode/utf8.first", laid_unicode_utf8_first)] }
def WalkKeepsSaid : Prop := walkKeepsRow.holds Tryd.pinned (OpenSpec.ofChange walkKeepsSpec)

/-- ITS FALSE NEIGHBOUR: 'it returns false'. Refute it at one input. -/
def walkKeepsWrong : ChangeSpec := { name := "walkKeeps", fn := fun _ => fun
  | [d1, d2] => { results := [.lit (.bool false)], args := [d1, d2] }
  | _ => none }
def WalkKeepsWrongFalsely : Prop := walkKeepsRow.holds Tryd.pinned (OpenSpec.ofChange walkKeepsWrong)

/-- 'skerrylaw16.WalkOrders': WHATEVER THE INPUT: true; the input reads as it did. -/
def walkOrdersSpec : ChangeSpec := { name := "walkOrders", fn := fun _ => fun
  | [d1, d2, d3] => { results := [.lit (.bool true)], args := [d1, d2, d3] }
  | _ => none }
def walkOrdersRow : OpenClaim := { program := "ytdihhdmndjjknaadoor", sum := "6baf2147486c0e558106c065c0bd49dd2f4de062e3d78598cc783d4128a9b795", func := "skerry/skerrylaw16.WalkOrders", spec := "walkOrders", inPlace := ["internal/bytealg.CountString", "internal/bytealg.IndexByteString", "internal/bytealg.IndexString", "internal/abi.NoEscape", "internal/bytealg.MakeNoZero"], unfollowed := true, recurses := true, named := ["unicode/utf8.first", "unicode/utf8.acceptRanges", "internal/bytealg.MaxLen"], apart := false, laid := [("unicode/utf8.acceptRanges", laid_unicode_utf8_acceptRanges), ("unicode/utf8.first", laid_unicode_utf8_first)] }
def WalkOrdersSaid : Prop := walkOrdersRow.holds Tryd.pinned (OpenSpec.ofChange walkOrdersSpec)

/-- ITS FALSE NEIGHBOUR: 'it returns false'. Refute it at one input. -/
def walkOrdersWrong : ChangeSpec := { name := "walkOrders", fn := fun _ => fun
  | [d1, d2, d3] => { results := [.lit (.bool false)], args := [d1, d2, d3] }
  | _ => none }
def WalkOrdersWrongFalsely : Prop := walkOrdersRow.holds Tryd.pinned (OpenSpec.ofChange walkOrdersWrong)

/-- 'skerrylaw16.WalkSorts': WHATEVER THE INPUT: true; the input reads as it did. -/
def walkSortsSpec : ChangeSpec := { name := "walkSorts", fn := fun _ => fun
  | [d] => { results := [.lit (.bool true)], args := [d] }
  | _ => none }
def walkSortsRow : OpenClaim := { program := "ytdihhdmndjjknaadoor", sum := "6baf2147486c0e558106c065c0bd49dd2f4de062e3d78598cc783d4128a9b795", func := "skerry/skerrylaw16.WalkSorts", spec := "walkSorts", inPlace := ["internal/bytealg.CountString", "internal/bytealg.IndexByteString", "internal/bytealg.IndexString", "internal/abi.NoEscape", "internal/bytealg.MakeNoZero"], unfollowed := true, recurses := true, named := ["unicode/utf8.first", "unicode/utf8.acceptRanges", "internal/bytealg.MaxLen"], apart := false, laid := [("unicode/utf8.acceptRanges", laid_unicode_utf8_acceptRanges), ("unicode/utf8.first", laid_unicode_utf8_first)] }
def WalkSortsSaid : Prop := walkSortsRow.holds Tryd.pinned (OpenSpec.ofChange walkSortsSpec)

/-- ITS FALSE NEIGHBOUR: 'it returns false'. Refute it at one input. -/
def walkSortsWrong : ChangeSpec := { name := "walkSorts", fn := fun _ => fun
  | [d] => { results := [.lit (.bool false)], args := [d] }
  | _ => none }
def WalkSortsWrongFalsely : Prop := walkSortsRow.holds Tryd.pinned (OpenSpec.ofChange walkSortsWrong)

/- THE SECOND FORM. 'bulk': how many values and letters a reading holds, each counted each time it is reached (what is shared counts as often as it is met; a slice's spare places count too). A statement '..UptoSaid' is the law's where the arguments, and the package variables that the reading takes, are together of bulk at most 1048576: NARROWER than '..Said'. Prove '..Said' where nothing that the law and all that it calls make is longer than what came in: it says more and counts as full. Else prove '..UptoSaid'. A law counts once. -/
mutual
def uptoBulk {H : Type} : DataW H → Nat
  | .lit (.string bytes) => bytes.length + 1
  | .lit _ => 1
  | .nil => 1
  | .ptr d => uptoBulk d + 1
  | .slice elems spare => uptoBulkAll elems + uptoBulkAll spare + 1
  | .agg parts => uptoBulkAll parts + 1
  | .iface _ d => uptoBulk d + 1
  | .map entries => uptoBulkEntries entries + 1
  | .held _ => 1
def uptoBulkAll {H : Type} : List (DataW H) → Nat
  | [] => 0
  | d :: r => uptoBulk d + uptoBulkAll r
def uptoBulkEntries {H : Type} : List (Lit × DataW H) → Nat
  | [] => 0
  | x :: r => uptoBulkEntry x + uptoBulkEntries r
def uptoBulkEntry {H : Type} : Lit × DataW H → Nat
  | (.string bytes, d) => bytes.length + uptoBulk d + 1
  | (_, d) => uptoBulk d + 1
 end
def uptoSmall : (H : Type) → List (DataW H) → Bool := fun _ ds => decide (uptoBulkAll ds ≤ 1048576)
def OpenSpec.upto (s : _root_.Go.ChangeSpec) : _root_.Go.OpenSpec := { _root_.Go.OpenSpec.ofChange s with cond := some uptoSmall }

/-- 'skerrylaw16.WalkPaths', WHERE WHAT IT READS IS OF BULK AT MOST 1048576: true; the input reads as it did. -/
def walkPathsUptoRow : OpenClaim := { program := "ytdihhdmndjjknaadoor", sum := "6baf2147486c0e558106c065c0bd49dd2f4de062e3d78598cc783d4128a9b795", func := "skerry/skerrylaw16.WalkPaths", spec := "walkPaths", inPlace := ["internal/bytealg.CountString", "internal/bytealg.IndexByteString", "internal/bytealg.IndexString", "internal/abi.NoEscape", "internal/bytealg.MakeNoZero"], unfollowed := true, recurses := true, named := ["unicode/utf8.first", "unicode/utf8.acceptRanges", "internal/bytealg.MaxLen"], apart := false, laid := [("unicode/utf8.acceptRanges", laid_unicode_utf8_acceptRanges), ("unicode/utf8.first", laid_unicode_utf8_first)], narrowed := true }
def WalkPathsUptoSaid : Prop := walkPathsUptoRow.holds Tryd.pinned (OpenSpec.upto walkPathsSpec)

/-- 'skerrylaw16.WalkBack', WHERE WHAT IT READS IS OF BULK AT MOST 1048576: true; the input reads as it did. -/
def walkBackUptoRow : OpenClaim := { program := "ytdihhdmndjjknaadoor", sum := "6baf2147486c0e558106c065c0bd49dd2f4de062e3d78598cc783d4128a9b795", func := "skerry/skerrylaw16.WalkBack", spec := "walkBack", inPlace := ["internal/bytealg.CountString", "internal/bytealg.IndexByteString", "internal/bytealg.IndexString", "internal/abi.NoEscape", "internal/bytealg.MakeNoZero"], unfollowed := true, recurses := true, named := ["unicode/utf8.first", "unicode/utf8.acceptRanges", "internal/bytealg.MaxLen"], apart := false, laid := [("unicode/utf8.acceptRanges", laid_unicode_utf8_acceptRanges), ("unicode/utf8.first", laid_unicode_utf8_first)], narrowed := true }
def WalkBackUptoSaid : Prop := walkBackUptoRow.holds Tryd.pinned (OpenSpec.upto walkBackSpec)

/-- 'skerrylaw16.WalkKeeps', WHERE WHAT IT READS IS OF BULK AT MOST 1048576: true; the input reads as it did. -/
def walkKeepsUptoRow : OpenClaim := { program := "ytdihhdmndjjknaadoor", sum := "6baf2147486c0e558106c065c0bd49dd2f4de062e3d78598cc783d4128a9b795", func := "skerry/skerrylaw16.WalkKeeps", spec := "walkKeeps", inPlace := ["internal/bytealg.CountString", "internal/bytealg.IndexByteString", "internal/bytealg.IndexString", "internal/abi.NoEscape", "internal/bytealg.MakeNoZero"], unfollowed := true, recurses := true, named := ["unicode/utf8.first", "unicode/utf8.acceptRanges", "internal/bytealg.MaxLen"], apart := false, laid := [("unicode/utf8.acceptRanges", laid_unicode_utf8_acceptRanges), ("unicode/utf8.first", laid_unicode_utf8_first)], narrowed := true }
def WalkKeepsUptoSaid : Prop := walkKeepsUptoRow.holds Tryd.pinned (OpenSpec.upto walkKeepsSpec)

/-- 'skerrylaw16.WalkOrders', WHERE WHAT IT READS IS OF BULK AT MOST 1048576: true; the input reads as it did. -/
def walkOrdersUptoRow : OpenClaim := { program := "ytdihhdmndjjknaadoor", sum := "6baf2147486c0e558106c065c0bd49dd2f4de062e3d78598cc783d4128a9b795", func := "skerry/skerrylaw16.WalkOrders", spec := "walkOrders", inPlace := ["internal/bytealg.CountString", "internal/bytealg.IndexByteString", "internal/bytealg.IndexString", "internal/abi.NoEscape", "internal/bytealg.MakeNoZero"], unfollowed := true, recurses := true, named := ["unicode/utf8.first", "unicode/utf8.acceptRanges", "internal/bytealg.MaxLen"], apart := false, laid := [("unicode/utf8.acceptRanges", laid_unicode_utf8_acceptRanges), ("unicode/utf8.first", laid_unicode_utf8_first)], narrowed := true }
def WalkOrdersUptoSaid : Prop := walkOrdersUptoRow.holds Tryd.pinned (OpenSpec.upto walkOrdersSpec)

/-- 'skerrylaw16.WalkSorts', WHERE WHAT IT READS IS OF BULK AT MOST 1048576: true; the input reads as it did. -/
def walkSortsUptoRow : OpenClaim := { program := "ytdihhdmndjjknaadoor", sum := "6baf2147486c0e558106c065c0bd49dd2f4de062e3d78598cc783d4128a9b795", func := "skerry/skerrylaw16.WalkSorts", spec := "walkSorts", inPlace := ["internal/bytealg.CountString", "internal/bytealg.IndexByteString", "internal/bytealg.IndexString", "internal/abi.NoEscape", "internal/bytealg.MakeNoZero"], unfollowed := true, recurses := true, named := ["unicode/utf8.first", "unicode/utf8.acceptRanges", "internal/bytealg.MaxLen"], apart := false, laid := [("unicode/utf8.acceptRanges", laid_unicode_utf8_acceptRanges), ("unicode/utf8.first", laid_unicode_utf8_first)], narrowed := true }
def WalkSortsUptoSaid : Prop := walkSortsUptoRow.holds Tryd.pinned (OpenSpec.upto walkSortsSpec)

end Rows
end Go.Proofs.YtdihhdmndjjknaaDoor
