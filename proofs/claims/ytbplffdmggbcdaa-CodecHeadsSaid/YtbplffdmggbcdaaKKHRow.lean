/- The law of heads: its walk as the row asks it. -/
import Derived.Test.YtbplffdmggbcdaaKKHLaw
namespace Go.Proofs.Ytbplffdmggbcdaa.Codec
open Go.RowKit Go.Proofs.Ytbplffdmggbcdaa.Plain Go.Proofs.YtbplffdmggbcdaaW.PrintWords
set_option linter.unusedVariables false
theorem heads_row (p0 p1 p2 p3 p4 p5 p6 p7 p8 p9 p10 p11 s t u b : Int) (A : Option Addr) (c : Nat) (l : List Int) (w : World) (_ : (Lit.int .i64 p0).wf = true) (_ : (Lit.int .i64 p1).wf = true) (_ : (Lit.int .i64 p2).wf = true) (_ : (Lit.int .i64 p3).wf = true) (_ : (Lit.int .i64 p4).wf = true) (_ : (Lit.int .i64 p5).wf = true) (_ : (Lit.int .i64 p6).wf = true) (_ : (Lit.int .i64 p7).wf = true) (_ : (Lit.int .i64 p8).wf = true) (_ : (Lit.int .i64 p9).wf = true) (_ : (Lit.int .i64 p10).wf = true) (_ : (Lit.int .i64 p11).wf = true) (_ : (Lit.int .i64 s).wf = true) (_ : (Lit.int .i64 t).wf = true) (_ : (Lit.int .i64 u).wf = true) (_ : (Lit.int .i64 b).wf = true)
    (hr : ReadsInt w .u8 A l.length l) (hc : l.length ≤ c) (hw : ∀ x ∈ l, (Lit.int .u8 x).wf = true) (y : l.length * 1 ≤ 140737488351232) :
    Calls Try.prog 4 #[.agg #[.int .i64 p0, .int .i64 p1, .int .i64 p2, .int .i64 p3, .int .i64 p4, .int .i64 p5, .int .i64 p6, .int .i64 p7, .int .i64 p8, .int .i64 p9, .int .i64 p10, .int .i64 p11], .agg #[.int .i64 s, .int .i64 t, .int .i64 u], .int .i64 b, .slice A l.length c] w fun e w' => e = .returned (.bool true) ∧ Below w.heap.size w w' :=
  heads_calls p0 p1 p2 p3 p4 p5 p6 p7 p8 p9 p10 p11 s t u b A c l w (brow_ofC hr) hc (bytes_wf hw) (by omega)
end Go.Proofs.Ytbplffdmggbcdaa.Codec
