/- A record as an argument: opened and shut; and the law's walk as the row asks it. -/
import Derived.Test.YtbplffdmggbcdaaKKLaw
import Derived.OpenShut
import Derived.ShutString
import Derived.ChangeOld
import Derived.ChangeSame
import Derived.Below
import Derived.SizedLaws
import Derived.Lib.SmallJoins
import Derived.Laws.IdiomArrays
namespace Go.Proofs.Ytbplffdmggbcdaa.Codec
open Go.RowKit Go.Proofs.Ytbplffdmggbcdaa.PCodecRecords Go.Proofs.Ytbplffdmggbcdaa.Plain Go.Proofs.Ytbplffdmggbcdaa.Pure Go.Proofs.YtbplffdmggbcdaaW.PrintWords Go.Proofs.YtbplffdmggbcdaaW.PrintLast Go.Proofs.YtbplffdmggbcdaaW.PrintMore Go.ChangeShapes Go.WideShapes
set_option linter.unusedVariables false
abbrev tR : TypeId := 26
abbrev tE : TypeId := 24
theorem array9 {α : Type} {cs : Array α} (h : cs.size = 9) : ∃ c0 c1 c2 c3 c4 c5 c6 c7 c8, cs = #[c0, c1, c2, c3, c4, c5, c6, c7, c8] := by
  obtain ⟨l⟩ := cs
  match l, h with
  | [c0, c1, c2, c3, c4, c5, c6, c7, c8], _ => exact ⟨c0, c1, c2, c3, c4, c5, c6, c7, c8, rfl⟩
def recData (H : Type) (b q s0 s1 s2 s3 a n : Int) (t : ByteArray) : DataW H := .agg [.lit (.int .i64 b), .lit (.int .i64 q), .agg [.lit (.int .i64 s0), .lit (.int .i64 s1), .lit (.int .i64 s2), .lit (.int .i64 s3)], .agg [.lit (.int .i64 a), .lit (.int .i64 n), .lit (.string t.data.toList)]]
theorem k3 : Try.prog.cellsOf 3 = 1 := by kernel_rfl
theorem k9 : Try.prog.cellsOf 9 = 1 := by kernel_rfl
theorem k22 : Try.prog.cellsOf 22 = 4 := by kernel_rfl
theorem k24 : Try.prog.cellsOf tE = 3 := by kernel_rfl
theorem k26 : Try.prog.cellsOf tR = 9 := by kernel_rfl
section
variable {H : Type} {enc : TypeId × Value → H} {w : World} {base : Nat} {spare : Nat → Bool} {held : Bool}
theorem int_cell {n : Nat} {c : Value} {y : DataW H × List MemPlace} (h : DataW.trod enc Try.prog w base spare held n 3 [c] = some y) : ∃ x, c = .int .i64 x ∧ y = (.lit (.int .i64 x), []) ∧ (Lit.int .i64 x).wf = true := by
  obtain ⟨x, hz, rfl, hw⟩ := DataW.trod_int Try.underlying3 h
  obtain rfl : c = .int .i64 x := by simpa using hz
  exact ⟨x, rfl, rfl, hw⟩
set_option maxRecDepth 100000 in
theorem open_rec {r : Reach} {b0 : Nat} {v : Value} {d : DataW H} {p : List MemPlace} (hv : Value.okWide Try.prog w r b0 tR v) (h : DataW.Trod enc Try.prog w base spare held tR v d p) :
    ∃ (b q s0 s1 s2 s3 a n : Int) (t : ByteArray), v = .agg #[.int .i64 b, .int .i64 q, .int .i64 s0, .int .i64 s1, .int .i64 s2, .int .i64 s3, .int .i64 a, .int .i64 n, .string t] ∧ d = recData H b q s0 s1 s2 s3 a n t ∧ p = [] ∧
      ((Lit.int .i64 b).wf = true ∧ (Lit.int .i64 q).wf = true ∧ (Lit.int .i64 s0).wf = true ∧ (Lit.int .i64 s1).wf = true ∧ (Lit.int .i64 s2).wf = true ∧ (Lit.int .i64 s3).wf = true ∧ (Lit.int .i64 a).wf = true ∧ (Lit.int .i64 n).wf = true) ∧ t.size ≤ maxLen := by
  obtain ⟨cs, rfl, hsz⟩ := okWide_struct Try.underlying26 hv
  obtain ⟨c0, c1, c2, c3, c4, c5, c6, c7, c8, rfl⟩ := array9 (hsz.trans k26)
  obtain ⟨fuel, hf⟩ := h
  obtain ⟨y0, y1, y2, y3, m, hx, _, h0, h1, h2, h3⟩ := Joins.trod_struct4 Try.underlying26 hf
  simp only [Prod.mk.injEq] at hx
  simp only [k3] at h0 h1
  simp only [k22] at h2
  simp only [k24] at h3
  obtain ⟨b, rfl, rfl, w0⟩ := int_cell (c := c0) h0
  obtain ⟨q, rfl, rfl, w1⟩ := int_cell (c := c1) h1
  obtain ⟨z0, z1, z2, z3, m2, rfl, g0, g1, g2, g3⟩ := trod_array4 (c0 := c2) (c1 := c3) (c2 := c4) (c3 := c5) Try.underlying22 k3 h2
  obtain ⟨s0, rfl, rfl, w2⟩ := int_cell g0
  obtain ⟨s1, rfl, rfl, w3⟩ := int_cell g1
  obtain ⟨s2, rfl, rfl, w4⟩ := int_cell g2
  obtain ⟨s3, rfl, rfl, w5⟩ := int_cell g3
  obtain ⟨z0, z1, z2, m3, rfl, _, g0, g1, g2⟩ := Deep.trod_struct3 (cs := [c6, c7, c8]) Try.underlying24 h3
  simp only [k3] at g0 g1
  simp only [k9] at g2
  obtain ⟨a, rfl, rfl, w6⟩ := int_cell (c := c6) g0
  obtain ⟨n, rfl, rfl, w7⟩ := int_cell (c := c7) g1
  obtain ⟨t, hz, rfl, w8⟩ := DataW.trod_string (cs := [c8]) Try.underlying9 g2
  obtain rfl : c8 = .string t := by simpa using hz
  exact ⟨b, q, s0, s1, s2, s3, a, n, t, rfl, hx.1, hx.2, ⟨w0, w1, w2, w3, w4, w5, w6, w7⟩, w8⟩
set_option maxRecDepth 100000 in
theorem shut_rec {b q s0 s1 s2 s3 a n : Int} {t : ByteArray} (hw : (Lit.int .i64 b).wf = true ∧ (Lit.int .i64 q).wf = true ∧ (Lit.int .i64 s0).wf = true ∧ (Lit.int .i64 s1).wf = true ∧ (Lit.int .i64 s2).wf = true ∧ (Lit.int .i64 s3).wf = true ∧ (Lit.int .i64 a).wf = true ∧ (Lit.int .i64 n).wf = true) (ht : t.size ≤ maxLen) :
    DataW.Trod enc Try.prog w base spare held tR (.agg #[.int .i64 b, .int .i64 q, .int .i64 s0, .int .i64 s1, .int .i64 s2, .int .i64 s3, .int .i64 a, .int .i64 n, .string t]) (recData H b q s0 s1 s2 s3 a n t) [] := by
  obtain ⟨w0, w1, w2, w3, w4, w5, w6, w7⟩ := hw
  have i (m : Nat) {x : Int} (hx : (Lit.int .i64 x).wf = true) : DataW.trod enc Try.prog w base spare held (m + 1) 3 [.int .i64 x] = some (.lit (.int .i64 x), []) := trod_int_mk m Try.underlying3 hx
  have hs : DataW.trod enc Try.prog w base spare held 1 9 [.string t] = some (.lit (.string t.data.toList), []) := by
    unfold DataW.trod
    rw [Try.underlying9]
    simp [ht]
  have h2 : DataW.trod enc Try.prog w base spare held 2 22 [.int .i64 s0, .int .i64 s1, .int .i64 s2, .int .i64 s3] = some (.agg [.lit (.int .i64 s0), .lit (.int .i64 s1), .lit (.int .i64 s2), .lit (.int .i64 s3)], []) := by
    unfold DataW.trod
    rw [Try.underlying22]
    have r4 : List.range 4 = [0, 1, 2, 3] := rfl
    simp [r4, k3, k22, i 0 w2, i 0 w3, i 0 w4, i 0 w5]
  have h3 : DataW.trod enc Try.prog w base spare held 2 tE [.int .i64 a, .int .i64 n, .string t] = some (.agg [.lit (.int .i64 a), .lit (.int .i64 n), .lit (.string t.data.toList)], []) :=
    Deep.trod_struct3_mk (y0 := (.lit (.int .i64 a), [])) (y1 := (.lit (.int .i64 n), [])) (y2 := (.lit (.string t.data.toList), [])) Try.underlying24 (by simp [k24]) (by simp only [k3]; exact i 0 w6) (by simp only [k3]; exact i 0 w7) (by simp only [k9]; exact hs)
  exact ⟨3, Joins.trod_struct4_mk (y0 := (.lit (.int .i64 b), [])) (y1 := (.lit (.int .i64 q), [])) (y2 := (.agg [.lit (.int .i64 s0), .lit (.int .i64 s1), .lit (.int .i64 s2), .lit (.int .i64 s3)], [])) (y3 := (.agg [.lit (.int .i64 a), .lit (.int .i64 n), .lit (.string t.data.toList)], [])) Try.underlying26 (by simp [k26, Value.cells]) (by simp only [k3]; exact i 1 w0) (by simp only [k3]; exact i 1 w1) (by simp only [k22]; exact h2) (by simp only [k24]; exact h3)⟩
theorem sized_rec {ts : List TypeId} {ds : List (DataW H)} {j : Nat} {b q s0 s1 s2 s3 a n : Int} {t : ByteArray} (h : (DataW.weightsEach Try.prog ts ds).all (· ≤ reachBytes) = true) (ht : ts[j]? = some tR) (hd : ds[j]? = some (recData H b q s0 s1 s2 s3 a n t)) : t.size ≤ 140737488351232 := by
  have := List.all_eq_true.1 h _ (DataW.weights_mem_each ht hd t.data.toList.length (by
    unfold recData
    simp only [DataW.weights, Try.underlying26, Try.underlying24, Try.underlying22, DataW.weightsEach, DataW.weightsAll, List.map_cons, List.map_nil]
    simp))
  rw [Array.length_toList] at this
  have e : reachBytes = 140737488351232 := rfl
  rw [e] at this
  simpa using this
end
theorem records_row (b q s0 s1 s2 s3 a n : Int) (t : ByteArray) (A : Option Addr) (c : Nat) (l : List Int) (at_ : Int) (w : World) (ht : t.size ≤ 140737488351232) (hr : ReadsInt w .u8 A l.length l) (hc : l.length ≤ c) (hw : ∀ x ∈ l, (Lit.int .u8 x).wf = true) (y : l.length * 1 ≤ 140737488351232) (wa : (Lit.int .i64 at_).wf = true) :
    Calls Try.prog 3 #[.agg #[.int .i64 b, .int .i64 q, .int .i64 s0, .int .i64 s1, .int .i64 s2, .int .i64 s3, .int .i64 a, .int .i64 n, .string t], .slice A l.length c, .int .i64 at_] w fun e w' => e = .returned (.bool true) ∧ Below w.heap.size w w' :=
  law_calls b q s0 s1 s2 s3 a n t ht A c l at_ w (brow_ofC hr) hc (bytes_wf hw) (by omega) (i64_wf wa)
end Go.Proofs.Ytbplffdmggbcdaa.Codec
