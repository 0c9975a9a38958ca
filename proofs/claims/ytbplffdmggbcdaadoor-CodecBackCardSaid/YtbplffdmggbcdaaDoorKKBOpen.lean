/- A record as an argument: opened and shut; and the law's walk as the row asks it. -/
import Derived.Test.YtbplffdmggbcdaaDoorKKBLaw
import Derived.OpenShut
import Derived.ShutString
import Derived.ChangeOld
import Derived.ChangeSame
import Derived.Below
import Derived.SizedLaws
import Derived.Lib.SmallJoins
import Derived.Laws.IdiomArrays
namespace Go.Proofs.YtbplffdmggbcdaaDoor.Codec
open Go.RowKit Go.Proofs.YtbplffdmggbcdaaDoor.PCodecBack Go.Proofs.YtbplffdmggbcdaaDoor.Plain Go.Proofs.YtbplffdmggbcdaaDoor.Pure Go.Proofs.YtbplffdmggbcdaaDoorW.PrintWords Go.Proofs.YtbplffdmggbcdaaDoorW.PrintLast Go.Proofs.YtbplffdmggbcdaaDoorW.PrintMore Go.ChangeShapes Go.WideShapes
set_option linter.unusedVariables false
abbrev tR : TypeId := 48
abbrev tE : TypeId := 46
theorem array9 {α : Type} {cs : Array α} (h : cs.size = 9) : ∃ c0 c1 c2 c3 c4 c5 c6 c7 c8, cs = #[c0, c1, c2, c3, c4, c5, c6, c7, c8] := by
  obtain ⟨l⟩ := cs
  match l, h with
  | [c0, c1, c2, c3, c4, c5, c6, c7, c8], _ => exact ⟨c0, c1, c2, c3, c4, c5, c6, c7, c8, rfl⟩
def recData (H : Type) (b q s0 s1 s2 s3 a n : Int) (t : ByteArray) : DataW H := .agg [.lit (.int .i64 b), .lit (.int .i64 q), .agg [.lit (.int .i64 s0), .lit (.int .i64 s1), .lit (.int .i64 s2), .lit (.int .i64 s3)], .agg [.lit (.int .i64 a), .lit (.int .i64 n), .lit (.string t.data.toList)]]
theorem k3 : Tryd.prog.cellsOf 3 = 1 := by kernel_rfl
theorem k9 : Tryd.prog.cellsOf 9 = 1 := by kernel_rfl
theorem k22 : Tryd.prog.cellsOf 44 = 4 := by kernel_rfl
theorem k24 : Tryd.prog.cellsOf tE = 3 := by kernel_rfl
theorem k26 : Tryd.prog.cellsOf tR = 9 := by kernel_rfl
section
variable {H : Type} {enc : TypeId × Value → H} {w : World} {base : Nat} {spare : Nat → Bool} {held : Bool}
theorem int_cell {n : Nat} {c : Value} {y : DataW H × List MemPlace} (h : DataW.trod enc Tryd.prog w base spare held n 3 [c] = some y) : ∃ x, c = .int .i64 x ∧ y = (.lit (.int .i64 x), []) ∧ (Lit.int .i64 x).wf = true := by
  obtain ⟨x, hz, rfl, hw⟩ := DataW.trod_int Tryd.underlying3 h
  obtain rfl : c = .int .i64 x := by simpa using hz
  exact ⟨x, rfl, rfl, hw⟩
set_option maxRecDepth 100000 in
theorem open_rec {r : Reach} {b0 : Nat} {v : Value} {d : DataW H} {p : List MemPlace} (hv : Value.okWide Tryd.prog w r b0 tR v) (h : DataW.Trod enc Tryd.prog w base spare held tR v d p) :
    ∃ (b q s0 s1 s2 s3 a n : Int) (t : ByteArray), v = .agg #[.int .i64 b, .int .i64 q, .int .i64 s0, .int .i64 s1, .int .i64 s2, .int .i64 s3, .int .i64 a, .int .i64 n, .string t] ∧ d = recData H b q s0 s1 s2 s3 a n t ∧ p = [] ∧
      ((Lit.int .i64 b).wf = true ∧ (Lit.int .i64 q).wf = true ∧ (Lit.int .i64 s0).wf = true ∧ (Lit.int .i64 s1).wf = true ∧ (Lit.int .i64 s2).wf = true ∧ (Lit.int .i64 s3).wf = true ∧ (Lit.int .i64 a).wf = true ∧ (Lit.int .i64 n).wf = true) ∧ t.size ≤ maxLen := by
  obtain ⟨cs, rfl, hsz⟩ := okWide_struct Tryd.underlying48 hv
  obtain ⟨c0, c1, c2, c3, c4, c5, c6, c7, c8, rfl⟩ := array9 (hsz.trans k26)
  obtain ⟨fuel, hf⟩ := h
  obtain ⟨y0, y1, y2, y3, m, hx, _, h0, h1, h2, h3⟩ := Joins.trod_struct4 Tryd.underlying48 hf
  simp only [Prod.mk.injEq] at hx
  simp only [k3] at h0 h1
  simp only [k22] at h2
  simp only [k24] at h3
  obtain ⟨b, rfl, rfl, w0⟩ := int_cell (c := c0) h0
  obtain ⟨q, rfl, rfl, w1⟩ := int_cell (c := c1) h1
  obtain ⟨z0, z1, z2, z3, m2, rfl, g0, g1, g2, g3⟩ := trod_array4 (c0 := c2) (c1 := c3) (c2 := c4) (c3 := c5) Tryd.underlying44 k3 h2
  obtain ⟨s0, rfl, rfl, w2⟩ := int_cell g0
  obtain ⟨s1, rfl, rfl, w3⟩ := int_cell g1
  obtain ⟨s2, rfl, rfl, w4⟩ := int_cell g2
  obtain ⟨s3, rfl, rfl, w5⟩ := int_cell g3
  obtain ⟨z0, z1, z2, m3, rfl, _, g0, g1, g2⟩ := Deep.trod_struct3 (cs := [c6, c7, c8]) Tryd.underlying46 h3
  simp only [k3] at g0 g1
  simp only [k9] at g2
  obtain ⟨a, rfl, rfl, w6⟩ := int_cell (c := c6) g0
  obtain ⟨n, rfl, rfl, w7⟩ := int_cell (c := c7) g1
  obtain ⟨t, hz, rfl, w8⟩ := DataW.trod_string (cs := [c8]) Tryd.underlying9 g2
  obtain rfl : c8 = .string t := by simpa using hz
  exact ⟨b, q, s0, s1, s2, s3, a, n, t, rfl, hx.1, hx.2, ⟨w0, w1, w2, w3, w4, w5, w6, w7⟩, w8⟩
set_option maxRecDepth 100000 in
theorem shut_rec {b q s0 s1 s2 s3 a n : Int} {t : ByteArray} (hw : (Lit.int .i64 b).wf = true ∧ (Lit.int .i64 q).wf = true ∧ (Lit.int .i64 s0).wf = true ∧ (Lit.int .i64 s1).wf = true ∧ (Lit.int .i64 s2).wf = true ∧ (Lit.int .i64 s3).wf = true ∧ (Lit.int .i64 a).wf = true ∧ (Lit.int .i64 n).wf = true) (ht : t.size ≤ maxLen) :
    DataW.Trod enc Tryd.prog w base spare held tR (.agg #[.int .i64 b, .int .i64 q, .int .i64 s0, .int .i64 s1, .int .i64 s2, .int .i64 s3, .int .i64 a, .int .i64 n, .string t]) (recData H b q s0 s1 s2 s3 a n t) [] := by
  obtain ⟨w0, w1, w2, w3, w4, w5, w6, w7⟩ := hw
  have i (m : Nat) {x : Int} (hx : (Lit.int .i64 x).wf = true) : DataW.trod enc Tryd.prog w base spare held (m + 1) 3 [.int .i64 x] = some (.lit (.int .i64 x), []) := trod_int_mk m Tryd.underlying3 hx
  have hs : DataW.trod enc Tryd.prog w base spare held 1 9 [.string t] = some (.lit (.string t.data.toList), []) := by
    unfold DataW.trod
    rw [Tryd.underlying9]
    simp [ht]
  have h2 : DataW.trod enc Tryd.prog w base spare held 2 44 [.int .i64 s0, .int .i64 s1, .int .i64 s2, .int .i64 s3] = some (.agg [.lit (.int .i64 s0), .lit (.int .i64 s1), .lit (.int .i64 s2), .lit (.int .i64 s3)], []) := by
    unfold DataW.trod
    rw [Tryd.underlying44]
    have r4 : List.range 4 = [0, 1, 2, 3] := rfl
    simp [r4, k3, k22, i 0 w2, i 0 w3, i 0 w4, i 0 w5]
  have h3 : DataW.trod enc Tryd.prog w base spare held 2 tE [.int .i64 a, .int .i64 n, .string t] = some (.agg [.lit (.int .i64 a), .lit (.int .i64 n), .lit (.string t.data.toList)], []) :=
    Deep.trod_struct3_mk (y0 := (.lit (.int .i64 a), [])) (y1 := (.lit (.int .i64 n), [])) (y2 := (.lit (.string t.data.toList), [])) Tryd.underlying46 (by simp [k24]) (by simp only [k3]; exact i 0 w6) (by simp only [k3]; exact i 0 w7) (by simp only [k9]; exact hs)
  exact ⟨3, Joins.trod_struct4_mk (y0 := (.lit (.int .i64 b), [])) (y1 := (.lit (.int .i64 q), [])) (y2 := (.agg [.lit (.int .i64 s0), .lit (.int .i64 s1), .lit (.int .i64 s2), .lit (.int .i64 s3)], [])) (y3 := (.agg [.lit (.int .i64 a), .lit (.int .i64 n), .lit (.string t.data.toList)], [])) Tryd.underlying48 (by simp [k26, Value.cells]) (by simp only [k3]; exact i 1 w0) (by simp only [k3]; exact i 1 w1) (by simp only [k22]; exact h2) (by simp only [k24]; exact h3)⟩
theorem sized_rec {ts : List TypeId} {ds : List (DataW H)} {j : Nat} {b q s0 s1 s2 s3 a n : Int} {t : ByteArray} (h : (DataW.weightsEach Tryd.prog ts ds).all (· ≤ reachBytes) = true) (ht : ts[j]? = some tR) (hd : ds[j]? = some (recData H b q s0 s1 s2 s3 a n t)) : t.size ≤ 140737488351232 := by
  have := List.all_eq_true.1 h _ (DataW.weights_mem_each ht hd t.data.toList.length (by
    unfold recData
    simp only [DataW.weights, Tryd.underlying48, Tryd.underlying46, Tryd.underlying44, DataW.weightsEach, DataW.weightsAll, List.map_cons, List.map_nil]
    simp))
  rw [Array.length_toList] at this
  have e : reachBytes = 140737488351232 := rfl
  rw [e] at this
  simpa using this
end
set_option linter.constructorNameAsVariable false
theorem array13 {α : Type} {cs : Array α} (h : cs.size = 13) : ∃ c0 c1 c2 c3 c4 c5 c6 c7 c8 c9 c10 c11 c12, cs = #[c0, c1, c2, c3, c4, c5, c6, c7, c8, c9, c10, c11, c12] := by
  obtain ⟨l⟩ := cs
  match l, h with
  | [c0, c1, c2, c3, c4, c5, c6, c7, c8, c9, c10, c11, c12], _ => exact ⟨c0, c1, c2, c3, c4, c5, c6, c7, c8, c9, c10, c11, c12, rfl⟩
theorem ik3 : Tryd.prog.cellsOf 3 = 1 := by kernel_rfl
theorem ik22 : Tryd.prog.cellsOf 22 = 8 := by kernel_rfl
theorem ik24 : Tryd.prog.cellsOf 24 = 13 := by kernel_rfl
section
variable {H : Type} {enc : TypeId × Value → H} {w : World} {base : Nat} {spare : Nat → Bool} {held : Bool}
theorem iint_cell {n : Nat} {c : Value} {y : DataW H × List MemPlace} (h : DataW.trod enc Tryd.prog w base spare held n 3 [c] = some y) : ∃ x, c = .int .i64 x := by
  obtain ⟨x, hz, rfl, hw⟩ := DataW.trod_int Tryd.underlying3 h
  exact ⟨x, by simpa using hz⟩
theorem istruct6 {P : Program} {t : TypeId} {f0 f1 f2 f3 f4 f5 : Field} {fuel : Nat} {cs : List Value} {x : DataW H × List MemPlace} (ht : P.underlying t = some (.struct #[f0, f1, f2, f3, f4, f5])) (h : DataW.trod enc P w base spare held fuel t cs = some x) :
    ∃ y0 y1 y2 y3 y4 y5 n, DataW.trod enc P w base spare held n f0.type ((cs.drop f0.offset).take (P.cellsOf f0.type)) = some y0 ∧
      DataW.trod enc P w base spare held n f1.type ((cs.drop f1.offset).take (P.cellsOf f1.type)) = some y1 ∧ DataW.trod enc P w base spare held n f2.type ((cs.drop f2.offset).take (P.cellsOf f2.type)) = some y2 ∧
      DataW.trod enc P w base spare held n f3.type ((cs.drop f3.offset).take (P.cellsOf f3.type)) = some y3 ∧ DataW.trod enc P w base spare held n f4.type ((cs.drop f4.offset).take (P.cellsOf f4.type)) = some y4 ∧
      DataW.trod enc P w base spare held n f5.type ((cs.drop f5.offset).take (P.cellsOf f5.type)) = some y5 := by
  obtain ⟨xs, n, _, rfl, hl, hlen, hf⟩ := DataW.trod_struct ht h
  match xs, hlen with
  | [y0, y1, y2, y3, y4, y5], _ => exact ⟨y0, y1, y2, y3, y4, y5, n, by simpa using hf 0 f0 rfl, by simpa using hf 1 f1 rfl, by simpa using hf 2 f2 rfl, by simpa using hf 3 f3 rfl, by simpa using hf 4 f4 rfl, by simpa using hf 5 f5 rfl⟩
set_option maxRecDepth 100000 in
theorem iarr_cells {fuel : Nat} {c0 c1 c2 c3 c4 c5 c6 c7 : Value} {x : DataW H × List MemPlace} (h : DataW.trod enc Tryd.prog w base spare held fuel 22 [c0, c1, c2, c3, c4, c5, c6, c7] = some x) :
    ∃ x0 x1 x2 x3 x4 x5 x6 x7 : Int, c0 = .int .i64 x0 ∧ c1 = .int .i64 x1 ∧ c2 = .int .i64 x2 ∧ c3 = .int .i64 x3 ∧ c4 = .int .i64 x4 ∧ c5 = .int .i64 x5 ∧ c6 = .int .i64 x6 ∧ c7 = .int .i64 x7 := by
  cases fuel with
  | zero => simp [DataW.trod] at h
  | succ n =>
    unfold DataW.trod at h
    rw [Tryd.underlying22] at h
    have r8 : List.range 8 = [0, 1, 2, 3, 4, 5, 6, 7] := rfl
    simp [r8, ik3] at h
    obtain ⟨_, h⟩ := h

    cases h0 : DataW.trod enc Tryd.prog w base spare held n 3 [c0] with
    | none => simp [h0] at h
    | some y0 =>
      cases h1 : DataW.trod enc Tryd.prog w base spare held n 3 [c1] with
      | none => simp [h0, h1] at h
      | some y1 =>
        cases h2 : DataW.trod enc Tryd.prog w base spare held n 3 [c2] with
        | none => simp [h0, h1, h2] at h
        | some y2 =>
          cases h3 : DataW.trod enc Tryd.prog w base spare held n 3 [c3] with
          | none => simp [h0, h1, h2, h3] at h
          | some y3 =>
            cases h4 : DataW.trod enc Tryd.prog w base spare held n 3 [c4] with
            | none => simp [h0, h1, h2, h3, h4] at h
            | some y4 =>
              cases h5 : DataW.trod enc Tryd.prog w base spare held n 3 [c5] with
              | none => simp [h0, h1, h2, h3, h4, h5] at h
              | some y5 =>
                cases h6 : DataW.trod enc Tryd.prog w base spare held n 3 [c6] with
                | none => simp [h0, h1, h2, h3, h4, h5, h6] at h
                | some y6 =>
                  cases h7 : DataW.trod enc Tryd.prog w base spare held n 3 [c7] with
                  | none => simp [h0, h1, h2, h3, h4, h5, h6, h7] at h
                  | some y7 =>
                    obtain ⟨x0, e0⟩ := iint_cell h0
                    obtain ⟨x1, e1⟩ := iint_cell h1
                    obtain ⟨x2, e2⟩ := iint_cell h2
                    obtain ⟨x3, e3⟩ := iint_cell h3
                    obtain ⟨x4, e4⟩ := iint_cell h4
                    obtain ⟨x5, e5⟩ := iint_cell h5
                    obtain ⟨x6, e6⟩ := iint_cell h6
                    obtain ⟨x7, e7⟩ := iint_cell h7
                    exact ⟨x0, x1, x2, x3, x4, x5, x6, x7, e0, e1, e2, e3, e4, e5, e6, e7⟩
set_option maxRecDepth 100000 in
theorem open_ino {r : Reach} {b0 : Nat} {v : Value} {d : DataW H} {p : List MemPlace} (hv : Value.okWide Tryd.prog w r b0 24 v) (h : DataW.Trod enc Tryd.prog w base spare held 24 v d p) :
    ∃ p0 p1 p2 p3 p4 p5 p6 p7 p8 p9 p10 p11 p12 : Int, v = .agg #[.int .i64 p0, .int .i64 p1, .int .i64 p2, .int .i64 p3, .int .i64 p4, .int .i64 p5, .int .i64 p6, .int .i64 p7, .int .i64 p8, .int .i64 p9, .int .i64 p10, .int .i64 p11, .int .i64 p12] := by
  obtain ⟨cs, rfl, hsz⟩ := okWide_struct Tryd.underlying24 hv
  obtain ⟨c0, c1, c2, c3, c4, c5, c6, c7, c8, c9, c10, c11, c12, rfl⟩ := array13 (hsz.trans ik24)
  obtain ⟨fuel, hf⟩ := h
  obtain ⟨y0, y1, y2, y3, y4, y5, n, h0, h1, h2, h3, h4, h5⟩ := istruct6 Tryd.underlying24 hf
  simp only [ik3] at h0 h1 h2 h4 h5
  simp only [ik22] at h3
  obtain ⟨p0, rfl⟩ := iint_cell (c := c0) (y := y0) h0
  obtain ⟨p1, rfl⟩ := iint_cell (c := c1) (y := y1) h1
  obtain ⟨p2, rfl⟩ := iint_cell (c := c2) (y := y2) h2
  obtain ⟨p3, p4, p5, p6, p7, p8, p9, p10, rfl, rfl, rfl, rfl, rfl, rfl, rfl, rfl⟩ := iarr_cells (c0 := c3) (c1 := c4) (c2 := c5) (c3 := c6) (c4 := c7) (c5 := c8) (c6 := c9) (c7 := c10) (x := y3) h3
  obtain ⟨p11, rfl⟩ := iint_cell (c := c11) (y := y4) h4
  obtain ⟨p12, rfl⟩ := iint_cell (c := c12) (y := y5) h5
  exact ⟨p0, p1, p2, p3, p4, p5, p6, p7, p8, p9, p10, p11, p12, rfl⟩
end
set_option maxRecDepth 100000 in
theorem back_row (p0 p1 p2 p3 p4 p5 p6 p7 p8 p9 p10 p11 g0 g1 g2 i0 i1 i2 i3 i4 i5 i6 i7 i8 i9 i10 i11 i12 r0 r1 r2 r3 r4 r5 r6 r7 : Int) (rt : ByteArray) (A : Option Addr) (c : Nat) (l : List Int) (w : World) (_ : (Lit.int .i64 p0).wf = true) (_ : (Lit.int .i64 p1).wf = true) (_ : (Lit.int .i64 p2).wf = true) (_ : (Lit.int .i64 p3).wf = true) (_ : (Lit.int .i64 p4).wf = true) (_ : (Lit.int .i64 p5).wf = true) (_ : (Lit.int .i64 p6).wf = true) (_ : (Lit.int .i64 p7).wf = true) (_ : (Lit.int .i64 p8).wf = true) (_ : (Lit.int .i64 p9).wf = true) (_ : (Lit.int .i64 p10).wf = true) (_ : (Lit.int .i64 p11).wf = true) (_ : (Lit.int .i64 g0).wf = true) (_ : (Lit.int .i64 g1).wf = true) (_ : (Lit.int .i64 g2).wf = true) (ht : rt.size ≤ 140737488351232) (hr : ReadsInt w .u8 A l.length l) (hc : l.length ≤ c) (hw : ∀ x ∈ l, (Lit.int .u8 x).wf = true) (y : l.length * 1 ≤ 140737488351232) :
    Calls Tryd.prog 4 #[.agg #[.int .i64 p0, .int .i64 p1, .int .i64 p2, .int .i64 p3, .int .i64 p4, .int .i64 p5, .int .i64 p6, .int .i64 p7, .int .i64 p8, .int .i64 p9, .int .i64 p10, .int .i64 p11], .agg #[.int .i64 g0, .int .i64 g1, .int .i64 g2], .agg #[.int .i64 i0, .int .i64 i1, .int .i64 i2, .int .i64 i3, .int .i64 i4, .int .i64 i5, .int .i64 i6, .int .i64 i7, .int .i64 i8, .int .i64 i9, .int .i64 i10, .int .i64 i11, .int .i64 i12], .agg #[.int .i64 r0, .int .i64 r1, .int .i64 r2, .int .i64 r3, .int .i64 r4, .int .i64 r5, .int .i64 r6, .int .i64 r7, .string rt], .slice A l.length c] w fun e w' => e = .returned (.bool true) ∧ Below w.heap.size w w' :=
  back_calls p0 p1 p2 p3 p4 p5 p6 p7 p8 p9 p10 p11 g0 g1 g2 i0 i1 i2 i3 i4 i5 i6 i7 i8 i9 i10 i11 i12 r0 r1 r2 r3 r4 r5 r6 r7 rt ht A c l w (brow_ofC hr) hc (bytes_wf hw) (by omega)
end Go.Proofs.YtbplffdmggbcdaaDoor.Codec
