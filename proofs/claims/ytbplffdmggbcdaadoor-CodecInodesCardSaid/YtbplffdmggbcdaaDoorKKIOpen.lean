/- An inode, a name in a directory as arguments: opened. -/
import Derived.Test.YtbplffdmggbcdaaDoorKKILaw
import Derived.OpenShut
import Derived.ShutString
import Derived.ChangeOld
import Derived.ChangeSame
import Derived.Below
import Derived.SizedLaws
import Derived.Lib.SmallJoins
namespace Go.Proofs.YtbplffdmggbcdaaDoor.Codec
open Go.RowKit Go.Proofs.YtbplffdmggbcdaaDoor.PCodecInodes Go.Proofs.YtbplffdmggbcdaaDoor.Plain Go.Proofs.YtbplffdmggbcdaaDoorW.PrintWords Go.ChangeShapes Go.WideShapes
set_option linter.unusedVariables false
set_option linter.constructorNameAsVariable false
theorem array13 {α : Type} {cs : Array α} (h : cs.size = 13) : ∃ c0 c1 c2 c3 c4 c5 c6 c7 c8 c9 c10 c11 c12, cs = #[c0, c1, c2, c3, c4, c5, c6, c7, c8, c9, c10, c11, c12] := by
  obtain ⟨l⟩ := cs
  match l, h with
  | [c0, c1, c2, c3, c4, c5, c6, c7, c8, c9, c10, c11, c12], _ => exact ⟨c0, c1, c2, c3, c4, c5, c6, c7, c8, c9, c10, c11, c12, rfl⟩
theorem ik3 : Tryd.prog.cellsOf 3 = 1 := by kernel_rfl
theorem ik22 : Tryd.prog.cellsOf 22 = 8 := by kernel_rfl
theorem ik24 : Tryd.prog.cellsOf 24 = 13 := by kernel_rfl
section
variable {H : Type} {enc : TypeId × Value → H} {w : World} {base : Nat} {spare : Nat → Bool} {held : Bool}
theorem iint_cell {n : Nat} {c : Value} {y : DataW H × List MemPlace} (h : DataW.trod enc Tryd.prog w base spare held n 3 [c] = some y) : ∃ x, c = .int .i64 x := by
  obtain ⟨x, hz, rfl, hw⟩ := DataW.trod_int Tryd.underlying3 h
  exact ⟨x, by simpa using hz⟩
theorem istruct6 {P : Program} {t : TypeId} {f0 f1 f2 f3 f4 f5 : Field} {fuel : Nat} {cs : List Value} {x : DataW H × List MemPlace} (ht : P.underlying t = some (.struct #[f0, f1, f2, f3, f4, f5])) (h : DataW.trod enc P w base spare held fuel t cs = some x) :
    ∃ y0 y1 y2 y3 y4 y5 n, DataW.trod enc P w base spare held n f0.type ((cs.drop f0.offset).take (P.cellsOf f0.type)) = some y0 ∧
      DataW.trod enc P w base spare held n f1.type ((cs.drop f1.offset).take (P.cellsOf f1.type)) = some y1 ∧ DataW.trod enc P w base spare held n f2.type ((cs.drop f2.offset).take (P.cellsOf f2.type)) = some y2 ∧
      DataW.trod enc P w base spare held n f3.type ((cs.drop f3.offset).take (P.cellsOf f3.type)) = some y3 ∧ DataW.trod enc P w base spare held n f4.type ((cs.drop f4.offset).take (P.cellsOf f4.type)) = some y4 ∧
      DataW.trod enc P w base spare held n f5.type ((cs.drop f5.offset).take (P.cellsOf f5.type)) = some y5 := by
  obtain ⟨xs, n, _, rfl, hl, hlen, hf⟩ := DataW.trod_struct ht h
  match xs, hlen with
  | [y0, y1, y2, y3, y4, y5], _ => exact ⟨y0, y1, y2, y3, y4, y5, n, by simpa using hf 0 f0 rfl, by simpa using hf 1 f1 rfl, by simpa using hf 2 f2 rfl, by simpa using hf 3 f3 rfl, by simpa using hf 4 f4 rfl, by simpa using hf 5 f5 rfl⟩
set_option maxRecDepth 100000 in
theorem iarr_cells {fuel : Nat} {c0 c1 c2 c3 c4 c5 c6 c7 : Value} {x : DataW H × List MemPlace} (h : DataW.trod enc Tryd.prog w base spare held fuel 22 [c0, c1, c2, c3, c4, c5, c6, c7] = some x) :
    ∃ x0 x1 x2 x3 x4 x5 x6 x7 : Int, c0 = .int .i64 x0 ∧ c1 = .int .i64 x1 ∧ c2 = .int .i64 x2 ∧ c3 = .int .i64 x3 ∧ c4 = .int .i64 x4 ∧ c5 = .int .i64 x5 ∧ c6 = .int .i64 x6 ∧ c7 = .int .i64 x7 := by
  cases fuel with
  | zero => simp [DataW.trod] at h
  | succ n =>
    unfold DataW.trod at h
    rw [Tryd.underlying22] at h
    have r8 : List.range 8 = [0, 1, 2, 3, 4, 5, 6, 7] := rfl
    simp [r8, ik3] at h
    obtain ⟨_, h⟩ := h

    cases h0 : DataW.trod enc Tryd.prog w base spare held n 3 [c0] with
    | none => simp [h0] at h
    | some y0 =>
      cases h1 : DataW.trod enc Tryd.prog w base spare held n 3 [c1] with
      | none => simp [h0, h1] at h
      | some y1 =>
        cases h2 : DataW.trod enc Tryd.prog w base spare held n 3 [c2] with
        | none => simp [h0, h1, h2] at h
        | some y2 =>
          cases h3 : DataW.trod enc Tryd.prog w base spare held n 3 [c3] with
          | none => simp [h0, h1, h2, h3] at h
          | some y3 =>
            cases h4 : DataW.trod enc Tryd.prog w base spare held n 3 [c4] with
            | none => simp [h0, h1, h2, h3, h4] at h
            | some y4 =>
              cases h5 : DataW.trod enc Tryd.prog w base spare held n 3 [c5] with
              | none => simp [h0, h1, h2, h3, h4, h5] at h
              | some y5 =>
                cases h6 : DataW.trod enc Tryd.prog w base spare held n 3 [c6] with
                | none => simp [h0, h1, h2, h3, h4, h5, h6] at h
                | some y6 =>
                  cases h7 : DataW.trod enc Tryd.prog w base spare held n 3 [c7] with
                  | none => simp [h0, h1, h2, h3, h4, h5, h6, h7] at h
                  | some y7 =>
                    obtain ⟨x0, e0⟩ := iint_cell h0
                    obtain ⟨x1, e1⟩ := iint_cell h1
                    obtain ⟨x2, e2⟩ := iint_cell h2
                    obtain ⟨x3, e3⟩ := iint_cell h3
                    obtain ⟨x4, e4⟩ := iint_cell h4
                    obtain ⟨x5, e5⟩ := iint_cell h5
                    obtain ⟨x6, e6⟩ := iint_cell h6
                    obtain ⟨x7, e7⟩ := iint_cell h7
                    exact ⟨x0, x1, x2, x3, x4, x5, x6, x7, e0, e1, e2, e3, e4, e5, e6, e7⟩
set_option maxRecDepth 100000 in
theorem open_ino {r : Reach} {b0 : Nat} {v : Value} {d : DataW H} {p : List MemPlace} (hv : Value.okWide Tryd.prog w r b0 24 v) (h : DataW.Trod enc Tryd.prog w base spare held 24 v d p) :
    ∃ p0 p1 p2 p3 p4 p5 p6 p7 p8 p9 p10 p11 p12 : Int, v = .agg #[.int .i64 p0, .int .i64 p1, .int .i64 p2, .int .i64 p3, .int .i64 p4, .int .i64 p5, .int .i64 p6, .int .i64 p7, .int .i64 p8, .int .i64 p9, .int .i64 p10, .int .i64 p11, .int .i64 p12] := by
  obtain ⟨cs, rfl, hsz⟩ := okWide_struct Tryd.underlying24 hv
  obtain ⟨c0, c1, c2, c3, c4, c5, c6, c7, c8, c9, c10, c11, c12, rfl⟩ := array13 (hsz.trans ik24)
  obtain ⟨fuel, hf⟩ := h
  obtain ⟨y0, y1, y2, y3, y4, y5, n, h0, h1, h2, h3, h4, h5⟩ := istruct6 Tryd.underlying24 hf
  simp only [ik3] at h0 h1 h2 h4 h5
  simp only [ik22] at h3
  obtain ⟨p0, rfl⟩ := iint_cell (c := c0) (y := y0) h0
  obtain ⟨p1, rfl⟩ := iint_cell (c := c1) (y := y1) h1
  obtain ⟨p2, rfl⟩ := iint_cell (c := c2) (y := y2) h2
  obtain ⟨p3, p4, p5, p6, p7, p8, p9, p10, rfl, rfl, rfl, rfl, rfl, rfl, rfl, rfl⟩ := iarr_cells (c0 := c3) (c1 := c4) (c2 := c5) (c3 := c6) (c4 := c7) (c5 := c8) (c6 := c9) (c7 := c10) (x := y3) h3
  obtain ⟨p11, rfl⟩ := iint_cell (c := c11) (y := y4) h4
  obtain ⟨p12, rfl⟩ := iint_cell (c := c12) (y := y5) h5
  exact ⟨p0, p1, p2, p3, p4, p5, p6, p7, p8, p9, p10, p11, p12, rfl⟩
set_option maxRecDepth 100000 in
theorem open_dent {r : Reach} {b0 : Nat} {v : Value} {d : DataW H} {p : List MemPlace} (hv : Value.okWide Tryd.prog w r b0 26 v) (h : DataW.Trod enc Tryd.prog w base spare held 26 v d p) :
    ∃ (di : Int) (ds : ByteArray), v = .agg #[.int .i64 di, .string ds] := by
  obtain ⟨v0, v1, y0, y1, n, rfl, _, _, h0, h1⟩ := Joins.open_agg2 Tryd.underlying26 (by kernel_rfl) (by kernel_rfl) hv h
  obtain ⟨x, rfl⟩ := iint_cell h0
  obtain ⟨s, hz, _, _⟩ := DataW.trod_string Tryd.underlying9 h1
  obtain rfl : v1 = .string s := by simpa using hz
  exact ⟨x, s, rfl⟩
end
set_option maxRecDepth 100000 in
theorem inodes_row (p0 p1 p2 p3 p4 p5 p6 p7 p8 p9 p10 p11 p12 di : Int) (ds : ByteArray) (A : Option Addr) (c : Nat) (l : List Int) (w : World) (hr : ReadsInt w .u8 A l.length l) (hc : l.length ≤ c) (hw : ∀ x ∈ l, (Lit.int .u8 x).wf = true) (y : l.length * 1 ≤ 140737488351232) :
    Calls Tryd.prog 3 #[.agg #[.int .i64 p0, .int .i64 p1, .int .i64 p2, .int .i64 p3, .int .i64 p4, .int .i64 p5, .int .i64 p6, .int .i64 p7, .int .i64 p8, .int .i64 p9, .int .i64 p10, .int .i64 p11, .int .i64 p12], .agg #[.int .i64 di, .string ds], .slice A l.length c] w fun e w' => e = .returned (.bool true) ∧ Below w.heap.size w w' :=
  inodes_calls p0 p1 p2 p3 p4 p5 p6 p7 p8 p9 p10 p11 p12 di ds A c l w (brow_ofC hr) hc (bytes_wf hw) (by omega)
end Go.Proofs.YtbplffdmggbcdaaDoor.Codec
