/- The row of the law SwapGoes, within a bulk, over its walk. No conditions. -/
import Derived.Test.YtacecaacpagokaaRows
import Derived.Test.YtacecaacpagokaaKSGoes
import Derived.Test.YtacecaacpagokaaWWords
import Derived.Test.YtacecaacpagokaaWSized
import Derived.Test.YtacecaacpagokaaKSOpen
import Derived.WalkKit
import Derived.ProofKit
import Derived.OpenShut
import Derived.ShutString
import Derived.ChangeOld
import Derived.Below
import Derived.SizedLaws
import Derived.JoinedCond
import Derived.Lib.SmallJoins
namespace Go.Proofs.Ytacecaacpagokaa.swapGoesUpto
open Go.ChangeShapes Go.WideShapes Go.ChangeAt Go.RowKit
open Go.ChangeMaps (open_string shut_string)
set_option linter.unusedVariables false
theorem own : ownKnob Try.prog.godebug = none := by kernel_rfl
theorem laidOut : laidOutB Try.prog = true := by kernel_rfl
def IsRow (k : IntKind) (w : World) (a : Option Addr) (len cap : Nat) (zs : List Int) : Prop :=
  (a = none ∧ len = 0 ∧ cap = 0 ∧ zs = []) ∨
  ∃ x, a = some x ∧ len ≤ cap ∧ cap ≤ maxLen ∧ zs.length = cap ∧ (∀ i, i < zs.length → w.cell? (x.add i) = some (.int k (zs.getD i 0))) ∧ ∀ n ∈ zs, (Lit.int k n).wf = true
theorem bulk_lits {H : Type} (k : IntKind) (l : List Int) : Rows.uptoBulkAll (lits (H := H) k l) = l.length := by
  induction l with
  | nil => rfl
  | cons x l ih =>
    have : Rows.uptoBulkAll (lits (H := H) k (x :: l)) = 1 + Rows.uptoBulkAll (lits (H := H) k l) := rfl
    rw [this, ih, List.length_cons]
    omega
set_option maxRecDepth 100000 in
theorem contract (H : Type) (enc : TypeId × Value → H) (W : World) (base : Nat) (args : Array Value) (ds gs : List (DataW H)) (before : List MemPlace)
    (hval0 : ∀ (j : Nat) t v, Try.f5.params[j]? = some t → args[j]? = some v → Value.okWide Try.prog W .any base t v)
    (hW : DataW.Whole enc Try.prog Try.f5.params.toList Rows.swapGoesSpec.vars false W args.toList ds gs before) (hk : Rows.uptoSmall H (ds ++ gs) = true) :
    Calls Try.prog 5 args W fun e W' => ∃ v, e = .returned v ∧ Rows.swapGoesSpec.post enc Try.prog Try.f5 false true false false W args v W' := by
  have hval := hval0
  have hW' := hW
  obtain ⟨p, q, hA0, hV, rfl, hfz, hnd⟩ := hW
  have hA : DataW.TrodAll enc Try.prog W 0 (fun _ => true) true Try.f5.params.toList args.toList ds p := hA0
  rw [Try.params5] at hA hval
  obtain ⟨v0, vs0, d0, ds0, p0, q0, hargs, rfl, rfl, h0, r0⟩ := trodAll_cons hA
  obtain ⟨v1, vs1, d1, ds1, p1, q1, rfl, rfl, rfl, h1, r1⟩ := trodAll_cons r0
  obtain ⟨v2, vs2, d2, ds2, p2, q2, rfl, rfl, rfl, h2, r2⟩ := trodAll_cons r1
  obtain ⟨v3, vs3, d3, ds3, p3, q3, rfl, rfl, rfl, h3, r3⟩ := trodAll_cons r2
  obtain ⟨rfl, rfl, rfl⟩ := trodAll_nil r3
  obtain rfl : args = #[v0, v1, v2, v3] := by cases args; simp_all
  obtain ⟨rfl, rfl⟩ := trodVars_none hV
  have hk2 : Rows.uptoBulkAll ([d0, d1, d2, d3] ++ []) ≤ 1048576 := of_decide_eq_true hk
  simp only [List.append_nil, Rows.uptoBulkAll] at hk2
  obtain ⟨a0, rfl, rfl, rfl, w0⟩ := open_int Try.underlying3 (hval 0 3 v0 rfl rfl) h0
  obtain ⟨a1, rfl, rfl, rfl, w1⟩ := open_int Try.underlying3 (hval 1 3 v1 rfl rfl) h1
  obtain ⟨a2, len2, cap2, rfl⟩ := okWide_slice Try.underlying24 (hval 2 24 v2 rfl rfl)
  have k2 := h2
  have lt2 : ∀ x ∈ p2, x.block < W.heap.size := by obtain ⟨m, hm⟩ := k2; exact DataW.trod_lt m _ _ _ hm
  obtain ⟨fuel2, hf2⟩ := h2
  obtain ⟨l2, rfl, hm2, hr2, hz2, hn2⟩ := Swap.open_edits hf2
  have hy2 : ∀ y ∈ l2, y.f2.size ≤ Rows.uptoBulk d2 := fun y hy => (hz2 y hy).1
  have hn2 : l2.length ≤ Rows.uptoBulk d2 := hn2
  clear hz2 hf2
  obtain ⟨va3, vb3, vc3, ya3, yb3, yc3, m3, rfl, rfl, rfl, ha3, hb3, hc3⟩ := Joins.open_agg3 Try.underlying46 (by kernel_rfl) (by kernel_rfl) (hval 3 46 v3 rfl rfl) h3
  obtain ⟨a3_0, za3, rfl, wa3⟩ := DataW.trod_int Try.underlying3 ha3
  obtain rfl : va3 = .int .i64 a3_0 := by simpa using za3
  obtain ⟨a3_1, zb3, rfl, wb3⟩ := DataW.trod_int Try.underlying3 hb3
  obtain rfl : vb3 = .int .i64 a3_1 := by simpa using zb3
  obtain ⟨a3_2, zc3, rfl, wc3⟩ := DataW.trod_string Try.underlying9 hc3
  obtain rfl : vc3 = .string a3_2 := by simpa using zc3
  have hall := hk2
  simp only [Rows.uptoBulk, Rows.uptoBulkAll, Array.length_toList] at hall
  clear hA0 hval0
  refine (Swap.goes_law a0 a1 a2 cap2 l2 a3_0 a3_1 a3_2 W w0 w1 hr2 (by omega) (fun y hy => by have := hy2 y hy; omega) wa3 wb3 (by have z3 : a3_2.data.size = a3_2.size := rfl; omega)).mono fun e W' ⟨he, bel⟩ => ?_
  subst he
  exact ⟨_, rfl, _, _, _, [], _, [], hW', trodAll_mk1 (shut_bool Try.underlying4 _), (trodAll_cons_mk (shut_int Try.underlying3 w0) (trodAll_cons_mk (shut_int Try.underlying3 w1) (trodAll_cons_mk (Below.trod laidOut (by kernel_rfl) (of_decide_eq_true (by kernel_rfl)) k2 bel lt2) (trodAll_cons_mk (Joins.shut_agg3 (y0 := (.lit (.int .i64 a3_0), [])) (y1 := (.lit (.int .i64 a3_1), [])) (y2 := (.lit (.string a3_2.data.toList), [])) Try.underlying46 (by kernel_rfl) (by kernel_rfl) ⟨1, trod_int_mk 0 Try.underlying3 wa3⟩ ⟨1, trod_int_mk 0 Try.underlying3 wb3⟩ (shut_string Try.underlying9 wc3)) trodAll_mk0)))), rfl, bel.frame _, fun h => by cases h⟩
set_option maxRecDepth 100000 in
theorem lifted (os : Os) (started : os.Started) (H : Type) (enc : TypeId × Value → H) (F : Stop.Interp) :
    ReturnsInHanded {} Try.checked os 5 .any ((Rows.OpenSpec.upto Rows.swapGoesSpec).pre6 enc Try.prog Try.f5 Rows.swapGoesUptoRow.domain false) (((Rows.OpenSpec.upto Rows.swapGoesSpec).at F).post enc Try.prog Try.f5 false true false false) := by
  refine returnsInHanded_of_cond (C := Try.checked) (s := Rows.OpenSpec.upto Rows.swapGoesSpec) (k := Rows.uptoSmall) rfl own started (by kernel_rfl) Try.func5
    (OpenSpec.witness (enc := enc) (C := Try.checked) (s := Rows.OpenSpec.upto Rows.swapGoesSpec) (k := Rows.uptoSmall) rfl false ⟨#[], #[.int .i64 0, .int .i64 0, .slice none 0 0, .agg #[.int .i64 0, .int .i64 0, .string ⟨#[]⟩]], []⟩ 8 (by kernel_rfl) (by kernel_rfl) (by kernel_rfl)
      (x := ([.lit (.int .i64 0), .lit (.int .i64 0), .nil, .agg [.lit (.int .i64 0), .lit (.int .i64 0), .lit (.string [])]], [], [])) (by kernel_rfl) rfl (by kernel_rfl)) ?_
  intro W base args ds gs before hval hW _ hk _
  exact contract H enc W base args ds gs before hval hW hk
theorem over : Rows.swapGoesUptoRow.holds Try.pinned (Rows.OpenSpec.upto Rows.swapGoesSpec) :=
  OpenClaim.holds_of_cond 5 Try.f5 rfl rfl rfl rfl rfl rfl rfl ⟨rfl, rfl, rfl, rfl, rfl⟩ rfl rfl rfl rfl rfl (by kernel_rfl) Try.func5 (by kernel_rfl)
    (of_decide_eq_true (by kernel_rfl)) (by unfold Func.isWrapper; first | (rw [if_pos (by decide +kernel)]; kernel_rfl) | (rw [if_neg (by decide +kernel)]; exact ⟨rfl, rfl⟩))
    (fun os started H enc _ F => lifted os started H enc F)
theorem proved : Rows.SwapGoesUptoSaid := over
#print axioms proved
end Go.Proofs.Ytacecaacpagokaa.swapGoesUpto
namespace Go.Proofs.Ytacecaacpagokaa
/-- The row, under a short name, for the claim. -/
theorem swapGoes_holds : Rows.SwapGoesUptoSaid := swapGoesUpto.proved
end Go.Proofs.Ytacecaacpagokaa
