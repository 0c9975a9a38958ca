/- Superblocks and heads of logs are written, and all bytes are read as them, as the document says: the law answers true for every input. No conditions. -/
import Derived.Test.YtbplffdmggbcdaaRows
import Derived.Test.YtbplffdmggbcdaaKKHRow
import Derived.Test.YtbplffdmggbcdaaWWords
import Derived.Test.YtbplffdmggbcdaaWSized
import Derived.Test.YtbplffdmggbcdaaPlainStruct
import Derived.Lib.SmallJoins
import Derived.WalkKit
import Derived.ProofKit
import Derived.OpenShut
import Derived.ShutString
import Derived.ChangeOld
import Derived.Below
import Derived.SizedLaws
import Derived.JoinedCond
namespace Go.Proofs.Ytbplffdmggbcdaa.codecHeads
open Go.ChangeShapes Go.WideShapes Go.ChangeAt Go.RowKit
open Go.ChangeMaps (open_string shut_string)
set_option linter.unusedVariables false
theorem own : ownKnob Try.prog.godebug = none := by kernel_rfl
theorem laidOut : laidOutB Try.prog = true := by kernel_rfl
theorem all0 : ∀ (i : Nat) (f : Field), (match Try.prog.underlying 37 with | some (.struct fs) => fs | _ => #[])[i]? = some f → f.type = 3 ∧ f.offset = i := PlainStruct.all_of (by kernel_rfl)
def IsRow (k : IntKind) (w : World) (a : Option Addr) (len cap : Nat) (zs : List Int) : Prop :=
  (a = none ∧ len = 0 ∧ cap = 0 ∧ zs = []) ∨
  ∃ x, a = some x ∧ len ≤ cap ∧ cap ≤ maxLen ∧ zs.length = cap ∧ (∀ i, i < zs.length → w.cell? (x.add i) = some (.int k (zs.getD i 0))) ∧ ∀ n ∈ zs, (Lit.int k n).wf = true
set_option maxRecDepth 100000 in
theorem contract (H : Type) (enc : TypeId × Value → H) (W : World) (base : Nat) (args : Array Value) (ds gs : List (DataW H)) (before : List MemPlace)
    (hval0 : ∀ (j : Nat) t v, Try.f4.params[j]? = some t → args[j]? = some v → Value.okWide Try.prog W .any base t v)
    (hW : DataW.Whole enc Try.prog Try.f4.params.toList Rows.codecHeadsSpec.vars false W args.toList ds gs before) (hsz0 : (DataW.weightsEach Try.prog (Try.f4.params.toList ++ Rows.codecHeadsSpec.plain.varTypes Try.prog) (ds ++ gs)).all (· ≤ reachBytes) = true) :
    Calls Try.prog 4 args W fun e W' => ∃ v, e = .returned v ∧ Rows.codecHeadsSpec.post enc Try.prog Try.f4 false true false false W args v W' := by
  have hsz := hsz0
  have hval := hval0
  have hW' := hW
  obtain ⟨p, q, hA0, hV, rfl, hfz, hnd⟩ := hW
  have hA : DataW.TrodAll enc Try.prog W 0 (fun _ => true) true Try.f4.params.toList args.toList ds p := hA0
  rw [Try.params4] at hA hval hsz
  obtain ⟨v0, vs0, d0, ds0, p0, q0, hargs, rfl, rfl, h0, r0⟩ := trodAll_cons hA
  obtain ⟨v1, vs1, d1, ds1, p1, q1, rfl, rfl, rfl, h1, r1⟩ := trodAll_cons r0
  obtain ⟨v2, vs2, d2, ds2, p2, q2, rfl, rfl, rfl, h2, r2⟩ := trodAll_cons r1
  obtain ⟨v3, vs3, d3, ds3, p3, q3, rfl, rfl, rfl, h3, r3⟩ := trodAll_cons r2
  obtain ⟨rfl, rfl, rfl⟩ := trodAll_nil r3
  obtain rfl : args = #[v0, v1, v2, v3] := by cases args; simp_all
  obtain ⟨rfl, rfl⟩ := trodVars_none hV
  obtain ⟨ns0, l0, rfl, rfl, rfl, w0⟩ := PlainStruct.open_row Try.underlying37 Try.underlying3 all0 (by kernel_rfl) (by kernel_rfl) (hval 0 37 v0 rfl rfl) h0
  obtain ⟨a0_0, a0_1, a0_2, a0_3, a0_4, a0_5, a0_6, a0_7, a0_8, a0_9, a0_10, a0_11, rfl⟩ := PlainStruct.twelve l0
  obtain ⟨va1, vb1, vc1, ya1, yb1, yc1, m1, rfl, rfl, rfl, ha1, hb1, hc1⟩ := Joins.open_agg3 Try.underlying39 (by kernel_rfl) (by kernel_rfl) (hval 1 39 v1 rfl rfl) h1
  obtain ⟨a1_0, za1, rfl, wa1⟩ := DataW.trod_int Try.underlying3 ha1
  obtain rfl : va1 = .int .i64 a1_0 := by simpa using za1
  obtain ⟨a1_1, zb1, rfl, wb1⟩ := DataW.trod_int Try.underlying3 hb1
  obtain rfl : vb1 = .int .i64 a1_1 := by simpa using zb1
  obtain ⟨a1_2, zc1, rfl, wc1⟩ := DataW.trod_int Try.underlying3 hc1
  obtain rfl : vc1 = .int .i64 a1_2 := by simpa using zc1
  obtain ⟨a2, rfl, rfl, rfl, w2⟩ := open_int Try.underlying3 (hval 2 3 v2 rfl rfl) h2
  obtain ⟨a3, len3, cap3, rfl⟩ := okWide_slice Try.underlying27 (hval 3 27 v3 rfl rfl)
  have k3 := h3
  have lt3 : ∀ x ∈ p3, x.block < W.heap.size := by obtain ⟨m, hm⟩ := k3; exact DataW.trod_lt m _ _ _ hm
  have y3 : len3 * 1 ≤ 140737488351232 := Go.Proofs.YtbplffdmggbcdaaW.PrintWords.sized_ints hsz (j := 3) (t := 27) rfl rfl Try.underlying27 Try.underlying5 (by kernel_rfl) (by kernel_rfl) h3
  obtain ⟨z3, w3⟩ : ∃ zs, IsRow .u8 W a3 len3 cap3 zs := by
    obtain ⟨fuel, hf⟩ := h3
    rcases open_ints Try.underlying27 Try.underlying5 (by kernel_rfl) hf with ⟨hcs, _⟩ | ⟨x, l, c, zs, hcs, _, hl, hm, hz, hx, hcell, hwz⟩
    · simp [Value.cells] at hcs
      obtain ⟨rfl, rfl, rfl⟩ := hcs
      exact ⟨[], .inl ⟨rfl, rfl, rfl, rfl⟩⟩
    · simp [Value.cells] at hcs
      obtain ⟨rfl, rfl, rfl⟩ := hcs
      exact ⟨zs, .inr ⟨_, rfl, hl, hm, by simpa using hz, hcell, hwz⟩⟩
  clear hA0 hval0 hsz0 hsz
  obtain ⟨l3, rfl, hr3, hm3, hw3, hc3⟩ := Go.Proofs.YtbplffdmggbcdaaW.PrintWords.ReadsInt.ofRowC w3
  refine (Codec.heads_row a0_0 a0_1 a0_2 a0_3 a0_4 a0_5 a0_6 a0_7 a0_8 a0_9 a0_10 a0_11 a1_0 a1_1 a1_2 a2 a3 cap3 l3 W (w0 _ (by simp)) (w0 _ (by simp)) (w0 _ (by simp)) (w0 _ (by simp)) (w0 _ (by simp)) (w0 _ (by simp)) (w0 _ (by simp)) (w0 _ (by simp)) (w0 _ (by simp)) (w0 _ (by simp)) (w0 _ (by simp)) (w0 _ (by simp)) wa1 wb1 wc1 w2 hr3 hc3 hw3 y3 ).mono fun e W' ⟨he, bel⟩ => ?_
  subst he
  exact ⟨_, rfl, _, _, _, [], _, [], hW', trodAll_mk1 (shut_bool Try.underlying4 _), (trodAll_cons_mk (PlainStruct.shut_row Try.underlying37 Try.underlying3 all0 (by kernel_rfl) (by kernel_rfl) l0 w0) (trodAll_cons_mk (Joins.shut_agg3 (y0 := (.lit (.int .i64 a1_0), [])) (y1 := (.lit (.int .i64 a1_1), [])) (y2 := (.lit (.int .i64 a1_2), [])) Try.underlying39 (by kernel_rfl) (by kernel_rfl) ⟨1, trod_int_mk 0 Try.underlying3 wa1⟩ ⟨1, trod_int_mk 0 Try.underlying3 wb1⟩ ⟨1, trod_int_mk 0 Try.underlying3 wc1⟩) (trodAll_cons_mk (shut_int Try.underlying3 w2) (trodAll_cons_mk (Below.trod laidOut (by kernel_rfl) (of_decide_eq_true (by kernel_rfl)) k3 bel lt3) trodAll_mk0)))), rfl, bel.frame _, fun h => by cases h⟩
set_option maxRecDepth 100000 in
theorem lifted (os : Os) (started : os.Started) (H : Type) (enc : TypeId × Value → H) :
    ReturnsInHanded {} Try.checked os 4 .any (Rows.codecHeadsSpec.pre6 enc Try.prog Try.f4 Rows.codecHeadsRow.domain false) (Rows.codecHeadsSpec.post enc Try.prog Try.f4 false true false false) := by
  refine returnsInHanded_of_change_sized (C := Try.checked) own started (by kernel_rfl) Try.func4
    (ChangeSpec.witness6 (enc := enc) (C := Try.checked) false ⟨#[], #[.agg #[.int .i64 0, .int .i64 0, .int .i64 0, .int .i64 0, .int .i64 0, .int .i64 0, .int .i64 0, .int .i64 0, .int .i64 0, .int .i64 0, .int .i64 0, .int .i64 0], .agg #[.int .i64 0, .int .i64 0, .int .i64 0], .int .i64 0, .slice none 0 0], []⟩ 8 (by kernel_rfl) (by kernel_rfl) (by kernel_rfl) (by kernel_rfl)) ?_
  intro W base args ds gs before hval0 hW hcnd hsz0 _
  exact contract H enc W base args ds gs before hval0 hW hsz0
theorem over : Rows.codecHeadsRow.holds Try.pinned (OpenSpec.ofChange Rows.codecHeadsSpec) :=
  OpenClaim.holds_of_wide 4 Try.f4 rfl rfl rfl rfl rfl rfl rfl ⟨rfl, rfl, rfl, rfl, rfl⟩ rfl rfl rfl rfl rfl (by kernel_rfl) Try.func4 (by kernel_rfl)
    (of_decide_eq_true (by kernel_rfl)) (by unfold Func.isWrapper; first | (rw [if_pos (by decide +kernel)]; kernel_rfl) | (rw [if_neg (by decide +kernel)]; exact ⟨rfl, rfl⟩))
    (fun os started H enc _ => lifted os started H enc)
theorem proved : Rows.CodecHeadsSaid := over
#print axioms proved
end Go.Proofs.Ytbplffdmggbcdaa.codecHeads
namespace Go.Proofs.Ytbplffdmggbcdaa
/-- The row, under a short name, for the claim. -/
theorem codecHeads_holds : Rows.CodecHeadsSaid := codecHeads.proved
end Go.Proofs.Ytbplffdmggbcdaa
