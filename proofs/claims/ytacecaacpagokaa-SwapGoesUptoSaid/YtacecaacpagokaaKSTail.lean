/- Texts of this claim, merged. -/
import Derived.Test.YtacecaacpagokaaKSWritten
import Derived.Laws.StructEq
namespace Go.Proofs.Ytacecaacpagokaa.Swap
open Go.RowKit Go.Proofs.Ytacecaacpagokaa.PSwapGoes Go.Proofs.Ytacecaacpagokaa.Plain Go.Proofs.Ytacecaacpagokaa.Pure Go.Proofs.Ytacecaacpagokaa.Codec Go.Proofs.Ytacecaacpagokaa.Turn Go.Proofs.Ytacecaacpagokaa.PlainFloat Go.Proofs.YtacecaacpagokaaW.PrintWords Go.Proofs.YtacecaacpagokaaW.PrintLast Go.Proofs.YtacecaacpagokaaW.PrintMore
set_option linter.unusedVariables false
set_option linter.unusedSimpArgs false
attribute [local go_sem] run_store_complex max2_int min2_int max_two min_two
set_option maxHeartbeats 4000000 in
set_option maxRecDepth 100000 in
theorem same_ok (A1 A2 : Option Addr) (c1 c2 : Nat) (l : List S46) (w : World) (h1 : Kd.C k46 w A1 l.length l) (h2 : Kd.C k46 w A2 l.length l) :
    Calls Try.prog 11 #[.slice A1 l.length c1, .slice A2 l.length c2] w fun e w' => e = .returned (.bool true) ∧ Below w.heap.size w w' := by
  have hu := Try.underlying46
  have H1 := Aside0.mk h1
  have H2 := Aside0.mk h2
  have hl9 : l.length ≤ 9223372036854775807 := h1.2.1
  have HL := Aside0.mk hl9
  clear h1 h2 hl9
  go_enter Try.func11, Try.ntmps11
  go_wp2_with fail
  go_loopg [5] l.length (fun kq v5 w' => ∃ i : Nat, v5 = .int .i64 (i : Int) ∧ i ≤ l.length ∧ l.length - i ≤ kq ∧ Aside0 (Below w.heap.size w w'))
  case atStart => exact ⟨0, rfl, by omega, by omega, ⟨Below.refl _ _⟩⟩
  case round =>
    obtain ⟨i, rfl, hi, hkq, HB⟩ := hrel
    by_cases hil : i < l.length
    · obtain ⟨g1, rfl⟩ : ∃ g1, gk = g1 + 1 := ⟨gk - 1, by omega⟩
      have d1 : decide ((i : Int) < (l.length : Int)) = true := decide_eq_true (by omega)
      have q0 : (0 : Int) ≤ (i : Int) := by omega
      have q1 : (i : Int) < (l.length : Int) := by omega
      have wi : wrap64 ((i : Int) + 1) = (i : Int) + 1 := w64 (by omega) (by have := HL.out; omega)
      have HB2 := Aside0.mk (below_drew HB.out)
      obtain ⟨ad, hA, x0, x1, x2⟩ := at_T46 (Kd.C_below H1.out HB2.out) (i : Int) q0 q1
      obtain ⟨ae, hE, y0, y1, y2⟩ := at_T46 (Kd.C_below H2.out HB2.out) (i : Int) q0 q1
      subst hA hE
      rw [Int.toNat_natCast] at x0 x1 x2 y0 y1 y2
      obtain ⟨x, hx⟩ : ∃ x, rd_T46 l (i : Int) = x := ⟨_, rfl⟩
      rw [hx] at x0 x1 x2 y0 y1 y2
      clear hx
      go_upto_region 6 with (fail)
      refine wp_region_still_lit (by kernel_rfl) (by kernel_rfl) ?_
      change wpStill _ _ wr.drew _ _ _
      repeat still_step
      refine wpStill_nil ?_
      change Exit.then _ _ _ _ wr.drew
      clear x0 x1 x2 y0 y1 y2
      go_wp2_with fail
      go_roundg g1
      case measure => omega
      case rel => exact ⟨i + 1, by go_num, by omega, by omega, HB2⟩
    · obtain rfl : i = l.length := by omega
      have d1 : decide ((l.length : Int) < (l.length : Int)) = false := decide_eq_false (by omega)
      go_wp2_with fail
      go_ret
      exact ⟨rfl, HB.out⟩
end Go.Proofs.Ytacecaacpagokaa.Swap

namespace Go.Proofs.Ytacecaacpagokaa.Swap
open Go.RowKit Go.Proofs.Ytacecaacpagokaa.PSwapGoes Go.Proofs.Ytacecaacpagokaa.Plain Go.Proofs.Ytacecaacpagokaa.Pure Go.Proofs.Ytacecaacpagokaa.Codec Go.Proofs.Ytacecaacpagokaa.Turn Go.Proofs.Ytacecaacpagokaa.PlainFloat Go.Proofs.YtacecaacpagokaaW.PrintWords Go.Proofs.YtacecaacpagokaaW.PrintLast Go.Proofs.YtacecaacpagokaaW.PrintMore
set_option linter.unusedVariables false
set_option linter.unusedSimpArgs false
set_option maxRecDepth 100000 in
theorem four_at (d : Nat) (W : World) (a0 b0 a1 b1 a2 b2 a3 b3 c0 d0 c1 d1 c2 d2 c3 d3 : Nat) :
    (Op.equalIn (d + 1 + 1) 27 (.agg #[.complex .f64 a0 b0, .complex .f64 a1 b1, .complex .f64 a2 b2, .complex .f64 a3 b3]) (.agg #[.complex .f64 c0 d0, .complex .f64 c1 d1, .complex .f64 c2 d2, .complex .f64 c3 d3])).run Try.prog W =
      .ok (((FloatKind.f64.format.order a0 c0 == some .eq) && (FloatKind.f64.format.order b0 d0 == some .eq)) && (((FloatKind.f64.format.order a1 c1 == some .eq) && (FloatKind.f64.format.order b1 d1 == some .eq)) && (((FloatKind.f64.format.order a2 c2 == some .eq) && (FloatKind.f64.format.order b2 d2 == some .eq)) && ((FloatKind.f64.format.order a3 c3 == some .eq) && (FloatKind.f64.format.order b3 d3 == some .eq))))) W := by
  have hu : Try.prog.underlying 27 = some (.array 4 25) := by kernel_rfl
  have hi : Try.prog.info? 25 = some (Try.prog.types[25]!) := by kernel_rfl
  have hc : Try.prog.cellsOf 25 = 1 := by kernel_rfl
  have he := run_equalIn_array (P := Try.prog) (w := W) (d + 1) #[.complex .f64 a0 b0, .complex .f64 a1 b1, .complex .f64 a2 b2, .complex .f64 a3 b3] #[.complex .f64 c0 d0, .complex .f64 c1 d1, .complex .f64 c2 d2, .complex .f64 c3 d3] hu hi
  rw [hc] at he
  rw [he]
  simp only [List.range, List.range.loop, Op.eqItems, Sem.run_bind]
  simp [part, sizeOf, typeInfo]
  simp only [cell_eq, Result.andThen_ok]
  generalize ((FloatKind.f64.format.order a0 c0 == some .eq) && (FloatKind.f64.format.order b0 d0 == some .eq)) = p0
  generalize ((FloatKind.f64.format.order a1 c1 == some .eq) && (FloatKind.f64.format.order b1 d1 == some .eq)) = p1
  generalize ((FloatKind.f64.format.order a2 c2 == some .eq) && (FloatKind.f64.format.order b2 d2 == some .eq)) = p2
  generalize ((FloatKind.f64.format.order a3 c3 == some .eq) && (FloatKind.f64.format.order b3 d3 == some .eq)) = p3
  cases p0
  · rfl
  cases p1
  · rfl
  cases p2
  · rfl
  cases p3 <;> rfl
theorem four_same (d : Nat) (W : World) {a0 b0 a1 b1 a2 b2 a3 b3 c0 d0 c1 d1 c2 d2 c3 d3 : Nat} {S : List Int} (h : Of4 (.agg #[.complex .f64 a0 b0, .complex .f64 a1 b1, .complex .f64 a2 b2, .complex .f64 a3 b3]) S) (k : Of4 (.agg #[.complex .f64 c0 d0, .complex .f64 c1 d1, .complex .f64 c2 d2, .complex .f64 c3 d3]) S) :
    (Op.equalIn (d + 1 + 1) 27 (.agg #[.complex .f64 a0 b0, .complex .f64 a1 b1, .complex .f64 a2 b2, .complex .f64 a3 b3]) (.agg #[.complex .f64 c0 d0, .complex .f64 c1 d1, .complex .f64 c2 d2, .complex .f64 c3 d3])).run Try.prog W = .ok true W := by
  obtain ⟨_, _, _, _, _, _, _, _, e1, ⟨r0, s0⟩, ⟨r1, s1⟩, ⟨r2, s2⟩, ⟨r3, s3⟩⟩ := h.2
  obtain ⟨_, _, _, _, _, _, _, _, e2, ⟨t0, z0⟩, ⟨t1, z1⟩, ⟨t2, z2⟩, ⟨t3, z3⟩⟩ := k.2
  simp only [Value.agg.injEq, Array.mk.injEq, List.cons.injEq, Value.complex.injEq, and_true, true_and] at e1 e2
  obtain ⟨⟨rfl, rfl⟩, ⟨rfl, rfl⟩, ⟨rfl, rfl⟩, rfl, rfl⟩ := e1
  obtain ⟨⟨rfl, rfl⟩, ⟨rfl, rfl⟩, ⟨rfl, rfl⟩, rfl, rfl⟩ := e2
  rw [four_at, eq_rep r0 t0, eq_rep s0 z0, eq_rep r1 t1, eq_rep s1 z1, eq_rep r2 t2, eq_rep s2 z2, eq_rep r3 t3, eq_rep s3 z3]
  simp
/-- Two ends of the same numbers are equal. -/
theorem tail_eq (W : World) (a q b : Int) {a0 b0 a1 b1 a2 b2 a3 b3 c0 d0 c1 d1 c2 d2 c3 d3 : Nat} {S : List Int} (h : Of4 (.agg #[.complex .f64 a0 b0, .complex .f64 a1 b1, .complex .f64 a2 b2, .complex .f64 a3 b3]) S) (k : Of4 (.agg #[.complex .f64 c0 d0, .complex .f64 c1 d1, .complex .f64 c2 d2, .complex .f64 c3 d3]) S) :
    (binOp .eql 29 (.agg #[.int .i64 a, .int .i64 q, .int .i64 b, .complex .f64 a0 b0, .complex .f64 a1 b1, .complex .f64 a2 b2, .complex .f64 a3 b3]) (.agg #[.int .i64 a, .int .i64 q, .int .i64 b, .complex .f64 c0 d0, .complex .f64 c1 d1, .complex .f64 c2 d2, .complex .f64 c3 d3])).run Try.prog W = .ok (.bool true) W := by
  have hu := Try.underlying29
  have h27 : (Op.equalIn 9999 27 (.agg #[.complex .f64 a0 b0, .complex .f64 a1 b1, .complex .f64 a2 b2, .complex .f64 a3 b3]) (.agg #[.complex .f64 c0 d0, .complex .f64 c1 d1, .complex .f64 c2 d2, .complex .f64 c3 d3])).run Try.prog W = .ok true W := four_same 9997 W h k
  have h3 : Try.prog.underlying 3 = some (.int .i64) := by kernel_rfl
  rw [run_eql_struct, show (10000 : Nat) = 9999 + 1 from rfl, run_equalIn_agg W 9999 29 _ _ (by kernel_rfl) (by kernel_rfl)]
  have hf : (Try.prog.fieldsOf 29).toList = [{ name := "At", type := 3, offset := 0, embedded := false, tag := "", pkgPath := "", byteOffset := 0 }, { name := "Seq", type := 3, offset := 1, embedded := false, tag := "", pkgPath := "", byteOffset := 8 }, { name := "Bytes", type := 3, offset := 2, embedded := false, tag := "", pkgPath := "", byteOffset := 16 }, { name := "Seal", type := 27, offset := 3, embedded := false, tag := "", pkgPath := "", byteOffset := 24 }] := by kernel_rfl
  rw [hf]
  have i3 : (Try.prog.info? 3).map (·.size) = some 1 := by kernel_rfl
  have i27 : (Try.prog.info? 27).map (·.size) = some 4 := by kernel_rfl
  obtain ⟨j3, k3, l3⟩ := Option.map_eq_some_iff.1 i3
  obtain ⟨j27, k27, l27⟩ := Option.map_eq_some_iff.1 i27
  have e3 : ∀ x : Int, (Op.equalIn 9999 3 (.int .i64 x) (.int .i64 x)).run Try.prog W = .ok true W := fun x => by rw [show (9999 : Nat) = 9998 + 1 from rfl, run_equalIn_int W 9998 3 .i64 .i64 x x h3]; simp
  simp [Op.eqFields, part, sizeOf, typeInfo, k3, k27, l3, l27, e3, h27, Result.andThen]
end Go.Proofs.Ytacecaacpagokaa.Swap
