/- Two spectra compared: what '==' on four complex numbers gives. This session's own words. -/
import Derived.Test.YtmjgmompcaanlaaProg
import Derived.Test.YtmjgmompcaanlaaTOfPlain
import Derived.ChangeKeysEq
import Derived.WalkKit
namespace Go.Proofs.Ytmjgmompcaanlaa.Turn
open Go.RowKit Go.Proofs.Ytmjgmompcaanlaa.PlainFloat
theorem cell_eq (d : Nat) (W : World) (a b a' b' : Nat) : (Op.equalIn (d + 1) 24 (.complex .f64 a b) (.complex .f64 a' b')).run Try.prog W = .ok ((FloatKind.f64.format.order a a' == some .eq) && (FloatKind.f64.format.order b b' == some .eq)) W := by
  have h : Try.prog.underlying 24 = some (.complex .f64) := by kernel_rfl
  simp [Op.equalIn, run_underlying h, Op.floatEq]
theorem cell_eq9 (W : World) (a b a' b' : Nat) : (Op.equalIn 9999 24 (.complex .f64 a b) (.complex .f64 a' b')).run Try.prog W = .ok ((FloatKind.f64.format.order a a' == some .eq) && (FloatKind.f64.format.order b b' == some .eq)) W := cell_eq 9998 W a b a' b'
theorem guard_eq (x y : Operand) (xs ys : Array Value) (W : World) : (eqGuard .eql 26 x y (.agg xs) (.agg ys)).run Try.prog W = .ok () W := by kernel_rfl
theorem four_eq (W : World) (a0 b0 a1 b1 a2 b2 a3 b3 c0 d0 c1 d1 c2 d2 c3 d3 : Nat) :
    (binOp .eql 26 (.agg #[.complex .f64 a0 b0, .complex .f64 a1 b1, .complex .f64 a2 b2, .complex .f64 a3 b3]) (.agg #[.complex .f64 c0 d0, .complex .f64 c1 d1, .complex .f64 c2 d2, .complex .f64 c3 d3])).run Try.prog W =
      .ok (.bool (((FloatKind.f64.format.order a0 c0 == some .eq) && (FloatKind.f64.format.order b0 d0 == some .eq)) && (((FloatKind.f64.format.order a1 c1 == some .eq) && (FloatKind.f64.format.order b1 d1 == some .eq)) && (((FloatKind.f64.format.order a2 c2 == some .eq) && (FloatKind.f64.format.order b2 d2 == some .eq)) && ((FloatKind.f64.format.order a3 c3 == some .eq) && (FloatKind.f64.format.order b3 d3 == some .eq)))))) W := by
  have hu : Try.prog.underlying 26 = some (.array 4 24) := by kernel_rfl
  have hi : Try.prog.info? 24 = some (Try.prog.types[24]!) := by kernel_rfl
  have hc : Try.prog.cellsOf 24 = 1 := by kernel_rfl
  have he := run_equalIn_array (P := Try.prog) (w := W) 9999 #[.complex .f64 a0 b0, .complex .f64 a1 b1, .complex .f64 a2 b2, .complex .f64 a3 b3] #[.complex .f64 c0 d0, .complex .f64 c1 d1, .complex .f64 c2 d2, .complex .f64 c3 d3] hu hi
  rw [hc] at he
  simp only [binOp, Op.equal, Sem.run_bind]
  rw [show Op.maxDepth = 9999 + 1 from rfl, he]
  simp only [List.range, List.range.loop, Op.eqItems, Sem.run_bind]
  simp [part, sizeOf, typeInfo]
  simp only [cell_eq9, Result.andThen_ok]
  generalize ((FloatKind.f64.format.order a0 c0 == some .eq) && (FloatKind.f64.format.order b0 d0 == some .eq)) = p0
  generalize ((FloatKind.f64.format.order a1 c1 == some .eq) && (FloatKind.f64.format.order b1 d1 == some .eq)) = p1
  generalize ((FloatKind.f64.format.order a2 c2 == some .eq) && (FloatKind.f64.format.order b2 d2 == some .eq)) = p2
  generalize ((FloatKind.f64.format.order a3 c3 == some .eq) && (FloatKind.f64.format.order b3 d3 == some .eq)) = p3
  cases p0
  · rfl
  cases p1
  · rfl
  cases p2
  · rfl
  cases p3 <;> rfl
theorem guard_neq (x y : Operand) (xs ys : Array Value) (W : World) : (eqGuard .neq 26 x y (.agg xs) (.agg ys)).run Try.prog W = .ok () W := by kernel_rfl
theorem four_neq (W : World) (xs ys : Array Value) {b : Bool} (h : (binOp .eql 26 (.agg xs) (.agg ys)).run Try.prog W = .ok (.bool b) W) : (binOp .neq 26 (.agg xs) (.agg ys)).run Try.prog W = .ok (.bool (!b)) W := by
  simp only [binOp, Sem.run_bind] at h ⊢
  cases hr : (Op.equal 26 (.agg xs) (.agg ys)).run Try.prog W with
  | ok c w' =>
    rw [hr] at h
    simp only [Result.andThen_ok] at h ⊢
    have h' : Result.ok (Value.bool c) w' = Result.ok (Value.bool b) W := h
    injection h' with h1 h2
    injection h1 with h1
    subst h1
    subst h2
    rfl
  | halt a w' =>
    rw [hr] at h
    cases h
def alike (x y x' y' : Nat → Int) : Bool := (decide (x 0 = x' 0) && decide (y 0 = y' 0)) && ((decide (x 1 = x' 1) && decide (y 1 = y' 1)) && ((decide (x 2 = x' 2) && decide (y 2 = y' 2)) && (decide (x 3 = x' 3) && decide (y 3 = y' 3))))
theorem alike_same {x y x' y' : Nat → Int} (h : ∀ q, q < 4 → x q = x' q ∧ y q = y' q) : alike x y x' y' = true := by
  unfold alike
  simp only [Bool.and_eq_true, decide_eq_true_eq]
  exact ⟨h 0 (by omega), h 1 (by omega), h 2 (by omega), h 3 (by omega)⟩
/-- Two spectra of whole numbers: equal just where the numbers are. -/
theorem spec_eq {u v : Value} {x y x' y' : Nat → Int} (hu : SpecV u x y) (hv : SpecV v x' y') (W : World) :
    (binOp .eql 26 u v).run Try.prog W = .ok (.bool (alike x y x' y')) W := by
  obtain ⟨a0, b0, a1, b1, a2, b2, a3, b3, rfl, ⟨r0, s0⟩, ⟨r1, s1⟩, ⟨r2, s2⟩, ⟨r3, s3⟩⟩ := hu
  obtain ⟨c0, d0, c1, d1, c2, d2, c3, d3, rfl, ⟨t0, z0⟩, ⟨t1, z1⟩, ⟨t2, z2⟩, ⟨t3, z3⟩⟩ := hv
  rw [four_eq, eq_rep r0 t0, eq_rep s0 z0, eq_rep r1 t1, eq_rep s1 z1, eq_rep r2 t2, eq_rep s2 z2, eq_rep r3 t3, eq_rep s3 z3]
  rfl
theorem spec_neq {u v : Value} {x y x' y' : Nat → Int} (hu : SpecV u x y) (hv : SpecV v x' y') (W : World) :
    (binOp .neq 26 u v).run Try.prog W = .ok (.bool (!(alike x y x' y'))) W := by
  have h := spec_eq hu hv W
  obtain ⟨a0, b0, a1, b1, a2, b2, a3, b3, rfl, _⟩ := hu
  obtain ⟨c0, d0, c1, d1, c2, d2, c3, d3, rfl, _⟩ := hv
  exact four_neq W _ _ h
theorem spec_guard_neq {u v : Value} {x y x' y' : Nat → Int} (hu : SpecV u x y) (hv : SpecV v x' y') (p q : Operand) (W : World) : (eqGuard .neq 26 p q u v).run Try.prog W = .ok () W := by
  obtain ⟨a0, b0, a1, b1, a2, b2, a3, b3, rfl, _⟩ := hu
  obtain ⟨c0, d0, c1, d1, c2, d2, c3, d3, rfl, _⟩ := hv
  exact guard_neq p q _ _ W
/-- What the comparison's guard asks of two spectra. -/
theorem spec_guard {u v : Value} {x y x' y' : Nat → Int} (hu : SpecV u x y) (hv : SpecV v x' y') (p q : Operand) (W : World) : (eqGuard .eql 26 p q u v).run Try.prog W = .ok () W := by
  obtain ⟨a0, b0, a1, b1, a2, b2, a3, b3, rfl, _⟩ := hu
  obtain ⟨c0, d0, c1, d1, c2, d2, c3, d3, rfl, _⟩ := hv
  exact guard_eq p q _ _ W
end Go.Proofs.Ytmjgmompcaanlaa.Turn
