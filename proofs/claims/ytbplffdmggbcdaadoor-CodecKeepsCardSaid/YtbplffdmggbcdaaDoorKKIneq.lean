/- An inode against the zero one; two inodes of the same cells. -/
import Derived.Test.YtbplffdmggbcdaaDoorKKBox
import Derived.ChangeKeysEq
namespace Go.Proofs.YtbplffdmggbcdaaDoor.Codec
open Go.RowKit Go.Proofs.YtbplffdmggbcdaaDoor.PCodecKeeps Go.Proofs.YtbplffdmggbcdaaDoor.Plain Go.Proofs.YtbplffdmggbcdaaDoor.Pure Go.Proofs.YtbplffdmggbcdaaDoorW.PrintWords Go.Proofs.YtbplffdmggbcdaaDoorW.PrintLast Go.Proofs.YtbplffdmggbcdaaDoorW.PrintMore
set_option linter.unusedVariables false
set_option linter.unusedSimpArgs false
theorem ok_ite {w : World} (a b : Int) (x : Bool) : (if a = b then (Result.ok x w : Result Bool) else Result.ok false w) = Result.ok ((a == b) && x) w := by
  by_cases h : a = b <;> simp [h]
set_option maxHeartbeats 4000000 in
theorem arr8_any (d : Nat) (c0 c1 c2 c3 c4 c5 c6 c7 e0 e1 e2 e3 e4 e5 e6 e7 : Int) (w : World) : (Op.equalIn (d + 2) 22 (.agg #[.int .i64 c0, .int .i64 c1, .int .i64 c2, .int .i64 c3, .int .i64 c4, .int .i64 c5, .int .i64 c6, .int .i64 c7]) (.agg #[.int .i64 e0, .int .i64 e1, .int .i64 e2, .int .i64 e3, .int .i64 e4, .int .i64 e5, .int .i64 e6, .int .i64 e7])).run Tryd.prog w = .ok (c0 == e0 && (c1 == e1 && (c2 == e2 && (c3 == e3 && (c4 == e4 && (c5 == e5 && (c6 == e6 && c7 == e7))))))) w := by
  have u3 := Tryd.underlying3
  have a3 := Tryd.isAgg3
  have z3 := Tryd.sizeOf3
  rw [Op.equalIn]
  simp only [Sem.run_bind, run_underlying Tryd.underlying22, Result.andThen_ok]
  simp only [Std.Legacy.Range.forIn_eq_forIn_range', Std.Legacy.Range.size, Nat.sub_zero, Nat.add_sub_cancel, Nat.div_one, List.range'_succ, List.range'_zero, List.forIn_cons, List.forIn_nil]
  go_simp
  simp only [ok_ite]
  simp
set_option maxHeartbeats 4000000 in
theorem ino_equal (d : Nat) (c0 c1 c2 c3 c4 c5 c6 c7 c8 c9 c10 c11 c12 e0 e1 e2 e3 e4 e5 e6 e7 e8 e9 e10 e11 e12 : Int) (w : World) : (Op.equalIn (d + 3) 24 (.agg #[.int .i64 c0, .int .i64 c1, .int .i64 c2, .int .i64 c3, .int .i64 c4, .int .i64 c5, .int .i64 c6, .int .i64 c7, .int .i64 c8, .int .i64 c9, .int .i64 c10, .int .i64 c11, .int .i64 c12]) (.agg #[.int .i64 e0, .int .i64 e1, .int .i64 e2, .int .i64 e3, .int .i64 e4, .int .i64 e5, .int .i64 e6, .int .i64 e7, .int .i64 e8, .int .i64 e9, .int .i64 e10, .int .i64 e11, .int .i64 e12])).run Tryd.prog w = .ok (c0 == e0 && (c1 == e1 && (c2 == e2 && (c3 == e3 && (c4 == e4 && (c5 == e5 && (c6 == e6 && (c7 == e7 && (c8 == e8 && (c9 == e9 && (c10 == e10 && (c11 == e11 && (c12 == e12))))))))))))) w := by
  have u3 := Tryd.underlying3
  have a3 := Tryd.isAgg3
  have a22 := Tryd.isAgg22
  have z22 := Tryd.sizeOf22
  have ea := fun w => arr8_any d c3 c4 c5 c6 c7 c8 c9 c10 e3 e4 e5 e6 e7 e8 e9 e10 w
  have hS : Tryd.prog.underlying 24 = some (.struct (Tryd.prog.fieldsOf 24)) := by kernel_rfl
  rw [run_equalIn_agg w (d + 2) 24 _ _ hS (by kernel_rfl)]
  simp only [Program.fieldsOf, Tryd.underlying24]
  go_simp
  have hi : ∀ (b x : Bool), (if b = false then (Result.ok false w : Result Bool) else Result.ok x w) = Result.ok (b && x) w := by intro b x; cases b <;> rfl
  simp only [ok_ite, hi, Bool.and_true, Bool.and_assoc]
/-- Are all numbers 0? -/
def allZ (l : List Int) : Bool := l.all (fun x => x == 0)
theorem ino_neq (c0 c1 c2 c3 c4 c5 c6 c7 c8 c9 c10 c11 c12 : Int) (w : World) : (binOp .neq 24 (.agg #[.int .i64 c0, .int .i64 c1, .int .i64 c2, .int .i64 c3, .int .i64 c4, .int .i64 c5, .int .i64 c6, .int .i64 c7, .int .i64 c8, .int .i64 c9, .int .i64 c10, .int .i64 c11, .int .i64 c12]) (.agg #[.int .i64 0, .int .i64 0, .int .i64 0, .int .i64 0, .int .i64 0, .int .i64 0, .int .i64 0, .int .i64 0, .int .i64 0, .int .i64 0, .int .i64 0, .int .i64 0, .int .i64 0])).run Tryd.prog w = .ok (.bool (!allZ [c0, c1, c2, c3, c4, c5, c6, c7, c8, c9, c10, c11, c12])) w := by
  have hr := ino_equal 9997 c0 c1 c2 c3 c4 c5 c6 c7 c8 c9 c10 c11 c12 0 0 0 0 0 0 0 0 0 0 0 0 0 w
  simp only [Nat.reduceAdd] at hr
  have e : allZ [c0, c1, c2, c3, c4, c5, c6, c7, c8, c9, c10, c11, c12] = (c0 == 0 && (c1 == 0 && (c2 == 0 && (c3 == 0 && (c4 == 0 && (c5 == 0 && (c6 == 0 && (c7 == 0 && (c8 == 0 && (c9 == 0 && (c10 == 0 && (c11 == 0 && (c12 == 0))))))))))))) := by unfold allZ; simp
  rw [run_neq_struct, hr, Result.andThen_ok, e]
end Go.Proofs.YtbplffdmggbcdaaDoor.Codec
