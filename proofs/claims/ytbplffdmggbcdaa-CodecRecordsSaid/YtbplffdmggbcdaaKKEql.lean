/- Two records of the same cells are equal. -/
import Derived.Test.YtbplffdmggbcdaaKKRunrec
import Derived.ChangeKeysEq
namespace Go.Proofs.Ytbplffdmggbcdaa.Codec
open Go.RowKit Go.Proofs.Ytbplffdmggbcdaa.PCodecRecords Go.Proofs.Ytbplffdmggbcdaa.Plain Go.Proofs.Ytbplffdmggbcdaa.Pure Go.Proofs.YtbplffdmggbcdaaW.PrintWords Go.Proofs.YtbplffdmggbcdaaW.PrintLast Go.Proofs.YtbplffdmggbcdaaW.PrintMore
theorem arr_eql (d : Nat) (c0 c1 c2 c3 : Int) (w : World) : (Op.equalIn (d + 2) 22 (.agg #[.int .i64 c0, .int .i64 c1, .int .i64 c2, .int .i64 c3]) (.agg #[.int .i64 c0, .int .i64 c1, .int .i64 c2, .int .i64 c3])).run Try.prog w = .ok true w := by
  have u3 := Try.underlying3
  have a3 := Try.isAgg3
  have z3 := Try.sizeOf3
  rw [Op.equalIn]
  simp only [Sem.run_bind, run_underlying Try.underlying22, Result.andThen_ok]
  simp only [Std.Legacy.Range.forIn_eq_forIn_range', Std.Legacy.Range.size, Nat.sub_zero, Nat.add_sub_cancel, Nat.div_one, List.range'_succ, List.range'_zero, List.forIn_cons, List.forIn_nil]
  go_simp
  try simp
theorem edit_eql (d : Nat) (a n : Int) (T : ByteArray) (w : World) : (Op.equalIn (d + 2) 24 (.agg #[.int .i64 a, .int .i64 n, .string T]) (.agg #[.int .i64 a, .int .i64 n, .string T])).run Try.prog w = .ok true w := by
  have u3 := Try.underlying3
  have a3 := Try.isAgg3
  have u9 := Try.underlying9
  have a9 := Try.isAgg9
  have hS : Try.prog.underlying 24 = some (.struct (Try.prog.fieldsOf 24)) := by kernel_rfl
  rw [run_equalIn_agg w (d + 1) 24 _ _ hS (by kernel_rfl)]
  simp only [Program.fieldsOf, Try.underlying24]
  go_simp
  try simp
theorem rec_equal (d : Nat) (c0 c1 c2 c3 c4 c5 c6 c7 : Int) (T : ByteArray) (w : World) :
    (Op.equalIn (d + 3) 26 (.agg #[.int .i64 c0, .int .i64 c1, .int .i64 c2, .int .i64 c3, .int .i64 c4, .int .i64 c5, .int .i64 c6, .int .i64 c7, .string T]) (.agg #[.int .i64 c0, .int .i64 c1, .int .i64 c2, .int .i64 c3, .int .i64 c4, .int .i64 c5, .int .i64 c6, .int .i64 c7, .string T])).run Try.prog w = .ok true w := by
  have u3 := Try.underlying3
  have a3 := Try.isAgg3
  have a22 := Try.isAgg22
  have z22 := Try.sizeOf22
  have a24 := Try.isAgg24
  have z24 := Try.sizeOf24
  have e1 := fun w => arr_eql d c2 c3 c4 c5 w
  have e2 := fun w => edit_eql d c6 c7 T w
  have hS : Try.prog.underlying 26 = some (.struct (Try.prog.fieldsOf 26)) := by kernel_rfl
  rw [run_equalIn_agg w (d + 2) 26 _ _ hS (by kernel_rfl)]
  simp only [Program.fieldsOf, Try.underlying26]
  go_simp
  try simp
theorem rec_eql (c0 c1 c2 c3 c4 c5 c6 c7 : Int) (T : ByteArray) (w : World) :
    (binOp .eql 26 (.agg #[.int .i64 c0, .int .i64 c1, .int .i64 c2, .int .i64 c3, .int .i64 c4, .int .i64 c5, .int .i64 c6, .int .i64 c7, .string T]) (.agg #[.int .i64 c0, .int .i64 c1, .int .i64 c2, .int .i64 c3, .int .i64 c4, .int .i64 c5, .int .i64 c6, .int .i64 c7, .string T])).run Try.prog w = .ok (.bool true) w := by
  have hr := rec_equal 9997 c0 c1 c2 c3 c4 c5 c6 c7 T w
  simp only [Nat.reduceAdd] at hr
  rw [run_eql_struct, hr, Result.andThen_ok]
end Go.Proofs.Ytbplffdmggbcdaa.Codec
