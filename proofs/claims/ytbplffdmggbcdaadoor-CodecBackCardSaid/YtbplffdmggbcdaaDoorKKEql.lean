/- Two records of the same cells are equal. -/
import Derived.Test.YtbplffdmggbcdaaDoorKKUnrec
import Derived.ChangeKeysEq
namespace Go.Proofs.YtbplffdmggbcdaaDoor.Codec
open Go.RowKit Go.Proofs.YtbplffdmggbcdaaDoor.PCodecBack Go.Proofs.YtbplffdmggbcdaaDoor.Plain Go.Proofs.YtbplffdmggbcdaaDoor.Pure Go.Proofs.YtbplffdmggbcdaaDoorW.PrintWords Go.Proofs.YtbplffdmggbcdaaDoorW.PrintLast Go.Proofs.YtbplffdmggbcdaaDoorW.PrintMore
theorem arr_eql (d : Nat) (c0 c1 c2 c3 : Int) (w : World) : (Op.equalIn (d + 2) 44 (.agg #[.int .i64 c0, .int .i64 c1, .int .i64 c2, .int .i64 c3]) (.agg #[.int .i64 c0, .int .i64 c1, .int .i64 c2, .int .i64 c3])).run Tryd.prog w = .ok true w := by
  have u3 := Tryd.underlying3
  have a3 := Tryd.isAgg3
  have z3 := Tryd.sizeOf3
  rw [Op.equalIn]
  simp only [Sem.run_bind, run_underlying Tryd.underlying44, Result.andThen_ok]
  simp only [Std.Legacy.Range.forIn_eq_forIn_range', Std.Legacy.Range.size, Nat.sub_zero, Nat.add_sub_cancel, Nat.div_one, List.range'_succ, List.range'_zero, List.forIn_cons, List.forIn_nil]
  go_simp
  try simp
theorem edit_eql (d : Nat) (a n : Int) (T : ByteArray) (w : World) : (Op.equalIn (d + 2) 46 (.agg #[.int .i64 a, .int .i64 n, .string T]) (.agg #[.int .i64 a, .int .i64 n, .string T])).run Tryd.prog w = .ok true w := by
  have u3 := Tryd.underlying3
  have a3 := Tryd.isAgg3
  have u9 := Tryd.underlying9
  have a9 := Tryd.isAgg9
  have hS : Tryd.prog.underlying 46 = some (.struct (Tryd.prog.fieldsOf 46)) := by kernel_rfl
  rw [run_equalIn_agg w (d + 1) 46 _ _ hS (by kernel_rfl)]
  simp only [Program.fieldsOf, Tryd.underlying46]
  go_simp
  try simp
theorem rec_equal (d : Nat) (c0 c1 c2 c3 c4 c5 c6 c7 : Int) (T : ByteArray) (w : World) :
    (Op.equalIn (d + 3) 48 (.agg #[.int .i64 c0, .int .i64 c1, .int .i64 c2, .int .i64 c3, .int .i64 c4, .int .i64 c5, .int .i64 c6, .int .i64 c7, .string T]) (.agg #[.int .i64 c0, .int .i64 c1, .int .i64 c2, .int .i64 c3, .int .i64 c4, .int .i64 c5, .int .i64 c6, .int .i64 c7, .string T])).run Tryd.prog w = .ok true w := by
  have u3 := Tryd.underlying3
  have a3 := Tryd.isAgg3
  have a22 := Tryd.isAgg44
  have z22 := Tryd.sizeOf44
  have a24 := Tryd.isAgg46
  have z24 := Tryd.sizeOf46
  have e1 := fun w => arr_eql d c2 c3 c4 c5 w
  have e2 := fun w => edit_eql d c6 c7 T w
  have hS : Tryd.prog.underlying 48 = some (.struct (Tryd.prog.fieldsOf 48)) := by kernel_rfl
  rw [run_equalIn_agg w (d + 2) 48 _ _ hS (by kernel_rfl)]
  simp only [Program.fieldsOf, Tryd.underlying48]
  go_simp
  try simp
theorem rec_eql (c0 c1 c2 c3 c4 c5 c6 c7 : Int) (T : ByteArray) (w : World) :
    (binOp .eql 48 (.agg #[.int .i64 c0, .int .i64 c1, .int .i64 c2, .int .i64 c3, .int .i64 c4, .int .i64 c5, .int .i64 c6, .int .i64 c7, .string T]) (.agg #[.int .i64 c0, .int .i64 c1, .int .i64 c2, .int .i64 c3, .int .i64 c4, .int .i64 c5, .int .i64 c6, .int .i64 c7, .string T])).run Tryd.prog w = .ok (.bool true) w := by
  have hr := rec_equal 9997 c0 c1 c2 c3 c4 c5 c6 c7 T w
  simp only [Nat.reduceAdd] at hr
  rw [run_eql_struct, hr, Result.andThen_ok]
end Go.Proofs.YtbplffdmggbcdaaDoor.Codec
