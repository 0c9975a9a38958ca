/- Lines and places of a text: what the program counts, as contracts. -/
import Derived.Test.YtiogebcbndhgfaaProg
import Derived.Test.YtiogebcbndhgfaaTWords
import Derived.Test.YtiogebcbndhgfaaWWords
import Derived.Test.YtiogebcbndhgfaaWLast
import Derived.WalkKit
import Derived.WalkSpells
import Derived.WalkLawsBesides
import Derived.Laws.Externs
import Derived.Lib.Bytealg
namespace Go.Proofs.Ytiogebcbndhgfaa.Cur
open Go.RowKit Go.Proofs.Ytiogebcbndhgfaa.PlainFloat Go.Proofs.Ytiogebcbndhgfaa.Turn Go.Proofs.YtiogebcbndhgfaaW.PrintWords
set_option linter.unusedVariables false
set_option linter.unusedSimpArgs false
/-- How many bytes 10 a text has. -/
def ends (s : ByteArray) : Nat := Lib.countByte s.data.toList 10
set_option maxHeartbeats 1000000 in
set_option maxRecDepth 100000 in
theorem count_calls (s : ByteArray) (w : World) : Calls Try.prog 11 #[.string s, .string ⟨#[10]⟩] w fun e w' => e = .returned (.int .i64 (ends s)) ∧ w = w' := by
  go_enter Try.func11, Try.ntmps11
  go_wp2
  rw [run_callFunc_extern (fn := Try.f17) Try.func17 (by kernel_rfl) (by kernel_rfl) (by kernel_rfl) (e := Extern.BytealgCount.count) (by kernel_rfl), Lib.run_countString]
  simp only [Result.andThen]
  rw [Oper.upon_value]
  go_wp2
  go_ret
  exact ⟨rfl, rfl⟩
set_option maxHeartbeats 1000000 in
theorem lines_calls (s : ByteArray) (hs : s.size ≤ 4611686018427387904) (w : World) : Calls Try.prog 7 #[.string s] w fun e w' => e = .returned (.int .i64 (ends s + 1 : Nat)) ∧ w = w' := by
  have hl : ends s ≤ s.size := by
    unfold ends Lib.countByte
    exact Nat.le_trans List.count_le_length (Nat.le_of_eq (by rw [Array.length_toList]; rfl))
  have hw : IntKind.i64.wrap ((ends s : Int) + 1) = ((ends s + 1 : Nat) : Int) := by rw [IntKind.wrap_i64]; omega
  clear hl hs
  go_enter Try.func7, Try.ntmps7
  go_wp2_with fail
  refine (count_calls s _).mono ?_
  rintro e w2 ⟨rfl, rfl⟩
  go_wp2
  go_ret
  exact ⟨rfl, rfl⟩
theorem place_calls (c l : Int) (w : World) : Calls Try.prog 12 #[.int .i64 c, .int .i64 l] w fun e w' => e = .returned (.complex .f64 (floatOfInt .f64 c) (floatOfInt .f64 l)) ∧ w = w' := by
  go_enter Try.func12, Try.ntmps12
  go_wp2
  go_ret
  exact ⟨rfl, rfl⟩
end Go.Proofs.Ytiogebcbndhgfaa.Cur
