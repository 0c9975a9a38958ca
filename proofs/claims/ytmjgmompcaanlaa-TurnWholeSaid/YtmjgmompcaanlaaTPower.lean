/- The powers of i that the program makes: a contract. -/
import Derived.Test.YtmjgmompcaanlaaProg
import Derived.Test.YtmjgmompcaanlaaTWords
import Derived.WalkKit
import Derived.WalkSpells
import Derived.WalkLawsBesides
namespace Go.Proofs.Ytmjgmompcaanlaa.Turn
open Go.RowKit Go.Proofs.Ytmjgmompcaanlaa.PlainFloat
set_option linter.unusedVariables false
set_option linter.unusedSimpArgs false
theorem idx0 (W : World) : (Instr.index 25 (.agg #[.complex .f64 4607182418800017408 0, .complex .f64 0 4607182418800017408, .complex .f64 13830554455654793216 0, .complex .f64 0 13830554455654793216]) (.int .i64 0)).run Try.prog W = .ok (.complex .f64 4607182418800017408 0) W := by kernel_rfl
theorem idx1 (W : World) : (Instr.index 25 (.agg #[.complex .f64 4607182418800017408 0, .complex .f64 0 4607182418800017408, .complex .f64 13830554455654793216 0, .complex .f64 0 13830554455654793216]) (.int .i64 1)).run Try.prog W = .ok (.complex .f64 0 4607182418800017408) W := by kernel_rfl
theorem idx2 (W : World) : (Instr.index 25 (.agg #[.complex .f64 4607182418800017408 0, .complex .f64 0 4607182418800017408, .complex .f64 13830554455654793216 0, .complex .f64 0 13830554455654793216]) (.int .i64 2)).run Try.prog W = .ok (.complex .f64 13830554455654793216 0) W := by kernel_rfl
theorem idx3 (W : World) : (Instr.index 25 (.agg #[.complex .f64 4607182418800017408 0, .complex .f64 0 4607182418800017408, .complex .f64 13830554455654793216 0, .complex .f64 0 13830554455654793216]) (.int .i64 3)).run Try.prog W = .ok (.complex .f64 0 13830554455654793216) W := by kernel_rfl
theorem idx (n : Int) (W : World) : (Instr.index 25 (.agg #[.complex .f64 4607182418800017408 0, .complex .f64 0 4607182418800017408, .complex .f64 13830554455654793216 0, .complex .f64 0 13830554455654793216]) (.int .i64 (n % 4))).run Try.prog W = .ok (.complex .f64 (prb n) (pib n)) W := by
  have h : n % 4 = 0 ∨ n % 4 = 1 ∨ n % 4 = 2 ∨ n % 4 = 3 := by omega
  unfold prb pib
  rcases h with h | h | h | h <;> rw [h]
  · exact idx0 W
  · exact idx1 W
  · exact idx2 W
  · exact idx3 W
theorem power (n : Int) (w : World) : Calls Try.prog 10 #[.int .i64 n] w fun e w' => e = .returned (.complex .f64 (prb n) (pib n)) ∧ w = w' := by
  have hx := idx n
  have ha := and3 n
  go_enter Try.func10, Try.ntmps10
  go_wp2
  go_ret
  exact ⟨rfl, rfl⟩
theorem power_still (n : Int) (w : World) : Calls Try.prog 10 #[.int .i64 n] w fun e w' => e = .returned (.complex .f64 (prb n) (pib n)) ∧ w' = w :=
  (power n w).mono fun _ _ ⟨h1, h2⟩ => ⟨h1, h2.symm⟩
end Go.Proofs.Ytmjgmompcaanlaa.Turn
