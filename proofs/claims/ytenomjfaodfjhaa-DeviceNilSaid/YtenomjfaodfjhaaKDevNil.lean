/- A closed sentence: what a nil device answers: the walk of the law. No conditions. -/
import Derived.Test.YtenomjfaodfjhaaKDevWakes
namespace Go.Proofs.Ytenomjfaodfjhaa.Keeps
open Go.RowKit Go.Proofs.Ytenomjfaodfjhaa.PDeviceKeeps Go.Proofs.Ytenomjfaodfjhaa.Plain Go.Proofs.YtenomjfaodfjhaaW.PrintWords Go.Proofs.YtenomjfaodfjhaaW.PrintLast Go.Proofs.YtenomjfaodfjhaaW.PrintMore
set_option linter.unusedVariables false
set_option linter.unusedSimpArgs false
set_option maxHeartbeats 8000000 in
set_option maxRecDepth 100000 in
theorem nil_row (w : World) : Calls Try.prog 8 #[] w fun e w' => e = .returned (.bool true) ∧ Below w.heap.size w w' := by
  go_enter Try.func8, Try.ntmps8
  go_wp2_with fail
  refine (wakes_calls w).mono ?_
  rintro e w1 ⟨rfl, hb1⟩
  have HB := Aside0.mk hb1
  clear hb1
  go_wp2
  go_ret
  exact ⟨rfl, HB.out⟩
end Go.Proofs.Ytenomjfaodfjhaa.Keeps
