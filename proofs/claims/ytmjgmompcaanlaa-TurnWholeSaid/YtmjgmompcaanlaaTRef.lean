/- The reference's powers of i, and the spectrum that it makes of four sums: contracts. -/
import Derived.Test.YtmjgmompcaanlaaTWakes
import Derived.StillTailTactics
import Derived.StillTactics
namespace Go.Proofs.Ytmjgmompcaanlaa.Turn
open Go.RowKit Go.Proofs.Ytmjgmompcaanlaa.PlainFloat Go.Proofs.YtmjgmompcaanlaaW.PrintWords
set_option linter.unusedVariables false
set_option linter.unusedSimpArgs false
attribute [local go_sem] run_store_complex
/-- The spectrum of four sums, as whole numbers. -/
def mx (s0 s1 s2 s3 : Int) : Nat → Int | 0 => s0 + s1 + s2 + s3 | 1 => s0 - s2 | 2 => s0 + s2 - s1 - s3 | _ => s0 - s2
def my (s0 s1 s2 s3 : Int) : Nat → Int | 0 => 0 | 1 => s1 - s3 | 2 => 0 | _ => s3 - s1
theorem quarter (n : Int) (w : World) : Calls Try.prog 18 #[.int .i64 n] w fun e w' => e = .returned (.int .i64 (n % 4)) ∧ w = w' := by
  have ha := and3 n
  go_enter Try.func18, Try.ntmps18
  go_wp2
  go_ret
  exact ⟨rfl, rfl⟩
theorem rpower (n : Int) (w : World) : Calls Try.prog 11 #[.int .i64 n] w fun e w' => e = .returned (.complex .f64 (prb n) (pib n)) ∧ w = w' := by
  have h : n % 4 = 0 ∨ n % 4 = 1 ∨ n % 4 = 2 ∨ n % 4 = 3 := by omega
  unfold prb pib
  rcases h with h | h | h | h
  all_goals
    have hq := quarter n
    rw [h] at hq ⊢
    have HQ := Aside0.mk hq
    clear hq h
    go_enter Try.func11, Try.ntmps11
    go_wp2_with (go_at_call 18; refine (HQ.out _).mono ?_; rintro e w' ⟨rfl, rfl⟩)
    go_ret
    exact ⟨rfl, rfl⟩
set_option maxHeartbeats 2000000 in
set_option maxRecDepth 100000 in
theorem made (s0 s1 s2 s3 : Int) (w : World) (h0 : 0 ≤ s0 ∧ s0 ≤ 2000000000000) (h1 : 0 ≤ s1 ∧ s1 ≤ 2000000000000) (h2 : 0 ≤ s2 ∧ s2 ≤ 2000000000000) (h3 : 0 ≤ s3 ∧ s3 ≤ 2000000000000) :
    Calls Try.prog 17 #[.agg #[.int .i64 s0, .int .i64 s1, .int .i64 s2, .int .i64 s3]] w fun e w' => ∃ v, e = .returned v ∧ SpecV v (mx s0 s1 s2 s3) (my s0 s1 s2 s3) ∧ Below w.heap.size w w' := by
  have hu := Try.underlying33
  go_enter Try.func17, Try.ntmps17
  go_wp2
  have of : ∀ {x : Int}, x.natAbs < 2 ^ 53 → Rep (floatOfInt .f64 x) x := fun h => of_int h
  refine bodyPost_ret (results_cell_row (fn := Try.f17) rfl _ _ (w.heap.size + 1) 28 #[.complex .f64 (floatOfInt .f64 (s0 + s1 + s2 + s3)) 0, .complex .f64 (floatOfInt .f64 (s0 - s2)) (floatOfInt .f64 (s1 - s3)), .complex .f64 (floatOfInt .f64 (s0 + s2 - s1 - s3)) 0, .complex .f64 (floatOfInt .f64 (s0 - s2)) (floatOfInt .f64 (s3 - s1))] (0, 0) _ rfl (heap_alloc2_new _ _ _) Try.underlying28 rfl (by kernel_rfl)) rfl ?_
  refine ⟨_, rfl, ⟨_, _, _, _, _, _, _, _, rfl, ⟨of ?_, rep_zero⟩, ⟨of ?_, of ?_⟩, ⟨of ?_, rep_zero⟩, ⟨of ?_, of ?_⟩⟩, ((Below.refl _ _).alloc (Nat.le_refl _) _).alloc (by simp) _⟩ <;> omega
end Go.Proofs.Ytmjgmompcaanlaa.Turn
