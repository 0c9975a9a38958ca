/- Powers of i are multiplied as their numbers are added, and four of them are one: the walk of the law. No conditions. -/
import Derived.Test.YtmjgmompcaanlaaTWakes
import Derived.StillTailTactics
import Derived.StillTactics
import Derived.WalkKit
namespace Go.Proofs.Ytmjgmompcaanlaa.Turn
open Go.RowKit Go.Proofs.Ytmjgmompcaanlaa.PlainFloat Go.Proofs.YtmjgmompcaanlaaW.PrintWords
set_option linter.unusedVariables false
set_option linter.unusedSimpArgs false
attribute [local go_sem] run_store_complex
theorem pr_mod (n m : Int) (h : n % 4 = m % 4) : pr n = pr m ∧ pi n = pi m := by
  unfold pr pi
  rw [h]
  exact ⟨rfl, rfl⟩
theorem pow_add (n m : Int) : pr n * pr m - pi n * pi m = pr (n + m) ∧ pr n * pi m + pi n * pr m = pi (n + m) := by
  have hn : n % 4 = 0 ∨ n % 4 = 1 ∨ n % 4 = 2 ∨ n % 4 = 3 := by omega
  have hm : m % 4 = 0 ∨ m % 4 = 1 ∨ m % 4 = 2 ∨ m % 4 = 3 := by omega
  have e : (n + m) % 4 = (n % 4 + m % 4) % 4 := by omega
  unfold pr pi
  rw [e]
  rcases hn with h | h | h | h <;> rcases hm with g | g | g | g <;> rw [h, g] <;> decide
theorem small_prod {p q : Int} (p0 : -1 ≤ p) (p1 : p ≤ 1) (q0 : -1 ≤ q) (q1 : q ≤ 1) : -1 ≤ p * q ∧ p * q ≤ 1 := by
  have : p = -1 ∨ p = 0 ∨ p = 1 := by omega
  rcases this with rfl | rfl | rfl <;> omega
theorem pow_mul {a b : Nat} {x : Int} (ha : Rep a (pr x)) (hb : Rep b (pi x)) (m : Int) : ∃ re im, cMulBits a b (prb m) (pib m) = some (re, im) ∧ Rep re (pr (x + m)) ∧ Rep im (pi (x + m)) := by
  have e1 := pr_small x
  have e2 := pi_small x
  have e3 := pr_small m
  have e4 := pi_small m
  have q1 := small_prod e1.1 e1.2 e3.1 e3.2
  have q2 := small_prod e2.1 e2.2 e4.1 e4.2
  have q3 := small_prod e1.1 e1.2 e4.1 e4.2
  have q4 := small_prod e2.1 e2.2 e3.1 e3.2
  obtain ⟨re, im, e, r, i⟩ := mul_rep ha hb (prb_rep m) (pib_rep m) (by omega) (by omega) (by omega) (by omega) (by omega) (by omega)
  rw [(pow_add x m).1] at r
  rw [(pow_add x m).2] at i
  exact ⟨re, im, e, r, i⟩
theorem tm (n : Int) : (-3 ≤ n.tmod 4 ∧ n.tmod 4 ≤ 3) ∧ n.tmod 4 % 4 = n % 4 := by
  by_cases h : 0 ≤ n
  · rw [Int.tmod_eq_emod_of_nonneg h]
    omega
  · obtain ⟨k, rfl⟩ : ∃ k : Int, n = -k := ⟨-n, by omega⟩
    rw [Int.neg_tmod, Int.tmod_eq_emod_of_nonneg (by omega)]
    omega
set_option maxHeartbeats 1000000 in
theorem powers_walk (n m : Int) (w : World) :
    Calls Try.prog 4 #[.int .i64 n, .int .i64 m] w fun e w' => e = .returned (.bool true) ∧ Below w.heap.size w w' := by
  obtain ⟨s, hs⟩ : ∃ s, wrap64 (n.tmod 4 + m.tmod 4) = s := ⟨_, rfl⟩
  have hsm : s % 4 = (n + m) % 4 := by
    rw [← hs]
    have a1 := tm n
    have a2 := tm m
    unfold wrap64
    omega
  obtain ⟨r1, i1, m1, R1, I1⟩ := pow_mul (prb_rep n) (pib_rep n) m
  obtain ⟨r2, i2, m2, R2, I2⟩ := pow_mul (prb_rep n) (pib_rep n) n
  obtain ⟨r3, i3, m3, R3, I3⟩ := pow_mul R2 I2 n
  obtain ⟨r4, i4, m4, R4, I4⟩ := pow_mul R3 I3 n
  have o1 := eq_rep R1 (prb_rep s)
  have o2 := eq_rep I1 (pib_rep s)
  rw [(pr_mod s (n + m) hsm).1, decide_eq_true rfl] at o1
  rw [(pr_mod s (n + m) hsm).2, decide_eq_true rfl] at o2
  have o3 := eq_rep R4 rep_one
  have o4 := eq_rep I4 rep_zero
  rw [(pr_mod (n + n + n + n) 0 (by omega)).1, decide_eq_true (by decide)] at o3
  rw [(pr_mod (n + n + n + n) 0 (by omega)).2, decide_eq_true (by decide)] at o4
  have o5 := eq_rep (prb_rep 0) rep_one
  have o6 := eq_rep (pib_rep 0) rep_zero
  have o7 := eq_rep (prb_rep 1) rep_zero
  have o8 := eq_rep (pib_rep 1) rep_one
  rw [decide_eq_true (by decide)] at o5 o6 o7 o8
  have hm1 := fun W => run_complex_mul (P := Try.prog) W 24 _ _ _ _ _ _ m1
  have hm2 := fun W => run_complex_mul (P := Try.prog) W 24 _ _ _ _ _ _ m2
  have hm3 := fun W => run_complex_mul (P := Try.prog) W 24 _ _ _ _ _ _ m3
  have hm4 := fun W => run_complex_mul (P := Try.prog) W 24 _ _ _ _ _ _ m4
  clear m1 m2 m3 m4 R1 R2 R3 R4 I1 I2 I3 I4 hsm
  go_enter Try.func4, Try.ntmps4
  go_wp2_with fail
  refine (wakes _).mono ?_
  rintro e w1 ⟨rfl, hb⟩
  have HB := Aside0.mk hb
  clear hb
  go_wp2_with (go_at_call 10; refine (power _ _).mono ?_; rintro e w' ⟨rfl, rfl⟩)
  go_ret
  exact ⟨rfl, HB.out⟩
theorem powers_row (n m : Int) (w : World) (_ : (Lit.int .i64 n).wf = true) (_ : (Lit.int .i64 m).wf = true) :
    Calls Try.prog 4 #[.int .i64 n, .int .i64 m] w fun e w' => e = .returned (.bool true) ∧ Below w.heap.size w w' := powers_walk n m w
end Go.Proofs.Ytmjgmompcaanlaa.Turn
