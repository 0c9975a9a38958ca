/- The four sums of a spectrum, as whole numbers. This session's own words. -/
import Derived.Test.YtmjgmompcaanlaaTTrunc
namespace Go.Proofs.Ytmjgmompcaanlaa.Turn
open Go.RowKit Go.Proofs.Ytmjgmompcaanlaa.PlainFloat Go.Proofs.YtmjgmompcaanlaaW.PrintWords
/-- The parts of the sum over the first k numbers of a spectrum, each turned back r times. -/
def hr (l : List Int) (r : Nat) : Nat → Int
  | 0 => 0
  | k + 1 => hr l r k + (fr l k 4 * pr (-(k : Int) * (r : Int)) - fi l k 4 * pi (-(k : Int) * (r : Int)))
def hi (l : List Int) (r : Nat) : Nat → Int
  | 0 => 0
  | k + 1 => hi l r k + (fr l k 4 * pi (-(k : Int) * (r : Int)) + fi l k 4 * pr (-(k : Int) * (r : Int)))
theorem mul_le_of {b c p : Int} (h0 : -b ≤ c) (h1 : c ≤ b) (p0 : -1 ≤ p) (p1 : p ≤ 1) : -b ≤ c * p ∧ c * p ≤ b := by
  have : p = -1 ∨ p = 0 ∨ p = 1 := by omega
  rcases this with rfl | rfl | rfl <;> omega
theorem term_small {l : List Int} (h : Sums4 l) (k r : Nat) : (-4398046511104 ≤ fr l k 4 * pr (-(k : Int) * (r : Int)) ∧ fr l k 4 * pr (-(k : Int) * (r : Int)) ≤ 4398046511104) ∧ (-4398046511104 ≤ fi l k 4 * pi (-(k : Int) * (r : Int)) ∧ fi l k 4 * pi (-(k : Int) * (r : Int)) ≤ 4398046511104) ∧ (-4398046511104 ≤ fr l k 4 * pi (-(k : Int) * (r : Int)) ∧ fr l k 4 * pi (-(k : Int) * (r : Int)) ≤ 4398046511104) ∧ (-4398046511104 ≤ fi l k 4 * pr (-(k : Int) * (r : Int)) ∧ fi l k 4 * pr (-(k : Int) * (r : Int)) ≤ 4398046511104) := by
  have a := fr_big h k 4
  have b := fi_big h k 4
  have c := pr_small (-(k : Int) * (r : Int))
  have d := pi_small (-(k : Int) * (r : Int))
  exact ⟨mul_le_of (b := 4398046511104) (by omega) (by omega) c.1 c.2, mul_le_of (b := 4398046511104) (by omega) (by omega) d.1 d.2, mul_le_of (b := 4398046511104) (by omega) (by omega) d.1 d.2, mul_le_of (b := 4398046511104) (by omega) (by omega) c.1 c.2⟩
theorem h_small {l : List Int} (h : Sums4 l) (r k : Nat) : (-8796093022208 * (k : Int) ≤ hr l r k ∧ hr l r k ≤ 8796093022208 * k) ∧ (-8796093022208 * (k : Int) ≤ hi l r k ∧ hi l r k ≤ 8796093022208 * k) := by
  induction k with
  | zero => exact ⟨⟨by simp [hr], by simp [hr]⟩, ⟨by simp [hi], by simp [hi]⟩⟩
  | succ k ih =>
    obtain ⟨t1, t2, t3, t4⟩ := term_small h k r
    simp only [hr, hi]
    omega
theorem sm4 {s0 s1 s2 s3 : Int} : sm [s0, s1, s2, s3] 0 4 = s0 ∧ sm [s0, s1, s2, s3] 1 4 = s1 ∧ sm [s0, s1, s2, s3] 2 4 = s2 ∧ sm [s0, s1, s2, s3] 3 4 = s3 := by
  refine ⟨?_, ?_, ?_, ?_⟩ <;> simp [sm, rd]
/-- Sums come back from their spectrum. -/
theorem hr4 (s0 s1 s2 s3 : Int) {r : Nat} (h : r < 4) : hr [s0, s1, s2, s3] r 4 = 4 * rd [s0, s1, s2, s3] (r : Int) := by
  obtain ⟨⟨a0, b0⟩, ⟨a1, b1⟩, ⟨a2, b2⟩, ⟨a3, b3⟩⟩ := frfi [s0, s1, s2, s3] 4
  obtain ⟨e0, e1, e2, e3⟩ := sm4 (s0 := s0) (s1 := s1) (s2 := s2) (s3 := s3)
  rw [e0, e1, e2, e3] at a0
  rw [e1, e3] at b1
  rw [e0, e2] at a1
  rw [e0, e1, e2, e3] at a2
  rw [e0, e2] at a3
  rw [e1, e3] at b3
  simp only [hr, a0, b0, a1, b1, a2, b2, a3, b3]
  match r, h with
  | 0, _ => simp [pr, pi, rd]; omega
  | 1, _ => simp [pr, pi, rd]; omega
  | 2, _ => simp [pr, pi, rd]; omega
  | 3, _ => simp [pr, pi, rd]; omega
theorem ord_rep {a b : Nat} {x y : Int} (ha : Rep a x) (hb : Rep b y) : FloatKind.f64.format.order a b = some (compare x y) := ha.order hb
theorem geq_rep {P : Program} {a b : Nat} {x y : Int} (ha : Rep a x) (hb : Rep b y) (h : y ≤ x) (t : TypeId) (W : World) : (binOp .geq t (.float .f64 a) (.float .f64 b)).run P W = .ok (.bool true) W := by
  have ho := ord_rep ha hb
  have : (compare x y == .gt || compare x y == .eq) = true := by
    simp only [compare, compareOfLessAndEq]
    by_cases c : x < y
    · omega
    · rw [if_neg c]
      by_cases d : x = y <;> simp [d]
  simp [binOp, Op.floatCmp, ho]
  simpa using this
theorem leq_rep {P : Program} {a b : Nat} {x y : Int} (ha : Rep a x) (hb : Rep b y) (h : x ≤ y) (t : TypeId) (W : World) : (binOp .leq t (.float .f64 a) (.float .f64 b)).run P W = .ok (.bool true) W := by
  have ho := ord_rep ha hb
  have : (compare x y == .lt || compare x y == .eq) = true := by
    simp only [compare, compareOfLessAndEq]
    by_cases c : x < y
    · simp [c]
    · rw [if_neg c, if_pos (show x = y by omega)]
      rfl
  simp [binOp, Op.floatCmp, ho]
  simpa using this
theorem neq_rep {P : Program} {a b : Nat} {x : Int} (ha : Rep a x) (hb : Rep b x) (t : TypeId) (W : World) : (binOp .neq t (.float .f64 a) (.float .f64 b)).run P W = .ok (.bool false) W := by
  have ho := ord_rep ha hb
  simp [binOp, Op.floatCmp, ho]
theorem rep_most : Rep 4787326403894837248 1099511627776 := ⟨false, 1099511627776, by decide, by decide, by decide⟩
theorem int_rep {a : Nat} {x : Int} (h : Rep a x) (hs : Sum x) : floatToIntVal .f64 a .i64 = some x := by
  have ht : (FloatKind.f64.decode a).toInt .zero = some x := h.toInt
  unfold floatToIntVal
  rw [ht]
  unfold Sum at hs
  simp only [IntKind.min, IntKind.max, IntKind.signed, IntKind.bits]
  rw [if_pos]
  simp
  omega
theorem geq_bool {a b : Nat} {x y : Int} (ha : Rep a x) (hb : Rep b y) (h : y ≤ x) : (FloatKind.f64.format.order a b == some Ordering.gt || FloatKind.f64.format.order a b == some Ordering.eq) = true := by
  rw [ord_rep ha hb]
  simp only [compare, compareOfLessAndEq]
  by_cases c : x < y
  · omega
  · rw [if_neg c]
    by_cases d : x = y <;> simp [d]
theorem leq_bool {a b : Nat} {x y : Int} (ha : Rep a x) (hb : Rep b y) (h : x ≤ y) : (FloatKind.f64.format.order a b == some Ordering.lt || FloatKind.f64.format.order a b == some Ordering.eq) = true := by
  rw [ord_rep ha hb]
  simp only [compare, compareOfLessAndEq]
  by_cases c : x < y
  · simp [c]
  · rw [if_neg c, if_pos (show x = y by omega)]
    rfl
theorem same_ord {a b : Nat} {x : Int} (ha : Rep a x) (hb : Rep b x) : FloatKind.f64.format.order a b = some .eq := by
  rw [ord_rep ha hb]
  simp [compare, compareOfLessAndEq]
end Go.Proofs.Ytmjgmompcaanlaa.Turn
