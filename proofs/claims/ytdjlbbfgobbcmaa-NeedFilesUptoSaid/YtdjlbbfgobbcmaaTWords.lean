/- Complex numbers whose parts are whole numbers: sums, products and comparisons of them, as the walk wants them. This session's own words. -/
import Derived.Laws.ComplexArith
import Derived.Laws.Cover3
import Derived.WalkKit
import Derived.KernelRfl
import Derived.Test.YtdjlbbfgobbcmaaPlainFloat
namespace Go.Proofs.Ytdjlbbfgobbcmaa.Turn
open Go.RowKit Go.Proofs.Ytdjlbbfgobbcmaa.PlainFloat
/-- A value is the complex number x + yi. -/
def Cx (v : Value) (x y : Int) : Prop := ∃ a b, v = .complex .f64 a b ∧ Rep a x ∧ Rep b y
/-- Small enough to be exact. -/
def Small (x : Int) : Prop := x.natAbs < 2 ^ 53
theorem rep_zero : Rep 0 0 := ⟨false, 0, by decide, by decide, by decide⟩
theorem rep_one : Rep 4607182418800017408 1 := ⟨false, 1, by decide, by decide, by decide⟩
theorem rep_neg_one : Rep 13830554455654793216 (-1) := ⟨true, 1, by decide, by decide, by decide⟩
theorem rep_two : Rep 4611686018427387904 2 := ⟨false, 2, by decide, by decide, by decide⟩
theorem rep_neg_two : Rep 13835058055282163712 (-2) := ⟨true, 2, by decide, by decide, by decide⟩
theorem rep_ten : Rep 4621819117588971520 10 := ⟨false, 10, by decide, by decide, by decide⟩
theorem sum_rep {a b c d : Nat} {x y u v : Int} (ha : Rep a x) (hb : Rep b y) (hc : Rep c u) (hd : Rep d v) (h1 : (x + u).natAbs < 2 ^ 53) (h2 : (y + v).natAbs < 2 ^ 53) :
    ∃ re im, cSumBits .add .f64 a b c d = some (re, im) ∧ Rep re (x + u) ∧ Rep im (y + v) := by
  obtain ⟨re, e1, r1⟩ := ha.add hc h1
  obtain ⟨im, e2, r2⟩ := hb.add hd h2
  refine ⟨re, im, ?_, r1, r2⟩
  have f1 : floatBits .add .f64 a c = some re := e1
  have f2 : floatBits .add .f64 b d = some im := e2
  unfold cSumBits
  rw [f1, f2]
  rfl
theorem mul_rep {a b c d : Nat} {x y u v : Int} (ha : Rep a x) (hb : Rep b y) (hc : Rep c u) (hd : Rep d v) (h1 : (x * u).natAbs < 2 ^ 53) (h2 : (y * v).natAbs < 2 ^ 53) (h3 : (x * v).natAbs < 2 ^ 53) (h4 : (y * u).natAbs < 2 ^ 53)
    (h5 : (x * u - y * v).natAbs < 2 ^ 53) (h6 : (x * v + y * u).natAbs < 2 ^ 53) :
    ∃ re im, cMulBits a b c d = some (re, im) ∧ Rep re (x * u - y * v) ∧ Rep im (x * v + y * u) := by
  obtain ⟨ac, e1, r1⟩ := ha.mul hc h1
  obtain ⟨bd, e2, r2⟩ := hb.mul hd h2
  obtain ⟨ad, e3, r3⟩ := ha.mul hd h3
  obtain ⟨bc, e4, r4⟩ := hb.mul hc h4
  obtain ⟨re, e5, r5⟩ := r1.sub r2 h5
  obtain ⟨im, e6, r6⟩ := r3.add r4 h6
  refine ⟨re, im, ?_, r5, r6⟩
  have f1 : floatBits .mul .f64 a c = some ac := e1
  have f2 : floatBits .mul .f64 b d = some bd := e2
  have f3 : floatBits .mul .f64 a d = some ad := e3
  have f4 : floatBits .mul .f64 b c = some bc := e4
  have f5 : floatBits .sub .f64 ac bd = some re := e5
  have f6 : floatBits .add .f64 ad bc = some im := e6
  unfold cMulBits
  rw [f1, f2, f3, f4]
  simp only [Option.bind_some]
  rw [f5, f6]
  rfl
theorem eq_rep {a b : Nat} {x y : Int} (ha : Rep a x) (hb : Rep b y) : (FloatKind.f64.format.order a b == some .eq) = decide (x = y) := by
  have h : FloatKind.f64.format.order a b = some (compare x y) := ha.order hb
  rw [h]
  by_cases c : x = y
  · rw [decide_eq_true c, c]
    simp [compare, compareOfLessAndEq]
  · rw [decide_eq_false c]
    simp only [compare, compareOfLessAndEq]
    by_cases d : x < y
    · simp [d]
    · simp [d, c]
theorem of_int {x : Int} (h : x.natAbs < 2 ^ 53) : Rep (FloatKind.f64.nearest x) x := Rep.ofInt h
/-! ### powers of i -/
theorem and3 (n : Int) : Go.bits .and .i64 n 3 = n % 4 := by
  simp only [Go.bits]
  have e : (BitVec.ofInt IntKind.i64.bits n &&& BitVec.ofInt IntKind.i64.bits 3).toNat = (n % 4).toNat := by
    have h3 : (BitVec.ofInt IntKind.i64.bits 3).toNat = 2 ^ 2 - 1 := by decide
    rw [BitVec.toNat_and, h3, Nat.and_two_pow_sub_one_eq_mod, BitVec.toNat_ofInt]
    show (n % (2 ^ 64 : Nat)).toNat % 4 = (n % 4).toNat
    omega
  rw [e, IntKind.wrap_i64]
  omega
/-- The parts of the n-th power of i, as whole numbers and as words. -/
def pr (n : Int) : Int := if n % 4 = 0 then 1 else if n % 4 = 2 then -1 else 0
def pi (n : Int) : Int := if n % 4 = 1 then 1 else if n % 4 = 3 then -1 else 0
def prb (n : Int) : Nat := if n % 4 = 0 then 4607182418800017408 else if n % 4 = 2 then 13830554455654793216 else 0
def pib (n : Int) : Nat := if n % 4 = 1 then 4607182418800017408 else if n % 4 = 3 then 13830554455654793216 else 0
theorem prb_rep (n : Int) : Rep (prb n) (pr n) := by
  unfold prb pr
  by_cases c : n % 4 = 0
  · rw [if_pos c, if_pos c]; exact rep_one
  rw [if_neg c, if_neg c]
  by_cases d : n % 4 = 2
  · rw [if_pos d, if_pos d]; exact rep_neg_one
  · rw [if_neg d, if_neg d]; exact rep_zero
theorem pib_rep (n : Int) : Rep (pib n) (pi n) := by
  unfold pib pi
  by_cases c : n % 4 = 1
  · rw [if_pos c, if_pos c]; exact rep_one
  rw [if_neg c, if_neg c]
  by_cases d : n % 4 = 3
  · rw [if_pos d, if_pos d]; exact rep_neg_one
  · rw [if_neg d, if_neg d]; exact rep_zero
theorem pr_small (n : Int) : -1 ≤ pr n ∧ pr n ≤ 1 := by unfold pr; split <;> (try split) <;> omega
theorem pi_small (n : Int) : -1 ≤ pi n ∧ pi n ≤ 1 := by unfold pi; split <;> (try split) <;> omega
theorem run_store_complex {P : Program} {w : World} {a : Addr} {m : Mode} (k : FloatKind) (x y : Nat) : (store a (.complex k x y) m).run P w = stored P w a (.complex k x y) m := run_store P w a _ m rfl
end Go.Proofs.Ytdjlbbfgobbcmaa.Turn
