/- Texts of this claim, merged. -/
import Derived.Laws.ComplexArith
import Derived.Laws.Cover3
import Derived.WalkKit
import Derived.KernelRfl
import Derived.Test.YtacecaacpagokaaPlainFloat
import Derived.Test.YtacecaacpagokaaProg
import Derived.WalkSpells
import Derived.WalkLawsBesides
import Derived.Test.YtacecaacpagokaaWWords
import Derived.StillTailTactics
import Derived.Deep.LoopGhost
import Derived.ChangeKeysEq
import Derived.StillTactics
import Derived.Laws.Externs
namespace Go.Proofs.Ytacecaacpagokaa.Turn
open Go.RowKit Go.Proofs.Ytacecaacpagokaa.PlainFloat
/-- A value is the complex number x + yi. -/
def Cx (v : Value) (x y : Int) : Prop := ∃ a b, v = .complex .f64 a b ∧ Rep a x ∧ Rep b y
/-- Small enough to be exact. -/
def Small (x : Int) : Prop := x.natAbs < 2 ^ 53
theorem rep_zero : Rep 0 0 := ⟨false, 0, by decide, by decide, by decide⟩
theorem rep_one : Rep 4607182418800017408 1 := ⟨false, 1, by decide, by decide, by decide⟩
theorem rep_neg_one : Rep 13830554455654793216 (-1) := ⟨true, 1, by decide, by decide, by decide⟩
theorem rep_two : Rep 4611686018427387904 2 := ⟨false, 2, by decide, by decide, by decide⟩
theorem rep_neg_two : Rep 13835058055282163712 (-2) := ⟨true, 2, by decide, by decide, by decide⟩
theorem rep_ten : Rep 4621819117588971520 10 := ⟨false, 10, by decide, by decide, by decide⟩
theorem sum_rep {a b c d : Nat} {x y u v : Int} (ha : Rep a x) (hb : Rep b y) (hc : Rep c u) (hd : Rep d v) (h1 : (x + u).natAbs < 2 ^ 53) (h2 : (y + v).natAbs < 2 ^ 53) :
    ∃ re im, cSumBits .add .f64 a b c d = some (re, im) ∧ Rep re (x + u) ∧ Rep im (y + v) := by
  obtain ⟨re, e1, r1⟩ := ha.add hc h1
  obtain ⟨im, e2, r2⟩ := hb.add hd h2
  refine ⟨re, im, ?_, r1, r2⟩
  have f1 : floatBits .add .f64 a c = some re := e1
  have f2 : floatBits .add .f64 b d = some im := e2
  unfold cSumBits
  rw [f1, f2]
  rfl
theorem mul_rep {a b c d : Nat} {x y u v : Int} (ha : Rep a x) (hb : Rep b y) (hc : Rep c u) (hd : Rep d v) (h1 : (x * u).natAbs < 2 ^ 53) (h2 : (y * v).natAbs < 2 ^ 53) (h3 : (x * v).natAbs < 2 ^ 53) (h4 : (y * u).natAbs < 2 ^ 53)
    (h5 : (x * u - y * v).natAbs < 2 ^ 53) (h6 : (x * v + y * u).natAbs < 2 ^ 53) :
    ∃ re im, cMulBits a b c d = some (re, im) ∧ Rep re (x * u - y * v) ∧ Rep im (x * v + y * u) := by
  obtain ⟨ac, e1, r1⟩ := ha.mul hc h1
  obtain ⟨bd, e2, r2⟩ := hb.mul hd h2
  obtain ⟨ad, e3, r3⟩ := ha.mul hd h3
  obtain ⟨bc, e4, r4⟩ := hb.mul hc h4
  obtain ⟨re, e5, r5⟩ := r1.sub r2 h5
  obtain ⟨im, e6, r6⟩ := r3.add r4 h6
  refine ⟨re, im, ?_, r5, r6⟩
  have f1 : floatBits .mul .f64 a c = some ac := e1
  have f2 : floatBits .mul .f64 b d = some bd := e2
  have f3 : floatBits .mul .f64 a d = some ad := e3
  have f4 : floatBits .mul .f64 b c = some bc := e4
  have f5 : floatBits .sub .f64 ac bd = some re := e5
  have f6 : floatBits .add .f64 ad bc = some im := e6
  unfold cMulBits
  rw [f1, f2, f3, f4]
  simp only [Option.bind_some]
  rw [f5, f6]
  rfl
theorem eq_rep {a b : Nat} {x y : Int} (ha : Rep a x) (hb : Rep b y) : (FloatKind.f64.format.order a b == some .eq) = decide (x = y) := by
  have h : FloatKind.f64.format.order a b = some (compare x y) := ha.order hb
  rw [h]
  by_cases c : x = y
  · rw [decide_eq_true c, c]
    simp [compare, compareOfLessAndEq]
  · rw [decide_eq_false c]
    simp only [compare, compareOfLessAndEq]
    by_cases d : x < y
    · simp [d]
    · simp [d, c]
theorem of_int {x : Int} (h : x.natAbs < 2 ^ 53) : Rep (FloatKind.f64.nearest x) x := Rep.ofInt h
/-! ### powers of i -/
theorem and3 (n : Int) : Go.bits .and .i64 n 3 = n % 4 := by
  simp only [Go.bits]
  have e : (BitVec.ofInt IntKind.i64.bits n &&& BitVec.ofInt IntKind.i64.bits 3).toNat = (n % 4).toNat := by
    have h3 : (BitVec.ofInt IntKind.i64.bits 3).toNat = 2 ^ 2 - 1 := by decide
    rw [BitVec.toNat_and, h3, Nat.and_two_pow_sub_one_eq_mod, BitVec.toNat_ofInt]
    show (n % (2 ^ 64 : Nat)).toNat % 4 = (n % 4).toNat
    omega
  rw [e, IntKind.wrap_i64]
  omega
/-- The parts of the n-th power of i, as whole numbers and as words. -/
def pr (n : Int) : Int := if n % 4 = 0 then 1 else if n % 4 = 2 then -1 else 0
def pi (n : Int) : Int := if n % 4 = 1 then 1 else if n % 4 = 3 then -1 else 0
def prb (n : Int) : Nat := if n % 4 = 0 then 4607182418800017408 else if n % 4 = 2 then 13830554455654793216 else 0
def pib (n : Int) : Nat := if n % 4 = 1 then 4607182418800017408 else if n % 4 = 3 then 13830554455654793216 else 0
theorem prb_rep (n : Int) : Rep (prb n) (pr n) := by
  unfold prb pr
  by_cases c : n % 4 = 0
  · rw [if_pos c, if_pos c]; exact rep_one
  rw [if_neg c, if_neg c]
  by_cases d : n % 4 = 2
  · rw [if_pos d, if_pos d]; exact rep_neg_one
  · rw [if_neg d, if_neg d]; exact rep_zero
theorem pib_rep (n : Int) : Rep (pib n) (pi n) := by
  unfold pib pi
  by_cases c : n % 4 = 1
  · rw [if_pos c, if_pos c]; exact rep_one
  rw [if_neg c, if_neg c]
  by_cases d : n % 4 = 3
  · rw [if_pos d, if_pos d]; exact rep_neg_one
  · rw [if_neg d, if_neg d]; exact rep_zero
theorem pr_small (n : Int) : -1 ≤ pr n ∧ pr n ≤ 1 := by unfold pr; split <;> (try split) <;> omega
theorem pi_small (n : Int) : -1 ≤ pi n ∧ pi n ≤ 1 := by unfold pi; split <;> (try split) <;> omega
theorem run_store_complex {P : Program} {w : World} {a : Addr} {m : Mode} (k : FloatKind) (x y : Nat) : (store a (.complex k x y) m).run P w = stored P w a (.complex k x y) m := run_store P w a _ m rfl
end Go.Proofs.Ytacecaacpagokaa.Turn

namespace Go.Proofs.Ytacecaacpagokaa.Turn
open Go.RowKit Go.Proofs.Ytacecaacpagokaa.PlainFloat
set_option linter.unusedVariables false
set_option linter.unusedSimpArgs false
theorem idx0 (W : World) : (Instr.index 26 (.agg #[.complex .f64 4607182418800017408 0, .complex .f64 0 4607182418800017408, .complex .f64 13830554455654793216 0, .complex .f64 0 13830554455654793216]) (.int .i64 0)).run Try.prog W = .ok (.complex .f64 4607182418800017408 0) W := by kernel_rfl
theorem idx1 (W : World) : (Instr.index 26 (.agg #[.complex .f64 4607182418800017408 0, .complex .f64 0 4607182418800017408, .complex .f64 13830554455654793216 0, .complex .f64 0 13830554455654793216]) (.int .i64 1)).run Try.prog W = .ok (.complex .f64 0 4607182418800017408) W := by kernel_rfl
theorem idx2 (W : World) : (Instr.index 26 (.agg #[.complex .f64 4607182418800017408 0, .complex .f64 0 4607182418800017408, .complex .f64 13830554455654793216 0, .complex .f64 0 13830554455654793216]) (.int .i64 2)).run Try.prog W = .ok (.complex .f64 13830554455654793216 0) W := by kernel_rfl
theorem idx3 (W : World) : (Instr.index 26 (.agg #[.complex .f64 4607182418800017408 0, .complex .f64 0 4607182418800017408, .complex .f64 13830554455654793216 0, .complex .f64 0 13830554455654793216]) (.int .i64 3)).run Try.prog W = .ok (.complex .f64 0 13830554455654793216) W := by kernel_rfl
theorem idx (n : Int) (W : World) : (Instr.index 26 (.agg #[.complex .f64 4607182418800017408 0, .complex .f64 0 4607182418800017408, .complex .f64 13830554455654793216 0, .complex .f64 0 13830554455654793216]) (.int .i64 (n % 4))).run Try.prog W = .ok (.complex .f64 (prb n) (pib n)) W := by
  have h : n % 4 = 0 ∨ n % 4 = 1 ∨ n % 4 = 2 ∨ n % 4 = 3 := by omega
  unfold prb pib
  rcases h with h | h | h | h <;> rw [h]
  · exact idx0 W
  · exact idx1 W
  · exact idx2 W
  · exact idx3 W
theorem power (n : Int) (w : World) : Calls Try.prog 44 #[.int .i64 n] w fun e w' => e = .returned (.complex .f64 (prb n) (pib n)) ∧ w = w' := by
  have hx := idx n
  have ha := and3 n
  go_enter Try.func44, Try.ntmps44
  go_wp2
  go_ret
  exact ⟨rfl, rfl⟩
theorem power_still (n : Int) (w : World) : Calls Try.prog 44 #[.int .i64 n] w fun e w' => e = .returned (.complex .f64 (prb n) (pib n)) ∧ w' = w :=
  (power n w).mono fun _ _ ⟨h1, h2⟩ => ⟨h1, h2.symm⟩
end Go.Proofs.Ytacecaacpagokaa.Turn

namespace Go.Proofs.Ytacecaacpagokaa.Turn
open Go.RowKit Go.Proofs.Ytacecaacpagokaa.PlainFloat Go.Proofs.YtacecaacpagokaaW.PrintWords
/-- The parts of the q-th number of the spectrum of the first j bytes. -/
def fr (l : List Int) (q : Nat) : Nat → Int
  | 0 => 0
  | j + 1 => fr l q j + (rd l (j : Int) * pr ((q : Int) * ((j : Int) % 4)) - 0 * pi ((q : Int) * ((j : Int) % 4)))
def fi (l : List Int) (q : Nat) : Nat → Int
  | 0 => 0
  | j + 1 => fi l q j + (rd l (j : Int) * pi ((q : Int) * ((j : Int) % 4)) + 0 * pr ((q : Int) * ((j : Int) % 4)))
def ByteList (l : List Int) : Prop := ∀ i : Int, 0 ≤ rd l i ∧ rd l i ≤ 255
theorem small_mul {c p : Int} (h0 : 0 ≤ c) (h1 : c ≤ 255) (p0 : -1 ≤ p) (p1 : p ≤ 1) : -255 ≤ c * p ∧ c * p ≤ 255 := by
  have : p = -1 ∨ p = 0 ∨ p = 1 := by omega
  rcases this with rfl | rfl | rfl <;> omega
theorem fr_small {l : List Int} (h : ByteList l) (q j : Nat) : -255 * (j : Int) ≤ fr l q j ∧ fr l q j ≤ 255 * j := by
  induction j with
  | zero => exact ⟨by simp [fr], by simp [fr]⟩
  | succ j ih =>
    have hb := h j
    have hp := pr_small ((q : Int) * ((j : Int) % 4))
    have := small_mul hb.1 hb.2 hp.1 hp.2
    simp only [fr, Int.zero_mul]
    omega
theorem fi_small {l : List Int} (h : ByteList l) (q j : Nat) : -255 * (j : Int) ≤ fi l q j ∧ fi l q j ≤ 255 * j := by
  induction j with
  | zero => exact ⟨by simp [fi], by simp [fi]⟩
  | succ j ih =>
    have hb := h j
    have hp := pi_small ((q : Int) * ((j : Int) % 4))
    have := small_mul hb.1 hb.2 hp.1 hp.2
    simp only [fi, Int.zero_mul]
    omega
/-- Four complex numbers in a block. -/
def Holds (t : TypeId) (W : World) (g : Nat) (x y : Nat → Int) : Prop :=
  ∃ cs : Array Value, cs.size = 4 ∧ W.heap[g]? = some (.cells cs t (0, 0)) ∧ ∀ q, q < 4 → ∃ a b, cs[q]? = some (.complex .f64 a b) ∧ Rep a (x q) ∧ Rep b (y q)
theorem Holds.cell {t : TypeId} {W : World} {g : Nat} {x y : Nat → Int} (h : Holds t W g x y) {q : Nat} (hq : q < 4) :
    ∃ a b, W.cell? ⟨g, q, none⟩ = some (.complex .f64 a b) ∧ Rep a (x q) ∧ Rep b (y q) ∧ W.frozen? ⟨g, q, none⟩ = false := by
  obtain ⟨cs, hs, hb, hc⟩ := h
  obtain ⟨a, b, e, r1, r2⟩ := hc q hq
  exact ⟨a, b, (blk_cell hb q).trans e, r1, r2, blk_frozen hb q⟩
theorem Holds.put {t : TypeId} {W : World} {g : Nat} {x y x' y' : Nat → Int} (h : Holds t W g x y) {q : Nat} (hq : q < 4) {a b : Nat} (ha : Rep a (x' q)) (hb : Rep b (y' q)) (hx : ∀ p, p < 4 → p ≠ q → x' p = x p ∧ y' p = y p) :
    Holds t (W.setCell ⟨g, q, none⟩ (.complex .f64 a b)) g x' y' := by
  obtain ⟨cs, hs, hk, hc⟩ := h
  refine ⟨cs.setIfInBounds q (.complex .f64 a b), by simp [hs], blk_set hk q _, fun p hp => ?_⟩
  by_cases e : p = q
  · subst e
    exact ⟨a, b, by simp [hs, hp], ha, hb⟩
  · obtain ⟨a1, b1, e1, r1, r2⟩ := hc p hp
    obtain ⟨z1, z2⟩ := hx p hp e
    refine ⟨a1, b1, ?_, z1 ▸ r1, z2 ▸ r2⟩
    rw [Array.getElem?_setIfInBounds_ne (Ne.symm e)]
    exact e1
theorem Holds.to {t : TypeId} {W W' : World} {g : Nat} {x y : Nat → Int} (h : Holds t W g x y) (e : W'.heap[g]? = W.heap[g]?) : Holds t W' g x y := by
  obtain ⟨cs, hs, hk, hc⟩ := h
  exact ⟨cs, hs, e.trans hk, hc⟩
theorem Holds.same {t : TypeId} {W : World} {g : Nat} {x y x' y' : Nat → Int} (h : Holds t W g x y) (e : ∀ q, q < 4 → x' q = x q ∧ y' q = y q) : Holds t W g x' y' := by
  obtain ⟨cs, hs, hk, hc⟩ := h
  refine ⟨cs, hs, hk, fun q hq => ?_⟩
  obtain ⟨a, b, e1, r1, r2⟩ := hc q hq
  obtain ⟨z1, z2⟩ := e q hq
  exact ⟨a, b, e1, z1 ▸ r1, z2 ▸ r2⟩
theorem Holds.lt {t : TypeId} {W : World} {g : Nat} {x y : Nat → Int} (h : Holds t W g x y) : g < W.heap.size := by
  obtain ⟨cs, hs, hk, hc⟩ := h
  exact blk_lt hk
theorem Holds.four {t : TypeId} {W : World} {g : Nat} {x y : Nat → Int} (h : Holds t W g x y) : ∃ a0 b0 a1 b1 a2 b2 a3 b3, W.heap[g]? = some (.cells #[.complex .f64 a0 b0, .complex .f64 a1 b1, .complex .f64 a2 b2, .complex .f64 a3 b3] t (0, 0)) ∧ (Rep a0 (x 0) ∧ Rep b0 (y 0)) ∧ (Rep a1 (x 1) ∧ Rep b1 (y 1)) ∧ (Rep a2 (x 2) ∧ Rep b2 (y 2)) ∧ (Rep a3 (x 3) ∧ Rep b3 (y 3)) := by
  obtain ⟨cs, hs, hk, hc⟩ := h
  obtain ⟨a0, b0, e0, r0, s0⟩ := hc 0 (by omega)
  obtain ⟨a1, b1, e1, r1, s1⟩ := hc 1 (by omega)
  obtain ⟨a2, b2, e2, r2, s2⟩ := hc 2 (by omega)
  obtain ⟨a3, b3, e3, r3, s3⟩ := hc 3 (by omega)
  refine ⟨a0, b0, a1, b1, a2, b2, a3, b3, ?_, ⟨r0, s0⟩, ⟨r1, s1⟩, ⟨r2, s2⟩, ⟨r3, s3⟩⟩
  rw [hk]
  congr 2
  apply Array.ext_getElem?
  intro i
  match i with
  | 0 => exact e0
  | 1 => exact e1
  | 2 => exact e2
  | 3 => exact e3
  | n + 4 => rw [Array.getElem?_eq_none (by omega)]; rfl
theorem Holds.zero {t : TypeId} {W : World} {g : Nat} (h : W.heap[g]? = some (.cells #[.complex .f64 0 0, .complex .f64 0 0, .complex .f64 0 0, .complex .f64 0 0] t (0, 0))) : Holds t W g (fun _ => 0) (fun _ => 0) := by
  refine ⟨_, rfl, h, fun q hq => ⟨0, 0, ?_, rep_zero, rep_zero⟩⟩
  match q, hq with
  | 0, _ => rfl
  | 1, _ => rfl
  | 2, _ => rfl
  | 3, _ => rfl
/-- A value is four complex numbers. -/
def SpecV (v : Value) (x y : Nat → Int) : Prop := ∃ a0 b0 a1 b1 a2 b2 a3 b3, v = .agg #[.complex .f64 a0 b0, .complex .f64 a1 b1, .complex .f64 a2 b2, .complex .f64 a3 b3] ∧ (Rep a0 (x 0) ∧ Rep b0 (y 0)) ∧ (Rep a1 (x 1) ∧ Rep b1 (y 1)) ∧ (Rep a2 (x 2) ∧ Rep b2 (y 2)) ∧ (Rep a3 (x 3) ∧ Rep b3 (y 3))
theorem below_set' {B : Nat} {w W : World} (h : Below B w W) {a : Addr} (ha : B ≤ a.block) (v : Value) : Below B w (W.setCell a v) := h.setCell ha v
theorem Holds.of_four {t : TypeId} {W : World} {g : Nat} {x y : Nat → Int} {a0 b0 a1 b1 a2 b2 a3 b3 : Nat} (hk : W.heap[g]? = some (.cells #[.complex .f64 a0 b0, .complex .f64 a1 b1, .complex .f64 a2 b2, .complex .f64 a3 b3] t (0, 0)))
    (h : (Rep a0 (x 0) ∧ Rep b0 (y 0)) ∧ (Rep a1 (x 1) ∧ Rep b1 (y 1)) ∧ (Rep a2 (x 2) ∧ Rep b2 (y 2)) ∧ (Rep a3 (x 3) ∧ Rep b3 (y 3))) : Holds t W g x y := by
  refine ⟨_, rfl, hk, fun q hq => ?_⟩
  match q, hq with
  | 0, _ => exact ⟨a0, b0, rfl, h.1⟩
  | 1, _ => exact ⟨a1, b1, rfl, h.2.1⟩
  | 2, _ => exact ⟨a2, b2, rfl, h.2.2.1⟩
  | 3, _ => exact ⟨a3, b3, rfl, h.2.2.2⟩
end Go.Proofs.Ytacecaacpagokaa.Turn

namespace Go.Proofs.Ytacecaacpagokaa.Turn
open Go.RowKit Go.Proofs.Ytacecaacpagokaa.PlainFloat Go.Proofs.YtacecaacpagokaaW.PrintWords
set_option linter.unusedVariables false
set_option linter.unusedSimpArgs false
attribute [local go_sem] run_store_complex
set_option maxHeartbeats 2000000 in
set_option maxRecDepth 100000 in
theorem of_calls (A : Option Addr) (c : Nat) (l : List Int) (w : World) (hr : ReadsInt w .u8 A l.length l) (hb : ByteList l) (hl : l.length ≤ 4194304) :
  Calls Try.prog 33 #[.slice A l.length c] w fun e w' => ∃ v, e = .returned v ∧ SpecV v (fun q => fr l q l.length) (fun q => fi l q l.length) ∧ Below w.heap.size w w' := by
  have HR := Aside0.mk hr
  have HY := Aside0.mk hb
  clear hr hb
  go_enter Try.func33, Try.ntmps33
  go_wp2
  go_loopw [9] (fun i wr => ∃ j : Nat, j ≤ l.length ∧ i = .int .i64 j ∧ Aside0 (wr.heap[w.heap.size]? = some (.cells #[.complex .f64 0 0, .complex .f64 0 0, .complex .f64 0 0, .complex .f64 0 0] 27 (0, 0))) ∧ Aside0 (Holds 27 wr (w.heap.size + 1) (fun q => fr l q j) (fun q => fi l q j)) ∧ Aside0 (Below w.heap.size w wr)) (fun i _ => l.length - (intOf i).toNat)
  case atStart =>
    exact ⟨0, Nat.zero_le _, rfl, ⟨blk_alloc (blk_new w _) _⟩, ⟨Holds.zero (by have := blk_new (w.alloc (.cells #[.complex .f64 0 0, .complex .f64 0 0, .complex .f64 0 0, .complex .f64 0 0] 27)) (.cells #[.complex .f64 0 0, .complex .f64 0 0, .complex .f64 0 0, .complex .f64 0 0] 27); simpa using this)⟩, ⟨((Below.refl _ _).alloc (Nat.le_refl _) _).alloc (by simp) _⟩⟩
  case round =>
    obtain ⟨j, hj, rfl, HK, HH, HB⟩ := hrel
    by_cases hlt : j < l.length
    · obtain ⟨ad, e, hc⟩ := HR.out.2.2 (by omega)
      have hcell := pw_cell_below HB.out (hc j hlt)
      obtain ⟨x, hxe⟩ : ∃ x, l.getD j 0 = x := ⟨_, rfl⟩
      rw [hxe] at hcell
      have hx : 0 ≤ x ∧ x ≤ 255 := by have := HY.out j; rw [show rd l (j : Int) = x from hxe] at this; exact this
      have HX := Aside0.mk hxe
      clear hxe hc
      subst e
      obtain ⟨wo, hwo⟩ : ∃ wo : World, wo = wr := ⟨_, rfl⟩
      subst hwo
      go_wp2
      go_loopw [14] (fun i wr => ∃ k : Nat, k ≤ 4 ∧ i = .int .i64 k ∧ Aside0 (wr.heap[w.heap.size]? = some (.cells #[.complex .f64 0 0, .complex .f64 0 0, .complex .f64 0 0, .complex .f64 0 0] 27 (0, 0))) ∧ Aside0 (Holds 27 wr (w.heap.size + 1) (fun q => if q < k then fr l q (j + 1) else fr l q j) (fun q => if q < k then fi l q (j + 1) else fi l q j)) ∧ Aside0 (Below w.heap.size w wr)) (fun i _ => 4 - (intOf i).toNat)
      case atStart =>
        exact ⟨0, Nat.zero_le _, rfl, HK, ⟨HH.out.same (fun q _ => ⟨by rw [if_neg (by omega)], by rw [if_neg (by omega)]⟩)⟩, HB⟩
      case round =>
        obtain ⟨k, hk, rfl, HK, HH, HB⟩ := hrel
        by_cases hkl : k < 4
        · obtain ⟨a, b, hcl, ra, rb, hfz⟩ := HH.out.cell hkl
          simp only [Nat.lt_irrefl, if_false] at ra rb
          have hfr := fr_small HY.out k j
          have hfi := fi_small HY.out k j
          obtain ⟨m, hm⟩ : ∃ m : Int, (k : Int) * ((j : Int) % 4) = m := ⟨_, rfl⟩
          have hpr := pr_small m
          have hpi := pi_small m
          have hxr := small_mul hx.1 hx.2 hpr.1 hpr.2
          have hxi := small_mul hx.1 hx.2 hpi.1 hpi.2
          obtain ⟨re, im, em, rre, rim⟩ := mul_rep (of_int (x := x) (by omega)) rep_zero (prb_rep m) (pib_rep m) (by omega) (by simp) (by omega) (by simp) (by simp; omega) (by simp; omega)
          obtain ⟨re2, im2, es, rs, is⟩ := sum_rep ra rb rre rim (by simp; omega) (by simp; omega)
          have HMa := Aside0.mk rs
          have HMb := Aside0.mk is
          clear rs is rre rim ra rb hfr hfi hpr hpi hxr hxi
          have em2 : cMulBits (floatOfInt .f64 x) 0 (prb m) (pib m) = some (re, im) := em
          have hmul := fun W => run_complex_mul (P := Try.prog) W 25 _ _ _ _ _ _ em2
          have hadd := fun W => run_complex_sum (P := Try.prog) W .add (Or.inl rfl) 25 .f64 _ _ _ _ _ _ es
          have HS := Aside0.mk (And.intro em2 es)
          have hw : IntKind.i64.wrap ((k : Int) * ((j : Int) % 4)) = m := by rw [hm, IntKind.wrap_i64]; have : 0 ≤ (k : Int) * ((j : Int) % 4) := Int.mul_nonneg (by omega) (by omega); have : (k : Int) * ((j : Int) % 4) ≤ 4 * 3 := Int.mul_le_mul (by omega) (by omega) (by omega) (by omega); omega
          have ha := and3 (j : Int)
          have HM := Aside0.mk hm
          clear em em2 es hm
          go_wp2
          go_still_tail 13, (by kernel_rfl)
          still_call (power_still m _)
          repeat still_step
          refine wpStill_nil ?_
          change wpList _ _ _ _ _ wr.drew
          go_wp2
          go_roundw
          case rel =>
            refine ⟨k + 1, by omega, by go_num, ⟨blk_drew (blk_far HK.out (by simp) _)⟩, ⟨?_⟩, ⟨below_drew (below_set' HB.out (by simp) _)⟩⟩
            refine Holds.to (W := wr.setCell ⟨w.heap.size + 1, k, none⟩ (.complex .f64 re2 im2)) ?_ rfl
            have hxk : rd l (j : Int) = x := HX.out
            refine HH.out.put hkl (x' := fun q => if q < k + 1 then fr l q (j + 1) else fr l q j) (y' := fun q => if q < k + 1 then fi l q (j + 1) else fi l q j) ?_ ?_ ?_
            · rw [if_pos (by omega)]
              simp only [fr]
              rw [hxk, HM.out]
              exact HMa.out
            · rw [if_pos (by omega)]
              simp only [fi]
              rw [hxk, HM.out]
              exact HMb.out
            · intro p hp hne
              by_cases hpk : p < k
              · simp only [if_pos hpk, if_pos (show p < k + 1 by omega), and_self]
              · simp only [if_neg hpk, if_neg (show ¬ p < k + 1 by omega), and_self]
          case measure => simp [intOf]; omega
        · obtain rfl : k = 4 := by omega
          go_wp2
          go_roundw
          case rel =>
            refine ⟨j + 1, by omega, by go_num, HK, ⟨HH.out.same (fun q hq => ⟨by rw [if_pos hq], by rw [if_pos hq]⟩)⟩, HB⟩
          case measure => simp [intOf]; omega
    · obtain rfl : j = l.length := by omega
      clear hj hlt
      obtain ⟨a0, b0, a1, b1, a2, b2, a3, b3, hk4_, r0, r1, r2, r3⟩ := HH.out.four
      have HK4 := Aside0.mk hk4_
      have HR4 := Aside0.mk (And.intro r0 (And.intro r1 (And.intro r2 r3)))
      clear hk4_ r0 r1 r2 r3 HH
      have c0 : wr.cell? ⟨w.heap.size + 1, 0, none⟩ = some (.complex .f64 a0 b0) := (blk_cell HK4.out 0).trans rfl
      have c1 : wr.cell? ⟨w.heap.size + 1, 1, none⟩ = some (.complex .f64 a1 b1) := (blk_cell HK4.out 1).trans rfl
      have c2 : wr.cell? ⟨w.heap.size + 1, 2, none⟩ = some (.complex .f64 a2 b2) := (blk_cell HK4.out 2).trans rfl
      have c3 : wr.cell? ⟨w.heap.size + 1, 3, none⟩ = some (.complex .f64 a3 b3) := (blk_cell HK4.out 3).trans rfl
      have z0 : wr.cell? ⟨w.heap.size, 0, none⟩ = some (.complex .f64 0 0) := (blk_cell HK.out 0).trans rfl
      have f0 := blk_frozen HK.out 0
      have z1 : wr.cell? ⟨w.heap.size, 1, none⟩ = some (.complex .f64 0 0) := (blk_cell HK.out 1).trans rfl
      have f1 := blk_frozen HK.out 1
      have z2 : wr.cell? ⟨w.heap.size, 2, none⟩ = some (.complex .f64 0 0) := (blk_cell HK.out 2).trans rfl
      have f2 := blk_frozen HK.out 2
      have z3 : wr.cell? ⟨w.heap.size, 3, none⟩ = some (.complex .f64 0 0) := (blk_cell HK.out 3).trans rfl
      have f3 := blk_frozen HK.out 3
      go_wp2
      refine bodyPost_ret (results_cell_row (fn := Try.f33) rfl _ _ w.heap.size 27 #[.complex .f64 a0 b0, .complex .f64 a1 b1, .complex .f64 a2 b2, .complex .f64 a3 b3] (0, 0) _ rfl ?_ Try.underlying27 rfl (by kernel_rfl)) rfl ?_
      · refine blk_put (cs := #[.complex .f64 a0 b0, .complex .f64 a1 b1, .complex .f64 a2 b2, .complex .f64 0 0]) ?_ 3 _ rfl
        refine blk_put (cs := #[.complex .f64 a0 b0, .complex .f64 a1 b1, .complex .f64 0 0, .complex .f64 0 0]) ?_ 2 _ rfl
        refine blk_put (cs := #[.complex .f64 a0 b0, .complex .f64 0 0, .complex .f64 0 0, .complex .f64 0 0]) ?_ 1 _ rfl
        refine blk_put (cs := #[.complex .f64 0 0, .complex .f64 0 0, .complex .f64 0 0, .complex .f64 0 0]) ?_ 0 _ rfl
        exact HK.out
      · refine ⟨_, rfl, ⟨a0, b0, a1, b1, a2, b2, a3, b3, rfl, HR4.out⟩, ?_⟩
        exact below_set' (below_set' (below_set' (below_set' HB.out (Nat.le_refl _) _) (Nat.le_refl _) _) (Nat.le_refl _) _) (Nat.le_refl _) _
end Go.Proofs.Ytacecaacpagokaa.Turn

namespace Go.Proofs.Ytacecaacpagokaa.Turn
open Go.RowKit Go.Proofs.Ytacecaacpagokaa.PlainFloat
theorem cell_eq (d : Nat) (W : World) (a b a' b' : Nat) : (Op.equalIn (d + 1) 25 (.complex .f64 a b) (.complex .f64 a' b')).run Try.prog W = .ok ((FloatKind.f64.format.order a a' == some .eq) && (FloatKind.f64.format.order b b' == some .eq)) W := by
  have h : Try.prog.underlying 25 = some (.complex .f64) := by kernel_rfl
  simp [Op.equalIn, run_underlying h, Op.floatEq]
theorem cell_eq9 (W : World) (a b a' b' : Nat) : (Op.equalIn 9999 25 (.complex .f64 a b) (.complex .f64 a' b')).run Try.prog W = .ok ((FloatKind.f64.format.order a a' == some .eq) && (FloatKind.f64.format.order b b' == some .eq)) W := cell_eq 9998 W a b a' b'
theorem guard_eq (x y : Operand) (xs ys : Array Value) (W : World) : (eqGuard .eql 27 x y (.agg xs) (.agg ys)).run Try.prog W = .ok () W := by kernel_rfl
theorem four_eq (W : World) (a0 b0 a1 b1 a2 b2 a3 b3 c0 d0 c1 d1 c2 d2 c3 d3 : Nat) :
    (binOp .eql 27 (.agg #[.complex .f64 a0 b0, .complex .f64 a1 b1, .complex .f64 a2 b2, .complex .f64 a3 b3]) (.agg #[.complex .f64 c0 d0, .complex .f64 c1 d1, .complex .f64 c2 d2, .complex .f64 c3 d3])).run Try.prog W =
      .ok (.bool (((FloatKind.f64.format.order a0 c0 == some .eq) && (FloatKind.f64.format.order b0 d0 == some .eq)) && (((FloatKind.f64.format.order a1 c1 == some .eq) && (FloatKind.f64.format.order b1 d1 == some .eq)) && (((FloatKind.f64.format.order a2 c2 == some .eq) && (FloatKind.f64.format.order b2 d2 == some .eq)) && ((FloatKind.f64.format.order a3 c3 == some .eq) && (FloatKind.f64.format.order b3 d3 == some .eq)))))) W := by
  have hu : Try.prog.underlying 27 = some (.array 4 25) := by kernel_rfl
  have hi : Try.prog.info? 25 = some (Try.prog.types[25]!) := by kernel_rfl
  have hc : Try.prog.cellsOf 25 = 1 := by kernel_rfl
  have he := run_equalIn_array (P := Try.prog) (w := W) 9999 #[.complex .f64 a0 b0, .complex .f64 a1 b1, .complex .f64 a2 b2, .complex .f64 a3 b3] #[.complex .f64 c0 d0, .complex .f64 c1 d1, .complex .f64 c2 d2, .complex .f64 c3 d3] hu hi
  rw [hc] at he
  simp only [binOp, Op.equal, Sem.run_bind]
  rw [show Op.maxDepth = 9999 + 1 from rfl, he]
  simp only [List.range, List.range.loop, Op.eqItems, Sem.run_bind]
  simp [part, sizeOf, typeInfo]
  simp only [cell_eq9, Result.andThen_ok]
  generalize ((FloatKind.f64.format.order a0 c0 == some .eq) && (FloatKind.f64.format.order b0 d0 == some .eq)) = p0
  generalize ((FloatKind.f64.format.order a1 c1 == some .eq) && (FloatKind.f64.format.order b1 d1 == some .eq)) = p1
  generalize ((FloatKind.f64.format.order a2 c2 == some .eq) && (FloatKind.f64.format.order b2 d2 == some .eq)) = p2
  generalize ((FloatKind.f64.format.order a3 c3 == some .eq) && (FloatKind.f64.format.order b3 d3 == some .eq)) = p3
  cases p0
  · rfl
  cases p1
  · rfl
  cases p2
  · rfl
  cases p3 <;> rfl
theorem guard_neq (x y : Operand) (xs ys : Array Value) (W : World) : (eqGuard .neq 27 x y (.agg xs) (.agg ys)).run Try.prog W = .ok () W := by kernel_rfl
set_option maxRecDepth 100000 in
theorem four_neq (W : World) (xs ys : Array Value) {b : Bool} (h : (binOp .eql 27 (.agg xs) (.agg ys)).run Try.prog W = .ok (.bool b) W) : (binOp .neq 27 (.agg xs) (.agg ys)).run Try.prog W = .ok (.bool (!b)) W := by
  simp only [binOp, Sem.run_bind] at h ⊢
  cases hr : (Op.equal 27 (.agg xs) (.agg ys)).run Try.prog W with
  | ok c w' =>
    rw [hr] at h
    simp only [Result.andThen_ok] at h ⊢
    have h' : Result.ok (Value.bool c) w' = Result.ok (Value.bool b) W := h
    injection h' with h1 h2
    injection h1 with h1
    subst h1
    subst h2
    rfl
  | halt a w' =>
    rw [hr] at h
    cases h
def alike (x y x' y' : Nat → Int) : Bool := (decide (x 0 = x' 0) && decide (y 0 = y' 0)) && ((decide (x 1 = x' 1) && decide (y 1 = y' 1)) && ((decide (x 2 = x' 2) && decide (y 2 = y' 2)) && (decide (x 3 = x' 3) && decide (y 3 = y' 3))))
theorem alike_same {x y x' y' : Nat → Int} (h : ∀ q, q < 4 → x q = x' q ∧ y q = y' q) : alike x y x' y' = true := by
  unfold alike
  simp only [Bool.and_eq_true, decide_eq_true_eq]
  exact ⟨h 0 (by omega), h 1 (by omega), h 2 (by omega), h 3 (by omega)⟩
/-- Two spectra of whole numbers: equal just where the numbers are. -/
theorem spec_eq {u v : Value} {x y x' y' : Nat → Int} (hu : SpecV u x y) (hv : SpecV v x' y') (W : World) :
    (binOp .eql 27 u v).run Try.prog W = .ok (.bool (alike x y x' y')) W := by
  obtain ⟨a0, b0, a1, b1, a2, b2, a3, b3, rfl, ⟨r0, s0⟩, ⟨r1, s1⟩, ⟨r2, s2⟩, ⟨r3, s3⟩⟩ := hu
  obtain ⟨c0, d0, c1, d1, c2, d2, c3, d3, rfl, ⟨t0, z0⟩, ⟨t1, z1⟩, ⟨t2, z2⟩, ⟨t3, z3⟩⟩ := hv
  rw [four_eq, eq_rep r0 t0, eq_rep s0 z0, eq_rep r1 t1, eq_rep s1 z1, eq_rep r2 t2, eq_rep s2 z2, eq_rep r3 t3, eq_rep s3 z3]
  rfl
theorem spec_neq {u v : Value} {x y x' y' : Nat → Int} (hu : SpecV u x y) (hv : SpecV v x' y') (W : World) :
    (binOp .neq 27 u v).run Try.prog W = .ok (.bool (!(alike x y x' y'))) W := by
  have h := spec_eq hu hv W
  obtain ⟨a0, b0, a1, b1, a2, b2, a3, b3, rfl, _⟩ := hu
  obtain ⟨c0, d0, c1, d1, c2, d2, c3, d3, rfl, _⟩ := hv
  exact four_neq W _ _ h
theorem spec_guard_neq {u v : Value} {x y x' y' : Nat → Int} (hu : SpecV u x y) (hv : SpecV v x' y') (p q : Operand) (W : World) : (eqGuard .neq 27 p q u v).run Try.prog W = .ok () W := by
  obtain ⟨a0, b0, a1, b1, a2, b2, a3, b3, rfl, _⟩ := hu
  obtain ⟨c0, d0, c1, d1, c2, d2, c3, d3, rfl, _⟩ := hv
  exact guard_neq p q _ _ W
/-- What the comparison's guard asks of two spectra. -/
theorem spec_guard {u v : Value} {x y x' y' : Nat → Int} (hu : SpecV u x y) (hv : SpecV v x' y') (p q : Operand) (W : World) : (eqGuard .eql 27 p q u v).run Try.prog W = .ok () W := by
  obtain ⟨a0, b0, a1, b1, a2, b2, a3, b3, rfl, _⟩ := hu
  obtain ⟨c0, d0, c1, d1, c2, d2, c3, d3, rfl, _⟩ := hv
  exact guard_eq p q _ _ W
end Go.Proofs.Ytacecaacpagokaa.Turn

namespace Go.Proofs.Ytacecaacpagokaa.Turn
open Go.RowKit Go.Proofs.Ytacecaacpagokaa.PlainFloat Go.Proofs.YtacecaacpagokaaW.PrintWords
set_option linter.unusedVariables false
set_option linter.unusedSimpArgs false
attribute [local go_sem] run_store_complex
/-- The spectrum of four sums, as whole numbers. -/
def mx (s0 s1 s2 s3 : Int) : Nat → Int | 0 => s0 + s1 + s2 + s3 | 1 => s0 - s2 | 2 => s0 + s2 - s1 - s3 | _ => s0 - s2
def my (s0 s1 s2 s3 : Int) : Nat → Int | 0 => 0 | 1 => s1 - s3 | 2 => 0 | _ => s3 - s1
theorem quarter (n : Int) (w : World) : Calls Try.prog 76 #[.int .i64 n] w fun e w' => e = .returned (.int .i64 (n % 4)) ∧ w = w' := by
  have ha := and3 n
  go_enter Try.func76, Try.ntmps76
  go_wp2
  go_ret
  exact ⟨rfl, rfl⟩
set_option maxHeartbeats 2000000 in
set_option maxRecDepth 100000 in
theorem made (s0 s1 s2 s3 : Int) (w : World) (h0 : 0 ≤ s0 ∧ s0 ≤ 2000000000000) (h1 : 0 ≤ s1 ∧ s1 ≤ 2000000000000) (h2 : 0 ≤ s2 ∧ s2 ≤ 2000000000000) (h3 : 0 ≤ s3 ∧ s3 ≤ 2000000000000) :
    Calls Try.prog 64 #[.agg #[.int .i64 s0, .int .i64 s1, .int .i64 s2, .int .i64 s3]] w fun e w' => ∃ v, e = .returned v ∧ SpecV v (mx s0 s1 s2 s3) (my s0 s1 s2 s3) ∧ Below w.heap.size w w' := by
  have hu := Try.underlying56
  go_enter Try.func64, Try.ntmps64
  go_wp2
  have of : ∀ {x : Int}, x.natAbs < 2 ^ 53 → Rep (floatOfInt .f64 x) x := fun h => of_int h
  refine bodyPost_ret (results_cell_row (fn := Try.f64) rfl _ _ (w.heap.size + 1) 33 #[.complex .f64 (floatOfInt .f64 (s0 + s1 + s2 + s3)) 0, .complex .f64 (floatOfInt .f64 (s0 - s2)) (floatOfInt .f64 (s1 - s3)), .complex .f64 (floatOfInt .f64 (s0 + s2 - s1 - s3)) 0, .complex .f64 (floatOfInt .f64 (s0 - s2)) (floatOfInt .f64 (s3 - s1))] (0, 0) _ rfl (heap_alloc2_new _ _ _) Try.underlying33 rfl (by kernel_rfl)) rfl ?_
  refine ⟨_, rfl, ⟨_, _, _, _, _, _, _, _, rfl, ⟨of ?_, rep_zero⟩, ⟨of ?_, of ?_⟩, ⟨of ?_, rep_zero⟩, ⟨of ?_, of ?_⟩⟩, ((Below.refl _ _).alloc (Nat.le_refl _) _).alloc (by simp) _⟩ <;> omega
end Go.Proofs.Ytacecaacpagokaa.Turn

namespace Go.Proofs.Ytacecaacpagokaa.Turn
open Go.RowKit Go.Proofs.Ytacecaacpagokaa.PlainFloat Go.Proofs.YtacecaacpagokaaW.PrintWords
set_option linter.unusedVariables false
set_option linter.unusedSimpArgs false
attribute [local go_sem] run_store_complex
/-- The sum of the numbers at places r, r + 4, .. among the first j. -/
def sm (l : List Int) (r : Nat) : Nat → Int
  | 0 => 0
  | j + 1 => sm l r j + (if j % 4 = r then rd l (j : Int) else 0)
theorem frfi (l : List Int) (j : Nat) : (fr l 0 j = sm l 0 j + sm l 1 j + sm l 2 j + sm l 3 j ∧ fi l 0 j = 0) ∧ (fr l 1 j = sm l 0 j - sm l 2 j ∧ fi l 1 j = sm l 1 j - sm l 3 j) ∧ (fr l 2 j = sm l 0 j + sm l 2 j - sm l 1 j - sm l 3 j ∧ fi l 2 j = 0) ∧ (fr l 3 j = sm l 0 j - sm l 2 j ∧ fi l 3 j = sm l 3 j - sm l 1 j) := by
  induction j with
  | zero => simp [fr, fi, sm]
  | succ j ih =>
    obtain ⟨⟨a0, b0⟩, ⟨a1, b1⟩, ⟨a2, b2⟩, ⟨a3, b3⟩⟩ := ih
    have h : j % 4 = 0 ∨ j % 4 = 1 ∨ j % 4 = 2 ∨ j % 4 = 3 := by omega
    simp only [fr, fi, sm, a0, b0, a1, b1, a2, b2, a3, b3]
    rcases h with h | h | h | h
    · have hz : (j : Int) % 4 = 0 := by omega
      simp [h, hz, pr, pi]
      omega
    · have hz : (j : Int) % 4 = 1 := by omega
      simp [h, hz, pr, pi]
      omega
    · have hz : (j : Int) % 4 = 2 := by omega
      simp [h, hz, pr, pi]
      omega
    · have hz : (j : Int) % 4 = 3 := by omega
      simp [h, hz, pr, pi]
      omega
theorem fr_is (l : List Int) (j q : Nat) (hq : q < 4) : fr l q j = mx (sm l 0 j) (sm l 1 j) (sm l 2 j) (sm l 3 j) q ∧ fi l q j = my (sm l 0 j) (sm l 1 j) (sm l 2 j) (sm l 3 j) q := by
  have h := frfi l j
  match q, hq with
  | 0, _ => exact h.1
  | 1, _ => exact h.2.1
  | 2, _ => exact h.2.2.1
  | 3, _ => exact h.2.2.2
theorem sm_range {l : List Int} (h : ByteList l) (r j : Nat) : 0 ≤ sm l r j ∧ sm l r j ≤ 255 * j := by
  induction j with
  | zero => simp [sm]
  | succ j ih =>
    have := h j
    simp only [sm]
    split <;> omega
/-- Four whole numbers in a block. -/
def HoldsI (t : TypeId) (W : World) (g : Nat) (x : Nat → Int) : Prop := ∃ s0 s1 s2 s3, W.heap[g]? = some (.cells #[.int .i64 s0, .int .i64 s1, .int .i64 s2, .int .i64 s3] t (0, 0)) ∧ x 0 = s0 ∧ x 1 = s1 ∧ x 2 = s2 ∧ x 3 = s3
theorem HoldsI.cell {t : TypeId} {W : World} {g : Nat} {x : Nat → Int} (h : HoldsI t W g x) {q : Nat} (hq : q < 4) : W.cell? ⟨g, q, none⟩ = some (.int .i64 (x q)) ∧ W.frozen? ⟨g, q, none⟩ = false := by
  obtain ⟨s0, s1, s2, s3, hb, e0, e1, e2, e3⟩ := h
  refine ⟨(blk_cell hb q).trans ?_, blk_frozen hb q⟩
  match q, hq with
  | 0, _ => rw [e0]; rfl
  | 1, _ => rw [e1]; rfl
  | 2, _ => rw [e2]; rfl
  | 3, _ => rw [e3]; rfl
theorem HoldsI.put {t : TypeId} {W : World} {g : Nat} {x x' : Nat → Int} (h : HoldsI t W g x) {q : Nat} (hq : q < 4) (hx : ∀ p, p < 4 → p ≠ q → x' p = x p) : HoldsI t (W.setCell ⟨g, q, none⟩ (.int .i64 (x' q))) g x' := by
  obtain ⟨s0, s1, s2, s3, hb, e0, e1, e2, e3⟩ := h
  have hs := blk_set hb q (.int .i64 (x' q))
  match q, hq with
  | 0, _ => exact ⟨_, _, _, _, hs, rfl, (hx 1 (by omega) (by omega)).trans e1, (hx 2 (by omega) (by omega)).trans e2, (hx 3 (by omega) (by omega)).trans e3⟩
  | 1, _ => exact ⟨_, _, _, _, hs, (hx 0 (by omega) (by omega)).trans e0, rfl, (hx 2 (by omega) (by omega)).trans e2, (hx 3 (by omega) (by omega)).trans e3⟩
  | 2, _ => exact ⟨_, _, _, _, hs, (hx 0 (by omega) (by omega)).trans e0, (hx 1 (by omega) (by omega)).trans e1, rfl, (hx 3 (by omega) (by omega)).trans e3⟩
  | 3, _ => exact ⟨_, _, _, _, hs, (hx 0 (by omega) (by omega)).trans e0, (hx 1 (by omega) (by omega)).trans e1, (hx 2 (by omega) (by omega)).trans e2, rfl⟩
theorem HoldsI.to {t : TypeId} {W W' : World} {g : Nat} {x : Nat → Int} (h : HoldsI t W g x) (e : W'.heap[g]? = W.heap[g]?) : HoldsI t W' g x := by
  obtain ⟨s0, s1, s2, s3, hb, h2⟩ := h
  exact ⟨s0, s1, s2, s3, e.trans hb, h2⟩
set_option maxHeartbeats 2000000 in
set_option maxRecDepth 100000 in
theorem rof_calls (A : Option Addr) (c : Nat) (l : List Int) (w : World) (hr : ReadsInt w .u8 A l.length l) (hb : ByteList l) (hl : l.length ≤ 4194304) :
  Calls Try.prog 50 #[.slice A l.length c] w fun e w' => ∃ v, e = .returned v ∧ SpecV v (mx (sm l 0 l.length) (sm l 1 l.length) (sm l 2 l.length) (sm l 3 l.length)) (my (sm l 0 l.length) (sm l 1 l.length) (sm l 2 l.length) (sm l 3 l.length)) ∧ Below w.heap.size w w' := by
  have HR := Aside0.mk hr
  have HY := Aside0.mk hb
  clear hr hb
  go_enter Try.func50, Try.ntmps50
  go_wp2
  go_loopw [4] (fun i wr => ∃ j : Nat, j ≤ l.length ∧ i = .int .i64 j ∧ Aside0 (wr.heap[w.heap.size]? = some (.cells #[.complex .f64 0 0, .complex .f64 0 0, .complex .f64 0 0, .complex .f64 0 0] 33 (0, 0))) ∧ Aside0 (HoldsI 56 wr (w.heap.size + 1) (fun q => sm l q j)) ∧ Aside0 (Below w.heap.size w wr)) (fun i _ => l.length - (intOf i).toNat)
  case atStart =>
    exact ⟨0, Nat.zero_le _, rfl, ⟨blk_alloc (blk_new w _) _⟩, ⟨⟨0, 0, 0, 0, heap_alloc2_new _ _ _, rfl, rfl, rfl, rfl⟩⟩, ⟨((Below.refl _ _).alloc (Nat.le_refl _) _).alloc (by simp) _⟩⟩
  case round =>
    obtain ⟨j, hj, rfl, HK, HH, HB⟩ := hrel
    by_cases hlt : j < l.length
    · obtain ⟨ad, e, hc⟩ := HR.out.2.2 (by omega)
      have hcell := pw_cell_below HB.out (hc j hlt)
      obtain ⟨x, hxe⟩ : ∃ x, l.getD j 0 = x := ⟨_, rfl⟩
      rw [hxe] at hcell
      have hx : 0 ≤ x ∧ x ≤ 255 := by have := HY.out j; rw [show rd l (j : Int) = x from hxe] at this; exact this
      have HX := Aside0.mk hxe
      clear hxe hc
      subst e
      obtain ⟨r, hr4, hrm⟩ : ∃ r : Nat, r < 4 ∧ j % 4 = r := ⟨j % 4, by omega, rfl⟩
      have hrem : (j : Int) % 4 = (r : Int) := by omega
      have htm : Int.tmod (j : Int) 4 = (r : Int) := by rw [Int.tmod_eq_emod_of_nonneg (by omega), hrem]
      obtain ⟨hcl0, hfz⟩ := HH.out.cell hr4
      have hsr := sm_range HY.out r j
      obtain ⟨y, hy⟩ : ∃ y, sm l r j = y := ⟨_, rfl⟩
      have hcl : wr.cell? ⟨w.heap.size + 1, r, none⟩ = some (.int .i64 y) := by rw [hcl0]; exact congrArg (fun z => some (Value.int .i64 z)) hy
      clear hcl0
      rw [hy] at hsr
      have hri : (r : Int) < 4 := by omega
      have hri0 : (0 : Int) ≤ (r : Int) := by omega
      have HRM := Aside0.mk hrm
      have HYY := Aside0.mk hy
      clear hrm hy
      go_wp2
      go_still_tail 12, (by kernel_rfl)
      change wpList _ _ _ _ _ wr.drew
      go_wp2
      go_roundw
      case rel =>
        refine ⟨j + 1, by omega, by go_num, ⟨blk_drew (blk_far HK.out (by simp) _)⟩, ⟨?_⟩, ⟨below_drew (below_set' HB.out (by simp) _)⟩⟩
        refine HoldsI.to (W := wr.setCell ⟨w.heap.size + 1, r, none⟩ (.int .i64 (y + x))) ?_ rfl
        have hxk : rd l (j : Int) = x := HX.out
        have ev : sm l r (j + 1) = y + x := by
          simp only [sm]
          rw [if_pos HRM.out, hxk, HYY.out]
        rw [← ev]
        refine HoldsI.put (x' := fun q => sm l q (j + 1)) HH.out hr4 ?_
        intro p hp hne
        show sm l p j + (if j % 4 = p then _ else 0) = sm l p j
        rw [if_neg (by have := HRM.out; omega), Int.add_zero]
      case measure => simp [intOf]; omega
    · obtain rfl : j = l.length := by omega
      clear hj hlt
      obtain ⟨s0, s1, s2, s3, hk, e0, e1, e2, e3⟩ := HH.out
      have HK4 := Aside0.mk hk
      have HE := Aside0.mk (And.intro e0 (And.intro e1 (And.intro e2 e3)))
      have b0 := sm_range HY.out 0 l.length
      have b1 := sm_range HY.out 1 l.length
      have b2 := sm_range HY.out 2 l.length
      have b3 := sm_range HY.out 3 l.length
      rw [show sm l 0 l.length = s0 from e0] at b0
      rw [show sm l 1 l.length = s1 from e1] at b1
      rw [show sm l 2 l.length = s2 from e2] at b2
      rw [show sm l 3 l.length = s3 from e3] at b3
      clear hk e0 e1 e2 e3
      have c0 : wr.cell? ⟨w.heap.size + 1, 0, none⟩ = some (.int .i64 s0) := (blk_cell HK4.out 0).trans rfl
      have c1 : wr.cell? ⟨w.heap.size + 1, 1, none⟩ = some (.int .i64 s1) := (blk_cell HK4.out 1).trans rfl
      have c2 : wr.cell? ⟨w.heap.size + 1, 2, none⟩ = some (.int .i64 s2) := (blk_cell HK4.out 2).trans rfl
      have c3 : wr.cell? ⟨w.heap.size + 1, 3, none⟩ = some (.int .i64 s3) := (blk_cell HK4.out 3).trans rfl
      go_wp2_with fail
      refine (made s0 s1 s2 s3 _ (by omega) (by omega) (by omega) (by omega)).mono ?_
      rintro e w1 ⟨v, rfl, hs, hb1⟩
      obtain ⟨a0, d0, a1, d1, a2, d2, a3, d3, rfl, hs⟩ := hs
      have HS := Aside0.mk hs
      have HK1 := Aside0.mk (blk_below HK.out hb1)
      have HB1 := Aside0.mk (below_then HB.out HB.out.size hb1)
      clear hs hb1 c0 c1 c2 c3
      have z0 : w1.cell? ⟨w.heap.size, 0, none⟩ = some (.complex .f64 0 0) := (blk_cell HK1.out 0).trans rfl
      have f0 := blk_frozen HK1.out 0
      have z1 : w1.cell? ⟨w.heap.size, 1, none⟩ = some (.complex .f64 0 0) := (blk_cell HK1.out 1).trans rfl
      have f1 := blk_frozen HK1.out 1
      have z2 : w1.cell? ⟨w.heap.size, 2, none⟩ = some (.complex .f64 0 0) := (blk_cell HK1.out 2).trans rfl
      have f2 := blk_frozen HK1.out 2
      have z3 : w1.cell? ⟨w.heap.size, 3, none⟩ = some (.complex .f64 0 0) := (blk_cell HK1.out 3).trans rfl
      have f3 := blk_frozen HK1.out 3
      go_wp2
      refine bodyPost_ret (results_cell_row (fn := Try.f50) rfl _ _ w.heap.size 33 #[.complex .f64 a0 d0, .complex .f64 a1 d1, .complex .f64 a2 d2, .complex .f64 a3 d3] (0, 0) _ rfl ?_ Try.underlying33 rfl (by kernel_rfl)) rfl ?_
      · refine blk_put (cs := #[.complex .f64 a0 d0, .complex .f64 a1 d1, .complex .f64 a2 d2, .complex .f64 0 0]) ?_ 3 _ rfl
        refine blk_put (cs := #[.complex .f64 a0 d0, .complex .f64 a1 d1, .complex .f64 0 0, .complex .f64 0 0]) ?_ 2 _ rfl
        refine blk_put (cs := #[.complex .f64 a0 d0, .complex .f64 0 0, .complex .f64 0 0, .complex .f64 0 0]) ?_ 1 _ rfl
        refine blk_put (cs := #[.complex .f64 0 0, .complex .f64 0 0, .complex .f64 0 0, .complex .f64 0 0]) ?_ 0 _ rfl
        exact HK1.out
      · refine ⟨_, rfl, ⟨a0, d0, a1, d1, a2, d2, a3, d3, rfl, ?_⟩, ?_⟩
        · obtain ⟨e0, e1, e2, e3⟩ := HE.out
          rw [show sm l 0 l.length = s0 from e0, show sm l 1 l.length = s1 from e1, show sm l 2 l.length = s2 from e2, show sm l 3 l.length = s3 from e3]
          exact HS.out
        · exact below_set' (below_set' (below_set' (below_set' HB1.out (Nat.le_refl _) _) (Nat.le_refl _) _) (Nat.le_refl _) _) (Nat.le_refl _) _
end Go.Proofs.Ytacecaacpagokaa.Turn

namespace Go.Proofs.Ytacecaacpagokaa.Turn
open Go.RowKit Go.Proofs.Ytacecaacpagokaa.PlainFloat Go.Proofs.YtacecaacpagokaaW.PrintWords
set_option linter.unusedVariables false
set_option linter.unusedSimpArgs false
attribute [local go_sem] run_store_complex
/-- A sum that may stand in a spectrum. -/
def Sum (x : Int) : Prop := 0 ≤ x ∧ x ≤ 1099511627776
theorem big_mul {c p : Int} (h : Sum c) (p0 : -1 ≤ p) (p1 : p ≤ 1) : -1099511627776 ≤ c * p ∧ c * p ≤ 1099511627776 := by
  unfold Sum at h
  have : p = -1 ∨ p = 0 ∨ p = 1 := by omega
  rcases this with rfl | rfl | rfl <;> omega
def Sums4 (l : List Int) : Prop := l.length = 4 ∧ ∀ i : Int, Sum (rd l i)
theorem fr_big {l : List Int} (h : Sums4 l) (q j : Nat) : -1099511627776 * (j : Int) ≤ fr l q j ∧ fr l q j ≤ 1099511627776 * j := by
  induction j with
  | zero => exact ⟨by simp [fr], by simp [fr]⟩
  | succ j ih =>
    have hp := pr_small ((q : Int) * ((j : Int) % 4))
    have := big_mul (h.2 j) hp.1 hp.2
    simp only [fr, Int.zero_mul]
    omega
theorem fi_big {l : List Int} (h : Sums4 l) (q j : Nat) : -1099511627776 * (j : Int) ≤ fi l q j ∧ fi l q j ≤ 1099511627776 * j := by
  induction j with
  | zero => exact ⟨by simp [fi], by simp [fi]⟩
  | succ j ih =>
    have hp := pi_small ((q : Int) * ((j : Int) % 4))
    have := big_mul (h.2 j) hp.1 hp.2
    simp only [fi, Int.zero_mul]
    omega
theorem sums4_of {s0 s1 s2 s3 : Int} (h0 : Sum s0) (h1 : Sum s1) (h2 : Sum s2) (h3 : Sum s3) : Sums4 [s0, s1, s2, s3] := by
  refine ⟨rfl, fun i => ?_⟩
  have h : i.toNat = 0 ∨ i.toNat = 1 ∨ i.toNat = 2 ∨ i.toNat = 3 ∨ 4 ≤ i.toNat := by omega
  unfold rd
  rcases h with h | h | h | h | h
  · rw [h]; exact h0
  · rw [h]; exact h1
  · rw [h]; exact h2
  · rw [h]; exact h3
  · rw [List.getD_eq_getElem?_getD, List.getElem?_eq_none (show ([s0, s1, s2, s3] : List Int).length ≤ i.toNat from h)]
    exact ⟨by decide, by decide⟩
theorem sidx0 (s0 s1 s2 s3 : Int) (W : World) : (Instr.index 56 (.agg #[.int .i64 s0, .int .i64 s1, .int .i64 s2, .int .i64 s3]) (.int .i64 0)).run Try.prog W = .ok (.int .i64 s0) W := by kernel_rfl
theorem sidx1 (s0 s1 s2 s3 : Int) (W : World) : (Instr.index 56 (.agg #[.int .i64 s0, .int .i64 s1, .int .i64 s2, .int .i64 s3]) (.int .i64 1)).run Try.prog W = .ok (.int .i64 s1) W := by kernel_rfl
theorem sidx2 (s0 s1 s2 s3 : Int) (W : World) : (Instr.index 56 (.agg #[.int .i64 s0, .int .i64 s1, .int .i64 s2, .int .i64 s3]) (.int .i64 2)).run Try.prog W = .ok (.int .i64 s2) W := by kernel_rfl
theorem sidx3 (s0 s1 s2 s3 : Int) (W : World) : (Instr.index 56 (.agg #[.int .i64 s0, .int .i64 s1, .int .i64 s2, .int .i64 s3]) (.int .i64 3)).run Try.prog W = .ok (.int .i64 s3) W := by kernel_rfl
theorem sidx (s0 s1 s2 s3 : Int) {r : Nat} (h : r < 4) (W : World) : (Instr.index 56 (.agg #[.int .i64 s0, .int .i64 s1, .int .i64 s2, .int .i64 s3]) (.int .i64 (r : Int))).run Try.prog W = .ok (.int .i64 (rd [s0, s1, s2, s3] (r : Int))) W := by
  match r, h with
  | 0, _ => exact sidx0 s0 s1 s2 s3 W
  | 1, _ => exact sidx1 s0 s1 s2 s3 W
  | 2, _ => exact sidx2 s0 s1 s2 s3 W
  | 3, _ => exact sidx3 s0 s1 s2 s3 W
set_option maxHeartbeats 2000000 in
set_option maxRecDepth 100000 in
theorem from_calls (l : List Int) (s0 s1 s2 s3 : Int) (hl : l = [s0, s1, s2, s3]) (w : World) (h : Sums4 l) :
  Calls Try.prog 46 #[.agg #[.int .i64 s0, .int .i64 s1, .int .i64 s2, .int .i64 s3]] w fun e w' => ∃ v, e = .returned (.tuple #[v, .int .i64 0]) ∧ SpecV v (fun q => fr l q 4) (fun q => fi l q 4) ∧ Below w.heap.size w w' := by
  have HY := Aside0.mk h
  clear h
  have hix : ∀ (r : Nat) (W : World), r < 4 → (Instr.index 56 (.agg #[.int .i64 s0, .int .i64 s1, .int .i64 s2, .int .i64 s3]) (.int .i64 (r : Int))).run Try.prog W = .ok (.int .i64 (rd l (r : Int))) W := fun r W h => by rw [hl]; exact sidx s0 s1 s2 s3 h W
  have HIX := Aside0.mk hix
  clear hl hix
  have hu := Try.underlying56
  go_enter Try.func46, Try.ntmps46
  go_wp2
  go_loopw [9] (fun i wr => ∃ j : Nat, j ≤ 4 ∧ i = .int .i64 j ∧ Aside0 (wr.heap[w.heap.size + 1]? = some (.cells #[.complex .f64 0 0, .complex .f64 0 0, .complex .f64 0 0, .complex .f64 0 0] 27 (0, 0))) ∧ Aside0 (Holds 27 wr (w.heap.size + 1 + 1) (fun q => fr l q j) (fun q => fi l q j)) ∧ Aside0 (Below w.heap.size w wr)) (fun i _ => 4 - (intOf i).toNat)
  case atStart =>
    refine ⟨0, Nat.zero_le _, rfl, ⟨?_⟩, ⟨Holds.zero ?_⟩, ⟨?_⟩⟩
    · refine blk_alloc ?_ _
      have := blk_new (w.alloc (.cells #[.int .i64 s0, .int .i64 s1, .int .i64 s2, .int .i64 s3] 56)) (.cells #[.complex .f64 0 0, .complex .f64 0 0, .complex .f64 0 0, .complex .f64 0 0] 27)
      simpa using this
    · have := blk_new ((w.alloc (.cells #[.int .i64 s0, .int .i64 s1, .int .i64 s2, .int .i64 s3] 56)).alloc (.cells #[.complex .f64 0 0, .complex .f64 0 0, .complex .f64 0 0, .complex .f64 0 0] 27)) (.cells #[.complex .f64 0 0, .complex .f64 0 0, .complex .f64 0 0, .complex .f64 0 0] 27)
      simpa using this
    · exact (((Below.refl _ _).alloc (Nat.le_refl _) _).alloc (by simp) _).alloc (by simp; omega) _
  case round =>
    obtain ⟨j, hj, rfl, HK, HH, HB⟩ := hrel
    by_cases hlt : j < 4
    · obtain ⟨x, hxe⟩ : ∃ x, rd l (j : Int) = x := ⟨_, rfl⟩
      have hx : 0 ≤ x ∧ x ≤ 1099511627776 := by have := HY.out.2 (j : Int); rw [hxe] at this; exact this
      obtain ⟨hx0, hx1⟩ := hx
      have hidx := fun W => HIX.out j W hlt
      rw [hxe] at hidx
      have hji : (j : Int) < 4 := by omega
      have HX := Aside0.mk hxe
      clear hxe
      obtain ⟨wo, hwo⟩ : ∃ wo : World, wo = wr := ⟨_, rfl⟩
      subst hwo
      go_wp2
      go_loopw [20] (fun i wr => ∃ k : Nat, k ≤ 4 ∧ i = .int .i64 k ∧ Aside0 (wr.heap[w.heap.size + 1]? = some (.cells #[.complex .f64 0 0, .complex .f64 0 0, .complex .f64 0 0, .complex .f64 0 0] 27 (0, 0))) ∧ Aside0 (Holds 27 wr (w.heap.size + 1 + 1) (fun q => if q < k then fr l q (j + 1) else fr l q j) (fun q => if q < k then fi l q (j + 1) else fi l q j)) ∧ Aside0 (Below w.heap.size w wr)) (fun i _ => 4 - (intOf i).toNat)
      case atStart =>
        exact ⟨0, Nat.zero_le _, rfl, HK, ⟨HH.out.same (fun q _ => ⟨by rw [if_neg (by omega)], by rw [if_neg (by omega)]⟩)⟩, HB⟩
      case round =>
        obtain ⟨k, hk, rfl, HK, HH, HB⟩ := hrel
        by_cases hkl : k < 4
        · obtain ⟨a, b, hcl, ra, rb, hfz⟩ := HH.out.cell hkl
          simp only [Nat.lt_irrefl, if_false] at ra rb
          have hfr := fr_big HY.out k j
          have hfi := fi_big HY.out k j
          obtain ⟨m, hm⟩ : ∃ m : Int, (k : Int) * (j : Int) = m := ⟨_, rfl⟩
          have hpr := pr_small m
          have hpi := pi_small m
          have hxr := big_mul (c := x) ⟨hx0, hx1⟩ hpr.1 hpr.2
          have hxi := big_mul (c := x) ⟨hx0, hx1⟩ hpi.1 hpi.2
          obtain ⟨re, im, em, rre, rim⟩ := mul_rep (of_int (x := x) (by omega)) rep_zero (prb_rep m) (pib_rep m) (by omega) (by simp) (by omega) (by simp) (by simp; omega) (by simp; omega)
          obtain ⟨re2, im2, es, rs, is⟩ := sum_rep ra rb rre rim (by simp; omega) (by simp; omega)
          have HMa := Aside0.mk rs
          have HMb := Aside0.mk is
          clear rs is rre rim ra rb hfr hfi hpr hpi hxr hxi
          have em2 : cMulBits (floatOfInt .f64 x) 0 (prb m) (pib m) = some (re, im) := em
          have hmul := fun W => run_complex_mul (P := Try.prog) W 25 _ _ _ _ _ _ em2
          have hadd := fun W => run_complex_sum (P := Try.prog) W .add (Or.inl rfl) 25 .f64 _ _ _ _ _ _ es
          have hw : IntKind.i64.wrap ((k : Int) * (j : Int)) = m := by rw [hm, IntKind.wrap_i64]; have : 0 ≤ (k : Int) * (j : Int) := Int.mul_nonneg (by omega) (by omega); have : (k : Int) * (j : Int) ≤ 4 * 4 := Int.mul_le_mul (by omega) (by omega) (by omega) (by omega); omega
          have HM := Aside0.mk hm
          clear em em2 es hm
          go_wp2
          go_still_tail 12, (by kernel_rfl)
          still_call (power_still m _)
          repeat still_step
          refine wpStill_nil ?_
          change wpList _ _ _ _ _ wr.drew
          go_wp2
          go_roundw
          case rel =>
            refine ⟨k + 1, by omega, by go_num, ⟨blk_drew (blk_far HK.out (by simp) _)⟩, ⟨?_⟩, ⟨below_drew (below_set' HB.out (by simp; omega) _)⟩⟩
            refine Holds.to (W := wr.setCell ⟨w.heap.size + 1 + 1, k, none⟩ (.complex .f64 re2 im2)) ?_ rfl
            have hxk : rd l (j : Int) = x := HX.out
            have hj4 : (k : Int) * ((j : Int) % 4) = m := by rw [← HM.out, show (j : Int) % 4 = j by omega]
            refine HH.out.put hkl (x' := fun q => if q < k + 1 then fr l q (j + 1) else fr l q j) (y' := fun q => if q < k + 1 then fi l q (j + 1) else fi l q j) ?_ ?_ ?_
            · rw [if_pos (by omega)]
              simp only [fr]
              rw [hxk, hj4]
              exact HMa.out
            · rw [if_pos (by omega)]
              simp only [fi]
              rw [hxk, hj4]
              exact HMb.out
            · intro p hp hne
              by_cases hpk : p < k
              · simp only [if_pos hpk, if_pos (show p < k + 1 by omega), and_self]
              · simp only [if_neg hpk, if_neg (show ¬ p < k + 1 by omega), and_self]
          case measure => simp [intOf]; omega
        · obtain rfl : k = 4 := by omega
          go_wp2
          go_roundw
          case rel =>
            refine ⟨j + 1, by omega, by go_num, HK, ⟨HH.out.same (fun q hq => ⟨by rw [if_pos hq], by rw [if_pos hq]⟩)⟩, HB⟩
          case measure => simp [intOf]; omega
    · obtain rfl : j = 4 := by omega
      clear hj hlt
      obtain ⟨a0, b0, a1, b1, a2, b2, a3, b3, hk4_, r0, r1, r2, r3⟩ := HH.out.four
      have HK4 := Aside0.mk hk4_
      have HR4 := Aside0.mk (And.intro r0 (And.intro r1 (And.intro r2 r3)))
      clear hk4_ r0 r1 r2 r3 HH
      have c0 : wr.cell? ⟨w.heap.size + 1 + 1, 0, none⟩ = some (.complex .f64 a0 b0) := (blk_cell HK4.out 0).trans rfl
      have c1 : wr.cell? ⟨w.heap.size + 1 + 1, 1, none⟩ = some (.complex .f64 a1 b1) := (blk_cell HK4.out 1).trans rfl
      have c2 : wr.cell? ⟨w.heap.size + 1 + 1, 2, none⟩ = some (.complex .f64 a2 b2) := (blk_cell HK4.out 2).trans rfl
      have c3 : wr.cell? ⟨w.heap.size + 1 + 1, 3, none⟩ = some (.complex .f64 a3 b3) := (blk_cell HK4.out 3).trans rfl
      have z0 : wr.cell? ⟨w.heap.size + 1, 0, none⟩ = some (.complex .f64 0 0) := (blk_cell HK.out 0).trans rfl
      have f0 := blk_frozen HK.out 0
      have z1 : wr.cell? ⟨w.heap.size + 1, 1, none⟩ = some (.complex .f64 0 0) := (blk_cell HK.out 1).trans rfl
      have f1 := blk_frozen HK.out 1
      have z2 : wr.cell? ⟨w.heap.size + 1, 2, none⟩ = some (.complex .f64 0 0) := (blk_cell HK.out 2).trans rfl
      have f2 := blk_frozen HK.out 2
      have z3 : wr.cell? ⟨w.heap.size + 1, 3, none⟩ = some (.complex .f64 0 0) := (blk_cell HK.out 3).trans rfl
      have f3 := blk_frozen HK.out 3
      go_wp2
      refine bodyPost_ret (results_ct (fn := Try.f46) rfl _ _ (w.heap.size + 1) 27 #[.complex .f64 a0 b0, .complex .f64 a1 b1, .complex .f64 a2 b2, .complex .f64 a3 b3] (0, 0) _ rfl ?_ Try.underlying27 rfl (by kernel_rfl)) rfl ?_
      · refine blk_put (cs := #[.complex .f64 a0 b0, .complex .f64 a1 b1, .complex .f64 a2 b2, .complex .f64 0 0]) ?_ 3 _ rfl
        refine blk_put (cs := #[.complex .f64 a0 b0, .complex .f64 a1 b1, .complex .f64 0 0, .complex .f64 0 0]) ?_ 2 _ rfl
        refine blk_put (cs := #[.complex .f64 a0 b0, .complex .f64 0 0, .complex .f64 0 0, .complex .f64 0 0]) ?_ 1 _ rfl
        refine blk_put (cs := #[.complex .f64 0 0, .complex .f64 0 0, .complex .f64 0 0, .complex .f64 0 0]) ?_ 0 _ rfl
        exact HK.out
      · refine ⟨_, rfl, ⟨a0, b0, a1, b1, a2, b2, a3, b3, rfl, HR4.out⟩, ?_⟩
        exact below_set' (below_set' (below_set' (below_set' HB.out (Nat.le_succ _) _) (Nat.le_succ _) _) (Nat.le_succ _) _) (Nat.le_succ _) _
end Go.Proofs.Ytacecaacpagokaa.Turn

namespace Go.Proofs.Ytacecaacpagokaa.Turn
open Go.RowKit Go.Proofs.Ytacecaacpagokaa.PlainFloat Go.Proofs.YtacecaacpagokaaW.PrintWords
set_option linter.unusedVariables false
set_option linter.unusedSimpArgs false
open Ieee in
theorem integral_rep {x : Nat} {a : Int} (h : Rep x a) : ∃ d, FloatKind.f64.decode x = d ∧ d.isNaN = false ∧ Rep (FloatKind.f64.encode (d.integral .zero)) a := by
  obtain ⟨s, m, i, n, r1, i1, p1, hn, rfl⟩ := h.read
  refine ⟨_, r1, rfl, ?_⟩
  have ht := h.toInt
  rw [r1] at ht
  unfold Datum.toInt at ht
  unfold Datum.integral at ht ⊢
  dsimp only at ht ⊢
  have hs := Option.some.inj ht
  have he : Toward.zero.cut s (m <<< i.toNat) (-i).toNat = n := by
    have := congrArg Int.natAbs hs
    rw [sgn_abs] at this
    unfold signed at this
    rw [Nat.shiftLeft_zero] at this
    cases s <;> simpa using this
  rw [he]
  exact Rep.of_int (s := s) (m := n) (p := 0) ⟨rfl, Or.inl ⟨by decide, by simp⟩⟩ hn
theorem arch (x z : Nat) {d : Ieee.Datum} (hd : FloatKind.f64.decode x = d) (hn : d.isNaN = false) (hz : FloatKind.f64.encode (d.integral .zero) = z) (W : World) :
    (callFunc 58 #[.float .f64 x]).run Try.prog W = .ok (.value (.float .f64 z)) W := by
  rw [run_callFunc_extern (fn := Try.f58) (e := Extern.MathFloor.toIntegral "math.archTrunc" .zero) Try.func58 (by kernel_rfl) (by kernel_rfl) (by kernel_rfl) (by kernel_rfl)]
  change (Sem.run Try.prog (Extern.MathFloor.toIntegral.match_1 (fun _ => Sem Value) (FloatKind.f64.decode x) _ _) W).andThen _ = _
  rw [hd]
  cases d with
  | nan s t => exact absurd hn (by simp [Ieee.Datum.isNaN])
  | infinity s => subst hz; rfl
  | number s m p => subst hz; rfl
theorem trunc (x : Nat) (a : Int) (h : Rep x a) (w : World) : Calls Try.prog 45 #[.float .f64 x] w fun e w' => ∃ z, e = .returned (.float .f64 z) ∧ Rep z a ∧ w = w' := by
  obtain ⟨d, hd, hn, hr⟩ := integral_rep h
  obtain ⟨z, hz⟩ : ∃ z, FloatKind.f64.encode (d.integral .zero) = z := ⟨_, rfl⟩
  have ha := fun W => arch x z hd hn hz W
  rw [hz] at hr
  have HR := Aside0.mk hr
  clear hr hd hn hz h
  go_enter Try.func45, Try.ntmps45
  go_wp2
  go_ret
  exact ⟨z, rfl, HR.out, rfl⟩
end Go.Proofs.Ytacecaacpagokaa.Turn

namespace Go.Proofs.Ytacecaacpagokaa.Turn
open Go.RowKit Go.Proofs.Ytacecaacpagokaa.PlainFloat Go.Proofs.YtacecaacpagokaaW.PrintWords
/-- The parts of the sum over the first k numbers of a spectrum, each turned back r times. -/
def hr (l : List Int) (r : Nat) : Nat → Int
  | 0 => 0
  | k + 1 => hr l r k + (fr l k 4 * pr (-(k : Int) * (r : Int)) - fi l k 4 * pi (-(k : Int) * (r : Int)))
def hi (l : List Int) (r : Nat) : Nat → Int
  | 0 => 0
  | k + 1 => hi l r k + (fr l k 4 * pi (-(k : Int) * (r : Int)) + fi l k 4 * pr (-(k : Int) * (r : Int)))
theorem mul_le_of {b c p : Int} (h0 : -b ≤ c) (h1 : c ≤ b) (p0 : -1 ≤ p) (p1 : p ≤ 1) : -b ≤ c * p ∧ c * p ≤ b := by
  have : p = -1 ∨ p = 0 ∨ p = 1 := by omega
  rcases this with rfl | rfl | rfl <;> omega
theorem term_small {l : List Int} (h : Sums4 l) (k r : Nat) : (-4398046511104 ≤ fr l k 4 * pr (-(k : Int) * (r : Int)) ∧ fr l k 4 * pr (-(k : Int) * (r : Int)) ≤ 4398046511104) ∧ (-4398046511104 ≤ fi l k 4 * pi (-(k : Int) * (r : Int)) ∧ fi l k 4 * pi (-(k : Int) * (r : Int)) ≤ 4398046511104) ∧ (-4398046511104 ≤ fr l k 4 * pi (-(k : Int) * (r : Int)) ∧ fr l k 4 * pi (-(k : Int) * (r : Int)) ≤ 4398046511104) ∧ (-4398046511104 ≤ fi l k 4 * pr (-(k : Int) * (r : Int)) ∧ fi l k 4 * pr (-(k : Int) * (r : Int)) ≤ 4398046511104) := by
  have a := fr_big h k 4
  have b := fi_big h k 4
  have c := pr_small (-(k : Int) * (r : Int))
  have d := pi_small (-(k : Int) * (r : Int))
  exact ⟨mul_le_of (b := 4398046511104) (by omega) (by omega) c.1 c.2, mul_le_of (b := 4398046511104) (by omega) (by omega) d.1 d.2, mul_le_of (b := 4398046511104) (by omega) (by omega) d.1 d.2, mul_le_of (b := 4398046511104) (by omega) (by omega) c.1 c.2⟩
theorem h_small {l : List Int} (h : Sums4 l) (r k : Nat) : (-8796093022208 * (k : Int) ≤ hr l r k ∧ hr l r k ≤ 8796093022208 * k) ∧ (-8796093022208 * (k : Int) ≤ hi l r k ∧ hi l r k ≤ 8796093022208 * k) := by
  induction k with
  | zero => exact ⟨⟨by simp [hr], by simp [hr]⟩, ⟨by simp [hi], by simp [hi]⟩⟩
  | succ k ih =>
    obtain ⟨t1, t2, t3, t4⟩ := term_small h k r
    simp only [hr, hi]
    omega
theorem sm4 {s0 s1 s2 s3 : Int} : sm [s0, s1, s2, s3] 0 4 = s0 ∧ sm [s0, s1, s2, s3] 1 4 = s1 ∧ sm [s0, s1, s2, s3] 2 4 = s2 ∧ sm [s0, s1, s2, s3] 3 4 = s3 := by
  refine ⟨?_, ?_, ?_, ?_⟩ <;> simp [sm, rd]
/-- Sums come back from their spectrum. -/
theorem hr4 (s0 s1 s2 s3 : Int) {r : Nat} (h : r < 4) : hr [s0, s1, s2, s3] r 4 = 4 * rd [s0, s1, s2, s3] (r : Int) := by
  obtain ⟨⟨a0, b0⟩, ⟨a1, b1⟩, ⟨a2, b2⟩, ⟨a3, b3⟩⟩ := frfi [s0, s1, s2, s3] 4
  obtain ⟨e0, e1, e2, e3⟩ := sm4 (s0 := s0) (s1 := s1) (s2 := s2) (s3 := s3)
  rw [e0, e1, e2, e3] at a0
  rw [e1, e3] at b1
  rw [e0, e2] at a1
  rw [e0, e1, e2, e3] at a2
  rw [e0, e2] at a3
  rw [e1, e3] at b3
  simp only [hr, a0, b0, a1, b1, a2, b2, a3, b3]
  match r, h with
  | 0, _ => simp [pr, pi, rd]; omega
  | 1, _ => simp [pr, pi, rd]; omega
  | 2, _ => simp [pr, pi, rd]; omega
  | 3, _ => simp [pr, pi, rd]; omega
theorem ord_rep {a b : Nat} {x y : Int} (ha : Rep a x) (hb : Rep b y) : FloatKind.f64.format.order a b = some (compare x y) := ha.order hb
theorem geq_rep {P : Program} {a b : Nat} {x y : Int} (ha : Rep a x) (hb : Rep b y) (h : y ≤ x) (t : TypeId) (W : World) : (binOp .geq t (.float .f64 a) (.float .f64 b)).run P W = .ok (.bool true) W := by
  have ho := ord_rep ha hb
  have : (compare x y == .gt || compare x y == .eq) = true := by
    simp only [compare, compareOfLessAndEq]
    by_cases c : x < y
    · omega
    · rw [if_neg c]
      by_cases d : x = y <;> simp [d]
  simp [binOp, Op.floatCmp, ho]
  simpa using this
theorem leq_rep {P : Program} {a b : Nat} {x y : Int} (ha : Rep a x) (hb : Rep b y) (h : x ≤ y) (t : TypeId) (W : World) : (binOp .leq t (.float .f64 a) (.float .f64 b)).run P W = .ok (.bool true) W := by
  have ho := ord_rep ha hb
  have : (compare x y == .lt || compare x y == .eq) = true := by
    simp only [compare, compareOfLessAndEq]
    by_cases c : x < y
    · simp [c]
    · rw [if_neg c, if_pos (show x = y by omega)]
      rfl
  simp [binOp, Op.floatCmp, ho]
  simpa using this
theorem neq_rep {P : Program} {a b : Nat} {x : Int} (ha : Rep a x) (hb : Rep b x) (t : TypeId) (W : World) : (binOp .neq t (.float .f64 a) (.float .f64 b)).run P W = .ok (.bool false) W := by
  have ho := ord_rep ha hb
  simp [binOp, Op.floatCmp, ho]
theorem rep_most : Rep 4787326403894837248 1099511627776 := ⟨false, 1099511627776, by decide, by decide, by decide⟩
theorem int_rep {a : Nat} {x : Int} (h : Rep a x) (hs : Sum x) : floatToIntVal .f64 a .i64 = some x := by
  have ht : (FloatKind.f64.decode a).toInt .zero = some x := h.toInt
  unfold floatToIntVal
  rw [ht]
  unfold Sum at hs
  simp only [IntKind.min, IntKind.max, IntKind.signed, IntKind.bits]
  rw [if_pos]
  simp
  omega
theorem geq_bool {a b : Nat} {x y : Int} (ha : Rep a x) (hb : Rep b y) (h : y ≤ x) : (FloatKind.f64.format.order a b == some Ordering.gt || FloatKind.f64.format.order a b == some Ordering.eq) = true := by
  rw [ord_rep ha hb]
  simp only [compare, compareOfLessAndEq]
  by_cases c : x < y
  · omega
  · rw [if_neg c]
    by_cases d : x = y <;> simp [d]
theorem leq_bool {a b : Nat} {x y : Int} (ha : Rep a x) (hb : Rep b y) (h : x ≤ y) : (FloatKind.f64.format.order a b == some Ordering.lt || FloatKind.f64.format.order a b == some Ordering.eq) = true := by
  rw [ord_rep ha hb]
  simp only [compare, compareOfLessAndEq]
  by_cases c : x < y
  · simp [c]
  · rw [if_neg c, if_pos (show x = y by omega)]
    rfl
theorem same_ord {a b : Nat} {x : Int} (ha : Rep a x) (hb : Rep b x) : FloatKind.f64.format.order a b = some .eq := by
  rw [ord_rep ha hb]
  simp [compare, compareOfLessAndEq]
end Go.Proofs.Ytacecaacpagokaa.Turn

namespace Go.Proofs.Ytacecaacpagokaa.Turn
open Go.RowKit Go.Proofs.Ytacecaacpagokaa.PlainFloat Go.Proofs.YtacecaacpagokaaW.PrintWords
set_option linter.unusedVariables false
set_option linter.unusedSimpArgs false
attribute [local go_sem] run_store_complex
set_option maxHeartbeats 4000000 in
set_option maxRecDepth 100000 in
theorem sums_calls (l : List Int) (s0 s1 s2 s3 : Int) (hl : l = [s0, s1, s2, s3]) (v : Value) (w : World) (h : Sums4 l) (hv : SpecV v (fun q => fr l q 4) (fun q => fi l q 4)) :
  Calls Try.prog 34 #[v] w fun e w' => e = .returned (.tuple #[.agg #[.int .i64 s0, .int .i64 s1, .int .i64 s2, .int .i64 s3], .int .i64 0]) ∧ Below w.heap.size w w' := by
  have HY := Aside0.mk h
  have HL := Aside0.mk hl
  clear h hl
  obtain ⟨a0, b0, a1, b1, a2, b2, a3, b3, rfl, hv⟩ := hv
  have HV := Aside0.mk hv
  clear hv
  have hu := Try.underlying27
  go_enter Try.func34, Try.ntmps34
  go_wp2
  go_loopw [11] (fun i wr => ∃ r : Nat, r ≤ 4 ∧ i = .int .i64 r ∧ Aside0 (wr.heap[w.heap.size]? = some (.cells #[.complex .f64 a0 b0, .complex .f64 a1 b1, .complex .f64 a2 b2, .complex .f64 a3 b3] 27 (0, 0))) ∧ Aside0 (wr.heap[w.heap.size + 1]? = some (.cells #[.int .i64 0, .int .i64 0, .int .i64 0, .int .i64 0] 56 (0, 0))) ∧ Aside0 (HoldsI 56 wr (w.heap.size + 1 + 1) (fun q => if q < r then rd l (q : Int) else 0)) ∧ Aside0 (Below w.heap.size w wr)) (fun i _ => 4 - (intOf i).toNat)
  case atStart =>
    refine ⟨0, Nat.zero_le _, rfl, ⟨?_⟩, ⟨?_⟩, ⟨0, 0, 0, 0, ?_, rfl, rfl, rfl, rfl⟩, ⟨?_⟩⟩
    · exact blk_alloc (blk_alloc (blk_new w _) _) _
    · refine blk_alloc ?_ _
      have := blk_new (w.alloc (.cells #[.complex .f64 a0 b0, .complex .f64 a1 b1, .complex .f64 a2 b2, .complex .f64 a3 b3] 27)) (.cells #[.int .i64 0, .int .i64 0, .int .i64 0, .int .i64 0] 56)
      simpa using this
    · have := blk_new ((w.alloc (.cells #[.complex .f64 a0 b0, .complex .f64 a1 b1, .complex .f64 a2 b2, .complex .f64 a3 b3] 27)).alloc (.cells #[.int .i64 0, .int .i64 0, .int .i64 0, .int .i64 0] 56)) (.cells #[.int .i64 0, .int .i64 0, .int .i64 0, .int .i64 0] 56)
      simpa using this
    · exact (((Below.refl _ _).alloc (Nat.le_refl _) _).alloc (by simp) _).alloc (by simp; omega) _
  case round =>
    obtain ⟨r, hrr, rfl, HK0, HK1, HH, HB⟩ := hrel
    by_cases hlt : r < 4
    · have hri : (r : Int) < 4 := by omega
      have hri0 : (0 : Int) ≤ (r : Int) := by omega
      obtain ⟨wo, hwo⟩ : ∃ wo : World, wo = wr := ⟨_, rfl⟩
      subst hwo
      go_wp2
      go_loopw [6, 14] (fun u i wr => ∃ (k a b : Nat), k ≤ 4 ∧ i = .int .i64 k ∧ u = .complex .f64 a b ∧ Aside0 (Rep a (hr l r k) ∧ Rep b (hi l r k)) ∧ Aside0 (wr.heap[w.heap.size]? = some (.cells #[.complex .f64 a0 b0, .complex .f64 a1 b1, .complex .f64 a2 b2, .complex .f64 a3 b3] 27 (0, 0))) ∧ Aside0 (wr.heap[w.heap.size + 1]? = some (.cells #[.int .i64 0, .int .i64 0, .int .i64 0, .int .i64 0] 56 (0, 0))) ∧ Aside0 (HoldsI 56 wr (w.heap.size + 1 + 1) (fun q => if q < r then rd l (q : Int) else 0)) ∧ Aside0 (Below w.heap.size w wr)) (fun _ i _ => 4 - (intOf i).toNat)
      case atStart =>
        exact ⟨0, 0, 0, Nat.zero_le _, rfl, rfl, ⟨rep_zero, rep_zero⟩, HK0, HK1, HH, HB⟩
      case round =>
        obtain ⟨k, a, b, hk, rfl, rfl, HAB, HK0, HK1, HH, HB⟩ := hrel
        by_cases hkl : k < 4
        · obtain ⟨c, d, hcl, rc, rd', hfz⟩ := (Holds.of_four (x := fun q => fr l q 4) (y := fun q => fi l q 4) HK0.out HV.out).cell hkl
          have hki : (k : Int) < 4 := by omega
          obtain ⟨hA, hB⟩ := h_small HY.out r k
          obtain ⟨t1, t2, t3, t4⟩ := term_small HY.out k r
          obtain ⟨m, hm⟩ : ∃ m : Int, -(k : Int) * (r : Int) = m := ⟨_, rfl⟩
          have hmr : m = -((k : Int) * (r : Int)) := by rw [← hm, Int.neg_mul]
          rw [hm] at t1 t2 t3 t4
          obtain ⟨re, im, em, rre, rim⟩ := mul_rep rc rd' (prb_rep m) (pib_rep m) (by omega) (by omega) (by omega) (by omega) (by omega) (by omega)
          obtain ⟨re2, im2, es, rs, is⟩ := sum_rep HAB.out.1 HAB.out.2 rre rim (by omega) (by omega)
          have HMa := Aside0.mk rs
          have HMb := Aside0.mk is
          clear rs is rre rim rc rd' hA hB t1 t2 t3 t4
          have hmul := fun W => run_complex_mul (P := Try.prog) W 25 _ _ _ _ _ _ em
          have hadd := fun W => run_complex_sum (P := Try.prog) W .add (Or.inl rfl) 25 .f64 _ _ _ _ _ _ es
          have hbd : 0 ≤ (k : Int) * (r : Int) ∧ (k : Int) * (r : Int) ≤ 4 * 4 := ⟨Int.mul_nonneg (by omega) (by omega), Int.mul_le_mul (by omega) (by omega) (by omega) (by omega)⟩
          have hw : IntKind.i64.wrap (-(k : Int) * (r : Int)) = m := by rw [hm, hmr, IntKind.wrap_i64]; omega
          have hw2 : IntKind.i64.wrap (-(k : Int)) = -(k : Int) := by rw [IntKind.wrap_i64]; omega
          have HM := Aside0.mk hm
          clear em es hm hbd hmr
          go_wp2
          refine wp_region_still_lit (by kernel_rfl) (by kernel_rfl) ?_
          repeat still_step
          still_call (power_still m _)
          repeat still_step
          refine wpStill_nil ?_
          go_wp2
          go_roundw
          case rel =>
            refine ⟨k + 1, re2, im2, by omega, by go_num, rfl, ⟨?_, ?_⟩, ⟨blk_drew HK0.out⟩, ⟨blk_drew HK1.out⟩, ⟨HH.out.to rfl⟩, ⟨below_drew HB.out⟩⟩
            · simp only [hr]
              rw [HM.out]
              exact HMa.out
            · simp only [hi]
              rw [HM.out]
              exact HMb.out
          case measure => simp [intOf]; omega
        · obtain rfl : k = 4 := by omega
          have h4 : hr l r 4 = 4 * rd l (r : Int) := by rw [HL.out]; exact hr4 s0 s1 s2 s3 hlt
          have rq := HAB.out.1
          rw [h4] at rq
          have hsx := HY.out.2 (r : Int)
          obtain ⟨x, hx⟩ : ∃ x, rd l (r : Int) = x := ⟨_, rfl⟩
          rw [hx] at rq hsx
          obtain ⟨z, ez, rz⟩ := rq.quarter
          have hdiv := fun W => run_float_arith (P := Try.prog) W .quo 101 .f64 a 4616189618054758400 z ez
          have hge := geq_bool rz rep_zero hsx.1
          have hle := leq_bool rz rep_most hsx.2
          have hcv := fun W => run_convert_float_int (P := Try.prog) W 101 3 .f64 .i64 z x (by kernel_rfl) (by kernel_rfl) (int_rep rz hsx)
          obtain ⟨hcl, hfz⟩ := HH.out.cell hlt
          simp only [Nat.lt_irrefl, if_false] at hcl
          have HX := Aside0.mk hx
          have RZ := Aside0.mk rz
          clear hx rz rq h4 ez hsx hk hkl
          go_wp2_with fail
          refine (trunc z x RZ.out _).mono ?_
          rintro e w2 ⟨z2, rfl, hz2, rfl⟩
          have hne := same_ord RZ.out hz2
          clear hz2
          go_wp2
          go_roundw
          case rel =>
            refine ⟨r + 1, by omega, by go_num, ⟨blk_far HK0.out (by simp; omega) _⟩, ⟨blk_far HK1.out (by simp) _⟩, ⟨?_⟩, ⟨below_set' HB.out (by simp; omega) _⟩⟩
            have hp := HoldsI.put (x' := fun q => if q < r + 1 then rd l (q : Int) else 0) HH.out hlt (by
              intro p hp hne
              by_cases hpk : p < r
              · simp only [if_pos hpk, if_pos (show p < r + 1 by omega)]
              · simp only [if_neg hpk, if_neg (show ¬ p < r + 1 by omega)])
            simp only [if_pos (show r < r + 1 by omega)] at hp
            rw [HX.out] at hp
            exact hp
          case measure => simp [intOf]; omega
    · obtain rfl : r = 4 := by omega
      clear hrr hlt
      have hk2 : wr.heap[w.heap.size + 1 + 1]? = some (.cells #[.int .i64 s0, .int .i64 s1, .int .i64 s2, .int .i64 s3] 56 (0, 0)) := by
        obtain ⟨t0, t1, t2, t3, hb, e0, e1, e2, e3⟩ := HH.out
        have hL := HL.out
        subst hL
        have e0 : s0 = t0 := e0
        have e1 : s1 = t1 := e1
        have e2 : s2 = t2 := e2
        have e3 : s3 = t3 := e3
        rw [hb, e0, e1, e2, e3]
      have HK2 := Aside0.mk hk2
      clear hk2
      have kc0 : wr.cell? ⟨w.heap.size + 1 + 1, 0, none⟩ = some (.int .i64 s0) := (blk_cell HK2.out 0).trans rfl
      have kc1 : wr.cell? ⟨w.heap.size + 1 + 1, 1, none⟩ = some (.int .i64 s1) := (blk_cell HK2.out 1).trans rfl
      have kc2 : wr.cell? ⟨w.heap.size + 1 + 1, 2, none⟩ = some (.int .i64 s2) := (blk_cell HK2.out 2).trans rfl
      have kc3 : wr.cell? ⟨w.heap.size + 1 + 1, 3, none⟩ = some (.int .i64 s3) := (blk_cell HK2.out 3).trans rfl
      go_wp2_with fail
      refine (from_calls l s0 s1 s2 s3 HL.out _ HY.out).mono ?_
      rintro e w1 ⟨v, rfl, hs, hb1⟩
      have heq := fun W => (spec_neq hs ⟨a0, b0, a1, b1, a2, b2, a3, b3, rfl, HV.out⟩ W).trans (by rw [alike_same (fun q _ => ⟨rfl, rfl⟩)])
      have hg := fun p q W => spec_guard_neq hs (x' := fun q => fr l q 4) (y' := fun q => fi l q 4) ⟨a0, b0, a1, b1, a2, b2, a3, b3, rfl, HV.out⟩ p q W
      obtain ⟨c0, d0, c1, d1, c2, d2, c3, d3, rfl, hs⟩ := hs
      clear hs kc0 kc1 kc2 kc3
      have HB1 := Aside0.mk (below_then HB.out HB.out.size hb1)
      have N0 := blk_below HK0.out hb1
      have N1 := blk_below HK1.out hb1
      have N2 := blk_below HK2.out hb1
      have L0 := blk_lt N0
      have L1 := blk_lt N1
      have L2 := blk_lt N2
      have M0 := Aside0.mk N0
      have M1 := Aside0.mk N1
      have M2 := Aside0.mk N2
      clear N0 N1 N2 hb1
      have p0 : w1.cell? ⟨w.heap.size, 0, none⟩ = some (.complex .f64 a0 b0) := (blk_cell M0.out 0).trans rfl
      have p1 : w1.cell? ⟨w.heap.size, 1, none⟩ = some (.complex .f64 a1 b1) := (blk_cell M0.out 1).trans rfl
      have p2 : w1.cell? ⟨w.heap.size, 2, none⟩ = some (.complex .f64 a2 b2) := (blk_cell M0.out 2).trans rfl
      have p3 : w1.cell? ⟨w.heap.size, 3, none⟩ = some (.complex .f64 a3 b3) := (blk_cell M0.out 3).trans rfl
      have q0 : w1.cell? ⟨w.heap.size + 1, 0, none⟩ = some (.int .i64 0) := (blk_cell M1.out 0).trans rfl
      have f0 := blk_frozen M1.out 0
      have q1 : w1.cell? ⟨w.heap.size + 1, 1, none⟩ = some (.int .i64 0) := (blk_cell M1.out 1).trans rfl
      have f1 := blk_frozen M1.out 1
      have q2 : w1.cell? ⟨w.heap.size + 1, 2, none⟩ = some (.int .i64 0) := (blk_cell M1.out 2).trans rfl
      have f2 := blk_frozen M1.out 2
      have q3 : w1.cell? ⟨w.heap.size + 1, 3, none⟩ = some (.int .i64 0) := (blk_cell M1.out 3).trans rfl
      have f3 := blk_frozen M1.out 3
      have r0 : w1.cell? ⟨w.heap.size + 1 + 1, 0, none⟩ = some (.int .i64 s0) := (blk_cell M2.out 0).trans rfl
      have r1 : w1.cell? ⟨w.heap.size + 1 + 1, 1, none⟩ = some (.int .i64 s1) := (blk_cell M2.out 1).trans rfl
      have r2 : w1.cell? ⟨w.heap.size + 1 + 1, 2, none⟩ = some (.int .i64 s2) := (blk_cell M2.out 2).trans rfl
      have r3 : w1.cell? ⟨w.heap.size + 1 + 1, 3, none⟩ = some (.int .i64 s3) := (blk_cell M2.out 3).trans rfl
      go_wp2
      refine bodyPost_ret (results_ct (fn := Try.f34) rfl _ _ (w.heap.size + 1) 56 #[.int .i64 s0, .int .i64 s1, .int .i64 s2, .int .i64 s3] (0, 0) _ rfl ?_ Try.underlying56 rfl (by kernel_rfl)) rfl ?_
      · refine blk_alloc ?_ _
        refine blk_put (cs := #[.int .i64 s0, .int .i64 s1, .int .i64 s2, .int .i64 0]) ?_ 3 _ rfl
        refine blk_put (cs := #[.int .i64 s0, .int .i64 s1, .int .i64 0, .int .i64 0]) ?_ 2 _ rfl
        refine blk_put (cs := #[.int .i64 s0, .int .i64 0, .int .i64 0, .int .i64 0]) ?_ 1 _ rfl
        refine blk_put (cs := #[.int .i64 0, .int .i64 0, .int .i64 0, .int .i64 0]) ?_ 0 _ rfl
        exact M1.out
      · refine ⟨rfl, ?_⟩
        exact (below_set' (below_set' (below_set' (below_set' HB1.out (Nat.le_succ _) _) (Nat.le_succ _) _) (Nat.le_succ _) _) (Nat.le_succ _) _).alloc (by simp; omega) _
end Go.Proofs.Ytacecaacpagokaa.Turn

namespace Go.Proofs.Ytacecaacpagokaa.Turn
open Go.RowKit Go.Proofs.Ytacecaacpagokaa.PlainFloat Go.Proofs.YtacecaacpagokaaW.PrintWords
set_option linter.unusedVariables false
set_option linter.unusedSimpArgs false
attribute [local go_sem] run_store_complex
/-- A value is the spectrum of four sums. -/
def Of4 (v : Value) (l : List Int) : Prop := Sums4 l ∧ SpecV v (fun q => fr l q 4) (fun q => fi l q 4)
theorem list4 {l : List Int} (h : l.length = 4) : ∃ s0 s1 s2 s3, l = [s0, s1, s2, s3] := by
  match l, h with
  | [a, b, c, d], _ => exact ⟨a, b, c, d, rfl⟩
theorem Of4.agg {v : Value} {l : List Int} (h : Of4 v l) : ∃ a0 b0 a1 b1 a2 b2 a3 b3, v = .agg #[.complex .f64 a0 b0, .complex .f64 a1 b1, .complex .f64 a2 b2, .complex .f64 a3 b3] := by
  obtain ⟨_, a0, b0, a1, b1, a2, b2, a3, b3, e, _⟩ := h
  exact ⟨a0, b0, a1, b1, a2, b2, a3, b3, e⟩
set_option maxHeartbeats 1000000 in
theorem check_calls (v : Value) (l : List Int) (h : Of4 v l) (w : World) : Calls Try.prog 25 #[v] w fun e w' => e = .returned (.int .i64 0) ∧ Below w.heap.size w w' := by
  obtain ⟨s0, s1, s2, s3, hl⟩ := list4 h.1.1
  have HH := Aside0.mk h
  have HL := Aside0.mk hl
  obtain ⟨a0, b0, a1, b1, a2, b2, a3, b3, rfl⟩ := h.agg
  clear h hl
  have hu := Try.underlying27
  go_enter Try.func25, Try.ntmps25
  go_wp2_with fail
  refine (sums_calls l s0 s1 s2 s3 HL.out _ _ HH.out.1 HH.out.2).mono ?_
  rintro e w1 ⟨rfl, hb⟩
  have HB := Aside0.mk hb
  clear hb
  go_wp2
  go_ret
  exact ⟨rfl, (below_then ((Below.refl _ _).alloc (Nat.le_refl _) _) (by simp) HB.out).alloc (by have := HB.out.size; simp at this; omega) _⟩
/-- The numbers of a spectrum, each turned as often as its place says, n times. -/
def tx (l : List Int) (n : Int) (q : Nat) : Int := fr l q 4 * pr ((q : Int) * (n % 4)) - fi l q 4 * pi ((q : Int) * (n % 4))
def ty (l : List Int) (n : Int) (q : Nat) : Int := fr l q 4 * pi ((q : Int) * (n % 4)) + fi l q 4 * pr ((q : Int) * (n % 4))
theorem tparts {l : List Int} (h : Sums4 l) (q : Nat) (m : Int) : (-4398046511104 ≤ fr l q 4 * pr m ∧ fr l q 4 * pr m ≤ 4398046511104) ∧ (-4398046511104 ≤ fi l q 4 * pi m ∧ fi l q 4 * pi m ≤ 4398046511104) ∧ (-4398046511104 ≤ fr l q 4 * pi m ∧ fr l q 4 * pi m ≤ 4398046511104) ∧ (-4398046511104 ≤ fi l q 4 * pr m ∧ fi l q 4 * pr m ≤ 4398046511104) := by
  have a := fr_big h q 4
  have b := fi_big h q 4
  have c := pr_small m
  have d := pi_small m
  exact ⟨mul_le_of (b := 4398046511104) (by omega) (by omega) c.1 c.2, mul_le_of (b := 4398046511104) (by omega) (by omega) d.1 d.2, mul_le_of (b := 4398046511104) (by omega) (by omega) d.1 d.2, mul_le_of (b := 4398046511104) (by omega) (by omega) c.1 c.2⟩
set_option maxHeartbeats 2000000 in
set_option maxRecDepth 100000 in
theorem turned_calls (v : Value) (l : List Int) (h : Of4 v l) (n : Int) (w : World) : Calls Try.prog 43 #[v, .int .i64 n] w fun e w' => ∃ u, e = .returned u ∧ SpecV u (tx l n) (ty l n) ∧ Below w.heap.size w w' := by
  have HY := Aside0.mk h.1
  obtain ⟨_, a0, b0, a1, b1, a2, b2, a3, b3, rfl, hv⟩ := h
  have HV := Aside0.mk hv
  clear hv
  have ha := and3 n
  have hu := Try.underlying27
  go_enter Try.func43, Try.ntmps43
  go_wp2
  go_loopw [6] (fun i wr => ∃ k : Nat, k ≤ 4 ∧ i = .int .i64 k ∧ Aside0 (wr.heap[w.heap.size + 1]? = some (.cells #[.complex .f64 0 0, .complex .f64 0 0, .complex .f64 0 0, .complex .f64 0 0] 27 (0, 0))) ∧ Aside0 (Holds 27 wr w.heap.size (fun q => if q < k then tx l n q else fr l q 4) (fun q => if q < k then ty l n q else fi l q 4)) ∧ Aside0 (Below w.heap.size w wr)) (fun i _ => 4 - (intOf i).toNat)
  case atStart =>
    refine ⟨0, Nat.zero_le _, rfl, ⟨?_⟩, ⟨?_⟩, ⟨?_⟩⟩
    · have := blk_new (w.alloc (.cells #[.complex .f64 a0 b0, .complex .f64 a1 b1, .complex .f64 a2 b2, .complex .f64 a3 b3] 27)) (.cells #[.complex .f64 0 0, .complex .f64 0 0, .complex .f64 0 0, .complex .f64 0 0] 27)
      simpa using this
    · exact (Holds.of_four (x := fun q => fr l q 4) (y := fun q => fi l q 4) (blk_alloc (blk_new w _) _) HV.out).same (fun q _ => ⟨by rw [if_neg (by omega)], by rw [if_neg (by omega)]⟩)
    · exact ((Below.refl _ _).alloc (Nat.le_refl _) _).alloc (by simp) _
  case round =>
    obtain ⟨k, hk, rfl, HK, HH, HB⟩ := hrel
    by_cases hkl : k < 4
    · obtain ⟨a, b, hcl, ra, rb, hfz⟩ := HH.out.cell hkl
      simp only [Nat.lt_irrefl, if_false] at ra rb
      have hki : (k : Int) < 4 := by omega
      obtain ⟨m, hm⟩ : ∃ m : Int, (k : Int) * (n % 4) = m := ⟨_, rfl⟩
      obtain ⟨t1, t2, t3, t4⟩ := tparts HY.out k m
      obtain ⟨re, im, em, rre, rim⟩ := mul_rep ra rb (prb_rep m) (pib_rep m) (by omega) (by omega) (by omega) (by omega) (by omega) (by omega)
      have HMa := Aside0.mk rre
      have HMb := Aside0.mk rim
      clear rre rim ra rb t1 t2 t3 t4
      have hmul := fun W => run_complex_mul (P := Try.prog) W 25 _ _ _ _ _ _ em
      have hbd : 0 ≤ (k : Int) * (n % 4) ∧ (k : Int) * (n % 4) ≤ 4 * 4 := ⟨Int.mul_nonneg (by omega) (by omega), Int.mul_le_mul (by omega) (by omega) (by omega) (by omega)⟩
      have hw : IntKind.i64.wrap ((k : Int) * (n % 4)) = m := by rw [← hm, IntKind.wrap_i64]; omega
      have HM := Aside0.mk hm
      clear em hm hbd
      go_wp2
      go_still_tail 9, (by kernel_rfl)
      still_call (power_still m _)
      repeat still_step
      refine wpStill_nil ?_
      change wpList _ _ _ _ _ wr.drew
      go_wp2
      go_roundw
      case rel =>
        refine ⟨k + 1, by omega, by go_num, ⟨blk_drew (blk_far HK.out (by simp) _)⟩, ⟨?_⟩, ⟨below_drew (below_set' HB.out (Nat.le_refl _) _)⟩⟩
        refine Holds.to (W := wr.setCell ⟨w.heap.size, k, none⟩ (.complex .f64 re im)) ?_ rfl
        refine HH.out.put hkl (x' := fun q => if q < k + 1 then tx l n q else fr l q 4) (y' := fun q => if q < k + 1 then ty l n q else fi l q 4) ?_ ?_ ?_
        · rw [if_pos (by omega)]
          unfold tx
          rw [HM.out]
          exact HMa.out
        · rw [if_pos (by omega)]
          unfold ty
          rw [HM.out]
          exact HMb.out
        · intro p hp hne
          by_cases hpk : p < k
          · simp only [if_pos hpk, if_pos (show p < k + 1 by omega), and_self]
          · simp only [if_neg hpk, if_neg (show ¬ p < k + 1 by omega), and_self]
      case measure => simp [intOf]; omega
    · obtain rfl : k = 4 := by omega
      clear hk hkl
      obtain ⟨c0, d0, c1, d1, c2, d2, c3, d3, hk4_, r0, r1, r2, r3⟩ := (HH.out.same (x' := tx l n) (y' := ty l n) (fun q hq => ⟨by rw [if_pos hq], by rw [if_pos hq]⟩)).four
      have HK4 := Aside0.mk hk4_
      have HR4 := Aside0.mk (And.intro r0 (And.intro r1 (And.intro r2 r3)))
      clear hk4_ r0 r1 r2 r3 HH
      have k0 : wr.cell? ⟨w.heap.size, 0, none⟩ = some (.complex .f64 c0 d0) := (blk_cell HK4.out 0).trans rfl
      have k1 : wr.cell? ⟨w.heap.size, 1, none⟩ = some (.complex .f64 c1 d1) := (blk_cell HK4.out 1).trans rfl
      have k2 : wr.cell? ⟨w.heap.size, 2, none⟩ = some (.complex .f64 c2 d2) := (blk_cell HK4.out 2).trans rfl
      have k3 : wr.cell? ⟨w.heap.size, 3, none⟩ = some (.complex .f64 c3 d3) := (blk_cell HK4.out 3).trans rfl
      have z0 : wr.cell? ⟨w.heap.size + 1, 0, none⟩ = some (.complex .f64 0 0) := (blk_cell HK.out 0).trans rfl
      have z1 : wr.cell? ⟨w.heap.size + 1, 1, none⟩ = some (.complex .f64 0 0) := (blk_cell HK.out 1).trans rfl
      have z2 : wr.cell? ⟨w.heap.size + 1, 2, none⟩ = some (.complex .f64 0 0) := (blk_cell HK.out 2).trans rfl
      have z3 : wr.cell? ⟨w.heap.size + 1, 3, none⟩ = some (.complex .f64 0 0) := (blk_cell HK.out 3).trans rfl
      have f0 := blk_frozen HK.out 0
      have f1 := blk_frozen HK.out 1
      have f2 := blk_frozen HK.out 2
      have f3 := blk_frozen HK.out 3
      go_wp2
      refine bodyPost_ret (results_cell_row (fn := Try.f43) rfl _ _ (w.heap.size + 1) 27 #[.complex .f64 c0 d0, .complex .f64 c1 d1, .complex .f64 c2 d2, .complex .f64 c3 d3] (0, 0) _ rfl ?_ Try.underlying27 rfl (by kernel_rfl)) rfl ?_
      · refine blk_put (cs := #[.complex .f64 c0 d0, .complex .f64 c1 d1, .complex .f64 c2 d2, .complex .f64 0 0]) ?_ 3 _ rfl
        refine blk_put (cs := #[.complex .f64 c0 d0, .complex .f64 c1 d1, .complex .f64 0 0, .complex .f64 0 0]) ?_ 2 _ rfl
        refine blk_put (cs := #[.complex .f64 c0 d0, .complex .f64 0 0, .complex .f64 0 0, .complex .f64 0 0]) ?_ 1 _ rfl
        refine blk_put (cs := #[.complex .f64 0 0, .complex .f64 0 0, .complex .f64 0 0, .complex .f64 0 0]) ?_ 0 _ rfl
        exact HK.out
      · refine ⟨_, rfl, ⟨c0, d0, c1, d1, c2, d2, c3, d3, rfl, HR4.out⟩, ?_⟩
        exact below_set' (below_set' (below_set' (below_set' HB.out (Nat.le_succ _) _) (Nat.le_succ _) _) (Nat.le_succ _) _) (Nat.le_succ _) _
end Go.Proofs.Ytacecaacpagokaa.Turn

namespace Go.Proofs.Ytacecaacpagokaa.Turn
open Go.RowKit Go.Proofs.Ytacecaacpagokaa.PlainFloat Go.Proofs.YtacecaacpagokaaW.PrintWords
set_option linter.unusedVariables false
/-- The sums of n bytes 0 and what had these sums. -/
def rot (n : Int) : List Int → List Int
  | [a, b, c, d] => if n % 4 = 0 then [a, b, c, d] else if n % 4 = 1 then [d, a, b, c] else if n % 4 = 2 then [c, d, a, b] else [b, c, d, a]
  | l => l
theorem fr4 (s0 s1 s2 s3 : Int) : (fr [s0, s1, s2, s3] 0 4 = s0 + s1 + s2 + s3 ∧ fi [s0, s1, s2, s3] 0 4 = 0) ∧ (fr [s0, s1, s2, s3] 1 4 = s0 - s2 ∧ fi [s0, s1, s2, s3] 1 4 = s1 - s3) ∧ (fr [s0, s1, s2, s3] 2 4 = s0 + s2 - s1 - s3 ∧ fi [s0, s1, s2, s3] 2 4 = 0) ∧ (fr [s0, s1, s2, s3] 3 4 = s0 - s2 ∧ fi [s0, s1, s2, s3] 3 4 = s3 - s1) := by
  have h := frfi [s0, s1, s2, s3] 4
  obtain ⟨e0, e1, e2, e3⟩ := sm4 (s0 := s0) (s1 := s1) (s2 := s2) (s3 := s3)
  rw [e0, e1, e2, e3] at h
  exact h
theorem rot_is (s0 s1 s2 s3 n : Int) (q : Nat) (hq : q < 4) : tx [s0, s1, s2, s3] n q = fr (rot n [s0, s1, s2, s3]) q 4 ∧ ty [s0, s1, s2, s3] n q = fi (rot n [s0, s1, s2, s3]) q 4 := by
  have h := fr4 s0 s1 s2 s3
  obtain ⟨⟨a0, b0⟩, ⟨a1, b1⟩, ⟨a2, b2⟩, ⟨a3, b3⟩⟩ := h
  have hn : n % 4 = 0 ∨ n % 4 = 1 ∨ n % 4 = 2 ∨ n % 4 = 3 := by omega
  unfold tx ty rot
  rcases hn with e | e | e | e
  · rw [e]
    simp only [if_true]
    match q, hq with
    | 0, _ => simp [pr, pi]
    | 1, _ => simp [pr, pi]
    | 2, _ => simp [pr, pi]
    | 3, _ => simp [pr, pi]
  · rw [e]
    simp only [show ¬ (1 : Int) = 0 by decide, if_false, if_true]
    obtain ⟨⟨c0, d0⟩, ⟨c1, d1⟩, ⟨c2, d2⟩, ⟨c3, d3⟩⟩ := fr4 s3 s0 s1 s2
    match q, hq with
    | 0, _ => rw [a0, b0, c0, d0]; simp [pr, pi]; omega
    | 1, _ => rw [a1, b1, c1, d1]; simp [pr, pi]; omega
    | 2, _ => rw [a2, b2, c2, d2]; simp [pr, pi]; omega
    | 3, _ => rw [a3, b3, c3, d3]; simp [pr, pi]; omega
  · rw [e]
    simp only [show ¬ (2 : Int) = 0 by decide, show ¬ (2 : Int) = 1 by decide, if_false, if_true]
    obtain ⟨⟨c0, d0⟩, ⟨c1, d1⟩, ⟨c2, d2⟩, ⟨c3, d3⟩⟩ := fr4 s2 s3 s0 s1
    match q, hq with
    | 0, _ => rw [a0, b0, c0, d0]; simp [pr, pi]; omega
    | 1, _ => rw [a1, b1, c1, d1]; simp [pr, pi]; omega
    | 2, _ => rw [a2, b2, c2, d2]; simp [pr, pi]; omega
    | 3, _ => rw [a3, b3, c3, d3]; simp [pr, pi]; omega
  · rw [e]
    simp only [show ¬ (3 : Int) = 0 by decide, show ¬ (3 : Int) = 1 by decide, show ¬ (3 : Int) = 2 by decide, if_false]
    obtain ⟨⟨c0, d0⟩, ⟨c1, d1⟩, ⟨c2, d2⟩, ⟨c3, d3⟩⟩ := fr4 s1 s2 s3 s0
    match q, hq with
    | 0, _ => rw [a0, b0, c0, d0]; simp [pr, pi]; omega
    | 1, _ => rw [a1, b1, c1, d1]; simp [pr, pi]; omega
    | 2, _ => rw [a2, b2, c2, d2]; simp [pr, pi]; omega
    | 3, _ => rw [a3, b3, c3, d3]; simp [pr, pi]; omega
theorem sums4_parts {s0 s1 s2 s3 : Int} (h : Sums4 [s0, s1, s2, s3]) : Sum s0 ∧ Sum s1 ∧ Sum s2 ∧ Sum s3 := ⟨h.2 0, h.2 1, h.2 2, h.2 3⟩
theorem rot_sums {l : List Int} (h : Sums4 l) (n : Int) : Sums4 (rot n l) := by
  obtain ⟨s0, s1, s2, s3, rfl⟩ := list4 h.1
  obtain ⟨h0, h1, h2, h3⟩ := sums4_parts h
  unfold rot
  dsimp only
  split
  · exact h
  split
  · exact sums4_of h3 h0 h1 h2
  split
  · exact sums4_of h2 h3 h0 h1
  · exact sums4_of h1 h2 h3 h0
theorem SpecV.same {v : Value} {x y x' y' : Nat → Int} (h : SpecV v x y) (e : ∀ q, q < 4 → x' q = x q ∧ y' q = y q) : SpecV v x' y' := by
  obtain ⟨a0, b0, a1, b1, a2, b2, a3, b3, rfl, r0, r1, r2, r3⟩ := h
  obtain ⟨z0, w0⟩ := e 0 (by omega)
  obtain ⟨z1, w1⟩ := e 1 (by omega)
  obtain ⟨z2, w2⟩ := e 2 (by omega)
  obtain ⟨z3, w3⟩ := e 3 (by omega)
  refine ⟨a0, b0, a1, b1, a2, b2, a3, b3, rfl, ?_, ?_, ?_, ?_⟩
  · rw [z0, w0]; exact r0
  · rw [z1, w1]; exact r1
  · rw [z2, w2]; exact r2
  · rw [z3, w3]; exact r3
theorem turned4 (v : Value) (l : List Int) (h : Of4 v l) (n : Int) (w : World) : Calls Try.prog 43 #[v, .int .i64 n] w fun e w' => ∃ u, e = .returned u ∧ Of4 u (rot n l) ∧ Below w.heap.size w w' := by
  refine (turned_calls v l h n w).mono ?_
  rintro e w' ⟨u, he, hs, hb⟩
  refine ⟨u, he, ⟨rot_sums h.1 n, ?_⟩, hb⟩
  obtain ⟨s0, s1, s2, s3, rfl⟩ := list4 h.1.1
  exact hs.same (fun q hq => ⟨(rot_is s0 s1 s2 s3 n q hq).1.symm, (rot_is s0 s1 s2 s3 n q hq).2.symm⟩)
/-- Sums added, place by place. -/
def plus : List Int → List Int → List Int
  | [a, b, c, d], [e, f, g, h] => [a + e, b + f, c + g, d + h]
  | l, _ => l
theorem plus_is (s0 s1 s2 s3 t0 t1 t2 t3 : Int) (q : Nat) (hq : q < 4) : fr (plus [s0, s1, s2, s3] [t0, t1, t2, t3]) q 4 = fr [s0, s1, s2, s3] q 4 + fr [t0, t1, t2, t3] q 4 ∧ fi (plus [s0, s1, s2, s3] [t0, t1, t2, t3]) q 4 = fi [s0, s1, s2, s3] q 4 + fi [t0, t1, t2, t3] q 4 := by
  obtain ⟨⟨a0, b0⟩, ⟨a1, b1⟩, ⟨a2, b2⟩, ⟨a3, b3⟩⟩ := fr4 s0 s1 s2 s3
  obtain ⟨⟨c0, d0⟩, ⟨c1, d1⟩, ⟨c2, d2⟩, ⟨c3, d3⟩⟩ := fr4 t0 t1 t2 t3
  obtain ⟨⟨e0, f0⟩, ⟨e1, f1⟩, ⟨e2, f2⟩, ⟨e3, f3⟩⟩ := fr4 (s0 + t0) (s1 + t1) (s2 + t2) (s3 + t3)
  unfold plus
  match q, hq with
  | 0, _ => rw [a0, b0, c0, d0, e0, f0]; omega
  | 1, _ => rw [a1, b1, c1, d1, e1, f1]; omega
  | 2, _ => rw [a2, b2, c2, d2, e2, f2]; omega
  | 3, _ => rw [a3, b3, c3, d3, e3, f3]; omega
theorem Of4.add_small {v u : Value} {l m : List Int} (h : Of4 v l) (h' : Of4 u m) (q : Nat) : (fr l q 4 + fr m q 4).natAbs < 2 ^ 53 ∧ (fi l q 4 + fi m q 4).natAbs < 2 ^ 53 := by
  have a := fr_big h.1 q 4
  have b := fi_big h.1 q 4
  have c := fr_big h'.1 q 4
  have d := fi_big h'.1 q 4
  omega
theorem blk_get_far (W : World) {g : Nat} {p : Addr} (hp : g ≠ p.block) (u : Value) : (W.setCell p u).heap[g]? = W.heap[g]? := Below.heap_setCell W p u g hp
end Go.Proofs.Ytacecaacpagokaa.Turn

namespace Go.Proofs.Ytacecaacpagokaa.Turn
open Go.RowKit Go.Proofs.Ytacecaacpagokaa.PlainFloat Go.Proofs.YtacecaacpagokaaW.PrintWords
set_option linter.unusedVariables false
set_option linter.unusedSimpArgs false
attribute [local go_sem] run_store_complex
set_option maxHeartbeats 4000000 in
set_option maxRecDepth 100000 in
theorem join_calls (v u : Value) (l m : List Int) (h : Of4 v l) (h' : Of4 u m) (n : Int) (hn : 0 ≤ n) (hp : Sums4 (plus l (rot n m))) (w : World) : Calls Try.prog 32 #[v, u, .int .i64 n] w fun e w' => ∃ z, e = .returned (.tuple #[z, .int .i64 0]) ∧ Of4 z (plus l (rot n m)) ∧ Below w.heap.size w w' := by
  have HY := Aside0.mk h
  have HU := Aside0.mk h'
  have HP := Aside0.mk hp
  obtain ⟨a0, b0, a1, b1, a2, b2, a3, b3, rfl⟩ := h.agg
  obtain ⟨c0, d0, c1, d1, c2, d2, c3, d3, rfl⟩ := h'.agg
  clear h h' hp
  have hu := Try.underlying27
  go_enter Try.func32, Try.ntmps32
  go_wp2_with fail
  refine (check_calls _ l HY.out _).mono ?_
  rintro e w1 ⟨rfl, hb⟩
  have N0 : w1.heap[w.heap.size]? = some (.cells #[.complex .f64 a0 b0, .complex .f64 a1 b1, .complex .f64 a2 b2, .complex .f64 a3 b3] 27 (0, 0)) := blk_below (blk_alloc (blk_alloc (blk_new w _) _) _) hb
  have N1 : w1.heap[w.heap.size + 1]? = some (.cells #[.complex .f64 c0 d0, .complex .f64 c1 d1, .complex .f64 c2 d2, .complex .f64 c3 d3] 27 (0, 0)) := blk_below (blk_alloc (heap_alloc2_new w (.cells #[.complex .f64 a0 b0, .complex .f64 a1 b1, .complex .f64 a2 b2, .complex .f64 a3 b3] 27) (.cells #[.complex .f64 c0 d0, .complex .f64 c1 d1, .complex .f64 c2 d2, .complex .f64 c3 d3] 27)) _) hb
  have N2 : w1.heap[w.heap.size + 1 + 1]? = some (.cells #[.complex .f64 0 0, .complex .f64 0 0, .complex .f64 0 0, .complex .f64 0 0] 27 (0, 0)) := by
    have := blk_new ((w.alloc (.cells #[.complex .f64 a0 b0, .complex .f64 a1 b1, .complex .f64 a2 b2, .complex .f64 a3 b3] 27)).alloc (.cells #[.complex .f64 c0 d0, .complex .f64 c1 d1, .complex .f64 c2 d2, .complex .f64 c3 d3] 27)) (.cells #[.complex .f64 0 0, .complex .f64 0 0, .complex .f64 0 0, .complex .f64 0 0] 27)
    exact blk_below (by simpa using this) hb
  have HB := Aside0.mk (below_then ((((Below.refl w.heap.size w).alloc (Nat.le_refl _) _).alloc (by simp) _).alloc (by simp; omega) _) (by simp; omega) hb)
  have M0 := Aside0.mk N0
  have M1 := Aside0.mk N1
  have M2 := Aside0.mk N2
  clear hb N0 N1 N2
  have k0 : w1.cell? ⟨w.heap.size + 1, 0, none⟩ = some (.complex .f64 c0 d0) := (blk_cell M1.out 0).trans rfl
  have k1 : w1.cell? ⟨w.heap.size + 1, 1, none⟩ = some (.complex .f64 c1 d1) := (blk_cell M1.out 1).trans rfl
  have k2 : w1.cell? ⟨w.heap.size + 1, 2, none⟩ = some (.complex .f64 c2 d2) := (blk_cell M1.out 2).trans rfl
  have k3 : w1.cell? ⟨w.heap.size + 1, 3, none⟩ = some (.complex .f64 c3 d3) := (blk_cell M1.out 3).trans rfl
  go_wp2_with fail
  refine (check_calls _ m HU.out _).mono ?_
  rintro e w2 ⟨rfl, hb⟩
  have O0 := Aside0.mk (blk_below M0.out hb)
  have O1 := Aside0.mk (blk_below M1.out hb)
  have O2 := Aside0.mk (blk_below M2.out hb)
  have HB2 := Aside0.mk (below_then HB.out HB.out.size hb)
  clear hb k0 k1 k2 k3 M0 M1 M2 HB
  have k0 : w2.cell? ⟨w.heap.size + 1, 0, none⟩ = some (.complex .f64 c0 d0) := (blk_cell O1.out 0).trans rfl
  have k1 : w2.cell? ⟨w.heap.size + 1, 1, none⟩ = some (.complex .f64 c1 d1) := (blk_cell O1.out 1).trans rfl
  have k2 : w2.cell? ⟨w.heap.size + 1, 2, none⟩ = some (.complex .f64 c2 d2) := (blk_cell O1.out 2).trans rfl
  have k3 : w2.cell? ⟨w.heap.size + 1, 3, none⟩ = some (.complex .f64 c3 d3) := (blk_cell O1.out 3).trans rfl
  go_wp2_with fail
  refine (turned4 _ m HU.out n _).mono ?_
  rintro e w3 ⟨t, rfl, hs, hb⟩
  obtain ⟨e0, f0, e1, f1, e2, f2, e3, f3, rfl⟩ := hs.agg
  have HS := Aside0.mk hs
  have Q0 := Aside0.mk (blk_below O0.out hb)
  have Q1 := Aside0.mk (blk_below O1.out hb)
  have Q2 := Aside0.mk (blk_below O2.out hb)
  have HB3 := Aside0.mk (below_then HB2.out HB2.out.size hb)
  clear hs hb k0 k1 k2 k3 O0 O1 O2 HB2
  have k0 : w3.cell? ⟨w.heap.size + 1, 0, none⟩ = some (.complex .f64 c0 d0) := (blk_cell Q1.out 0).trans rfl
  have kz0 := blk_frozen Q1.out 0
  have k1 : w3.cell? ⟨w.heap.size + 1, 1, none⟩ = some (.complex .f64 c1 d1) := (blk_cell Q1.out 1).trans rfl
  have kz1 := blk_frozen Q1.out 1
  have k2 : w3.cell? ⟨w.heap.size + 1, 2, none⟩ = some (.complex .f64 c2 d2) := (blk_cell Q1.out 2).trans rfl
  have kz2 := blk_frozen Q1.out 2
  have k3 : w3.cell? ⟨w.heap.size + 1, 3, none⟩ = some (.complex .f64 c3 d3) := (blk_cell Q1.out 3).trans rfl
  have kz3 := blk_frozen Q1.out 3
  go_wp2
  go_loopw [26] (fun i wr => ∃ k : Nat, k ≤ 4 ∧ i = .int .i64 k ∧ Aside0 (Holds 27 wr w.heap.size (fun q => if q < k then fr l q 4 + fr (rot n m) q 4 else fr l q 4) (fun q => if q < k then fi l q 4 + fi (rot n m) q 4 else fi l q 4)) ∧ Aside0 (Holds 27 wr (w.heap.size + 1) (fun q => fr (rot n m) q 4) (fun q => fi (rot n m) q 4)) ∧ Aside0 (wr.heap[w.heap.size + 1 + 1]? = some (.cells #[.complex .f64 0 0, .complex .f64 0 0, .complex .f64 0 0, .complex .f64 0 0] 27 (0, 0))) ∧ Aside0 (Below w.heap.size w wr)) (fun i _ => 4 - (intOf i).toNat)
  case atStart =>
    refine ⟨0, Nat.zero_le _, rfl, ⟨?_⟩, ⟨?_⟩, ⟨?_⟩, ⟨?_⟩⟩
    · obtain ⟨_, p0, q0, p1, q1, p2, q2, p3, q3, he, hq⟩ := HY.out
      injection he with he
      injection he with he
      simp only [List.cons.injEq, Value.complex.injEq, and_true, true_and] at he
      obtain ⟨⟨rfl, rfl⟩, ⟨rfl, rfl⟩, ⟨rfl, rfl⟩, ⟨rfl, rfl⟩⟩ := he
      refine (Holds.of_four (x := fun q => fr l q 4) (y := fun q => fi l q 4) ?_ hq).same (fun q _ => ⟨by rw [if_neg (by omega)], by rw [if_neg (by omega)]⟩)
      exact blk_far (blk_far (blk_far (blk_far Q0.out (by simp) _) (by simp) _) (by simp) _) (by simp) _
    · obtain ⟨_, p0, q0, p1, q1, p2, q2, p3, q3, he, hq⟩ := HS.out
      injection he with he
      injection he with he
      simp only [List.cons.injEq, Value.complex.injEq, and_true, true_and] at he
      obtain ⟨⟨rfl, rfl⟩, ⟨rfl, rfl⟩, ⟨rfl, rfl⟩, ⟨rfl, rfl⟩⟩ := he
      refine Holds.of_four ?_ hq
      refine blk_put (cs := #[.complex .f64 e0 f0, .complex .f64 e1 f1, .complex .f64 e2 f2, .complex .f64 c3 d3]) ?_ 3 _ rfl
      refine blk_put (cs := #[.complex .f64 e0 f0, .complex .f64 e1 f1, .complex .f64 c2 d2, .complex .f64 c3 d3]) ?_ 2 _ rfl
      refine blk_put (cs := #[.complex .f64 e0 f0, .complex .f64 c1 d1, .complex .f64 c2 d2, .complex .f64 c3 d3]) ?_ 1 _ rfl
      refine blk_put (cs := #[.complex .f64 c0 d0, .complex .f64 c1 d1, .complex .f64 c2 d2, .complex .f64 c3 d3]) ?_ 0 _ rfl
      exact Q1.out
    · exact blk_far (blk_far (blk_far (blk_far Q2.out (by simp) _) (by simp) _) (by simp) _) (by simp) _
    · exact below_set' (below_set' (below_set' (below_set' HB3.out (Nat.le_succ _) _) (Nat.le_succ _) _) (Nat.le_succ _) _) (Nat.le_succ _) _
  case round =>
    obtain ⟨k, hk, rfl, HF, HG, HZ, HB⟩ := hrel
    by_cases hkl : k < 4
    · obtain ⟨a, b, hcl, ra, rb, hfz⟩ := HF.out.cell hkl
      obtain ⟨c, d, hcg, rc, rd', hfg⟩ := HG.out.cell hkl
      simp only [Nat.lt_irrefl, if_false] at ra rb
      have hki : (k : Int) < 4 := by omega
      have hsm := HY.out.add_small HS.out k
      obtain ⟨re, im, es, rs, is⟩ := sum_rep ra rb rc rd' hsm.1 hsm.2
      have HMa := Aside0.mk rs
      have HMb := Aside0.mk is
      have hadd := fun W => run_complex_sum (P := Try.prog) W .add (Or.inl rfl) 25 .f64 _ _ _ _ _ _ es
      clear rs is ra rb rc rd' es hsm hfg
      go_wp2
      go_still_tail 7, (by kernel_rfl)
      change wpList _ _ _ _ _ wr.drew
      go_wp2
      go_roundw
      case rel =>
        refine ⟨k + 1, by omega, by go_num, ⟨?_⟩, ⟨HG.out.to (blk_get_far wr (by simp) _)⟩, ⟨blk_drew (blk_far HZ.out (by simp; omega) _)⟩, ⟨below_drew (below_set' HB.out (Nat.le_refl _) _)⟩⟩
        refine Holds.to (W := wr.setCell ⟨w.heap.size, k, none⟩ (.complex .f64 re im)) ?_ rfl
        refine HF.out.put hkl (x' := fun q => if q < k + 1 then fr l q 4 + fr (rot n m) q 4 else fr l q 4) (y' := fun q => if q < k + 1 then fi l q 4 + fi (rot n m) q 4 else fi l q 4) ?_ ?_ ?_
        · rw [if_pos (by omega)]
          exact HMa.out
        · rw [if_pos (by omega)]
          exact HMb.out
        · intro p hp hne
          by_cases hpk : p < k
          · simp only [if_pos hpk, if_pos (show p < k + 1 by omega), and_self]
          · simp only [if_neg hpk, if_neg (show ¬ p < k + 1 by omega), and_self]
      case measure => simp [intOf]; omega
    · obtain rfl : k = 4 := by omega
      clear hk hkl
      have hsum : ∀ q, q < 4 → fr (plus l (rot n m)) q 4 = fr l q 4 + fr (rot n m) q 4 ∧ fi (plus l (rot n m)) q 4 = fi l q 4 + fi (rot n m) q 4 := by
        obtain ⟨s0, s1, s2, s3, el⟩ := list4 HY.out.1.1
        obtain ⟨t0, t1, t2, t3, em⟩ := list4 HS.out.1.1
        rw [el, em]
        exact fun q hq => plus_is s0 s1 s2 s3 t0 t1 t2 t3 q hq
      obtain ⟨g0, h0, g1, h1, g2, h2, g3, h3, hk4_, r0⟩ := (HF.out.same (x' := fun q => fr (plus l (rot n m)) q 4) (y' := fun q => fi (plus l (rot n m)) q 4) (fun q hq => ⟨by rw [if_pos hq]; exact (hsum q hq).1, by rw [if_pos hq]; exact (hsum q hq).2⟩)).four
      have HK4 := Aside0.mk hk4_
      have HO : Aside0 (Of4 (.agg #[.complex .f64 g0 h0, .complex .f64 g1 h1, .complex .f64 g2 h2, .complex .f64 g3 h3]) (plus l (rot n m))) := ⟨⟨HP.out, g0, h0, g1, h1, g2, h2, g3, h3, rfl, r0⟩⟩
      clear hk4_ r0 hsum HF HG
      have k0 : wr.cell? ⟨w.heap.size, 0, none⟩ = some (.complex .f64 g0 h0) := (blk_cell HK4.out 0).trans rfl
      have k1 : wr.cell? ⟨w.heap.size, 1, none⟩ = some (.complex .f64 g1 h1) := (blk_cell HK4.out 1).trans rfl
      have k2 : wr.cell? ⟨w.heap.size, 2, none⟩ = some (.complex .f64 g2 h2) := (blk_cell HK4.out 2).trans rfl
      have k3 : wr.cell? ⟨w.heap.size, 3, none⟩ = some (.complex .f64 g3 h3) := (blk_cell HK4.out 3).trans rfl
      go_wp2_with fail
      refine (check_calls _ (plus l (rot n m)) HO.out _).mono ?_
      rintro e w4 ⟨rfl, hb⟩
      have U0 := Aside0.mk (blk_below HK4.out hb)
      have U2 := Aside0.mk (blk_below HZ.out hb)
      have HB4 := Aside0.mk (below_then HB.out HB.out.size hb)
      clear hb k0 k1 k2 k3
      have k0 : w4.cell? ⟨w.heap.size, 0, none⟩ = some (.complex .f64 g0 h0) := (blk_cell U0.out 0).trans rfl
      have k1 : w4.cell? ⟨w.heap.size, 1, none⟩ = some (.complex .f64 g1 h1) := (blk_cell U0.out 1).trans rfl
      have k2 : w4.cell? ⟨w.heap.size, 2, none⟩ = some (.complex .f64 g2 h2) := (blk_cell U0.out 2).trans rfl
      have k3 : w4.cell? ⟨w.heap.size, 3, none⟩ = some (.complex .f64 g3 h3) := (blk_cell U0.out 3).trans rfl
      have z0 : w4.cell? ⟨w.heap.size + 1 + 1, 0, none⟩ = some (.complex .f64 0 0) := (blk_cell U2.out 0).trans rfl
      have zz0 := blk_frozen U2.out 0
      have z1 : w4.cell? ⟨w.heap.size + 1 + 1, 1, none⟩ = some (.complex .f64 0 0) := (blk_cell U2.out 1).trans rfl
      have zz1 := blk_frozen U2.out 1
      have z2 : w4.cell? ⟨w.heap.size + 1 + 1, 2, none⟩ = some (.complex .f64 0 0) := (blk_cell U2.out 2).trans rfl
      have zz2 := blk_frozen U2.out 2
      have z3 : w4.cell? ⟨w.heap.size + 1 + 1, 3, none⟩ = some (.complex .f64 0 0) := (blk_cell U2.out 3).trans rfl
      have zz3 := blk_frozen U2.out 3
      go_wp2
      refine bodyPost_ret (results_ct (fn := Try.f32) rfl _ _ (w.heap.size + 1 + 1) 27 #[.complex .f64 g0 h0, .complex .f64 g1 h1, .complex .f64 g2 h2, .complex .f64 g3 h3] (0, 0) _ rfl ?_ Try.underlying27 rfl (by kernel_rfl)) rfl ?_
      · refine blk_put (cs := #[.complex .f64 g0 h0, .complex .f64 g1 h1, .complex .f64 g2 h2, .complex .f64 0 0]) ?_ 3 _ rfl
        refine blk_put (cs := #[.complex .f64 g0 h0, .complex .f64 g1 h1, .complex .f64 0 0, .complex .f64 0 0]) ?_ 2 _ rfl
        refine blk_put (cs := #[.complex .f64 g0 h0, .complex .f64 0 0, .complex .f64 0 0, .complex .f64 0 0]) ?_ 1 _ rfl
        refine blk_put (cs := #[.complex .f64 0 0, .complex .f64 0 0, .complex .f64 0 0, .complex .f64 0 0]) ?_ 0 _ rfl
        exact U2.out
      · refine ⟨_, rfl, HO.out, ?_⟩
        exact below_set' (below_set' (below_set' (below_set' HB4.out (by simp; omega) _) (by simp; omega) _) (by simp; omega) _) (by simp; omega) _
end Go.Proofs.Ytacecaacpagokaa.Turn

namespace Go.Proofs.Ytacecaacpagokaa.Turn
open Go.RowKit Go.Proofs.Ytacecaacpagokaa.PlainFloat Go.Proofs.YtacecaacpagokaaW.PrintWords
set_option linter.unusedVariables false
theorem xor_top {r : Nat} (h : r < 2 ^ 63) : r ^^^ 2 ^ 63 = 2 ^ 63 + r := by
  apply Nat.eq_of_testBit_eq
  intro i
  rw [Nat.testBit_xor, Nat.testBit_two_pow]
  rcases Nat.lt_trichotomy i 63 with c | c | c
  · rw [Nat.testBit_two_pow_add_gt c, decide_eq_false (show ¬ 63 = i by omega)]
    simp
  · subst c
    rw [Nat.testBit_two_pow_add_eq, Nat.testBit_lt_two_pow h]
    rfl
  · have h1 : r < 2 ^ i := Nat.lt_of_lt_of_le h (Nat.pow_le_pow_right (by decide) (by omega))
    have h2 : 2 ^ 63 + r < 2 ^ i := by
      have : 2 ^ 64 ≤ 2 ^ i := Nat.pow_le_pow_right (by decide) (by omega)
      omega
    rw [Nat.testBit_lt_two_pow h1, Nat.testBit_lt_two_pow h2, decide_eq_false (show ¬ 63 = i by omega)]
    rfl
theorem neg_rep {x : Nat} {a : Int} (h : Rep x a) : Rep (Op.negFloat .f64 x) (-a) := by
  obtain ⟨s, n, hn, rfl, rfl⟩ := h
  have hr := irung_lt hn
  refine ⟨!s, n, hn, ?_, by cases s <;> simp⟩
  show Ieee.double.word s (irung n) ^^^ 2 ^ 63 = _
  unfold Ieee.Format.word
  rw [sw]
  cases s
  · rw [if_neg (by decide), xor_top (by omega)]
    rfl
  · rw [if_pos rfl, ← xor_top (by omega), Nat.xor_assoc, Nat.xor_self, Nat.xor_zero]
    rfl
/-- The sum of the first j numbers. -/
def tot (l : List Int) : Nat → Int
  | 0 => 0
  | j + 1 => tot l j + rd l (j : Int)
theorem tot_is (l : List Int) (j : Nat) : tot l j = sm l 0 j + sm l 1 j + sm l 2 j + sm l 3 j := by
  induction j with
  | zero => simp [tot, sm]
  | succ j ih =>
    have h : j % 4 = 0 ∨ j % 4 = 1 ∨ j % 4 = 2 ∨ j % 4 = 3 := by omega
    simp only [tot, sm, ih]
    rcases h with h | h | h | h <;> simp [h] <;> omega
theorem tot_range {l : List Int} (h : ByteList l) (j : Nat) : 0 ≤ tot l j ∧ tot l j ≤ 255 * j := by
  induction j with
  | zero => simp [tot]
  | succ j ih =>
    have := h j
    simp only [tot]
    omega
/-- The four sums of bytes. -/
def four (b : List Int) : List Int := [sm b 0 b.length, sm b 1 b.length, sm b 2 b.length, sm b 3 b.length]
theorem four_sums {b : List Int} (h : ByteList b) (hl : b.length ≤ 4194304) : Sums4 (four b) := by
  have h0 := sm_range h 0 b.length
  have h1 := sm_range h 1 b.length
  have h2 := sm_range h 2 b.length
  have h3 := sm_range h 3 b.length
  exact sums4_of ⟨h0.1, by omega⟩ ⟨h1.1, by omega⟩ ⟨h2.1, by omega⟩ ⟨h3.1, by omega⟩
theorem four_is (b : List Int) (q : Nat) (hq : q < 4) : fr (four b) q 4 = fr b q b.length ∧ fi (four b) q 4 = fi b q b.length := by
  obtain ⟨⟨a0, b0⟩, ⟨a1, b1⟩, ⟨a2, b2⟩, ⟨a3, b3⟩⟩ := frfi b b.length
  obtain ⟨⟨c0, d0⟩, ⟨c1, d1⟩, ⟨c2, d2⟩, ⟨c3, d3⟩⟩ := fr4 (sm b 0 b.length) (sm b 1 b.length) (sm b 2 b.length) (sm b 3 b.length)
  unfold four
  match q, hq with
  | 0, _ => rw [a0, b0, c0, d0]; exact ⟨rfl, rfl⟩
  | 1, _ => rw [a1, b1, c1, d1]; exact ⟨rfl, rfl⟩
  | 2, _ => rw [a2, b2, c2, d2]; exact ⟨rfl, rfl⟩
  | 3, _ => rw [a3, b3, c3, d3]; exact ⟨rfl, rfl⟩
theorem of4_calls (A : Option Addr) (c : Nat) (b : List Int) (w : World) (hr : ReadsInt w .u8 A b.length b) (hb : ByteList b) (hl : b.length ≤ 4194304) :
    Calls Try.prog 33 #[.slice A b.length c] w fun e w' => ∃ v, e = .returned v ∧ Of4 v (four b) ∧ Below w.heap.size w w' := by
  refine (of_calls A c b w hr hb hl).mono ?_
  rintro e w' ⟨v, he, hs, hw⟩
  exact ⟨v, he, ⟨four_sums hb hl, hs.same (fun q hq => four_is b q hq)⟩, hw⟩
theorem rot4 {l : List Int} (h : Sums4 l) : rot 1 (rot 1 (rot 1 (rot 1 l))) = l ∧ rot 4 l = l := by
  obtain ⟨s0, s1, s2, s3, rfl⟩ := list4 h.1
  exact ⟨rfl, rfl⟩
def rotk (l : List Int) : Nat → List Int
  | 0 => l
  | k + 1 => rot 1 (rotk l k)
theorem SpecV.reps {a0 b0 a1 b1 a2 b2 a3 b3 : Nat} {x y : Nat → Int} (h : SpecV (.agg #[.complex .f64 a0 b0, .complex .f64 a1 b1, .complex .f64 a2 b2, .complex .f64 a3 b3]) x y) :
    (Rep a0 (x 0) ∧ Rep b0 (y 0)) ∧ (Rep a1 (x 1) ∧ Rep b1 (y 1)) ∧ (Rep a2 (x 2) ∧ Rep b2 (y 2)) ∧ (Rep a3 (x 3) ∧ Rep b3 (y 3)) := by
  obtain ⟨p0, q0, p1, q1, p2, q2, p3, q3, he, hq⟩ := h
  injection he with he
  injection he with he
  simp only [List.cons.injEq, Value.complex.injEq, and_true, true_and] at he
  obtain ⟨⟨rfl, rfl⟩, ⟨rfl, rfl⟩, ⟨rfl, rfl⟩, ⟨rfl, rfl⟩⟩ := he
  exact hq
/-- What the law asks of the numbers themselves. -/
theorem mirror {a0 b0 a1 b1 a2 b2 a3 b3 : Nat} {l : List Int} (h : Of4 (.agg #[.complex .f64 a0 b0, .complex .f64 a1 b1, .complex .f64 a2 b2, .complex .f64 a3 b3]) l) :
    FloatKind.f64.format.order a1 a3 = some .eq ∧ FloatKind.f64.format.order b1 (Op.negFloat .f64 b3) = some .eq ∧ FloatKind.f64.format.order b0 0 = some .eq ∧ FloatKind.f64.format.order b2 0 = some .eq := by
  obtain ⟨s0, s1, s2, s3, hl⟩ := list4 h.1.1
  obtain ⟨⟨r0, i0⟩, ⟨r1, i1⟩, ⟨r2, i2⟩, ⟨r3, i3⟩⟩ := h.2.reps
  rw [hl] at r0 i0 r1 i1 r2 i2 r3 i3
  obtain ⟨⟨c0, d0⟩, ⟨c1, d1⟩, ⟨c2, d2⟩, ⟨c3, d3⟩⟩ := fr4 s0 s1 s2 s3
  rw [c1] at r1
  rw [c3] at r3
  rw [d0] at i0
  rw [d1] at i1
  rw [d2] at i2
  rw [d3] at i3
  have n3 := neg_rep i3
  rw [show -(s3 - s1) = s1 - s3 by omega] at n3
  exact ⟨same_ord r1 r3, same_ord i1 n3, same_ord i0 rep_zero, same_ord i2 rep_zero⟩
theorem bytes_list2 {l : List Int} (h : ∀ x ∈ l, (Lit.int .u8 x).wf = true) : ByteList l := by
  intro i
  unfold rd
  by_cases c : i.toNat < l.length
  · have hm : l.getD i.toNat 0 ∈ l := by
      rw [List.getD_eq_getElem?_getD, List.getElem?_eq_getElem c]
      exact List.getElem_mem c
    have := h _ hm
    simpa [Lit.wf, IntKind.min, IntKind.max, IntKind.signed, IntKind.bits] using this
  · rw [List.getD_eq_getElem?_getD, List.getElem?_eq_none (by omega)]
    decide
end Go.Proofs.Ytacecaacpagokaa.Turn

namespace Go.Proofs.Ytacecaacpagokaa.Turn
open Go.RowKit Go.Proofs.Ytacecaacpagokaa.PlainFloat Go.Proofs.YtacecaacpagokaaW.PrintWords
set_option linter.unusedVariables false
theorem rd_left (a b : List Int) {j : Nat} (h : j < a.length) : rd (a ++ b) (j : Int) = rd a (j : Int) := by
  unfold rd
  rw [Int.toNat_natCast, List.getD_eq_getElem?_getD, List.getD_eq_getElem?_getD, List.getElem?_append_left h]
theorem rd_right (a b : List Int) (j : Nat) : rd (a ++ b) ((a.length + j : Nat) : Int) = rd b (j : Int) := by
  unfold rd
  rw [Int.toNat_natCast, Int.toNat_natCast, List.getD_eq_getElem?_getD, List.getD_eq_getElem?_getD, List.getElem?_append_right (by omega), Nat.add_sub_cancel_left]
theorem sm_left (a b : List Int) (r : Nat) : ∀ j, j ≤ a.length → sm (a ++ b) r j = sm a r j
  | 0, _ => rfl
  | j + 1, h => by
    simp only [sm]
    rw [sm_left a b r j (by omega), rd_left a b (by omega)]
theorem sm_right (a b : List Int) {r s : Nat} (hr : r < 4) (hs : s < 4) (h : (a.length + s) % 4 = r) : ∀ j, sm (a ++ b) r (a.length + j) = sm a r a.length + sm b s j
  | 0 => by
    show sm (a ++ b) r a.length = sm a r a.length + 0
    rw [sm_left a b r a.length (Nat.le_refl _), Int.add_zero]
  | j + 1 => by
    show sm (a ++ b) r (a.length + j) + (if (a.length + j) % 4 = r then rd (a ++ b) ((a.length + j : Nat) : Int) else 0) = sm a r a.length + (sm b s j + (if j % 4 = s then rd b (j : Int) else 0))
    rw [sm_right a b hr hs h j, rd_right]
    by_cases c : j % 4 = s
    · rw [if_pos c, if_pos (by omega)]
      omega
    · rw [if_neg c, if_neg (by omega)]
      omega
theorem four_append (a b : List Int) : four (a ++ b) = plus (four a) (rot (a.length : Int) (four b)) := by
  have hn : (a.length : Int) % 4 = 0 ∨ (a.length : Int) % 4 = 1 ∨ (a.length : Int) % 4 = 2 ∨ (a.length : Int) % 4 = 3 := by omega
  unfold four
  rw [List.length_append]
  unfold rot
  rcases hn with e | e | e | e
  · rw [e]
    simp only [if_true, plus]
    rw [sm_right a b (r := 0) (s := 0) (by omega) (by omega) (by omega), sm_right a b (r := 1) (s := 1) (by omega) (by omega) (by omega), sm_right a b (r := 2) (s := 2) (by omega) (by omega) (by omega), sm_right a b (r := 3) (s := 3) (by omega) (by omega) (by omega)]
  · rw [e]
    simp only [show ¬ (1 : Int) = 0 by decide, if_false, if_true, plus]
    rw [sm_right a b (r := 0) (s := 3) (by omega) (by omega) (by omega), sm_right a b (r := 1) (s := 0) (by omega) (by omega) (by omega), sm_right a b (r := 2) (s := 1) (by omega) (by omega) (by omega), sm_right a b (r := 3) (s := 2) (by omega) (by omega) (by omega)]
  · rw [e]
    simp only [show ¬ (2 : Int) = 0 by decide, show ¬ (2 : Int) = 1 by decide, if_false, if_true, plus]
    rw [sm_right a b (r := 0) (s := 2) (by omega) (by omega) (by omega), sm_right a b (r := 1) (s := 3) (by omega) (by omega) (by omega), sm_right a b (r := 2) (s := 0) (by omega) (by omega) (by omega), sm_right a b (r := 3) (s := 1) (by omega) (by omega) (by omega)]
  · rw [e]
    simp only [show ¬ (3 : Int) = 0 by decide, show ¬ (3 : Int) = 1 by decide, show ¬ (3 : Int) = 2 by decide, if_false, plus]
    rw [sm_right a b (r := 0) (s := 1) (by omega) (by omega) (by omega), sm_right a b (r := 1) (s := 2) (by omega) (by omega) (by omega), sm_right a b (r := 2) (s := 3) (by omega) (by omega) (by omega), sm_right a b (r := 3) (s := 0) (by omega) (by omega) (by omega)]
theorem sm_zeros (n r : Nat) : ∀ j, sm (List.replicate n 0) r j = 0
  | 0 => rfl
  | j + 1 => by
    simp only [sm]
    rw [sm_zeros n r j]
    have : rd (List.replicate n 0) (j : Int) = 0 := by
      unfold rd
      rw [List.getD_eq_getElem?_getD, List.getElem?_replicate]
      split <;> rfl
    rw [this]
    split <;> rfl
theorem plus_zero (s : List Int) (h : s.length = 4) : plus [0, 0, 0, 0] s = s := by
  obtain ⟨a, b, c, d, rfl⟩ := list4 h
  simp [plus]
theorem rot_length {l : List Int} (h : l.length = 4) (n : Int) : (rot n l).length = 4 := by
  obtain ⟨a, b, c, d, rfl⟩ := list4 h
  unfold rot
  dsimp only
  split
  · rfl
  split
  · rfl
  split <;> rfl
theorem four_zeros (n : Nat) (b : List Int) : four (List.replicate n 0 ++ b) = rot (n : Int) (four b) := by
  rw [four_append, List.length_replicate]
  have : four (List.replicate n 0) = [0, 0, 0, 0] := by
    unfold four
    rw [sm_zeros, sm_zeros, sm_zeros, sm_zeros]
  rw [this, plus_zero _ (rot_length rfl _)]
theorem byte_append {a b : List Int} (ha : ByteList a) (hb : ByteList b) : ByteList (a ++ b) := by
  intro i
  by_cases c : i.toNat < a.length
  · have := rd_left a b c
    have e : rd (a ++ b) i = rd (a ++ b) (i.toNat : Int) := by
      unfold rd
      rw [Int.toNat_natCast]
    rw [e, this]
    exact ha _
  · have := rd_right a b (i.toNat - a.length)
    have e : rd (a ++ b) i = rd (a ++ b) ((a.length + (i.toNat - a.length) : Nat) : Int) := by
      unfold rd
      rw [Int.toNat_natCast, show a.length + (i.toNat - a.length) = i.toNat by omega]
    rw [e, this]
    exact hb _
theorem byte_zeros (n : Nat) : ByteList (List.replicate n 0) := by
  intro i
  unfold rd
  rw [List.getD_eq_getElem?_getD, List.getElem?_replicate]
  split <;> exact ⟨by decide, by decide⟩
end Go.Proofs.Ytacecaacpagokaa.Turn
