/- The spectrum of bytes as whole numbers, and cells that hold four complex numbers. This session's own words. -/
import Derived.Test.YtmjgmompcaanlaaTPower
import Derived.Test.YtmjgmompcaanlaaWWords
namespace Go.Proofs.Ytmjgmompcaanlaa.Turn
open Go.RowKit Go.Proofs.Ytmjgmompcaanlaa.PlainFloat Go.Proofs.YtmjgmompcaanlaaW.PrintWords
/-- The parts of the q-th number of the spectrum of the first j bytes. -/
def fr (l : List Int) (q : Nat) : Nat → Int
  | 0 => 0
  | j + 1 => fr l q j + (rd l (j : Int) * pr ((q : Int) * ((j : Int) % 4)) - 0 * pi ((q : Int) * ((j : Int) % 4)))
def fi (l : List Int) (q : Nat) : Nat → Int
  | 0 => 0
  | j + 1 => fi l q j + (rd l (j : Int) * pi ((q : Int) * ((j : Int) % 4)) + 0 * pr ((q : Int) * ((j : Int) % 4)))
def ByteList (l : List Int) : Prop := ∀ i : Int, 0 ≤ rd l i ∧ rd l i ≤ 255
theorem small_mul {c p : Int} (h0 : 0 ≤ c) (h1 : c ≤ 255) (p0 : -1 ≤ p) (p1 : p ≤ 1) : -255 ≤ c * p ∧ c * p ≤ 255 := by
  have : p = -1 ∨ p = 0 ∨ p = 1 := by omega
  rcases this with rfl | rfl | rfl <;> omega
theorem fr_small {l : List Int} (h : ByteList l) (q j : Nat) : -255 * (j : Int) ≤ fr l q j ∧ fr l q j ≤ 255 * j := by
  induction j with
  | zero => exact ⟨by simp [fr], by simp [fr]⟩
  | succ j ih =>
    have hb := h j
    have hp := pr_small ((q : Int) * ((j : Int) % 4))
    have := small_mul hb.1 hb.2 hp.1 hp.2
    simp only [fr, Int.zero_mul]
    omega
theorem fi_small {l : List Int} (h : ByteList l) (q j : Nat) : -255 * (j : Int) ≤ fi l q j ∧ fi l q j ≤ 255 * j := by
  induction j with
  | zero => exact ⟨by simp [fi], by simp [fi]⟩
  | succ j ih =>
    have hb := h j
    have hp := pi_small ((q : Int) * ((j : Int) % 4))
    have := small_mul hb.1 hb.2 hp.1 hp.2
    simp only [fi, Int.zero_mul]
    omega
/-- Four complex numbers in a block. -/
def Holds (t : TypeId) (W : World) (g : Nat) (x y : Nat → Int) : Prop :=
  ∃ cs : Array Value, cs.size = 4 ∧ W.heap[g]? = some (.cells cs t (0, 0)) ∧ ∀ q, q < 4 → ∃ a b, cs[q]? = some (.complex .f64 a b) ∧ Rep a (x q) ∧ Rep b (y q)
theorem Holds.cell {t : TypeId} {W : World} {g : Nat} {x y : Nat → Int} (h : Holds t W g x y) {q : Nat} (hq : q < 4) :
    ∃ a b, W.cell? ⟨g, q, none⟩ = some (.complex .f64 a b) ∧ Rep a (x q) ∧ Rep b (y q) ∧ W.frozen? ⟨g, q, none⟩ = false := by
  obtain ⟨cs, hs, hb, hc⟩ := h
  obtain ⟨a, b, e, r1, r2⟩ := hc q hq
  exact ⟨a, b, (blk_cell hb q).trans e, r1, r2, blk_frozen hb q⟩
theorem Holds.put {t : TypeId} {W : World} {g : Nat} {x y x' y' : Nat → Int} (h : Holds t W g x y) {q : Nat} (hq : q < 4) {a b : Nat} (ha : Rep a (x' q)) (hb : Rep b (y' q)) (hx : ∀ p, p < 4 → p ≠ q → x' p = x p ∧ y' p = y p) :
    Holds t (W.setCell ⟨g, q, none⟩ (.complex .f64 a b)) g x' y' := by
  obtain ⟨cs, hs, hk, hc⟩ := h
  refine ⟨cs.setIfInBounds q (.complex .f64 a b), by simp [hs], blk_set hk q _, fun p hp => ?_⟩
  by_cases e : p = q
  · subst e
    exact ⟨a, b, by simp [hs, hp], ha, hb⟩
  · obtain ⟨a1, b1, e1, r1, r2⟩ := hc p hp
    obtain ⟨z1, z2⟩ := hx p hp e
    refine ⟨a1, b1, ?_, z1 ▸ r1, z2 ▸ r2⟩
    rw [Array.getElem?_setIfInBounds_ne (Ne.symm e)]
    exact e1
theorem Holds.to {t : TypeId} {W W' : World} {g : Nat} {x y : Nat → Int} (h : Holds t W g x y) (e : W'.heap[g]? = W.heap[g]?) : Holds t W' g x y := by
  obtain ⟨cs, hs, hk, hc⟩ := h
  exact ⟨cs, hs, e.trans hk, hc⟩
theorem Holds.same {t : TypeId} {W : World} {g : Nat} {x y x' y' : Nat → Int} (h : Holds t W g x y) (e : ∀ q, q < 4 → x' q = x q ∧ y' q = y q) : Holds t W g x' y' := by
  obtain ⟨cs, hs, hk, hc⟩ := h
  refine ⟨cs, hs, hk, fun q hq => ?_⟩
  obtain ⟨a, b, e1, r1, r2⟩ := hc q hq
  obtain ⟨z1, z2⟩ := e q hq
  exact ⟨a, b, e1, z1 ▸ r1, z2 ▸ r2⟩
theorem Holds.lt {t : TypeId} {W : World} {g : Nat} {x y : Nat → Int} (h : Holds t W g x y) : g < W.heap.size := by
  obtain ⟨cs, hs, hk, hc⟩ := h
  exact blk_lt hk
theorem Holds.four {t : TypeId} {W : World} {g : Nat} {x y : Nat → Int} (h : Holds t W g x y) : ∃ a0 b0 a1 b1 a2 b2 a3 b3, W.heap[g]? = some (.cells #[.complex .f64 a0 b0, .complex .f64 a1 b1, .complex .f64 a2 b2, .complex .f64 a3 b3] t (0, 0)) ∧ (Rep a0 (x 0) ∧ Rep b0 (y 0)) ∧ (Rep a1 (x 1) ∧ Rep b1 (y 1)) ∧ (Rep a2 (x 2) ∧ Rep b2 (y 2)) ∧ (Rep a3 (x 3) ∧ Rep b3 (y 3)) := by
  obtain ⟨cs, hs, hk, hc⟩ := h
  obtain ⟨a0, b0, e0, r0, s0⟩ := hc 0 (by omega)
  obtain ⟨a1, b1, e1, r1, s1⟩ := hc 1 (by omega)
  obtain ⟨a2, b2, e2, r2, s2⟩ := hc 2 (by omega)
  obtain ⟨a3, b3, e3, r3, s3⟩ := hc 3 (by omega)
  refine ⟨a0, b0, a1, b1, a2, b2, a3, b3, ?_, ⟨r0, s0⟩, ⟨r1, s1⟩, ⟨r2, s2⟩, ⟨r3, s3⟩⟩
  rw [hk]
  congr 2
  apply Array.ext_getElem?
  intro i
  match i with
  | 0 => exact e0
  | 1 => exact e1
  | 2 => exact e2
  | 3 => exact e3
  | n + 4 => rw [Array.getElem?_eq_none (by omega)]; rfl
theorem Holds.zero {t : TypeId} {W : World} {g : Nat} (h : W.heap[g]? = some (.cells #[.complex .f64 0 0, .complex .f64 0 0, .complex .f64 0 0, .complex .f64 0 0] t (0, 0))) : Holds t W g (fun _ => 0) (fun _ => 0) := by
  refine ⟨_, rfl, h, fun q hq => ⟨0, 0, ?_, rep_zero, rep_zero⟩⟩
  match q, hq with
  | 0, _ => rfl
  | 1, _ => rfl
  | 2, _ => rfl
  | 3, _ => rfl
/-- A value is four complex numbers. -/
def SpecV (v : Value) (x y : Nat → Int) : Prop := ∃ a0 b0 a1 b1 a2 b2 a3 b3, v = .agg #[.complex .f64 a0 b0, .complex .f64 a1 b1, .complex .f64 a2 b2, .complex .f64 a3 b3] ∧ (Rep a0 (x 0) ∧ Rep b0 (y 0)) ∧ (Rep a1 (x 1) ∧ Rep b1 (y 1)) ∧ (Rep a2 (x 2) ∧ Rep b2 (y 2)) ∧ (Rep a3 (x 3) ∧ Rep b3 (y 3))
theorem below_set' {B : Nat} {w W : World} (h : Below B w W) {a : Addr} (ha : B ≤ a.block) (v : Value) : Below B w (W.setCell a v) := h.setCell ha v
theorem Holds.of_four {t : TypeId} {W : World} {g : Nat} {x y : Nat → Int} {a0 b0 a1 b1 a2 b2 a3 b3 : Nat} (hk : W.heap[g]? = some (.cells #[.complex .f64 a0 b0, .complex .f64 a1 b1, .complex .f64 a2 b2, .complex .f64 a3 b3] t (0, 0)))
    (h : (Rep a0 (x 0) ∧ Rep b0 (y 0)) ∧ (Rep a1 (x 1) ∧ Rep b1 (y 1)) ∧ (Rep a2 (x 2) ∧ Rep b2 (y 2)) ∧ (Rep a3 (x 3) ∧ Rep b3 (y 3))) : Holds t W g x y := by
  refine ⟨_, rfl, hk, fun q hq => ?_⟩
  match q, hq with
  | 0, _ => exact ⟨a0, b0, rfl, h.1⟩
  | 1, _ => exact ⟨a1, b1, rfl, h.2.1⟩
  | 2, _ => exact ⟨a2, b2, rfl, h.2.2.1⟩
  | 3, _ => exact ⟨a3, b3, rfl, h.2.2.2⟩
end Go.Proofs.Ytmjgmompcaanlaa.Turn
