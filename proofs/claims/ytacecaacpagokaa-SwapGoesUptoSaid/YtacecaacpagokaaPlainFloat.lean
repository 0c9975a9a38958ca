/- Whole numbers below 2^53 as words of IEEE double: sums, differences, products, a quarter, comparisons are exact. This session's own words. -/
import Ieee.Arith
namespace Go.Proofs.Ytacecaacpagokaa.PlainFloat
open Ieee Ieee.Datum
/-- The rung of a whole number below 2^53. -/
def irung (n : Nat) : Nat := if n = 0 then 0 else (n.log2 + 1022) * 2 ^ 52 + n * 2 ^ (52 - n.log2)
/-- A datum is a whole number. -/
def IsInt : Datum → Bool → Nat → Prop
  | number s m p, t, n => s = t ∧ ((0 ≤ p ∧ m * 2 ^ p.toNat = n) ∨ (p ≤ 0 ∧ m = n * 2 ^ (-p).toNat))
  | _, _, _ => False
theorem log2_lt {n : Nat} (h0 : n ≠ 0) (h : n < 2 ^ 53) : n.log2 ≤ 52 := by
  have := (Nat.log2_lt h0 (k := 53)).2 h
  omega
theorem log2_mul_pow {n : Nat} (h0 : n ≠ 0) (k : Nat) : (n * 2 ^ k).log2 = n.log2 + k := by
  induction k with
  | zero => simp
  | succ k ih => 
    have h1 : n * 2 ^ k ≠ 0 := Nat.mul_ne_zero h0 (by have := Nat.two_pow_pos k; omega)
    rw [Nat.pow_succ, ← Nat.mul_assoc, Nat.mul_comm _ 2, Nat.log2_two_mul h1, ih]
    omega
theorem lp : double.leastPlace = -1074 := by decide
theorem bin : double.binade = 2 ^ 52 := rfl
theorem inf : double.infRung = 2047 * 2 ^ 52 := by decide
theorem rung_bounds {n : Nat} (h0 : n ≠ 0) (h : n < 2 ^ 53) : 2 ^ 52 ≤ n * 2 ^ (52 - n.log2) ∧ n * 2 ^ (52 - n.log2) < 2 ^ 53 := by
  have hl := log2_lt h0 h
  have h1 := Nat.log2_self_le h0
  have h2 : n < 2 ^ (n.log2 + 1) := (Nat.log2_lt h0).1 (by omega)
  have e1 : 2 ^ 52 = 2 ^ n.log2 * 2 ^ (52 - n.log2) := by rw [← Nat.pow_add]; congr 1; omega
  have e2 : 2 ^ 53 = 2 ^ (n.log2 + 1) * 2 ^ (52 - n.log2) := by rw [← Nat.pow_add]; congr 1; omega
  have hp := Nat.two_pow_pos (52 - n.log2)
  rw [e1, e2]
  exact ⟨Nat.mul_le_mul_right _ h1, Nat.mul_lt_mul_of_pos_right h2 hp⟩
theorem irung_lt {n : Nat} (h : n < 2 ^ 53) : irung n < 2047 * 2 ^ 52 := by
  unfold irung
  by_cases h0 : n = 0
  · rw [if_pos h0]; omega
  · rw [if_neg h0]
    have := rung_bounds h0 h
    have := log2_lt h0 h
    omega
theorem nearest_int {s : Bool} {m : Nat} {p : Int} {n : Nat} (hi : IsInt (number s m p) s n) (hn : n < 2 ^ 53) : double.nearest s m p = double.word s (irung n) := by
  obtain ⟨_, hi⟩ := hi
  unfold Format.nearest irung
  by_cases h0 : n = 0
  · have hm : m = 0 := by
      rcases hi with ⟨_, h⟩ | ⟨_, h⟩
      · rw [h0] at h
        rcases Nat.mul_eq_zero.1 h with h | h
        · exact h
        · have := Nat.two_pow_pos p.toNat; omega
      · rw [h, h0, Nat.zero_mul]
    rw [if_pos hm, if_pos h0]
  · have hm : m ≠ 0 := by
      intro hm
      rcases hi with ⟨_, h⟩ | ⟨_, h⟩
      · rw [hm, Nat.zero_mul] at h; exact h0 h.symm
      · rw [hm] at h
        rcases Nat.mul_eq_zero.1 h.symm with h | h
        · exact h0 h
        · have := Nat.two_pow_pos (-p).toNat; omega
    have hlog : p + m.log2 = n.log2 := by
      rcases hi with ⟨hp, h⟩ | ⟨hp, h⟩
      · rw [← h, log2_mul_pow hm]; omega
      · rw [h, log2_mul_pow h0]; omega
    have hb := rung_bounds h0 hn
    have hl := log2_lt h0 hn
    rw [if_neg hm, if_neg h0]
    dsimp only
    have e52 : double.fractionBits = 52 := rfl
    have elast : max (p + m.log2 - (double.fractionBits : Int)) double.leastPlace = (n.log2 : Int) - 52 := by
      rw [lp, e52, hlog]; omega
    rw [elast, lp]
    have e1 : ((n.log2 : Int) - 52 - (-1074)).toNat = n.log2 + 1022 := by omega
    rw [e1, bin, inf]
    have ekept : Toward.even.cut s (m <<< (p - ((n.log2 : Int) - 52)).toNat) (((n.log2 : Int) - 52) - p).toNat = n * 2 ^ (52 - n.log2) := by
      by_cases c : (n.log2 : Int) - 52 ≤ p
      · have e0 : (((n.log2 : Int) - 52) - p).toNat = 0 := by omega
        rw [e0, Nat.shiftLeft_eq]
        have ev : m * 2 ^ (p - ((n.log2 : Int) - 52)).toNat = n * 2 ^ (52 - n.log2) := by
          rcases hi with ⟨hp, h⟩ | ⟨hp, h⟩
          · rw [← h, Nat.mul_assoc, ← Nat.pow_add]
            congr 2
            rw [h]; omega
          · rw [h, Nat.mul_assoc, ← Nat.pow_add]
            congr 2
            omega
        rw [ev]
        unfold Toward.cut
        simp [Nat.mod_one]
      · have e0 : (p - ((n.log2 : Int) - 52)).toNat = 0 := by omega
        rw [e0, Nat.shiftLeft_zero]
        have ev : m = n * 2 ^ (52 - n.log2) * 2 ^ (((n.log2 : Int) - 52) - p).toNat := by
          rcases hi with ⟨hp, h⟩ | ⟨hp, h⟩
          · omega
          · rw [h, Nat.mul_assoc, ← Nat.pow_add]
            congr 2
            omega
        generalize (((n.log2 : Int) - 52) - p).toNat = d at ev
        have hd : d ≤ m.log2 := by
          rw [ev, log2_mul_pow (by omega)]; omega
        unfold Toward.cut
        dsimp only
        rw [show min d (m.log2 + 2) = d by omega, Nat.one_shiftLeft]
        have hp := Nat.two_pow_pos d
        have hr : m % 2 ^ d = 0 := by rw [ev]; exact Nat.mul_mod_left _ _
        have hq : m / 2 ^ d = n * 2 ^ (52 - n.log2) := by rw [ev]; exact Nat.mul_div_cancel _ hp
        rw [hr, hq]
        have c1 : decide (2 ^ d < 2 * 0) = false := by simp
        have c2 : (2 ^ d == 2 * 0) = false := by simp
        rw [c1, c2]
        simp
    rw [ekept]
    congr 1
    omega
theorem sw : double.signWeight = 2 ^ 63 := rfl
theorem read_word {s : Bool} {n : Nat} (hn : n < 2 ^ 53) : ∃ m p, double.read (double.word s (irung n)) = number s m p ∧ IsInt (number s m p) s n ∧ p ≤ 0 := by
  have hr := irung_lt hn
  have hneg : (double.word s (irung n) / double.signWeight % 2 == 1) = s := by
    unfold Format.word
    rw [sw]
    cases s
    · rw [if_neg (by decide), Nat.div_eq_of_lt (by omega)]; rfl
    · rw [if_pos rfl, Nat.add_div_left _ (by decide), Nat.div_eq_of_lt (by omega)]; rfl
  have hmod : double.word s (irung n) % double.signWeight = irung n := by
    unfold Format.word
    rw [sw]
    cases s
    · rw [if_neg (by decide)]; omega
    · rw [if_pos rfl]; omega
  unfold Format.read
  dsimp only
  rw [hneg, hmod, bin, inf, lp]
  by_cases h0 : n = 0
  · have e : irung n = 0 := by unfold irung; rw [if_pos h0]
    rw [e, if_pos (by decide)]
    exact ⟨0, -1074, rfl, ⟨rfl, Or.inr ⟨by decide, by rw [h0, Nat.zero_mul]⟩⟩, by decide⟩
  · have hb := rung_bounds h0 hn
    have hl := log2_lt h0 hn
    have e : irung n = (n.log2 + 1022) * 2 ^ 52 + n * 2 ^ (52 - n.log2) := by unfold irung; rw [if_neg h0]
    generalize hq : n * 2 ^ (52 - n.log2) = q at *
    rw [if_neg (by omega), if_pos (by omega)]
    have e1 : 2 ^ 52 + irung n % 2 ^ 52 = q := by omega
    have e2 : irung n / 2 ^ 52 = n.log2 + 1023 := by omega
    rw [e1, e2]
    refine ⟨_, _, rfl, ⟨rfl, ?_⟩, by omega⟩
    rw [← hq]
    have e3 : (-1074 : Int) + ((n.log2 + 1023 - 1 : Nat) : Int) = (n.log2 : Int) - 52 := by omega
    rw [e3]
    refine Or.inr ⟨by omega, ?_⟩
    rw [show (-((n.log2 : Int) - 52)).toNat = 52 - n.log2 by omega]

/-! ### whole numbers as words -/
/-- The word x stands for the whole number a. -/
def Rep (x : Nat) (a : Int) : Prop := ∃ (s : Bool) (n : Nat), n < 2 ^ 53 ∧ x = double.word s (irung n) ∧ a = if s then -(n : Int) else n
def sgn (s : Bool) (n : Nat) : Int := if s then -(n : Int) else n
theorem Rep.read {x : Nat} {a : Int} (h : Rep x a) : ∃ s m p n, double.read x = number s m p ∧ IsInt (number s m p) s n ∧ p ≤ 0 ∧ n < 2 ^ 53 ∧ a = sgn s n := by
  obtain ⟨s, n, hn, rfl, rfl⟩ := h
  obtain ⟨m, p, h1, h2, h3⟩ := read_word (s := s) hn
  exact ⟨s, m, p, n, h1, h2, h3, hn, rfl⟩
theorem Rep.of_int {s : Bool} {m : Nat} {p : Int} {n : Nat} (h : IsInt (number s m p) s n) (hn : n < 2 ^ 53) : Rep (double.write (number s m p)) (sgn s n) :=
  ⟨s, n, hn, nearest_int h hn, rfl⟩
theorem signed_units {s : Bool} {m n : Nat} {p base : Int} (h : IsInt (number s m p) s n) (hb : base ≤ p) (h0 : base ≤ 0) : signed s m (p - base).toNat = sgn s (n * 2 ^ (-base).toNat) := by
  have e : m <<< (p - base).toNat = n * 2 ^ (-base).toNat := by
    rw [Nat.shiftLeft_eq]
    rcases h.2 with ⟨hp, h⟩ | ⟨hp, h⟩
    · rw [← h, Nat.mul_assoc, ← Nat.pow_add, show p.toNat + (-base).toNat = (p - base).toNat by omega]
    · rw [h, Nat.mul_assoc, ← Nat.pow_add, show (-p).toNat + (p - base).toNat = (-base).toNat by omega]
  unfold signed sgn
  rw [e]
theorem sgn_mul (s : Bool) (n k : Nat) : sgn s (n * k) = sgn s n * k := by
  unfold sgn
  cases s <;> simp [Int.neg_mul]
theorem sum_int {s t : Bool} {m k n l : Nat} {i j : Int} (h1 : IsInt (number s m i) s n) (h2 : IsInt (number t k j) t l) (hi : i ≤ 0) (hj : j ≤ 0) :
    ∃ sg M b, Datum.sum (number s m i) (number t k j) = some (number sg M b) ∧ IsInt (number sg M b) sg (sgn s n + sgn t l).natAbs ∧ sgn sg (sgn s n + sgn t l).natAbs = sgn s n + sgn t l := by
  have e1 := signed_units h1 (base := min i j) (by omega) (by omega)
  have e2 := signed_units h2 (base := min i j) (by omega) (by omega)
  have hp := Nat.two_pow_pos (-(min i j)).toNat
  unfold Datum.sum
  dsimp only
  rw [e1, e2, sgn_mul, sgn_mul, ← Int.add_mul]
  generalize sgn s n + sgn t l = a
  refine ⟨_, _, _, rfl, ⟨rfl, Or.inr ⟨by omega, ?_⟩⟩, ?_⟩
  · rw [Int.natAbs_mul]
    rfl
  · have hpos : (0 : Int) < ((2 ^ (-(min i j)).toNat : Nat) : Int) := by omega
    by_cases c : a = 0
    · subst c
      rw [Int.zero_mul, if_pos rfl]
      cases (s && t) <;> rfl
    · have c2 : a * ((2 ^ (-(min i j)).toNat : Nat) : Int) ≠ 0 := Int.mul_ne_zero c (by omega)
      rw [if_neg c2]
      by_cases d : a < 0
      · have d2 : a * ((2 ^ (-(min i j)).toNat : Nat) : Int) < 0 := Int.mul_neg_of_neg_of_pos d hpos
        rw [decide_eq_true d2]
        unfold sgn
        rw [if_pos rfl]
        omega
      · have d2 : ¬ a * ((2 ^ (-(min i j)).toNat : Nat) : Int) < 0 := by
          have := Int.mul_nonneg (show 0 ≤ a by omega) (show 0 ≤ ((2 ^ (-(min i j)).toNat : Nat) : Int) by omega)
          omega
        rw [decide_eq_false d2]
        unfold sgn
        rw [if_neg (by decide)]
        omega

theorem Rep.add {x y : Nat} {a b : Int} (hx : Rep x a) (hy : Rep y b) (h : (a + b).natAbs < 2 ^ 53) : ∃ z, double.add x y = some z ∧ Rep z (a + b) := by
  obtain ⟨s, m, i, n, r1, i1, p1, _, rfl⟩ := hx.read
  obtain ⟨t, k, j, l, r2, i2, p2, _, rfl⟩ := hy.read
  obtain ⟨sg, M, c, e, hi, hs⟩ := sum_int i1 i2 p1 p2
  refine ⟨double.write (number sg M c), ?_, ?_⟩
  · unfold Format.add
    rw [r1, r2, e]
    rfl
  · have := Rep.of_int hi h
    rwa [hs] at this
theorem opp {s : Bool} {m n : Nat} {p : Int} (h : IsInt (number s m p) s n) : IsInt (number (!s) m p) (!s) n := ⟨rfl, h.2⟩
theorem sgn_not (s : Bool) (n : Nat) : sgn (!s) n = -sgn s n := by
  unfold sgn
  cases s <;> simp
theorem Rep.sub {x y : Nat} {a b : Int} (hx : Rep x a) (hy : Rep y b) (h : (a - b).natAbs < 2 ^ 53) : ∃ z, double.sub x y = some z ∧ Rep z (a - b) := by
  obtain ⟨s, m, i, n, r1, i1, p1, _, rfl⟩ := hx.read
  obtain ⟨t, k, j, l, r2, i2, p2, _, rfl⟩ := hy.read
  obtain ⟨sg, M, c, e, hi, hs⟩ := sum_int i1 (opp i2) p1 p2
  rw [sgn_not, ← Int.sub_eq_add_neg] at hi hs
  refine ⟨double.write (number sg M c), ?_, ?_⟩
  · unfold Format.sub
    rw [r1, r2]
    show ((number s m i).sum (number (!t) k j)).map double.write = _
    rw [e]
    rfl
  · have := Rep.of_int hi h
    rwa [hs] at this
theorem sgn_xor (s t : Bool) (n l : Nat) : sgn (s ^^ t) (n * l) = sgn s n * sgn t l := by
  unfold sgn
  cases s <;> cases t <;> simp [Int.neg_mul, Int.mul_neg]
theorem sgn_abs (s : Bool) (n : Nat) : (sgn s n).natAbs = n := by
  unfold sgn
  cases s <;> simp
theorem Rep.mul {x y : Nat} {a b : Int} (hx : Rep x a) (hy : Rep y b) (h : (a * b).natAbs < 2 ^ 53) : ∃ z, double.mul x y = some z ∧ Rep z (a * b) := by
  obtain ⟨s, m, i, n, r1, i1, p1, _, rfl⟩ := hx.read
  obtain ⟨t, k, j, l, r2, i2, p2, _, rfl⟩ := hy.read
  rw [← sgn_xor, sgn_abs] at h
  refine ⟨double.write (number (s ^^ t) (m * k) (i + j)), ?_, ?_⟩
  · unfold Format.mul
    rw [r1, r2]
    rfl
  · rw [← sgn_xor]
    refine Rep.of_int ⟨rfl, Or.inr ⟨by omega, ?_⟩⟩ h
    have form : ∀ {u : Bool} {q z : Nat} {c : Int}, IsInt (number u q c) u z → c ≤ 0 → q = z * 2 ^ (-c).toNat := by
      intro u q z c hh hc
      rcases hh.2 with ⟨g, e⟩ | ⟨_, e⟩
      · have : c = 0 := by omega
        subst this
        simpa using e
      · exact e
    rw [form i1 p1, form i2 p2, show (-(i + j)).toNat = (-i).toNat + (-j).toNat by omega, Nat.pow_add, Nat.mul_mul_mul_comm]
theorem order_int {s t : Bool} {m k n l : Nat} {i j : Int} (h1 : IsInt (number s m i) s n) (h2 : IsInt (number t k j) t l) (hi : i ≤ 0) (hj : j ≤ 0) :
    Datum.order (number s m i) (number t k j) = some (compare (sgn s n) (sgn t l)) := by
  have e1 := signed_units h1 (base := min i j) (by omega) (by omega)
  have e2 := signed_units h2 (base := min i j) (by omega) (by omega)
  have hp := Nat.two_pow_pos (-(min i j)).toNat
  unfold Datum.order
  dsimp only
  rw [e1, e2, sgn_mul, sgn_mul]
  generalize sgn s n = a
  generalize sgn t l = b
  congr 1
  have hpos : (0 : Int) < ((2 ^ (-(min i j)).toNat : Nat) : Int) := by omega
  generalize ((2 ^ (-(min i j)).toNat : Nat) : Int) = z at hpos
  have lt : ∀ a b : Int, a * z < b * z ↔ a < b := fun a b => Int.mul_lt_mul_right hpos
  simp only [compare, compareOfLessAndEq, lt]
  have eq : a * z = b * z ↔ a = b := ⟨fun h => Int.eq_of_mul_eq_mul_right (by omega) h, fun h => by rw [h]⟩
  simp only [eq]
theorem Rep.order {x y : Nat} {a b : Int} (hx : Rep x a) (hy : Rep y b) : double.order x y = some (compare a b) := by
  obtain ⟨s, m, i, n, r1, i1, p1, _, rfl⟩ := hx.read
  obtain ⟨t, k, j, l, r2, i2, p2, _, rfl⟩ := hy.read
  unfold Format.order
  rw [r1, r2, order_int i1 i2 p1 p2]
theorem Rep.ofInt {a : Int} (h : a.natAbs < 2 ^ 53) : Rep (double.write (number (a < 0) a.natAbs 0)) a := by
  have := Rep.of_int (s := decide (a < 0)) (m := a.natAbs) (p := 0) ⟨rfl, Or.inl ⟨by decide, by simp⟩⟩ h
  rwa [show sgn (decide (a < 0)) a.natAbs = a by unfold sgn; by_cases c : a < 0 <;> simp [c] <;> omega] at this
theorem Rep.toInt {x : Nat} {a : Int} (hx : Rep x a) : (double.read x).toInt .zero = some a := by
  obtain ⟨s, m, i, n, r1, i1, p1, _, rfl⟩ := hx.read
  rw [r1]
  unfold Datum.toInt Datum.integral
  dsimp only
  congr 1
  have e : m = n * 2 ^ (-i).toNat := by
    rcases i1.2 with ⟨g, e⟩ | ⟨_, e⟩
    · have : i = 0 := by omega
      subst this
      simpa using e
    · exact e
  rw [show i.toNat = 0 by omega, Nat.shiftLeft_zero]
  unfold Toward.cut signed sgn
  dsimp only
  have hq : m / (1 <<< min (-i).toNat (m.log2 + 2)) = n := by
    by_cases h0 : n = 0
    · rw [e, h0, Nat.zero_mul, Nat.zero_div]
    · have hl : m.log2 = n.log2 + (-i).toNat := by rw [e, log2_mul_pow h0]
      rw [show min (-i).toNat (m.log2 + 2) = (-i).toNat by omega, Nat.one_shiftLeft, e]
      exact Nat.mul_div_cancel _ (Nat.two_pow_pos _)
  rw [hq]
  simp

theorem log2_53 {n : Nat} (h0 : n ≠ 0) (h : n < 2 ^ 53) : n.log2 ≤ 52 := log2_lt h0 h
theorem four_read : double.read 4616189618054758400 = number false (2 ^ 52) (-50) := by decide
theorem mag_lt (x : Nat) {s : Bool} {m : Nat} {p : Int} (h : double.read x = number s m p) : m < 2 ^ 53 := by
  unfold Format.read at h
  dsimp only at h
  rw [bin] at h
  split at h
  · injection h with _ h _
    omega
  · split at h
    · injection h with _ h _
      have := Nat.mod_lt (x % double.signWeight) (show 0 < 2 ^ 52 by decide)
      omega
    · split at h <;> cases h
theorem Rep.quarter {x : Nat} {a : Int} (hx : Rep x (4 * a)) : ∃ z, double.div x 4616189618054758400 = some z ∧ Rep z a := by
  obtain ⟨s, m, i, n, r1, i1, p1, hn, ha⟩ := hx.read
  have hm := mag_lt x r1
  have e : m = n * 2 ^ (-i).toNat := by
    rcases i1.2 with ⟨g, e⟩ | ⟨_, e⟩
    · have : i = 0 := by omega
      subst this
      simpa using e
    · exact e
  obtain ⟨b, rfl⟩ : ∃ b, n = 4 * b := ⟨a.natAbs, by rw [show n = (sgn s n).natAbs from (sgn_abs s n).symm, ← ha]; omega⟩
  have hl : m.log2 ≤ 52 := by
    by_cases h0 : m = 0
    · rw [h0]; decide
    · exact log2_53 h0 hm
  have ea : a = sgn s b := by
    unfold sgn at ha ⊢
    cases s <;> simp at ha ⊢ <;> omega
  rw [ea]
  unfold Format.div
  rw [r1, four_read]
  unfold Datum.quotient
  dsimp only
  rw [if_neg (by decide), show double.fractionBits = 52 from rfl, show (2 ^ 52 : Nat).log2 = 52 by decide]
  obtain ⟨q, hq⟩ : ∃ q, 52 + 2 + 52 - m.log2 = q + 52 := ⟨54 - m.log2, by omega⟩
  rw [hq, Nat.shiftLeft_eq, Nat.pow_add, ← Nat.mul_assoc, Nat.mul_div_cancel _ (by decide), Nat.mul_mod_left]
  refine ⟨_, rfl, ?_⟩
  have hs : (s ^^ false) = s := by cases s <;> rfl
  rw [hs]
  refine Rep.of_int ⟨rfl, Or.inr ⟨by omega, ?_⟩⟩ (by omega)
  rw [e, show (-(i - -50 - ((q + 52 : Nat) : Int) - 1)).toNat = 2 + (-i).toNat + q + 1 - 0 - 0 by omega]
  simp only [Nat.sub_zero, Nat.pow_add]
  show 2 * (4 * b * 2 ^ (-i).toNat * 2 ^ q) + 0 = b * (4 * 2 ^ (-i).toNat * 2 ^ q * 2)
  rw [Nat.add_zero]
  simp only [Nat.mul_left_comm, Nat.mul_comm]
end Go.Proofs.Ytacecaacpagokaa.PlainFloat
