/- The cyclic redundancy check in plain numbers: eight steps a byte, linear over xor, one to one; a table of sixteen. -/
import Derived.Test.YtbplffdmggbcdaaDoorPlain
namespace Go.Proofs.YtbplffdmggbcdaaDoor.Plain
open Go.RowKit Go.Proofs.YtbplffdmggbcdaaDoorW.PrintWords Go.Proofs.YtbplffdmggbcdaaDoorW.PrintMore

theorem xor_cancel (a b : Nat) : a ^^^ (a ^^^ b) = b := by rw [← Nat.xor_assoc, Nat.xor_self, Nat.zero_xor]
theorem xor_mod2 (a b : Nat) : (a ^^^ b) % 2 = (a % 2 + b % 2) % 2 := by
  have h := Nat.testBit_xor a b 0
  simp only [Nat.testBit_zero] at h
  have ha := Nat.mod_two_eq_zero_or_one a
  have hb := Nat.mod_two_eq_zero_or_one b
  have hc := Nat.mod_two_eq_zero_or_one (a ^^^ b)
  rcases ha with ha | ha <;> rcases hb with hb | hb <;> rcases hc with hc | hc <;> simp [ha, hb, hc] at h ⊢
/-- One step. -/
def cs (c : Nat) : Nat := if c % 2 = 1 then (c / 2) ^^^ 3988292384 else c / 2
theorem cs_xor (a b : Nat) : cs (a ^^^ b) = cs a ^^^ cs b := by
  unfold cs
  rw [xor_mod2, Nat.xor_div_two]
  rcases Nat.mod_two_eq_zero_or_one a with ha | ha <;> rcases Nat.mod_two_eq_zero_or_one b with hb | hb
  · simp [ha, hb]
  · simp [ha, hb, Nat.xor_assoc]
  · simp only [ha, hb]
    simp only [Nat.zero_ne_one, if_false, if_true]
    rw [Nat.xor_assoc, Nat.xor_assoc, Nat.xor_comm (b / 2)]
  · simp only [ha, hb, if_true]
    simp only [show (1 + 1) % 2 = 0 from rfl, Nat.zero_ne_one, if_false]
    rw [Nat.xor_assoc, Nat.xor_comm (b / 2), xor_cancel]
theorem cs_lt {c : Nat} (h : c < 4294967296) : cs c < 4294967296 := by
  unfold cs
  split
  · exact Nat.xor_lt_two_pow (n := 32) (by omega) (by omega)
  · omega
def cs4 (c : Nat) : Nat := cs (cs (cs (cs c)))
def cs8 (c : Nat) : Nat := cs4 (cs4 c)
theorem cs4_xor (a b : Nat) : cs4 (a ^^^ b) = cs4 a ^^^ cs4 b := by unfold cs4; simp only [cs_xor]
theorem cs4_lt {c : Nat} (h : c < 4294967296) : cs4 c < 4294967296 := cs_lt (cs_lt (cs_lt (cs_lt h)))
theorem cs8_lt {c : Nat} (h : c < 4294967296) : cs8 c < 4294967296 := cs4_lt (cs4_lt h)
theorem cs_even (q : Nat) : cs (2 * q) = q := by
  unfold cs
  rw [if_neg (by omega)]
  omega
theorem cs4_16 (q : Nat) : cs4 (16 * q) = q := by
  unfold cs4
  rw [show 16 * q = 2 * (8 * q) by omega, cs_even, show 8 * q = 2 * (4 * q) by omega, cs_even, show 4 * q = 2 * (2 * q) by omega, cs_even, cs_even]
theorem split16 (c : Nat) : c = (16 * (c / 16)) ^^^ (c % 16) := by
  have h : 16 * (c / 16) ||| c % 16 = 16 * (c / 16) + c % 16 := by
    have := Nat.two_pow_add_eq_or_of_lt (i := 4) (b := c % 16) (by omega) (c / 16)
    simpa using this.symm
  have hx : (16 * (c / 16)) ^^^ (c % 16) = (16 * (c / 16)) ||| (c % 16) := by
    apply Nat.eq_of_testBit_eq
    intro i
    rw [Nat.testBit_xor, Nat.testBit_or]
    have e : 16 * (c / 16) = 2 ^ 4 * (c / 16) := rfl
    by_cases hi : i < 4
    · rw [e, Nat.testBit_two_pow_mul]
      simp [show ¬ 4 ≤ i by omega]
    · have : (c % 16).testBit i = false := Nat.testBit_lt_two_pow (Nat.lt_of_lt_of_le (show c % 16 < 2 ^ 4 by omega) (Nat.pow_le_pow_right (by decide) (by omega)))
      simp [this]
  rw [hx, h]
  omega
/-- What four steps make of a number: of its last four bits, by the table; the others move on. -/
theorem cs4_table (c : Nat) : cs4 c = cs4 (c % 16) ^^^ (c / 16) := by
  have h : cs4 ((16 * (c / 16)) ^^^ (c % 16)) = cs4 (c % 16) ^^^ (c / 16) := by rw [cs4_xor, cs4_16, Nat.xor_comm]
  rwa [← split16] at h
/-- A byte more. -/
def cstep (c x : Nat) : Nat := cs8 (c ^^^ x)
def craw (c : Nat) : List Nat → Nat
  | [] => c
  | x :: l => craw (cstep c x) l
theorem craw_append (c : Nat) (a b : List Nat) : craw c (a ++ b) = craw (craw c a) b := by
  induction a generalizing c with
  | nil => rfl
  | cons x a ih => exact ih _
theorem cstep_lt {c x : Nat} (hc : c < 4294967296) (hx : x < 256) : cstep c x < 4294967296 := cs8_lt (Nat.xor_lt_two_pow (n := 32) hc (by omega))
theorem craw_lt {c : Nat} {l : List Nat} (hc : c < 4294967296) (hl : ∀ x ∈ l, x < 256) : craw c l < 4294967296 := by
  induction l generalizing c with
  | nil => exact hc
  | cons x l ih => exact ih (cstep_lt hc (hl x (by simp))) (fun y hy => hl y (by simp [hy]))
/-- The sum of bytes that goes on with a sum. -/
def csum (s : Nat) (l : List Nat) : Nat := craw (s ^^^ 4294967295) l ^^^ 4294967295
theorem csum_lt {s : Nat} {l : List Nat} (hs : s < 4294967296) (hl : ∀ x ∈ l, x < 256) : csum s l < 4294967296 := Nat.xor_lt_two_pow (n := 32) (craw_lt (Nat.xor_lt_two_pow (n := 32) hs (by omega)) hl) (by omega)
/-- A list of bytes as natural numbers. -/
def nat (l : List Int) : List Nat := l.map Int.toNat
theorem nat_lt {l : List Int} (h : Bytes l) : ∀ x ∈ nat l, x < 256 := by
  intro x hx
  obtain ⟨y, hy, rfl⟩ := List.mem_map.1 hx
  have := h y hy
  omega
theorem nat_append (a b : List Int) : nat (a ++ b) = nat a ++ nat b := by unfold nat; simp
/-- The sum of bytes, as a whole number. -/
def crc (s : Int) (l : List Int) : Int := (csum s.toNat (nat l) : Nat)
theorem crc_range {s : Int} {l : List Int} (h0 : 0 ≤ s) (h1 : s < 4294967296) (hl : Bytes l) : 0 ≤ crc s l ∧ crc s l < 4294967296 := by
  have := csum_lt (s := s.toNat) (by omega) (nat_lt hl)
  unfold crc
  omega
/-! ### the words of the program -/
theorem xor_nat (k : IntKind) (j : Nat) (hj : j ≤ k.bits) (hk : ∀ n : Int, 0 ≤ n → n < 2 ^ j → k.wrap n = n) (a b : Nat) (ha : a < 2 ^ j) (hb : b < 2 ^ j) : Go.bits .xor k a b = ((a ^^^ b : Nat) : Int) := by
  have hp : 2 ^ j ≤ 2 ^ k.bits := Nat.pow_le_pow_right (by decide) hj
  have ha' : a % 2 ^ k.bits = a := Nat.mod_eq_of_lt (Nat.lt_of_lt_of_le ha hp)
  have hb' : b % 2 ^ k.bits = b := Nat.mod_eq_of_lt (Nat.lt_of_lt_of_le hb hp)
  have cast : ∀ n : Nat, n < 2 ^ j → ((n : Nat) : Int) < 2 ^ j := fun n h => by exact_mod_cast h
  simp only [Go.bits, BitVec.ofInt_natCast, BitVec.toNat_xor, BitVec.toNat_ofNat, ha', hb']
  exact hk _ (Int.natCast_nonneg _) (cast _ (Nat.xor_lt_two_pow ha hb))
theorem wraps_u32 (n : Int) (h₀ : 0 ≤ n) (h₁ : n < 2 ^ 32) : IntKind.u32.wrap n = n := by rw [IntKind.wrap_u32]; omega
theorem xor_u32 {x y : Int} (x0 : 0 ≤ x) (x1 : x < 4294967296) (y0 : 0 ≤ y) (y1 : y < 4294967296) : Go.bits .xor .u32 x y = ((x.toNat ^^^ y.toNat : Nat) : Int) := by
  have := xor_nat .u32 32 (by decide) wraps_u32 x.toNat y.toNat (by omega) (by omega)
  rwa [Int.toNat_of_nonneg x0, Int.toNat_of_nonneg y0] at this
theorem and15_u32 {x : Int} (x0 : 0 ≤ x) (x1 : x < 4294967296) : Go.bits .and .u32 x 15 = x % 16 := bits_mask .u32 32 (by decide) wraps_u32 4 (by decide) x x0 x1
end Go.Proofs.YtbplffdmggbcdaaDoor.Plain
