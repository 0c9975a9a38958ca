/- The cyclic redundancy check in plain numbers: eight steps a byte, linear over xor, one to one; a table of sixteen. -/
import Derived.Test.YtacecaacpagokaaPlain
namespace Go.Proofs.Ytacecaacpagokaa.Plain
open Go.RowKit Go.Proofs.YtacecaacpagokaaW.PrintWords Go.Proofs.YtacecaacpagokaaW.PrintMore

theorem xor_left_comm (a b c : Nat) : a ^^^ (b ^^^ c) = b ^^^ (a ^^^ c) := by rw [← Nat.xor_assoc, Nat.xor_comm a b, Nat.xor_assoc]
theorem xor_cancel (a b : Nat) : a ^^^ (a ^^^ b) = b := by rw [← Nat.xor_assoc, Nat.xor_self, Nat.zero_xor]
theorem xor_right_cancel {a b c : Nat} (h : a ^^^ c = b ^^^ c) : a = b := by
  have := congrArg (fun x => c ^^^ x) h
  simp only [Nat.xor_comm _ c] at this
  rwa [xor_cancel, xor_cancel] at this
theorem xor_zero_iff {a b : Nat} (h : a ^^^ b = 0) : a = b := by
  have : a ^^^ b = b ^^^ b := by rw [h, Nat.xor_self]
  exact xor_right_cancel this
theorem xor_mod2 (a b : Nat) : (a ^^^ b) % 2 = (a % 2 + b % 2) % 2 := by
  have h := Nat.testBit_xor a b 0
  simp only [Nat.testBit_zero] at h
  have ha := Nat.mod_two_eq_zero_or_one a
  have hb := Nat.mod_two_eq_zero_or_one b
  have hc := Nat.mod_two_eq_zero_or_one (a ^^^ b)
  rcases ha with ha | ha <;> rcases hb with hb | hb <;> rcases hc with hc | hc <;> simp [ha, hb, hc] at h ⊢
/-- One step. -/
def cs (c : Nat) : Nat := if c % 2 = 1 then (c / 2) ^^^ 3988292384 else c / 2
theorem cs_xor (a b : Nat) : cs (a ^^^ b) = cs a ^^^ cs b := by
  unfold cs
  rw [xor_mod2, Nat.xor_div_two]
  rcases Nat.mod_two_eq_zero_or_one a with ha | ha <;> rcases Nat.mod_two_eq_zero_or_one b with hb | hb
  · simp [ha, hb]
  · simp [ha, hb, Nat.xor_assoc]
  · simp only [ha, hb]
    simp only [Nat.zero_ne_one, if_false, if_true]
    rw [Nat.xor_assoc, Nat.xor_assoc, Nat.xor_comm (b / 2)]
  · simp only [ha, hb, if_true]
    simp only [show (1 + 1) % 2 = 0 from rfl, Nat.zero_ne_one, if_false]
    rw [Nat.xor_assoc, Nat.xor_comm (b / 2), xor_cancel]
theorem cs_zero : cs 0 = 0 := rfl
theorem cs_lt {c : Nat} (h : c < 4294967296) : cs c < 4294967296 := by
  unfold cs
  split
  · exact Nat.xor_lt_two_pow (n := 32) (by omega) (by omega)
  · omega
theorem cs_ne {c : Nat} (h : c < 4294967296) (h0 : cs c = 0) : c = 0 := by
  unfold cs at h0
  split at h0
  · have := xor_zero_iff h0
    omega
  · omega
theorem cs_inj {a b : Nat} (ha : a < 4294967296) (hb : b < 4294967296) (h : cs a = cs b) : a = b := by
  apply xor_zero_iff
  apply cs_ne (Nat.xor_lt_two_pow (n := 32) ha hb)
  rw [cs_xor, h, Nat.xor_self]
def cs4 (c : Nat) : Nat := cs (cs (cs (cs c)))
def cs8 (c : Nat) : Nat := cs4 (cs4 c)
theorem cs4_xor (a b : Nat) : cs4 (a ^^^ b) = cs4 a ^^^ cs4 b := by unfold cs4; simp only [cs_xor]
theorem cs8_xor (a b : Nat) : cs8 (a ^^^ b) = cs8 a ^^^ cs8 b := by unfold cs8; simp only [cs4_xor]
theorem cs4_lt {c : Nat} (h : c < 4294967296) : cs4 c < 4294967296 := cs_lt (cs_lt (cs_lt (cs_lt h)))
theorem cs8_lt {c : Nat} (h : c < 4294967296) : cs8 c < 4294967296 := cs4_lt (cs4_lt h)
theorem cs4_inj {a b : Nat} (ha : a < 4294967296) (hb : b < 4294967296) (h : cs4 a = cs4 b) : a = b :=
  cs_inj ha hb (cs_inj (cs_lt ha) (cs_lt hb) (cs_inj (cs_lt (cs_lt ha)) (cs_lt (cs_lt hb)) (cs_inj (cs_lt (cs_lt (cs_lt ha))) (cs_lt (cs_lt (cs_lt hb))) h)))
theorem cs8_inj {a b : Nat} (ha : a < 4294967296) (hb : b < 4294967296) (h : cs8 a = cs8 b) : a = b := cs4_inj ha hb (cs4_inj (cs4_lt ha) (cs4_lt hb) h)
theorem cs_even (q : Nat) : cs (2 * q) = q := by
  unfold cs
  rw [if_neg (by omega)]
  omega
theorem cs4_16 (q : Nat) : cs4 (16 * q) = q := by
  unfold cs4
  rw [show 16 * q = 2 * (8 * q) by omega, cs_even, show 8 * q = 2 * (4 * q) by omega, cs_even, show 4 * q = 2 * (2 * q) by omega, cs_even, cs_even]
theorem split16 (c : Nat) : c = (16 * (c / 16)) ^^^ (c % 16) := by
  have h : 16 * (c / 16) ||| c % 16 = 16 * (c / 16) + c % 16 := by
    have := Nat.two_pow_add_eq_or_of_lt (i := 4) (b := c % 16) (by omega) (c / 16)
    simpa using this.symm
  have hx : (16 * (c / 16)) ^^^ (c % 16) = (16 * (c / 16)) ||| (c % 16) := by
    apply Nat.eq_of_testBit_eq
    intro i
    rw [Nat.testBit_xor, Nat.testBit_or]
    have e : 16 * (c / 16) = 2 ^ 4 * (c / 16) := rfl
    by_cases hi : i < 4
    · rw [e, Nat.testBit_two_pow_mul]
      simp [show ¬ 4 ≤ i by omega]
    · have : (c % 16).testBit i = false := Nat.testBit_lt_two_pow (Nat.lt_of_lt_of_le (show c % 16 < 2 ^ 4 by omega) (Nat.pow_le_pow_right (by decide) (by omega)))
      simp [this]
  rw [hx, h]
  omega
/-- What four steps make of a number: of its last four bits, by the table; the others move on. -/
theorem cs4_table (c : Nat) : cs4 c = cs4 (c % 16) ^^^ (c / 16) := by
  have h : cs4 ((16 * (c / 16)) ^^^ (c % 16)) = cs4 (c % 16) ^^^ (c / 16) := by rw [cs4_xor, cs4_16, Nat.xor_comm]
  rwa [← split16] at h
/-- A byte more. -/
def cstep (c x : Nat) : Nat := cs8 (c ^^^ x)
def craw (c : Nat) : List Nat → Nat
  | [] => c
  | x :: l => craw (cstep c x) l
theorem craw_append (c : Nat) (a b : List Nat) : craw c (a ++ b) = craw (craw c a) b := by
  induction a generalizing c with
  | nil => rfl
  | cons x a ih => exact ih _
theorem cstep_lt {c x : Nat} (hc : c < 4294967296) (hx : x < 256) : cstep c x < 4294967296 := cs8_lt (Nat.xor_lt_two_pow (n := 32) hc (by omega))
theorem craw_lt {c : Nat} {l : List Nat} (hc : c < 4294967296) (hl : ∀ x ∈ l, x < 256) : craw c l < 4294967296 := by
  induction l generalizing c with
  | nil => exact hc
  | cons x l ih => exact ih (cstep_lt hc (hl x (by simp))) (fun y hy => hl y (by simp [hy]))
theorem cstep_xor (a b x y : Nat) : cstep (a ^^^ b) (x ^^^ y) = cstep a x ^^^ cstep b y := by
  unfold cstep
  rw [← cs8_xor]
  congr 1
  simp only [Nat.xor_assoc, xor_left_comm]
theorem craw_xor (a b : Nat) : ∀ (l m : List Nat), l.length = m.length → craw (a ^^^ b) (List.zipWith (· ^^^ ·) l m) = craw a l ^^^ craw b m := by
  intro l
  induction l generalizing a b with
  | nil =>
    intro m h
    cases m with
    | nil => rfl
    | cons _ _ => exact absurd h (by simp)
  | cons x l ih =>
    intro m h
    cases m with
    | nil => exact absurd h (by simp)
    | cons y m =>
      rw [List.zipWith_cons_cons]
      show craw (cstep (a ^^^ b) (x ^^^ y)) _ = craw (cstep a x) l ^^^ craw (cstep b y) m
      rw [cstep_xor]
      exact ih _ _ m (Nat.succ.inj h)
theorem craw_inj {l : List Nat} (hl : ∀ x ∈ l, x < 256) : ∀ {a b : Nat}, a < 4294967296 → b < 4294967296 → craw a l = craw b l → a = b := by
  induction l with
  | nil => intro a b _ _ h; exact h
  | cons x l ih =>
    intro a b ha hb h
    have h1 := ih (fun y hy => hl y (by simp [hy])) (cstep_lt ha (hl x (by simp))) (cstep_lt hb (hl x (by simp))) h
    have hx : x < 4294967296 := by have := hl x (by simp); omega
    have A : a ^^^ x < 4294967296 := Nat.xor_lt_two_pow (n := 32) ha hx
    have B : b ^^^ x < 4294967296 := Nat.xor_lt_two_pow (n := 32) hb hx
    unfold cstep at h1
    exact xor_right_cancel (cs8_inj A B h1)
theorem cstep_byte {c x y : Nat} (hc : c < 4294967296) (hx : x < 256) (hy : y < 256) (h : cstep c x = cstep c y) : x = y := by
  have A : c ^^^ x < 4294967296 := Nat.xor_lt_two_pow (n := 32) hc (by omega)
  have B : c ^^^ y < 4294967296 := Nat.xor_lt_two_pow (n := 32) hc (by omega)
  unfold cstep at h
  have h1 := cs8_inj A B h
  rw [Nat.xor_comm c, Nat.xor_comm c] at h1
  exact xor_right_cancel h1
/-- The sum of bytes that goes on with a sum. -/
def csum (s : Nat) (l : List Nat) : Nat := craw (s ^^^ 4294967295) l ^^^ 4294967295
theorem csum_lt {s : Nat} {l : List Nat} (hs : s < 4294967296) (hl : ∀ x ∈ l, x < 256) : csum s l < 4294967296 := Nat.xor_lt_two_pow (n := 32) (craw_lt (Nat.xor_lt_two_pow (n := 32) hs (by omega)) hl) (by omega)
theorem csum_append (s : Nat) (a b : List Nat) : csum s (a ++ b) = csum (csum s a) b := by
  unfold csum
  rw [craw_append, Nat.xor_assoc, Nat.xor_self, Nat.xor_zero]
/-- A list of bytes as natural numbers. -/
def nat (l : List Int) : List Nat := l.map Int.toNat
theorem nat_lt {l : List Int} (h : Bytes l) : ∀ x ∈ nat l, x < 256 := by
  intro x hx
  obtain ⟨y, hy, rfl⟩ := List.mem_map.1 hx
  have := h y hy
  omega
theorem nat_append (a b : List Int) : nat (a ++ b) = nat a ++ nat b := by unfold nat; simp
/-- The sum of bytes, as a whole number. -/
def crc (s : Int) (l : List Int) : Int := (csum s.toNat (nat l) : Nat)
theorem crc_range {s : Int} {l : List Int} (h0 : 0 ≤ s) (h1 : s < 4294967296) (hl : Bytes l) : 0 ≤ crc s l ∧ crc s l < 4294967296 := by
  have := csum_lt (s := s.toNat) (by omega) (nat_lt hl)
  unfold crc
  omega
theorem crc_append {s : Int} (a b : List Int) : crc s (a ++ b) = crc (crc s a) b := by
  unfold crc
  rw [nat_append, csum_append]
  simp
/-- One byte that is turned makes another sum. -/
theorem crc_flip {s : Int} {l : List Int} (h0 : 0 ≤ s) (h1 : s < 4294967296) (hl : Bytes l) {i : Int} (i1 : i.toNat < l.length) {v : Int} (v0 : 0 ≤ v) (v1 : v < 256) (hv : v ≠ rd l i) : crc s (l.set i.toNat v) ≠ crc s l := by
  intro h
  unfold crc csum at h
  have hr := hl.rd i
  have e1 : l.set i.toNat v = l.take i.toNat ++ v :: l.drop (i.toNat + 1) := by rw [List.set_eq_take_append_cons_drop, if_pos i1]
  have e2 : l = l.take i.toNat ++ rd l i :: l.drop (i.toNat + 1) := by
    rw [rd_get i1]
    simp
  have hs : s.toNat ^^^ 4294967295 < 4294967296 := Nat.xor_lt_two_pow (n := 32) (by omega) (by omega)
  have hp := craw_lt hs (nat_lt (hl.take i.toNat))
  have h2 := xor_right_cancel (Int.ofNat.inj h)
  rw [e1] at h2
  conv at h2 => rhs; rw [e2]
  rw [nat_append, nat_append, craw_append, craw_append] at h2
  have h3 : cstep (craw (s.toNat ^^^ 4294967295) (nat (l.take i.toNat))) v.toNat = cstep (craw (s.toNat ^^^ 4294967295) (nat (l.take i.toNat))) (rd l i).toNat :=
    craw_inj (nat_lt (hl.drop (i.toNat + 1))) (cstep_lt hp (by omega)) (cstep_lt hp (by omega)) h2
  have := cstep_byte hp (by omega) (by omega) h3
  omega
theorem xor3 (a b c o : Nat) : (a ^^^ b ^^^ c) ^^^ o = (a ^^^ o) ^^^ (b ^^^ o) ^^^ (c ^^^ o) := by
  have e : ∀ x y : Nat, (x ^^^ o) ^^^ (y ^^^ o) = x ^^^ y := by
    intro x y
    rw [Nat.xor_comm y o, Nat.xor_assoc, xor_cancel]
  rw [e a b, Nat.xor_assoc (a ^^^ b) c o]
theorem zip_zero (l : List Nat) : List.zipWith (· ^^^ ·) l (List.replicate l.length 0) = l := by
  induction l with
  | nil => rfl
  | cons x l ih => simp [List.replicate_succ, ih]
/-- Sums go over xor. -/
theorem csum_xor {a b : List Nat} (h : a.length = b.length) : csum 0 (List.zipWith (· ^^^ ·) a b) = csum 0 a ^^^ csum 0 b ^^^ csum 0 (List.replicate a.length 0) := by
  unfold csum
  rw [← xor3]
  congr 1
  have e : List.zipWith (· ^^^ ·) (List.zipWith (· ^^^ ·) a b) (List.replicate a.length 0) = List.zipWith (· ^^^ ·) a b := by
    have := zip_zero (List.zipWith (· ^^^ ·) a b)
    rwa [List.length_zipWith, ← h, Nat.min_self] at this
  have h1 := craw_xor (0 ^^^ 4294967295) (0 ^^^ 4294967295) a b h
  have h2 := craw_xor ((0 ^^^ 4294967295) ^^^ (0 ^^^ 4294967295)) (0 ^^^ 4294967295) (List.zipWith (· ^^^ ·) a b) (List.replicate a.length 0) (by simp [h])
  rw [e, h1] at h2
  rw [← h2]
  rfl
/-! ### the words of the program -/
theorem xor_nat (k : IntKind) (j : Nat) (hj : j ≤ k.bits) (hk : ∀ n : Int, 0 ≤ n → n < 2 ^ j → k.wrap n = n) (a b : Nat) (ha : a < 2 ^ j) (hb : b < 2 ^ j) : Go.bits .xor k a b = ((a ^^^ b : Nat) : Int) := by
  have hp : 2 ^ j ≤ 2 ^ k.bits := Nat.pow_le_pow_right (by decide) hj
  have ha' : a % 2 ^ k.bits = a := Nat.mod_eq_of_lt (Nat.lt_of_lt_of_le ha hp)
  have hb' : b % 2 ^ k.bits = b := Nat.mod_eq_of_lt (Nat.lt_of_lt_of_le hb hp)
  have cast : ∀ n : Nat, n < 2 ^ j → ((n : Nat) : Int) < 2 ^ j := fun n h => by exact_mod_cast h
  simp only [Go.bits, BitVec.ofInt_natCast, BitVec.toNat_xor, BitVec.toNat_ofNat, ha', hb']
  exact hk _ (Int.natCast_nonneg _) (cast _ (Nat.xor_lt_two_pow ha hb))
theorem wraps_u32 (n : Int) (h₀ : 0 ≤ n) (h₁ : n < 2 ^ 32) : IntKind.u32.wrap n = n := by rw [IntKind.wrap_u32]; omega
theorem wraps_i64 (n : Int) (h₀ : 0 ≤ n) (h₁ : n < 2 ^ 63) : IntKind.i64.wrap n = n := by rw [IntKind.wrap_i64]; omega
theorem xor_u32 {x y : Int} (x0 : 0 ≤ x) (x1 : x < 4294967296) (y0 : 0 ≤ y) (y1 : y < 4294967296) : Go.bits .xor .u32 x y = ((x.toNat ^^^ y.toNat : Nat) : Int) := by
  have := xor_nat .u32 32 (by decide) wraps_u32 x.toNat y.toNat (by omega) (by omega)
  rwa [Int.toNat_of_nonneg x0, Int.toNat_of_nonneg y0] at this
theorem xor_u8 {x y : Int} (x0 : 0 ≤ x) (x1 : x < 256) (y0 : 0 ≤ y) (y1 : y < 256) : Go.bits .xor .u8 x y = ((x.toNat ^^^ y.toNat : Nat) : Int) := by
  have := xor_nat .u8 8 (by decide) wraps_u8 x.toNat y.toNat (by omega) (by omega)
  rwa [Int.toNat_of_nonneg x0, Int.toNat_of_nonneg y0] at this
theorem xor_i64 {x y : Int} (x0 : 0 ≤ x) (x1 : x < 4294967296) (y0 : 0 ≤ y) (y1 : y < 4294967296) : Go.bits .xor .i64 x y = ((x.toNat ^^^ y.toNat : Nat) : Int) := by
  have := xor_nat .i64 63 (by decide) wraps_i64 x.toNat y.toNat (by omega) (by omega)
  rwa [Int.toNat_of_nonneg x0, Int.toNat_of_nonneg y0] at this
theorem and15_u32 {x : Int} (x0 : 0 ≤ x) (x1 : x < 4294967296) : Go.bits .and .u32 x 15 = x % 16 := bits_mask .u32 32 (by decide) wraps_u32 4 (by decide) x x0 x1
end Go.Proofs.Ytacecaacpagokaa.Plain
