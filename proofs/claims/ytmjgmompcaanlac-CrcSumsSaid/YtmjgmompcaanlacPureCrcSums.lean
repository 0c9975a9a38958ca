/- The sum of all bytes, and each sum that goes on, is what the reference says: the plain law over lists and numbers. No conditions. -/
import Derived.Test.YtmjgmompcaanlacPCrcSumsx1
import Derived.Test.YtmjgmompcaanlacPlain
import Derived.Test.YtmjgmompcaanlacPlainCrc
namespace Go.Proofs.Ytmjgmompcaanlac.Pure
open Go.RowKit Go.Proofs.Ytmjgmompcaanlac.PCrcSums Go.Proofs.Ytmjgmompcaanlac.Plain Go.Proofs.YtmjgmompcaanlacW.PrintWords Go.Proofs.YtmjgmompcaanlacW.PrintLast Go.Proofs.YtmjgmompcaanlacW.PrintMore

/-- n steps. -/
def csn : Nat → Nat → Nat
  | 0, c => c
  | n + 1, c => csn n (cs c)
theorem csn8 (c : Nat) : csn 8 c = cs8 c := rfl
theorem step_loop (d : Nat) : ∀ (k : Nat) (x i : Int), 0 ≤ x → x < 4294967296 → 0 ≤ i → 8 - i = d → d < k → skerryref02_step.l0 k x i = some ((csn d x.toNat : Nat) : Int) := by
  induction d with
  | zero =>
    intro k x i h0 h1 hi hd hk
    obtain ⟨k, rfl⟩ : ∃ m, k = m + 1 := ⟨k - 1, by omega⟩
    simp only [skerryref02_step.l0]
    rw [if_neg (by omega)]
    show some x = some ((x.toNat : Nat) : Int)
    rw [Int.toNat_of_nonneg h0]
  | succ d ih =>
    intro k x i h0 h1 hi hd hk
    obtain ⟨k, rfl⟩ : ∃ m, k = m + 1 := ⟨k - 1, by omega⟩
    have hl := cs_lt (c := x.toNat) (by omega)
    simp only [skerryref02_step.l0]
    rw [if_pos (by omega), Int.tmod_eq_emod_of_nonneg h0, Int.tdiv_eq_ediv_of_nonneg h0, w64 (x := x / 2) (by omega) (by omega), w64 (x := i + 1) (by omega) (by omega)]
    show _ = some ((csn d (cs x.toNat) : Nat) : Int)
    have e : ∀ z : Int, z = ((cs x.toNat : Nat) : Int) → skerryref02_step.l0 k z (i + 1) = some ((csn d (cs x.toNat) : Nat) : Int) := by
      intro z hz
      rw [ih k z (i + 1) (by omega) (by omega) (by omega) (by omega) (by omega), hz, Int.toNat_natCast]
    by_cases c : x % 2 = 1
    · rw [if_pos c]
      apply e
      rw [xor_i64 (by omega) (by omega) (by omega) (by omega)]
      unfold cs
      rw [if_pos (by omega), show (x / 2).toNat = x.toNat / 2 by omega]
      rfl
    · rw [if_neg c]
      apply e
      unfold cs
      rw [if_neg (by omega)]
      omega
theorem step_is {x b : Int} (h0 : 0 ≤ x) (h1 : x < 4294967296) (b0 : 0 ≤ b) (b1 : b < 256) {k : Nat} (hk : 8 < k) : skerryref02_step.f k x b = some ((cstep x.toNat b.toNat : Nat) : Int) := by
  unfold skerryref02_step.f
  have hl : x.toNat ^^^ b.toNat < 4294967296 := Nat.xor_lt_two_pow (n := 32) (by omega) (by omega)
  rw [w64 (by omega) (by omega), xor_i64 h0 h1 b0 (by omega), step_loop 8 k _ 0 (by omega) (by omega) (by omega) (by omega) hk, csn8, Int.toNat_natCast]
  rfl
theorem nat_drop {l : List Int} {i : Int} (h0 : 0 ≤ i) (h : i < (l.length : Int)) : nat (l.drop i.toNat) = (rd l i).toNat :: nat (l.drop (i + 1).toNat) := by
  rw [List.drop_eq_getElem_cons (by omega), rd_get (by omega), show (i + 1).toNat = i.toNat + 1 by omega]
  rfl
theorem roll_is {s : Int} {l : List Int} (h0 : 0 ≤ s) (h1 : s < 4294967296) (hl : Bytes l) : crc_roll.f s l = some (crc s l) := by
  unfold crc_roll.f
  rw [if_pos ⟨h0, h1⟩, if_pos hl]
theorem sum_is {l : List Int} (hl : Bytes l) : crc_Sum.f l = some (crc 0 l) := by
  have h := crc_range (s := 0) (by omega) (by omega) hl
  unfold crc_Sum.f
  rw [roll_is (by omega) (by omega) hl]
  simp only [Option.bind_some]
  rw [w64 (by omega) (by omega)]
theorem rsum_loop {l : List Int} (hl : Bytes l) (hs : l.length ≤ 140737488351232) (d : Nat) : ∀ (k : Nat) (x i : Int), 0 ≤ x → x < 4294967296 → 0 ≤ i → (l.length : Int) - i = d → d + 10 < k →
    skerryref02_Sum.l0 k l x i = some ((craw x.toNat (nat (l.drop i.toNat)) ^^^ 4294967295 : Nat) : Int) := by
  induction d with
  | zero =>
    intro k x i h0 h1 hi hd hk
    obtain ⟨k, rfl⟩ : ∃ m, k = m + 1 := ⟨k - 1, by omega⟩
    simp only [skerryref02_Sum.l0]
    rw [if_neg (by omega), xor_i64 h0 h1 (by omega) (by omega), List.drop_eq_nil_of_le (by omega)]
    rfl
  | succ d ih =>
    intro k x i h0 h1 hi hd hk
    obtain ⟨k, rfl⟩ : ∃ m, k = m + 1 := ⟨k - 1, by omega⟩
    have hr := hl.rd i
    have hc := cstep_lt (c := x.toNat) (x := (rd l i).toNat) (by omega) (by omega)
    simp only [skerryref02_Sum.l0]
    rw [if_pos (by omega), if_pos hi, step_is h0 h1 hr.1 hr.2 (by omega)]
    simp only [Option.bind_some]
    rw [w64 (by omega) (by omega), ih k _ (i + 1) (by omega) (by omega) (by omega) (by omega) (by omega), nat_drop hi (by omega), Int.toNat_natCast]
    rfl
theorem rsum_is {l : List Int} (hl : Bytes l) (hs : l.length ≤ 140737488351232) {k : Nat} (hk : l.length + 10 < k) : skerryref02_Sum.f k l = some (crc 0 l) := by
  unfold skerryref02_Sum.f
  rw [rsum_loop hl hs l.length k 4294967295 0 (by omega) (by omega) (by omega) (by omega) hk]
  unfold crc csum
  rfl
theorem radd_loop {l : List Int} (hl : Bytes l) (hs : l.length ≤ 140737488351232) (d : Nat) : ∀ (k : Nat) (x i : Int), 0 ≤ x → x < 4294967296 → 0 ≤ i → (l.length : Int) - i = d → d + 10 < k →
    skerryref02_Add.l0 k l x i = some (((craw x.toNat (nat (l.drop i.toNat)) ^^^ 4294967295 : Nat) : Int), 0) := by
  induction d with
  | zero =>
    intro k x i h0 h1 hi hd hk
    obtain ⟨k, rfl⟩ : ∃ m, k = m + 1 := ⟨k - 1, by omega⟩
    simp only [skerryref02_Add.l0]
    rw [if_neg (by omega), xor_i64 h0 h1 (by omega) (by omega), List.drop_eq_nil_of_le (by omega)]
    rfl
  | succ d ih =>
    intro k x i h0 h1 hi hd hk
    obtain ⟨k, rfl⟩ : ∃ m, k = m + 1 := ⟨k - 1, by omega⟩
    have hr := hl.rd i
    have hc := cstep_lt (c := x.toNat) (x := (rd l i).toNat) (by omega) (by omega)
    simp only [skerryref02_Add.l0]
    rw [if_pos (by omega), if_pos hi, step_is h0 h1 hr.1 hr.2 (by omega)]
    simp only [Option.bind_some]
    rw [w64 (by omega) (by omega), ih k _ (i + 1) (by omega) (by omega) (by omega) (by omega) (by omega), nat_drop hi (by omega), Int.toNat_natCast]
    rfl
theorem ones_nat : (4294967295 : Int).toNat = 4294967295 := by decide
theorem radd_is {s : Int} {l : List Int} (hl : Bytes l) (hs : l.length ≤ 140737488351232) (h0 : 0 ≤ s) (h1 : s < 4294967296) {k : Nat} (hk : l.length + 20 < k) : skerryref02_Add.f k s l = some (crc s l, 0) := by
  obtain ⟨k, rfl⟩ : ∃ m, k = m + 1 := ⟨k - 1, by omega⟩
  have hx : s.toNat ^^^ 4294967295 < 4294967296 := Nat.xor_lt_two_pow (n := 32) (by omega) (by omega)
  have e := xor_i64 h0 h1 (y := 4294967295) (by omega) (by omega)
  rw [ones_nat] at e
  unfold skerryref02_Add.f
  rw [if_neg (by omega), decide_eq_false (by omega)]
  simp only [skerryref02_Add.j0, Bool.false_eq_true, if_false]
  rw [e, radd_loop hl (by omega) l.length _ _ 0 (by omega) (by omega) (by omega) (by omega) (by omega), Int.toNat_natCast]
  rfl
theorem add_neg {s : Int} (l : List Int) (h : s < 0) (k : Nat) : crc_Add.f s l = some (0, 3) ∧ skerryref02_Add.f (k + 1) s l = some (0, 3) := by
  unfold crc_Add.f skerryref02_Add.f
  rw [if_pos h, if_pos h]
  simp [skerryref02_Add.j0]
theorem add_big {s : Int} (l : List Int) (h : 4294967296 ≤ s) (k : Nat) : crc_Add.f s l = some (0, 3) ∧ skerryref02_Add.f (k + 1) s l = some (0, 3) := by
  have h1 : ¬ s < 0 := by omega
  have h2 : ¬ s / 4294967296 = 0 := by omega
  have h3 : decide (s > 4294967295) = true := decide_eq_true (by omega)
  unfold crc_Add.f skerryref02_Add.f
  rw [if_neg h1, if_neg h1, if_neg h2, h3]
  simp [skerryref02_Add.j0]
theorem add_is {s : Int} {l : List Int} (hl : Bytes l) (h0 : 0 ≤ s) (h1 : s < 4294967296) : crc_Add.f s l = some (crc s l, 0) := by
  have h := crc_range h0 h1 hl
  have g1 : ¬ s < 0 := by omega
  have g2 : s / 4294967296 = 0 := by omega
  have g3 : s % 4294967296 = s := by omega
  unfold crc_Add.f
  rw [if_neg g1, if_pos g2, g3, roll_is h0 h1 hl]
  simp only [Option.bind_some]
  rw [w64 (by omega) (by omega)]
theorem CrcSums : skerrylaw02_CrcSums.Pure := by
  intro s l hs hm hlen hwf
  have hl := bytes_wf hwf
  have hs := i64_wf hs
  obtain ⟨k, hk⟩ : ∃ k, k + 1 = l.length + 50 := ⟨l.length + 49, rfl⟩
  refine ⟨k + 1, ?_⟩
  have e : ∃ r, crc_Add.f s l = some r ∧ skerryref02_Add.f (k + 1) s l = some r := by
    by_cases c1 : s < 0
    · exact ⟨_, add_neg l c1 k⟩
    · by_cases c2 : s < 4294967296
      · exact ⟨_, add_is hl (by omega) c2, radd_is hl (by omega) (by omega) c2 (by omega)⟩
      · exact ⟨_, add_big l (by omega) k⟩
  obtain ⟨r, e1, e2⟩ := e
  unfold skerrylaw02_CrcSums.f
  rw [e1, e2, sum_is hl, rsum_is hl (by omega) (by omega)]
  simp [skerrylaw02_wakes.f]

end Go.Proofs.Ytmjgmompcaanlac.Pure
