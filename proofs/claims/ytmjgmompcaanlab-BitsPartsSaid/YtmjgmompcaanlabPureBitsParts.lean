/- The count of the ones, and the first 0, of every part of all bytes: the program's bits.Count and bits.First answer as the reference does: the plain law over lists and numbers. No conditions. -/
import Derived.Test.YtmjgmompcaanlabPBitsPartsx2
import Derived.Test.YtmjgmompcaanlabPlain
namespace Go.Proofs.Ytmjgmompcaanlab.Pure
open Go.RowKit Go.Proofs.Ytmjgmompcaanlab.PBitsParts Go.Proofs.Ytmjgmompcaanlab.Plain Go.Proofs.YtmjgmompcaanlabW.PrintWords Go.Proofs.YtmjgmompcaanlabW.PrintLast Go.Proofs.YtmjgmompcaanlabW.PrintMore

theorem wakes_is : skerrylaw04_wakes.f 40 = some true := by decide +kernel
theorem wakes_all {k : Nat} (hk : 40 ≤ k) : skerrylaw04_wakes.f k = some true := at_rounds skerrylaw04_wakes.mono hk wakes_is
theorem bit_loop (x1 : Int) (d : Nat) : ∀ (k : Nat) (x5 x6 : Int), 0 ≤ x5 → x5 < 256 → 0 ≤ x6 → Int.tmod x1 8 - x6 = d → d < k →
    skerryref04_bit.l0 k x1 x5 x6 = some (x5 / 2 ^ d % 2 == 1) := by
  induction d with
  | zero =>
    intro k x5 x6 h0 h1 h2 hd hk
    obtain ⟨k, rfl⟩ : ∃ m, k = m + 1 := ⟨k - 1, by omega⟩
    simp only [skerryref04_bit.l0]
    rw [if_neg (by omega), Int.tmod_eq_emod_of_nonneg h0]
    simp
  | succ d ih =>
    intro k x5 x6 h0 h1 h2 hd hk
    obtain ⟨k, rfl⟩ : ∃ m, k = m + 1 := ⟨k - 1, by omega⟩
    simp only [skerryref04_bit.l0]
    have hm : Int.tmod x1 8 < 8 := Int.tmod_lt_of_pos _ (by omega)
    rw [if_pos (by omega), Int.tdiv_eq_ediv_of_nonneg h0, w64 (x := x5 / 2) (by omega) (by omega), w64 (x := x6 + 1) (by omega) (by omega)]
    rw [ih k (x5 / 2) (x6 + 1) (by omega) (by omega) (by omega) (by omega) (by omega)]
    rw [Int.pow_succ, Int.mul_comm, ← Int.ediv_ediv_of_nonneg (by omega)]
theorem bit_is {l : List Int} (hl : Bytes l) {i : Int} (h0 : 0 ≤ i) (h1 : i < 8 * (l.length : Int)) (h2 : l.length ≤ 140737488351232) {k : Nat} (hk : 8 < k) : skerryref04_bit.f k l i = some (bitAt l i == 1) := by
  have hr := hl.rd (i / 8)
  unfold skerryref04_bit.f
  rw [Int.tdiv_eq_ediv_of_nonneg h0, w64 (x := i / 8) (by omega) (by omega), if_pos (by omega), if_pos (by omega), w64 (x := rd l (i / 8)) (by omega) (by omega)]
  rw [bit_loop i (i % 8).toNat k _ 0 hr.1 hr.2 (by omega) (by rw [Int.tmod_eq_emod_of_nonneg h0]; omega) (by omega)]
  rfl
theorem cnt_is {l : List Int} {from_ to_ : Int} (h0 : 0 ≤ from_) (h1 : from_ ≤ to_) (h2 : to_ ≤ 8 * (l.length : Int)) (hl : Bytes l) (hs : l.length ≤ 140737488351232) : bits_Count.f l from_ to_ = some (bits_Count.cnt l (to_ - from_).toNat from_, 0) := by
  unfold bits_Count.f
  have hl' : ∀ x ∈ l, 0 ≤ x ∧ x < 256 := hl
  rw [if_pos hl', if_pos hs, if_pos ⟨h0, h1, h2⟩]
theorem cnt_out {l : List Int} {from_ to_ : Int} (h : ¬ (0 ≤ from_ ∧ from_ ≤ to_ ∧ to_ ≤ 8 * (l.length : Int))) (hl : Bytes l) (hs : l.length ≤ 140737488351232) : bits_Count.f l from_ to_ = some (0, 2) := by
  unfold bits_Count.f
  have hl' : ∀ x ∈ l, 0 ≤ x ∧ x < 256 := hl
  rw [if_pos hl', if_pos hs, if_neg h]
theorem first_is {l : List Int} {from_ to_ : Int} (h0 : 0 ≤ from_) (h1 : from_ ≤ to_) (h2 : to_ ≤ 8 * (l.length : Int)) (hl : Bytes l) (hs : l.length ≤ 140737488351232) : bits_First.f l from_ to_ = some (bits_First.fz l (to_ - from_).toNat from_) := by
  unfold bits_First.f
  have hl' : ∀ x ∈ l, 0 ≤ x ∧ x < 256 := hl
  rw [if_pos hl', if_pos hs, if_pos ⟨h0, h1, h2⟩]
theorem first_out {l : List Int} {from_ to_ : Int} (h : ¬ (0 ≤ from_ ∧ from_ ≤ to_ ∧ to_ ≤ 8 * (l.length : Int))) (hl : Bytes l) (hs : l.length ≤ 140737488351232) : bits_First.f l from_ to_ = some (0, 2) := by
  unfold bits_First.f
  have hl' : ∀ x ∈ l, 0 ≤ x ∧ x < 256 := hl
  rw [if_pos hl', if_pos hs, if_neg h]
theorem cnt_cons (l : List Int) (n : Nat) (i : Int) : bits_Count.cnt l (n + 1) i = bitAt l i + bits_Count.cnt l n (i + 1) := rfl
theorem fz_cons (l : List Int) (n : Nat) (i : Int) : bits_First.fz l (n + 1) i = if bitAt l i = 0 then (i, 0) else bits_First.fz l n (i + 1) := by
  show (if bits_First.off l i = true then (i, (0 : Int)) else bits_First.fz l n (i + 1)) = _
  have e : bits_First.off l i = (bitAt l i == 0) := rfl
  rcases bitAt_01 l i with hb | hb
  · have : bits_First.off l i = true := by rw [e, hb]; rfl
    rw [if_pos this, if_pos hb]
  · have : ¬ bits_First.off l i = true := by rw [e, hb]; decide
    rw [if_neg this, if_neg (by omega)]
theorem rcount_loop {l : List Int} (hl : Bytes l) (hs : l.length ≤ 140737488351232) {to_ : Int} (h2 : to_ ≤ 8 * (l.length : Int)) (d : Nat) : ∀ (k : Nat) (x i : Int), 0 ≤ i → to_ - i = d → 0 ≤ x → x ≤ i → d + 10 < k →
    skerryref04_Count.l0 k l to_ x i = some (x + bits_Count.cnt l d i, 0) := by
  induction d with
  | zero =>
    intro k x i h0 hd hx hx2 hk
    obtain ⟨k, rfl⟩ : ∃ m, k = m + 1 := ⟨k - 1, by omega⟩
    simp only [skerryref04_Count.l0]
    rw [if_neg (by omega)]
    simp [bits_Count.cnt]
  | succ d ih =>
    intro k x i h0 hd hx hx2 hk
    obtain ⟨k, rfl⟩ : ∃ m, k = m + 1 := ⟨k - 1, by omega⟩
    simp only [skerryref04_Count.l0]
    rw [if_pos (by omega), bit_is hl h0 (by omega) hs (by omega)]
    simp only [Option.bind_some]
    rw [w64 (x := i + 1) (by omega) (by omega), w64 (x := x + 1) (by omega) (by omega), cnt_cons]
    rcases bitAt_01 l i with hb | hb
    · rw [hb, if_neg (by simp), ih k x (i + 1) (by omega) (by omega) (by omega) (by omega) (by omega), Int.zero_add]
    · rw [hb, if_pos (by simp), ih k (x + 1) (i + 1) (by omega) (by omega) (by omega) (by omega) (by omega), Int.add_assoc]
theorem rfirst_loop {l : List Int} (hl : Bytes l) (hs : l.length ≤ 140737488351232) {to_ : Int} (h2 : to_ ≤ 8 * (l.length : Int)) (d : Nat) : ∀ (k : Nat) (i : Int), 0 ≤ i → to_ - i = d → d + 10 < k →
    skerryref04_First.l0 k l to_ i = some (bits_First.fz l d i) := by
  induction d with
  | zero =>
    intro k i h0 hd hk
    obtain ⟨k, rfl⟩ : ∃ m, k = m + 1 := ⟨k - 1, by omega⟩
    simp only [skerryref04_First.l0]
    rw [if_neg (by omega)]
    simp [bits_First.fz]
  | succ d ih =>
    intro k i h0 hd hk
    obtain ⟨k, rfl⟩ : ∃ m, k = m + 1 := ⟨k - 1, by omega⟩
    simp only [skerryref04_First.l0]
    rw [if_pos (by omega), bit_is hl h0 (by omega) hs (by omega)]
    simp only [Option.bind_some, fz_cons]
    rw [w64 (x := i + 1) (by omega) (by omega)]
    rcases bitAt_01 l i with hb | hb
    · rw [hb]
      simp
    · rw [hb, ih k (i + 1) (by omega) (by omega) (by omega)]
      simp
theorem bad_is {l : List Int} (hs : l.length ≤ 140737488351232) (a b : Int) : skerryref04_bad.f l a b = some (decide (¬ (0 ≤ a ∧ a ≤ b ∧ b ≤ 8 * (l.length : Int)))) := by
  unfold skerryref04_bad.f
  rw [w64 (by omega) (by omega)]
  by_cases h1 : a < 0
  · rw [if_pos h1, decide_eq_true (by omega)]
  · rw [if_neg h1]
    by_cases h2 : b < a
    · rw [if_pos h2, decide_eq_true (by omega)]
    · rw [if_neg h2]
      congr 1
      apply decide_eq_decide.2
      omega
theorem BitsParts : skerrylaw04_BitsParts.Pure := by
  intro l a b hm hlen hwf ha hb
  have hl := bytes_wf hwf
  refine ⟨(b - a).toNat + 50, ?_⟩
  unfold skerrylaw04_BitsParts.f
  rw [wakes_all (by omega)]
  simp only [Option.bind_some, if_true]
  unfold skerryref04_Count.f skerryref04_First.f
  rw [bad_is (by omega)]
  simp only [Option.bind_some]
  by_cases c : 0 ≤ a ∧ a ≤ b ∧ b ≤ 8 * (l.length : Int)
  · rw [cnt_is c.1 c.2.1 c.2.2 hl (by omega), first_is c.1 c.2.1 c.2.2 hl (by omega), decide_eq_false (by omega)]
    simp only [Bool.false_eq_true, if_false]
    rw [rcount_loop hl (by omega) c.2.2 (b - a).toNat _ 0 a c.1 (by omega) (by omega) (by omega) (by omega), rfirst_loop hl (by omega) c.2.2 (b - a).toNat _ a c.1 (by omega) (by omega)]
    simp
  · rw [cnt_out c hl (by omega), first_out c hl (by omega), decide_eq_true c]
    simp

end Go.Proofs.Ytmjgmompcaanlab.Pure
