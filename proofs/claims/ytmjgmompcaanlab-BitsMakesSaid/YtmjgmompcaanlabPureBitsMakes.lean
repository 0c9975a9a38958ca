/- Every bitmap that bits.Make makes, and every refusal, is what the reference makes of the same arguments: the plain law over lists and numbers. No conditions. -/
import Derived.Test.YtmjgmompcaanlabPBitsMakesx2
namespace Go.Proofs.Ytmjgmompcaanlab.Pure
open Go.RowKit Go.Proofs.Ytmjgmompcaanlab.PBitsMakes Go.Proofs.YtmjgmompcaanlabW.PrintWords Go.Proofs.YtmjgmompcaanlabW.PrintLast
open Go.Proofs.YtmjgmompcaanlabW.PrintMore

theorem w64 {x : Int} (h1 : -9223372036854775808 ≤ x) (h2 : x ≤ 9223372036854775807) : wrap64 x = x := by unfold wrap64; omega

/-- All are bytes. -/
def Bytes (l : List Int) : Prop := ∀ x ∈ l, 0 ≤ x ∧ x < 256
theorem rd_mem {l : List Int} {i : Int} (h1 : i.toNat < l.length) : rd l i ∈ l := by
  unfold rd
  rw [List.getD_eq_getElem?_getD, List.getElem?_eq_getElem h1]
  exact List.getElem_mem h1
theorem Bytes.rd {l : List Int} (h : Bytes l) (i : Int) : 0 ≤ rd l i ∧ rd l i < 256 := by
  by_cases h1 : i.toNat < l.length
  · exact h _ (rd_mem h1)
  · unfold Go.Proofs.YtmjgmompcaanlabW.PrintWords.rd
    rw [List.getD_eq_getElem?_getD, List.getElem?_eq_none (by omega)]
    simp
theorem Bytes.set {l : List Int} (h : Bytes l) (j : Nat) {v : Int} (h0 : 0 ≤ v) (h1 : v < 256) : Bytes (l.set j v) := by
  intro x hx
  rcases List.mem_or_eq_of_mem_set hx with hx | hx
  · exact h x hx
  · subst hx
    exact ⟨h0, h1⟩
theorem set_rd {l : List Int} {i : Int} (h : i.toNat < l.length) : l.set i.toNat (rd l i) = l := by
  unfold rd
  rw [List.getD_eq_getElem?_getD, List.getElem?_eq_getElem h]
  simp

/-- Bit j of a byte, on: by 'or', and by a sum where it was off. -/
theorem on_all : ∀ x : Fin 256, ∀ j : Fin 8, Go.bits .or .u8 (x.val : Int) (shl .u8 1 (j.val : Int)) = if (x.val : Int) / 2 ^ j.val % 2 = 1 then (x.val : Int) else (wrap64 (wrap64 (x.val : Int) + 2 ^ j.val)) % 256 := by decide +kernel
theorem on_bit {x : Int} {j : Int} (h0 : 0 ≤ x) (h1 : x < 256) (j0 : 0 ≤ j) (j1 : j < 8) : Go.bits .or .u8 x (shl .u8 1 j) = if x / 2 ^ j.toNat % 2 = 1 then x else (wrap64 (wrap64 x + 2 ^ j.toNat)) % 256 := by
  have h := on_all ⟨x.toNat, by omega⟩ ⟨j.toNat, by omega⟩
  simp only [Int.toNat_of_nonneg h0, Int.toNat_of_nonneg j0] at h
  exact h

/-- Bit i of bytes. -/
def bt8 (l : List Int) (i : Int) : Bool := rd l (i / 8) / 2 ^ (i % 8).toNat % 2 == 1

theorem bit_loop (x1 : Int) (d : Nat) : ∀ (k : Nat) (x5 x6 : Int), 0 ≤ x5 → x5 < 256 → 0 ≤ x6 → Int.tmod x1 8 - x6 = d → d < k →
    skerryref04_bit.l0 k x1 x5 x6 = some (x5 / 2 ^ d % 2 == 1) := by
  induction d with
  | zero =>
    intro k x5 x6 h0 h1 h2 hd hk
    obtain ⟨k, rfl⟩ : ∃ m, k = m + 1 := ⟨k - 1, by omega⟩
    simp only [skerryref04_bit.l0]
    rw [if_neg (by omega), Int.tmod_eq_emod_of_nonneg h0]
    simp
  | succ d ih =>
    intro k x5 x6 h0 h1 h2 hd hk
    obtain ⟨k, rfl⟩ : ∃ m, k = m + 1 := ⟨k - 1, by omega⟩
    simp only [skerryref04_bit.l0]
    have hm : Int.tmod x1 8 < 8 := Int.tmod_lt_of_pos _ (by omega)
    rw [if_pos (by omega), Int.tdiv_eq_ediv_of_nonneg h0, w64 (x := x5 / 2) (by omega) (by omega), w64 (x := x6 + 1) (by omega) (by omega)]
    rw [ih k (x5 / 2) (x6 + 1) (by omega) (by omega) (by omega) (by omega) (by omega)]
    rw [Int.pow_succ, Int.mul_comm, ← Int.ediv_ediv_of_nonneg (by omega)]
theorem bit_is {l : List Int} (hl : Bytes l) {i : Int} (h0 : 0 ≤ i) (h1 : i < 8 * (l.length : Int)) (h2 : l.length ≤ 8192) {k : Nat} (hk : 8 < k) : skerryref04_bit.f k l i = some (bt8 l i) := by
  have hr := hl.rd (i / 8)
  unfold skerryref04_bit.f
  rw [Int.tdiv_eq_ediv_of_nonneg h0, w64 (x := i / 8) (by omega) (by omega), if_pos (by omega), if_pos (by omega), w64 (x := rd l (i / 8)) (by omega) (by omega)]
  rw [bit_loop i (i % 8).toNat k _ 0 hr.1 hr.2 (by omega) (by rw [Int.tmod_eq_emod_of_nonneg h0]; omega) (by omega)]
  rfl
theorem get_is {l : List Int} (hl : Bytes l) {i : Int} (h0 : 0 ≤ i) (h1 : i < 8 * (l.length : Int)) (h2 : l.length ≤ 8192) {k : Nat} (hk : 8 < k) : skerryref04_Get.f k l i = some (bt8 l i, 0) := by
  unfold skerryref04_Get.f
  rw [if_neg (by omega), w64 (by omega) (by omega), if_neg (by omega), bit_is hl h0 h1 h2 hk]
  rfl

/-- The loop that makes the one bit, and what follows it. -/
theorem set_loop (x1 : Int) (x8 : Bool) (l : List Int) (d : Nat) : ∀ (k : Nat) (x11 x12 : Int), 0 ≤ x12 → 1 ≤ x11 → x11 * 2 ^ d ≤ 128 → Int.tmod x1 8 - x12 = d → d < k →
    skerryref04_Set.l0 k x1 true x8 l x11 x12 = skerryref04_Set.j1 (k - d - 1) x1 true x8 l (x11 * 2 ^ d) (!x8) := by
  induction d with
  | zero =>
    intro k x11 x12 h0 h1 h2 hd hk
    obtain ⟨k, rfl⟩ : ∃ m, k = m + 1 := ⟨k - 1, by omega⟩
    simp only [skerryref04_Set.l0]
    rw [if_neg (by omega)]
    simp
  | succ d ih =>
    intro k x11 x12 h0 h1 h2 hd hk
    obtain ⟨k, rfl⟩ : ∃ m, k = m + 1 := ⟨k - 1, by omega⟩
    simp only [skerryref04_Set.l0]
    have hm : Int.tmod x1 8 < 8 := Int.tmod_lt_of_pos _ (by omega)
    have hp : (1 : Int) ≤ 2 ^ d := by have := Int.pow_pos (n := 2) (m := d) (by omega); omega
    have he : x11 * 2 ^ (d + 1) = x11 * 2 * 2 ^ d := by rw [Int.pow_succ]; simp only [Int.mul_assoc, Int.mul_comm]
    have hx : x11 * 2 ≤ 128 := by
      have : x11 * 2 * 1 ≤ x11 * 2 * 2 ^ d := Int.mul_le_mul_of_nonneg_left hp (by omega)
      omega
    rw [if_pos (by omega), w64 (x := x11 * 2) (by omega) (by omega), w64 (x := x12 + 1) (by omega) (by omega)]
    rw [ih k (x11 * 2) (x12 + 1) (by omega) (by omega) (by omega) (by omega) (by omega), he]
    congr 1
    omega
theorem pow_le (j : Nat) (h : j < 8) : (1 : Int) ≤ 2 ^ j ∧ (2 : Int) ^ j ≤ 128 := by
  have : ∀ j : Fin 8, (1 : Int) ≤ 2 ^ j.val ∧ (2 : Int) ^ j.val ≤ 128 := by decide
  exact this ⟨j, h⟩
theorem set_is {l : List Int} (hl : Bytes l) {i : Int} (h0 : 0 ≤ i) (h1 : i < 8 * (l.length : Int)) (h2 : l.length ≤ 8192) {k : Nat} (hk : 9 < k) :
    skerryref04_Set.f k l i true = some (l.set (i / 8).toNat (Go.bits .or .u8 (rd l (i / 8)) (shl .u8 1 (i % 8))), 0) := by
  unfold skerryref04_Set.f
  have hr := hl.rd (i / 8)
  have hp := pow_le (i % 8).toNat (by omega)
  rw [get_is hl h0 h1 h2 (by omega), on_bit hr.1 hr.2 (by omega) (by omega)]
  simp only [Option.bind_some, if_true, List.nil_append, List.length_nil]
  rw [if_pos (by omega), set_loop i _ l (i % 8).toNat k 1 0 (by omega) (by omega) (by omega) (by rw [Int.tmod_eq_emod_of_nonneg h0]; omega) (by omega), Int.one_mul]
  obtain ⟨q, hq⟩ : ∃ q, k - (i % 8).toNat - 1 = q + 1 := ⟨k - (i % 8).toNat - 1 - 1, by omega⟩
  rw [hq]
  simp only [skerryref04_Set.j1]
  unfold bt8
  by_cases hb : rd l (i / 8) / 2 ^ (i % 8).toNat % 2 = 1
  · rw [if_pos hb]
    simp only [hb, beq_self_eq_true, Bool.not_true, if_true]
    rw [if_neg (by simp), set_rd (by omega)]
  · rw [if_neg hb]
    simp only [beq_eq_false_iff_ne.2 hb, Bool.not_false, if_true]
    rw [Int.tdiv_eq_ediv_of_nonneg h0, w64 (x := i / 8) (by omega) (by omega), if_pos (by omega), if_pos (by omega)]
    simp

theorem or_byte {x j : Int} (h0 : 0 ≤ x) (h1 : x < 256) (j0 : 0 ≤ j) (j1 : j < 8) : 0 ≤ Go.bits .or .u8 x (shl .u8 1 j) ∧ Go.bits .or .u8 x (shl .u8 1 j) < 256 := by
  rw [on_bit h0 h1 j0 j1]
  split
  · exact ⟨h0, h1⟩
  · omega

/-- Both loops, side by side. -/
theorem loops (n : Int) (on : List Int) (h0 : 0 ≤ n) (h1 : n ≤ 65536) (hon : on.length * 8 ≤ 140737488351232) (d : Nat) : ∀ (l : List Int) (i : Int), 0 ≤ i → i ≤ on.length → (on.length : Int) - i = d → Bytes l → (l.length : Int) = (n + 7) / 8 →
    ∃ r, ∀ k, d + 10 < k → bits_Make.l0 k n l on (on.length : Int) i = some r ∧ skerryref04_Make.l0 k n on l i = some r := by
  induction d with
  | zero =>
    intro l i hi0 hi1 hd hl hn
    refine ⟨(l, 0), fun k hk => ?_⟩
    obtain ⟨k, rfl⟩ : ∃ m, k = m + 1 := ⟨k - 1, by omega⟩
    simp only [bits_Make.l0, skerryref04_Make.l0]
    rw [if_neg (by omega), if_neg (by omega)]
    exact ⟨rfl, rfl⟩
  | succ d ih =>
    intro l i hi0 hi1 hd hl hn
    by_cases c1 : rd on i < 0
    · refine ⟨([], 2), fun k hk => ?_⟩
      obtain ⟨k, rfl⟩ : ∃ m, k = m + 1 := ⟨k - 1, by omega⟩
      simp only [bits_Make.l0, skerryref04_Make.l0]
      simp only [if_pos (show i < (on.length : Int) by omega), if_pos hi0, if_pos c1]
      exact ⟨trivial, trivial⟩
    · by_cases c2 : rd on i ≥ n
      · refine ⟨([], 2), fun k hk => ?_⟩
        obtain ⟨k, rfl⟩ : ∃ m, k = m + 1 := ⟨k - 1, by omega⟩
        simp only [bits_Make.l0, skerryref04_Make.l0]
        simp only [if_pos (show i < (on.length : Int) by omega), if_pos hi0, if_neg c1, if_pos c2]
        exact ⟨trivial, trivial⟩
      · have ho := or_byte (hl.rd (rd on i / 8)).1 (hl.rd (rd on i / 8)).2 (show 0 ≤ rd on i % 8 by omega) (show rd on i % 8 < 8 by omega)
        obtain ⟨r, hr⟩ := ih (l.set (rd on i / 8).toNat (Go.bits .or .u8 (rd l (rd on i / 8)) (shl .u8 1 (rd on i % 8)))) (i + 1) (by omega) (by omega) (by omega) (hl.set _ ho.1 ho.2) (by rw [List.length_set]; exact hn)
        refine ⟨r, fun k hk => ?_⟩
        obtain ⟨k, rfl⟩ : ∃ m, k = m + 1 := ⟨k - 1, by omega⟩
        obtain ⟨e1, e2⟩ := hr k (by omega)
        simp only [bits_Make.l0, skerryref04_Make.l0]
        simp only [if_pos (show i < (on.length : Int) by omega), if_pos hi0, if_neg c1, if_neg c2]
        rw [Int.tdiv_eq_ediv_of_nonneg (by omega), Int.tmod_eq_emod_of_nonneg (by omega), w64 (x := rd on i / 8) (by omega) (by omega), w64 (x := i + 1) (by omega) (by omega), if_pos (by omega), if_pos (by omega), if_pos (by omega)]
        rw [set_is hl (by omega) (by omega) (by omega) (by omega)]
        exact ⟨e1, e2⟩

theorem wakes_is : skerrylaw04_wakes.f 40 = some true := by decide +kernel

theorem BitsMakes : skerrylaw04_BitsMakes.Pure := by
  intro n on hn hon hon2 _
  have hw : ∀ k, 40 ≤ k → skerrylaw04_wakes.f k = some true := fun k hk => at_rounds skerrylaw04_wakes.mono hk wakes_is
  have hboth : ∃ r, ∀ k, on.length + 40 < k → bits_Make.f k n on = some r ∧ skerryref04_Make.f k n on = some r := by
    by_cases c1 : n < 0
    · refine ⟨([], 1), fun k hk => ?_⟩
      obtain ⟨k, rfl⟩ : ∃ m, k = m + 1 := ⟨k - 1, by omega⟩
      unfold bits_Make.f skerryref04_Make.f
      rw [if_pos c1, if_pos c1]
      simp [bits_Make.j0, skerryref04_Make.j0]
    · by_cases c2 : n > 65536
      · refine ⟨([], 1), fun k hk => ?_⟩
        obtain ⟨k, rfl⟩ : ∃ m, k = m + 1 := ⟨k - 1, by omega⟩
        unfold bits_Make.f skerryref04_Make.f
        rw [if_neg c1, if_neg c1]
        simp [bits_Make.j0, skerryref04_Make.j0, c2]
      · have hz : Bytes (List.replicate ((n + 7) / 8).toNat 0) := by
          intro x hx
          rw [List.mem_replicate] at hx
          omega
        obtain ⟨r, hr⟩ := loops n on (by omega) (by omega) hon2 on.length (List.replicate ((n + 7) / 8).toNat 0) 0 (by omega) (by omega) (by omega) hz (by rw [List.length_replicate]; omega)
        refine ⟨r, fun k hk => ?_⟩
        obtain ⟨k, rfl⟩ : ∃ m, k = m + 1 := ⟨k - 1, by omega⟩
        unfold bits_Make.f skerryref04_Make.f
        rw [if_neg c1, if_neg c1]
        simp only [bits_Make.j0, skerryref04_Make.j0, decide_eq_false c2]
        rw [w64 (x := n + 7) (by omega) (by omega), Int.tdiv_eq_ediv_of_nonneg (by omega), w64 (x := (n + 7) / 8) (by omega) (by omega)]
        simp only [Bool.false_eq_true, if_false]
        rw [if_pos (by omega), if_pos (by omega), if_pos (by omega), if_pos (by omega)]
        exact hr k (by omega)
  obtain ⟨r, hr⟩ := hboth
  refine ⟨on.length + 41, ?_⟩
  unfold skerrylaw04_BitsMakes.f
  rw [hw _ (by omega), (hr _ (by omega)).1, (hr _ (by omega)).2]
  simp [skerryref01_SameBytes.f]

end Go.Proofs.Ytmjgmompcaanlab.Pure
