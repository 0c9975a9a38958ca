/- Reading and writing one bit: the program's bits.Get and bits.Set answer at every place of all bytes as the reference does: the plain law over lists and numbers. No conditions. -/
import Derived.Test.YtmjgmompcaanlabPBitsSinglex3
import Derived.Test.YtmjgmompcaanlabPlain
namespace Go.Proofs.Ytmjgmompcaanlab.Pure
open Go.RowKit Go.Proofs.Ytmjgmompcaanlab.PBitsSingle Go.Proofs.Ytmjgmompcaanlab.Plain Go.Proofs.YtmjgmompcaanlabW.PrintWords Go.Proofs.YtmjgmompcaanlabW.PrintLast Go.Proofs.YtmjgmompcaanlabW.PrintMore

theorem wakes_is : skerrylaw04_wakes.f 40 = some true := by decide +kernel
theorem wakes_all {k : Nat} (hk : 40 ≤ k) : skerrylaw04_wakes.f k = some true := at_rounds skerrylaw04_wakes.mono hk wakes_is
theorem bit_loop (x1 : Int) (d : Nat) : ∀ (k : Nat) (x5 x6 : Int), 0 ≤ x5 → x5 < 256 → 0 ≤ x6 → Int.tmod x1 8 - x6 = d → d < k →
    skerryref04_bit.l0 k x1 x5 x6 = some (x5 / 2 ^ d % 2 == 1) := by
  induction d with
  | zero =>
    intro k x5 x6 h0 h1 h2 hd hk
    obtain ⟨k, rfl⟩ : ∃ m, k = m + 1 := ⟨k - 1, by omega⟩
    simp only [skerryref04_bit.l0]
    rw [if_neg (by omega), Int.tmod_eq_emod_of_nonneg h0]
    simp
  | succ d ih =>
    intro k x5 x6 h0 h1 h2 hd hk
    obtain ⟨k, rfl⟩ : ∃ m, k = m + 1 := ⟨k - 1, by omega⟩
    simp only [skerryref04_bit.l0]
    have hm : Int.tmod x1 8 < 8 := Int.tmod_lt_of_pos _ (by omega)
    rw [if_pos (by omega), Int.tdiv_eq_ediv_of_nonneg h0, w64 (x := x5 / 2) (by omega) (by omega), w64 (x := x6 + 1) (by omega) (by omega)]
    rw [ih k (x5 / 2) (x6 + 1) (by omega) (by omega) (by omega) (by omega) (by omega)]
    rw [Int.pow_succ, Int.mul_comm, ← Int.ediv_ediv_of_nonneg (by omega)]
theorem bit_is {l : List Int} (hl : Bytes l) {i : Int} (h0 : 0 ≤ i) (h1 : i < 8 * (l.length : Int)) (h2 : l.length ≤ 140737488351232) {k : Nat} (hk : 8 < k) : skerryref04_bit.f k l i = some (bitAt l i == 1) := by
  have hr := hl.rd (i / 8)
  unfold skerryref04_bit.f
  rw [Int.tdiv_eq_ediv_of_nonneg h0, w64 (x := i / 8) (by omega) (by omega), if_pos (by omega), if_pos (by omega), w64 (x := rd l (i / 8)) (by omega) (by omega)]
  rw [bit_loop i (i % 8).toNat k _ 0 hr.1 hr.2 (by omega) (by rw [Int.tmod_eq_emod_of_nonneg h0]; omega) (by omega)]
  rfl
theorem get_is {l : List Int} (hl : Bytes l) {i : Int} (h0 : 0 ≤ i) (h1 : i < 8 * (l.length : Int)) (h2 : l.length ≤ 140737488351232) {k : Nat} (hk : 8 < k) : skerryref04_Get.f k l i = some (bitAt l i == 1, 0) := by
  unfold skerryref04_Get.f
  rw [if_neg (by omega), w64 (by omega) (by omega), if_neg (by omega), bit_is hl h0 h1 h2 hk]
  rfl
theorem get_out {l : List Int} {i : Int} (h : i < 0 ∨ 8 * (l.length : Int) ≤ i) (h2 : l.length ≤ 140737488351232) (k : Nat) : skerryref04_Get.f k l i = some (false, 2) := by
  unfold skerryref04_Get.f
  by_cases c : i < 0
  · rw [if_pos c]
  · rw [if_neg c, w64 (by omega) (by omega), if_pos (by omega)]
/-- The loop that makes the one bit, and what follows it. -/
theorem set_loop (x1 : Int) (on x8 : Bool) (l : List Int) (d : Nat) : ∀ (k : Nat) (x11 x12 : Int), 0 ≤ x12 → 1 ≤ x11 → x11 * 2 ^ d ≤ 128 → Int.tmod x1 8 - x12 = d → d < k →
    skerryref04_Set.l0 k x1 on x8 l x11 x12 = skerryref04_Set.j1 (k - d - 1) x1 on x8 l (x11 * 2 ^ d) (on && !x8) := by
  induction d with
  | zero =>
    intro k x11 x12 h0 h1 h2 hd hk
    obtain ⟨k, rfl⟩ : ∃ m, k = m + 1 := ⟨k - 1, by omega⟩
    simp only [skerryref04_Set.l0]
    rw [if_neg (by omega)]
    cases on <;> simp
  | succ d ih =>
    intro k x11 x12 h0 h1 h2 hd hk
    obtain ⟨k, rfl⟩ : ∃ m, k = m + 1 := ⟨k - 1, by omega⟩
    simp only [skerryref04_Set.l0]
    have hm : Int.tmod x1 8 < 8 := Int.tmod_lt_of_pos _ (by omega)
    have hp : (1 : Int) ≤ 2 ^ d := by have := Int.pow_pos (n := 2) (m := d) (by omega); omega
    have he : x11 * 2 ^ (d + 1) = x11 * 2 * 2 ^ d := by rw [Int.pow_succ]; simp only [Int.mul_assoc, Int.mul_comm]
    have hx : x11 * 2 ≤ 128 := by
      have : x11 * 2 * 1 ≤ x11 * 2 * 2 ^ d := Int.mul_le_mul_of_nonneg_left hp (by omega)
      omega
    rw [if_pos (by omega), w64 (x := x11 * 2) (by omega) (by omega), w64 (x := x12 + 1) (by omega) (by omega)]
    rw [ih k (x11 * 2) (x12 + 1) (by omega) (by omega) (by omega) (by omega) (by omega), he]
    congr 1
    omega
theorem set_is {l : List Int} (hl : Bytes l) {i : Int} (h0 : 0 ≤ i) (h1 : i < 8 * (l.length : Int)) (h2 : l.length ≤ 140737488351232) (on : Bool) {k : Nat} (hk : 9 < k) :
    skerryref04_Set.f k l i on = some (setBit l i on, 0) := by
  have hr := hl.rd (i / 8)
  have q0 : 0 ≤ i % 8 := by omega
  have q1 : i % 8 < 8 := by omega
  have hp := pow_le (i % 8).toNat (by omega)
  have a := onb_is hr.1 hr.2 q0 q1
  have b := offb_is hr.1 hr.2 q0 q1
  have ar := onb_byte hr.1 hr.2 q0 q1
  have br := offb_byte hr.1 hr.2 q0 q1
  unfold skerryref04_Set.f
  rw [get_is hl h0 h1 h2 (by omega)]
  simp only [Option.bind_some, if_true, List.nil_append, List.length_nil]
  rw [if_pos (by omega), set_loop i on _ l (i % 8).toNat k 1 0 (by omega) (by omega) (by omega) (by rw [Int.tmod_eq_emod_of_nonneg h0]; omega) (by omega), Int.one_mul]
  obtain ⟨q, hq⟩ : ∃ q, k - (i % 8).toNat - 1 = q + 1 := ⟨k - (i % 8).toNat - 1 - 1, by omega⟩
  rw [hq]
  simp only [skerryref04_Set.j1]
  unfold setBit bitAt
  by_cases hb : rd l (i / 8) / 2 ^ (i % 8).toNat % 2 = 1
  · rw [if_pos hb] at a b
    simp only [hb, beq_self_eq_true, Bool.not_true, Bool.and_false, Bool.false_eq_true, if_false, if_true]
    cases on
    · simp only [Bool.false_eq_true, if_false]
      rw [Int.tdiv_eq_ediv_of_nonneg h0, w64 (x := i / 8) (by omega) (by omega), if_pos (by omega), if_pos (by omega), w64 (x := rd l (i / 8)) (by omega) (by omega), w64 (by omega) (by omega), b]
      congr 3
      omega
    · simp only [if_true]
      rw [a, set_rd (by omega)]
  · rw [if_neg hb] at a b
    simp only [beq_eq_false_iff_ne.2 hb, Bool.not_false, Bool.and_true]
    cases on
    · simp only [Bool.false_eq_true, if_false]
      rw [b, set_rd (by omega)]
    · simp only [if_true, Bool.false_eq_true, if_false]
      rw [Int.tdiv_eq_ediv_of_nonneg h0, w64 (x := i / 8) (by omega) (by omega), if_pos (by omega), if_pos (by omega), w64 (x := rd l (i / 8)) (by omega) (by omega), w64 (by omega) (by omega), a]
      simp only [Option.bind_some]
      congr 3
      omega
theorem set_out {l : List Int} {i : Int} (h : i < 0 ∨ 8 * (l.length : Int) ≤ i) (h2 : l.length ≤ 140737488351232) (on : Bool) (k : Nat) : skerryref04_Set.f k l i on = some ([], 2) := by
  unfold skerryref04_Set.f
  rw [get_out h h2 k]
  simp
theorem bget_is {l : List Int} (hl : Bytes l) {i : Int} (h0 : 0 ≤ i) (h1 : i < 8 * (l.length : Int)) (h2 : l.length ≤ 140737488351232) : bits_Get.f l i = some (bitAt l i == 1, 0) := by
  have hr := hl.rd (i / 8)
  unfold bits_Get.f
  rw [if_neg (by omega), Int.tdiv_eq_ediv_of_nonneg h0, Int.tmod_eq_emod_of_nonneg h0, w64 (x := i / 8) (by omega) (by omega), if_neg (by omega), if_pos (by omega), if_pos (by omega), if_pos (by omega), and_bit hr.1 hr.2 (by omega) (by omega)]
  rfl
theorem bget_out {l : List Int} {i : Int} (h : i < 0 ∨ 8 * (l.length : Int) ≤ i) (h3 : i ≤ 9223372036854775807) : bits_Get.f l i = some (false, 2) := by
  unfold bits_Get.f
  by_cases c : i < 0
  · rw [if_pos c]
  · rw [if_neg c, Int.tdiv_eq_ediv_of_nonneg (by omega), w64 (x := i / 8) (by omega) (by omega), if_pos (by omega)]
theorem bset_is {l : List Int} (hl : Bytes l) {i : Int} (h0 : 0 ≤ i) (h1 : i < 8 * (l.length : Int)) (h2 : l.length ≤ 140737488351232) (on : Bool) {k : Nat} (hk : 0 < k) : bits_Set.f k l i on = some (setBit l i on, 0) := by
  have hr := hl.rd (i / 8)
  obtain ⟨k, rfl⟩ : ∃ m, k = m + 1 := ⟨k - 1, by omega⟩
  unfold bits_Set.f
  rw [if_neg (by omega), Int.tdiv_eq_ediv_of_nonneg h0, w64 (x := i / 8) (by omega) (by omega), decide_eq_false (by omega)]
  simp only [bits_Set.j0, slices_Clone_byte_byte.f, Bool.false_eq_true, if_false]
  rw [if_pos (show l.length < 140737488355328 by omega), Int.tdiv_eq_ediv_of_nonneg h0, Int.tmod_eq_emod_of_nonneg h0, w64 (x := i / 8) (by omega) (by omega)]
  simp only [Option.bind_some]
  unfold setBit onb offb
  cases on <;> simp [show 0 ≤ i / 8 by omega, show i / 8 < (l.length : Int) by omega, show 0 ≤ i % 8 by omega]
theorem bset_out {l : List Int} {i : Int} (h : i < 0 ∨ 8 * (l.length : Int) ≤ i) (h3 : i ≤ 9223372036854775807) (on : Bool) {k : Nat} (hk : 0 < k) : bits_Set.f k l i on = some ([], 2) := by
  obtain ⟨k, rfl⟩ : ∃ m, k = m + 1 := ⟨k - 1, by omega⟩
  unfold bits_Set.f
  by_cases c : i < 0
  · rw [if_pos c]
    simp [bits_Set.j0]
  · rw [if_neg c, Int.tdiv_eq_ediv_of_nonneg (by omega), w64 (x := i / 8) (by omega) (by omega), decide_eq_true (by omega)]
    simp [bits_Set.j0]
theorem BitsSingle : skerrylaw04_BitsSingle.Pure := by
  intro l i on hm hlen hwf hi
  have hl := bytes_wf hwf
  have hi := i64_wf hi
  refine ⟨50, ?_⟩
  unfold skerrylaw04_BitsSingle.f
  rw [wakes_all (by omega)]
  simp only [Option.bind_some, if_true]
  by_cases c : 0 ≤ i ∧ i < 8 * (l.length : Int)
  · rw [bget_is hl c.1 c.2 (by omega), bset_is hl c.1 c.2 (by omega) on (by omega), get_is hl c.1 c.2 (by omega) (by omega), set_is hl c.1 c.2 (by omega) on (by omega)]
    simp [skerryref01_SameBytes.f]
  · have c' : i < 0 ∨ 8 * (l.length : Int) ≤ i := by omega
    rw [bget_out c' (by omega), bset_out c' (by omega) on (by omega), get_out c' (by omega), set_out c' (by omega)]
    simp [skerryref01_SameBytes.f]

end Go.Proofs.Ytmjgmompcaanlab.Pure
