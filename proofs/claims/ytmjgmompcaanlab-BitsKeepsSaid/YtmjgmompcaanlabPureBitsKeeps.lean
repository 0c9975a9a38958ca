/- Each of the functions that BitsKeeps calls answers: the plain part. -/
import Derived.Test.YtmjgmompcaanlabPBitsKeepsx0
import Derived.Test.YtmjgmompcaanlabPBitsKeepsx1
import Derived.Test.YtmjgmompcaanlabPBitsKeepsx2
import Derived.Test.YtmjgmompcaanlabPBitsKeepsx3
import Derived.Test.YtmjgmompcaanlabPlain
namespace Go.Proofs.Ytmjgmompcaanlab.Pure
open Go.RowKit Go.Proofs.Ytmjgmompcaanlab.PBitsKeeps Go.Proofs.Ytmjgmompcaanlab.Plain Go.Proofs.YtmjgmompcaanlabW.PrintWords Go.Proofs.YtmjgmompcaanlabW.PrintLast Go.Proofs.YtmjgmompcaanlabW.PrintMore

theorem wakes_is : skerrylaw04_wakes.f 40 = some true := by decide +kernel
theorem wakes_all {k : Nat} (hk : 40 ≤ k) : skerrylaw04_wakes.f k = some true := at_rounds skerrylaw04_wakes.mono hk wakes_is
theorem bget_is {l : List Int} (hl : Bytes l) {i : Int} (h0 : 0 ≤ i) (h1 : i < 8 * (l.length : Int)) (h2 : l.length ≤ 140737488351232) : bits_Get.f l i = some (bitAt l i == 1, 0) := by
  have hr := hl.rd (i / 8)
  unfold bits_Get.f
  rw [if_neg (by omega), Int.tdiv_eq_ediv_of_nonneg h0, Int.tmod_eq_emod_of_nonneg h0, w64 (x := i / 8) (by omega) (by omega), if_neg (by omega), if_pos (by omega), if_pos (by omega), if_pos (by omega), and_bit hr.1 hr.2 (by omega) (by omega)]
  rfl
theorem bget_out {l : List Int} {i : Int} (h : i < 0 ∨ 8 * (l.length : Int) ≤ i) (h3 : i ≤ 9223372036854775807) : bits_Get.f l i = some (false, 2) := by
  unfold bits_Get.f
  by_cases c : i < 0
  · rw [if_pos c]
  · rw [if_neg c, Int.tdiv_eq_ediv_of_nonneg (by omega), w64 (x := i / 8) (by omega) (by omega), if_pos (by omega)]
theorem bset_is {l : List Int} (hl : Bytes l) {i : Int} (h0 : 0 ≤ i) (h1 : i < 8 * (l.length : Int)) (h2 : l.length ≤ 140737488351232) (on : Bool) {k : Nat} (hk : 0 < k) : bits_Set.f k l i on = some (setBit l i on, 0) := by
  have hr := hl.rd (i / 8)
  obtain ⟨k, rfl⟩ : ∃ m, k = m + 1 := ⟨k - 1, by omega⟩
  unfold bits_Set.f
  rw [if_neg (by omega), Int.tdiv_eq_ediv_of_nonneg h0, w64 (x := i / 8) (by omega) (by omega), decide_eq_false (by omega)]
  simp only [bits_Set.j0, slices_Clone_byte_byte.f, Bool.false_eq_true, if_false]
  rw [if_pos (show l.length < 140737488355328 by omega), Int.tdiv_eq_ediv_of_nonneg h0, Int.tmod_eq_emod_of_nonneg h0, w64 (x := i / 8) (by omega) (by omega)]
  simp only [Option.bind_some]
  unfold setBit onb offb
  cases on <;> simp [show 0 ≤ i / 8 by omega, show i / 8 < (l.length : Int) by omega, show 0 ≤ i % 8 by omega]
theorem bset_out {l : List Int} {i : Int} (h : i < 0 ∨ 8 * (l.length : Int) ≤ i) (h3 : i ≤ 9223372036854775807) (on : Bool) {k : Nat} (hk : 0 < k) : bits_Set.f k l i on = some ([], 2) := by
  obtain ⟨k, rfl⟩ : ∃ m, k = m + 1 := ⟨k - 1, by omega⟩
  unfold bits_Set.f
  by_cases c : i < 0
  · rw [if_pos c]
    simp [bits_Set.j0]
  · rw [if_neg c, Int.tdiv_eq_ediv_of_nonneg (by omega), w64 (x := i / 8) (by omega) (by omega), decide_eq_true (by omega)]
    simp [bits_Set.j0]
theorem cnt_is {l : List Int} {from_ to_ : Int} (h0 : 0 ≤ from_) (h1 : from_ ≤ to_) (h2 : to_ ≤ 8 * (l.length : Int)) (hl : Bytes l) (hs : l.length ≤ 140737488351232) : bits_Count.f l from_ to_ = some (bits_Count.cnt l (to_ - from_).toNat from_, 0) := by
  unfold bits_Count.f
  have hl' : ∀ x ∈ l, 0 ≤ x ∧ x < 256 := hl
  rw [if_pos hl', if_pos hs, if_pos ⟨h0, h1, h2⟩]
theorem cnt_out {l : List Int} {from_ to_ : Int} (h : ¬ (0 ≤ from_ ∧ from_ ≤ to_ ∧ to_ ≤ 8 * (l.length : Int))) (hl : Bytes l) (hs : l.length ≤ 140737488351232) : bits_Count.f l from_ to_ = some (0, 2) := by
  unfold bits_Count.f
  have hl' : ∀ x ∈ l, 0 ≤ x ∧ x < 256 := hl
  rw [if_pos hl', if_pos hs, if_neg h]
theorem first_is {l : List Int} {from_ to_ : Int} (h0 : 0 ≤ from_) (h1 : from_ ≤ to_) (h2 : to_ ≤ 8 * (l.length : Int)) (hl : Bytes l) (hs : l.length ≤ 140737488351232) : bits_First.f l from_ to_ = some (bits_First.fz l (to_ - from_).toNat from_) := by
  unfold bits_First.f
  have hl' : ∀ x ∈ l, 0 ≤ x ∧ x < 256 := hl
  rw [if_pos hl', if_pos hs, if_pos ⟨h0, h1, h2⟩]
theorem first_out {l : List Int} {from_ to_ : Int} (h : ¬ (0 ≤ from_ ∧ from_ ≤ to_ ∧ to_ ≤ 8 * (l.length : Int))) (hl : Bytes l) (hs : l.length ≤ 140737488351232) : bits_First.f l from_ to_ = some (0, 2) := by
  unfold bits_First.f
  have hl' : ∀ x ∈ l, 0 ≤ x ∧ x < 256 := hl
  rw [if_pos hl', if_pos hs, if_neg h]
theorem cnt_cons (l : List Int) (n : Nat) (i : Int) : bits_Count.cnt l (n + 1) i = bitAt l i + bits_Count.cnt l n (i + 1) := rfl
theorem fz_cons (l : List Int) (n : Nat) (i : Int) : bits_First.fz l (n + 1) i = if bitAt l i = 0 then (i, 0) else bits_First.fz l n (i + 1) := by
  show (if bits_First.off l i = true then (i, (0 : Int)) else bits_First.fz l n (i + 1)) = _
  have e : bits_First.off l i = (bitAt l i == 0) := rfl
  rcases bitAt_01 l i with hb | hb
  · have : bits_First.off l i = true := by rw [e, hb]; rfl
    rw [if_pos this, if_pos hb]
  · have : ¬ bits_First.off l i = true := by rw [e, hb]; decide
    rw [if_neg this, if_neg (by omega)]
theorem set_some {l : List Int} (hl : Bytes l) (h2 : l.length ≤ 140737488351232) (i : Int) (h3 : i ≤ 9223372036854775807) (on : Bool) : ∃ r e, bits_Set.f 1 l i on = some (r, e) ∧ r.length ≤ l.length := by
  by_cases c : 0 ≤ i ∧ i < 8 * (l.length : Int)
  · exact ⟨_, _, bset_is hl c.1 c.2 h2 on (by omega), by rw [setBit_length]; exact Nat.le_refl _⟩
  · exact ⟨_, _, bset_out (by omega) h3 on (by omega), by simp⟩
theorem get_some {l : List Int} (hl : Bytes l) (h2 : l.length ≤ 140737488351232) (i : Int) (h3 : i ≤ 9223372036854775807) : ∃ r e, bits_Get.f l i = some (r, e) := by
  by_cases c : 0 ≤ i ∧ i < 8 * (l.length : Int)
  · exact ⟨_, _, bget_is hl c.1 c.2 h2⟩
  · exact ⟨_, _, bget_out (by omega) h3⟩
theorem cnt_some {l : List Int} (hl : Bytes l) (h2 : l.length ≤ 140737488351232) (i : Int) : ∃ r e, bits_Count.f l 0 i = some (r, e) := by
  by_cases c : 0 ≤ i ∧ i ≤ 8 * (l.length : Int)
  · exact ⟨_, _, cnt_is (Int.le_refl _) c.1 c.2 hl h2⟩
  · exact ⟨_, _, cnt_out (by omega) hl h2⟩
theorem first_some {l : List Int} (hl : Bytes l) (h2 : l.length ≤ 140737488351232) (i : Int) : ∃ r e, bits_First.f l 0 i = some (r, e) := by
  by_cases c : 0 ≤ i ∧ i ≤ 8 * (l.length : Int)
  · have h := first_is (Int.le_refl _) c.1 c.2 hl h2
    exact ⟨_, _, h⟩
  · exact ⟨_, _, first_out (by omega) hl h2⟩
theorem make_loop (n : Int) (on : List Int) (h0 : 0 ≤ n) (h1 : n ≤ 65536) (hon : on.length ≤ 140737488351232) (d : Nat) : ∀ (l : List Int) (i : Int), 0 ≤ i → i ≤ on.length → (on.length : Int) - i = d → (l.length : Int) = (n + 7) / 8 →
    ∃ r e, (∀ k, d < k → bits_Make.l0 k n l on (on.length : Int) i = some (r, e)) ∧ r.length ≤ l.length := by
  induction d with
  | zero =>
    intro l i hi0 hi1 hd hn
    refine ⟨l, 0, fun k hk => ?_, Nat.le_refl _⟩
    obtain ⟨k, rfl⟩ : ∃ m, k = m + 1 := ⟨k - 1, by omega⟩
    simp only [bits_Make.l0]
    rw [if_neg (by omega)]
  | succ d ih =>
    intro l i hi0 hi1 hd hn
    by_cases c1 : rd on i < 0
    · refine ⟨[], 2, fun k hk => ?_, by simp⟩
      obtain ⟨k, rfl⟩ : ∃ m, k = m + 1 := ⟨k - 1, by omega⟩
      simp only [bits_Make.l0]
      simp only [if_pos (show i < (on.length : Int) by omega), if_pos hi0, if_pos c1]
    · by_cases c2 : rd on i ≥ n
      · refine ⟨[], 2, fun k hk => ?_, by simp⟩
        obtain ⟨k, rfl⟩ : ∃ m, k = m + 1 := ⟨k - 1, by omega⟩
        simp only [bits_Make.l0]
        simp only [if_pos (show i < (on.length : Int) by omega), if_pos hi0, if_neg c1, if_pos c2]
      · obtain ⟨r, e, hr, hl⟩ := ih (l.set (rd on i / 8).toNat (Go.bits .or .u8 (rd l (rd on i / 8)) (shl .u8 1 (rd on i % 8)))) (i + 1) (by omega) (by omega) (by omega) (by rw [List.length_set]; exact hn)
        refine ⟨r, e, fun k hk => ?_, by rw [List.length_set] at hl; exact hl⟩
        obtain ⟨k, rfl⟩ : ∃ m, k = m + 1 := ⟨k - 1, by omega⟩
        have e1 := hr k (by omega)
        simp only [bits_Make.l0]
        simp only [if_pos (show i < (on.length : Int) by omega), if_pos hi0, if_neg c1, if_neg c2]
        rw [Int.tdiv_eq_ediv_of_nonneg (by omega), Int.tmod_eq_emod_of_nonneg (by omega), w64 (x := rd on i / 8) (by omega) (by omega), w64 (x := i + 1) (by omega) (by omega), if_pos (by omega), if_pos (by omega), if_pos (by omega)]
        exact e1
theorem make_some (on : List Int) (hon : on.length ≤ 140737488351232) : ∃ r e, (bits_Make.f (on.length + 3) 64 on = some (r, e)) ∧ r.length ≤ 8 := by
  obtain ⟨r, e, hr, hl⟩ := make_loop 64 on (by omega) (by omega) hon on.length (List.replicate 8 0) 0 (by omega) (by omega) (by omega) (by simp)
  refine ⟨r, e, ?_, by simpa using hl⟩
  have h := hr (on.length + 2) (by omega)
  unfold bits_Make.f
  rw [if_neg (by omega), show on.length + 3 = (on.length + 2) + 1 by omega]
  simp only [bits_Make.j0, show decide ((64 : Int) > 65536) = false from rfl, show wrap64 (64 + 7) = 71 from w64 (by omega) (by omega), show Int.tdiv 71 8 = 8 from rfl, show wrap64 8 = 8 from w64 (by omega) (by omega), Bool.false_eq_true, if_false]
  rw [if_pos (by omega), if_pos (by omega)]
  exact h
theorem same_self_loop (l : List Int) (hl : l.length ≤ 140737488351232) (d : Nat) : ∀ (k : Nat) (i : Int), 0 ≤ i → (l.length : Int) - i = d → d < k → skerryref01_SameInts.l0 k l l i = some true := by
  induction d with
  | zero =>
    intro k i h0 hd hk
    obtain ⟨k, rfl⟩ : ∃ m, k = m + 1 := ⟨k - 1, by omega⟩
    simp only [skerryref01_SameInts.l0]
    rw [if_neg (by omega)]
  | succ d ih =>
    intro k i h0 hd hk
    obtain ⟨k, rfl⟩ : ∃ m, k = m + 1 := ⟨k - 1, by omega⟩
    simp only [skerryref01_SameInts.l0]
    rw [if_pos (by omega), if_pos h0, if_pos (by omega), if_pos True.intro, w64 (x := i + 1) (by omega) (by omega)]
    exact ih k (i + 1) (by omega) (by omega) (by omega)
theorem same_self (l : List Int) (hl : l.length ≤ 140737488351232) : skerryref01_SameInts.f (l.length + 1) l l = some true := by
  unfold skerryref01_SameInts.f
  rw [if_pos rfl]
  exact same_self_loop l hl l.length _ 0 (by omega) (by omega) (by omega)

end Go.Proofs.Ytmjgmompcaanlab.Pure
