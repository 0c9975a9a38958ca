/- A bit that is set is read so, every other one as it was; turned back all is as it was: the plain law over lists and numbers. No conditions. -/
import Derived.Test.YtmjgmompcaanlabPBitsTurnsx2
import Derived.Test.YtmjgmompcaanlabPlain
namespace Go.Proofs.Ytmjgmompcaanlab.Pure
open Go.RowKit Go.Proofs.Ytmjgmompcaanlab.PBitsTurns Go.Proofs.Ytmjgmompcaanlab.Plain Go.Proofs.YtmjgmompcaanlabW.PrintWords Go.Proofs.YtmjgmompcaanlabW.PrintLast Go.Proofs.YtmjgmompcaanlabW.PrintMore

theorem wakes_is : skerrylaw04_wakes.f 40 = some true := by decide +kernel
theorem wakes_all {k : Nat} (hk : 40 ≤ k) : skerrylaw04_wakes.f k = some true := at_rounds skerrylaw04_wakes.mono hk wakes_is
theorem bget_is {l : List Int} (hl : Bytes l) {i : Int} (h0 : 0 ≤ i) (h1 : i < 8 * (l.length : Int)) (h2 : l.length ≤ 140737488351232) : bits_Get.f l i = some (bitAt l i == 1, 0) := by
  have hr := hl.rd (i / 8)
  unfold bits_Get.f
  rw [if_neg (by omega), Int.tdiv_eq_ediv_of_nonneg h0, Int.tmod_eq_emod_of_nonneg h0, w64 (x := i / 8) (by omega) (by omega), if_neg (by omega), if_pos (by omega), if_pos (by omega), if_pos (by omega), and_bit hr.1 hr.2 (by omega) (by omega)]
  rfl
theorem bget_out {l : List Int} {i : Int} (h : i < 0 ∨ 8 * (l.length : Int) ≤ i) (h3 : i ≤ 9223372036854775807) : bits_Get.f l i = some (false, 2) := by
  unfold bits_Get.f
  by_cases c : i < 0
  · rw [if_pos c]
  · rw [if_neg c, Int.tdiv_eq_ediv_of_nonneg (by omega), w64 (x := i / 8) (by omega) (by omega), if_pos (by omega)]
theorem bset_is {l : List Int} (hl : Bytes l) {i : Int} (h0 : 0 ≤ i) (h1 : i < 8 * (l.length : Int)) (h2 : l.length ≤ 140737488351232) (on : Bool) {k : Nat} (hk : 0 < k) : bits_Set.f k l i on = some (setBit l i on, 0) := by
  have hr := hl.rd (i / 8)
  obtain ⟨k, rfl⟩ : ∃ m, k = m + 1 := ⟨k - 1, by omega⟩
  unfold bits_Set.f
  rw [if_neg (by omega), Int.tdiv_eq_ediv_of_nonneg h0, w64 (x := i / 8) (by omega) (by omega), decide_eq_false (by omega)]
  simp only [bits_Set.j0, slices_Clone_byte_byte.f, Bool.false_eq_true, if_false]
  rw [if_pos (show l.length < 140737488355328 by omega), Int.tdiv_eq_ediv_of_nonneg h0, Int.tmod_eq_emod_of_nonneg h0, w64 (x := i / 8) (by omega) (by omega)]
  simp only [Option.bind_some]
  unfold setBit onb offb
  cases on <;> simp [show 0 ≤ i / 8 by omega, show i / 8 < (l.length : Int) by omega, show 0 ≤ i % 8 by omega]
theorem bset_out {l : List Int} {i : Int} (h : i < 0 ∨ 8 * (l.length : Int) ≤ i) (h3 : i ≤ 9223372036854775807) (on : Bool) {k : Nat} (hk : 0 < k) : bits_Set.f k l i on = some ([], 2) := by
  obtain ⟨k, rfl⟩ : ∃ m, k = m + 1 := ⟨k - 1, by omega⟩
  unfold bits_Set.f
  by_cases c : i < 0
  · rw [if_pos c]
    simp [bits_Set.j0]
  · rw [if_neg c, Int.tdiv_eq_ediv_of_nonneg (by omega), w64 (x := i / 8) (by omega) (by omega), decide_eq_true (by omega)]
    simp [bits_Set.j0]
theorem BitsTurns : skerrylaw04_BitsTurns.Pure := by
  intro l i j on hm hlen hwf hi hj
  have hl := bytes_wf hwf
  have hi := i64_wf hi
  have hj := i64_wf hj
  refine ⟨50, ?_⟩
  unfold skerrylaw04_BitsTurns.f
  rw [wakes_all (by omega)]
  simp only [Option.bind_some, if_true]
  by_cases c : 0 ≤ i ∧ i < 8 * (l.length : Int)
  · have hlc := setBit_length l i on
    have hb := setBit_bytes hl i on
    rw [bset_is hl c.1 c.2 (by omega) on (by omega)]
    simp only [Option.bind_some, if_true]
    rw [bget_is hb c.1 (by omega) (by omega), bitAt_set hl c.1 c.2 c.1, if_pos rfl]
    have e1 : ((if on = true then (1 : Int) else 0) == 1) = on := by cases on <;> rfl
    rw [e1]
    simp only [Option.bind_some, if_true, bne_self_eq_false, Bool.false_eq_true, if_false, hlc]
    have hj1 : skerrylaw04_BitsTurns.j1 49 l i (setBit l i on) false = some true := by
      simp only [skerrylaw04_BitsTurns.j1, Bool.false_eq_true, if_false]
      rw [bget_is hl c.1 c.2 (by omega)]
      simp only [Option.bind_some]
      rw [bset_is hb c.1 (by omega) (by omega) _ (by omega), setBit_back hl c.1 c.2]
      simp [skerryref01_SameBytes.f]
    simp only [skerrylaw04_BitsTurns.j0, Bool.false_eq_true, if_false]
    by_cases d : 0 ≤ j ∧ j < 8 * (l.length : Int)
    · rw [bget_is hb d.1 (by omega) (by omega), bget_is hl d.1 d.2 (by omega)]
      simp only [Option.bind_some, if_true]
      by_cases e : i = j
      · rw [if_pos e]
        exact hj1
      · rw [if_neg e, bitAt_set hl c.1 c.2 d.1, if_neg (fun h => e h.symm), bne_self_eq_false]
        exact hj1
    · have d' : j < 0 ∨ 8 * (l.length : Int) ≤ j := by omega
      rw [bget_out (by omega) (by omega), bget_out d' (by omega)]
      simp only [Option.bind_some, if_true, bne_self_eq_false, ite_self]
      exact hj1
  · have c' : i < 0 ∨ 8 * (l.length : Int) ≤ i := by omega
    rw [bset_out c' (by omega) on (by omega)]
    simp

end Go.Proofs.Ytmjgmompcaanlab.Pure
