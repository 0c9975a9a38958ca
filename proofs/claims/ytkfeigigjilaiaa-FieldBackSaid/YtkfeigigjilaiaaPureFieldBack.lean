/- A number that is written is read again, and no other byte has changed: the plain law over lists and numbers. No conditions. -/
import Derived.Test.YtkfeigigjilaiaaPFieldBackx2
import Derived.Test.YtkfeigigjilaiaaPlain
namespace Go.Proofs.Ytkfeigigjilaiaa.Pure
open Go.RowKit Go.Proofs.Ytkfeigigjilaiaa.PFieldBack Go.Proofs.Ytkfeigigjilaiaa.Plain Go.Proofs.YtkfeigigjilaiaaW.PrintWords Go.Proofs.YtkfeigigjilaiaaW.PrintLast Go.Proofs.YtkfeigigjilaiaaW.PrintMore

theorem seg_put {l : List Int} {a n : Nat} (h : a + n ≤ l.length) (v : Int) : field_part.seg (putB l a n v) (a : Int) (n : Int) = leB n v := by
  unfold field_part.seg putB
  have hl : (l.take a).length = a := by rw [List.length_take]; omega
  rw [show ((a : Int) + (n : Int)).toNat = a + n by omega, Int.toNat_natCast]
  have h2 : (l.take a ++ leB n v).length = a + n := by rw [List.length_append, hl, leB_length]
  rw [List.take_append_of_le_length (by omega), List.take_of_length_le (by omega), List.drop_append_of_le_length (by omega), List.drop_of_length_le (by omega), List.nil_append]
theorem rd_put {l : List Int} {a n : Nat} (h : a + n ≤ l.length) (v : Int) {i : Int} (i0 : 0 ≤ i) (i1 : i < (l.length : Int)) (hi : i < (a : Int) ∨ (a : Int) + n ≤ i) : rd (putB l a n v) i = rd l i := by
  have hl : (l.take a).length = a := by rw [List.length_take]; omega
  have h2 : (l.take a ++ leB n v).length = a + n := by rw [List.length_append, hl, leB_length]
  unfold putB
  by_cases c : i < (a : Int)
  · rw [List.append_assoc, rd_append_left (by omega), rd_get (by omega), rd_get (by omega)]
    exact List.getElem_take
  · have e : i.toNat = a + n + (i - ((a + n : Nat) : Int)).toNat := by omega
    rw [rd_append_right (by omega) i0, h2, rd_get (by rw [List.length_drop]; omega), rd_get (by omega), List.getElem_drop]
    congr 1
    omega
theorem loop {l : List Int} (hs : l.length ≤ 140737488351232) {a n : Nat} (h : a + n ≤ l.length) (v : Int) (d : Nat) : ∀ (k : Nat) (i : Int), 0 ≤ i → (l.length : Int) - i = d → d < k →
    skerrylaw01_FieldBack.l0 k l a n (putB l a n v) i = some true := by
  induction d with
  | zero =>
    intro k i hi hd hk
    obtain ⟨k, rfl⟩ : ∃ m, k = m + 1 := ⟨k - 1, by omega⟩
    simp only [skerrylaw01_FieldBack.l0]
    rw [if_neg (by omega)]
  | succ d ih =>
    intro k i hi hd hk
    obtain ⟨k, rfl⟩ : ∃ m, k = m + 1 := ⟨k - 1, by omega⟩
    have hl := putB_length h v
    have e := ih k (i + 1) (by omega) (by omega) (by omega)
    simp only [skerrylaw01_FieldBack.l0]
    rw [if_pos (by omega), w64 (x := i + 1) (by omega) (by omega), w64 (x := (a : Int) + n) (by omega) (by omega)]
    by_cases c1 : i < (a : Int)
    · rw [if_pos c1, if_pos hi, if_pos (by omega), if_pos (rd_put h v hi (by omega) (.inl c1))]
      exact e
    · rw [if_neg c1]
      by_cases c2 : i ≥ (a : Int) + n
      · rw [if_pos c2, if_pos hi, if_pos (by omega), if_pos (rd_put h v hi (by omega) (.inr c2))]
        exact e
      · rw [if_neg c2]
        exact e
theorem FieldBack : skerrylaw01_FieldBack.Pure := by
  intro l a n v hm hlen hwf ha hn hv
  have hl := bytes_wf hwf
  have hs : l.length ≤ 140737488351232 := by omega
  have hw : skerrylaw01_wakes.f = some true := by decide +kernel
  refine ⟨l.length + 2, ?_⟩
  unfold skerrylaw01_FieldBack.f
  rw [hw]
  simp only [Option.bind_some, if_true]
  unfold field_Put.f
  rw [if_pos hs]
  simp only [Option.bind_some]
  by_cases h1 : n = 1 ∨ n = 2 ∨ n = 4
  · rw [if_pos h1]
    by_cases h2 : field_part.Inside l a n
    · rw [if_pos h2]
      by_cases h3 : 0 ≤ v ∧ v < 256 ^ n.toNat
      · rw [if_pos h3]
        simp only [if_true]
        obtain ⟨i0, i1, i2, i3⟩ := h2
        obtain ⟨a, rfl⟩ := Int.eq_ofNat_of_zero_le i0
        obtain ⟨n, rfl⟩ := Int.eq_ofNat_of_zero_le i1
        simp only [Int.toNat_natCast] at h3 ⊢
        have hin : a + n ≤ l.length := by omega
        have hpl := putB_length hin v
        have hp : field_Get.f (putB l a n v) a n = some (v, 0) := by
          have g1 : field_part.Inside (putB l a n v) a n := by unfold field_part.Inside; omega
          have g2 : (putB l a n v).length ≤ 140737488351232 := by omega
          unfold field_Get.f
          rw [if_pos (putB_bytes hl a n v), if_pos g2, if_pos h1, if_pos g1, seg_put hin]
          have hle := le_leB v
          congr 2
          rcases h1 with h1 | h1 | h1
          · obtain rfl : n = 1 := by omega
            rw [hle.1]
            exact Int.emod_eq_of_lt h3.1 h3.2
          · obtain rfl : n = 2 := by omega
            rw [hle.2.1]
            exact Int.emod_eq_of_lt h3.1 h3.2
          · obtain rfl : n = 4 := by omega
            rw [hle.2.2]
            exact Int.emod_eq_of_lt h3.1 h3.2
        rw [hp]
        simp only [Option.bind_some, if_true, hpl, bne_self_eq_false]
        simp only [skerrylaw01_FieldBack.j0, Bool.false_eq_true, if_false]
        exact loop hs hin v l.length _ 0 (by omega) (by omega) (by omega)
      · rw [if_neg h3]
        simp
    · rw [if_neg h2]
      simp
  · rw [if_neg h1]
    simp

end Go.Proofs.Ytkfeigigjilaiaa.Pure
