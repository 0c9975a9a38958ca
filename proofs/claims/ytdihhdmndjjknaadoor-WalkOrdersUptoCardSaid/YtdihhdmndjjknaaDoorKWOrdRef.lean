/- The reference's word on the order of names. -/
import Derived.Test.YtdihhdmndjjknaaDoorKWOrd
import Derived.Test.YtdihhdmndjjknaaDoorKWRef
import Derived.Test.YtdihhdmndjjknaaDoorPWalkOrdersx5
namespace Go.Proofs.YtdihhdmndjjknaaDoor.Walk
open Go.RowKit Go.Proofs.YtdihhdmndjjknaaDoor.PWalkOrders Go.Proofs.YtdihhdmndjjknaaDoor.Plain Go.Proofs.YtdihhdmndjjknaaDoor.Codec Go.Proofs.YtdihhdmndjjknaaDoorW.PrintWords Go.Proofs.YtdihhdmndjjknaaDoorW.PrintLast Go.Proofs.YtdihhdmndjjknaaDoorW.PrintMore
set_option linter.unusedVariables false
set_option linter.unusedSimpArgs false
theorem before_l0 (x y : List ByteArray) (hs : x.length ≤ 1048576) : ∀ d i k : Nat, i + d = x.length → i ≤ y.length → 2 * d + 5 ≤ k → skerryref16_before.l0 k x y (i : Int) = some (decide (nl (x.drop i) < nl (y.drop i)))
  | d, i, k, h, hy, hk => by
    obtain ⟨k, rfl⟩ : ∃ m, k = m + 2 := ⟨k - 2, by omega⟩
    simp only [skerryref16_before.l0]
    by_cases c1 : i < x.length
    · obtain ⟨d, rfl⟩ : ∃ m, d = m + 1 := ⟨d - 1, by omega⟩
      rw [if_pos (by omega)]
      by_cases c2 : i < y.length
      · rw [decide_eq_true (by omega)]
        simp only [skerryref16_before.j1]
        have e1 : rdOf ByteArray.empty x (i : Int) = x[i] := by simp [rdOf, c1]
        have e2 : rdOf ByteArray.empty y (i : Int) = y[i] := by simp [rdOf, c2]
        rw [if_pos trivial, if_pos (by omega), if_pos (by omega), if_pos (by omega), e1, e2, List.drop_eq_getElem_cons c1, List.drop_eq_getElem_cons c2, nl_cons, nl_cons]
        by_cases q : x[i].toList = y[i].toList
        · rw [if_pos q, w64 (by omega) (by omega), show ((i : Int) + 1) = ((i + 1 : Nat) : Int) by omega, before_l0 x y hs d (i + 1) k (by omega) (by omega) (by omega)]
          congr 1
          rw [ByteArray.toList_eq, ByteArray.toList_eq] at q
          refine decide_eq_decide.2 ?_
          rw [List.cons_lt_cons_iff, q]
          exact ⟨fun z => .inr ⟨rfl, z⟩, fun z => z.elim (fun z => absurd z (List.lt_irrefl _)) (fun z => z.2)⟩
        · rw [if_neg q, bytesLess_lt]
          congr 1
          rw [ByteArray.toList_eq, ByteArray.toList_eq] at q ⊢
          refine decide_eq_decide.2 ?_
          rw [List.cons_lt_cons_iff]
          exact ⟨fun z => .inl z, fun z => z.elim (fun z => z) (fun z => absurd z.1 q)⟩
      · rw [decide_eq_false (by omega)]
        simp only [skerryref16_before.j1]
        rw [if_neg (by simp), List.drop_of_length_le (show y.length ≤ i by omega)]
        congr 1
        rw [decide_eq_false (by omega), decide_eq_false (by unfold nl; simp)]
    · rw [if_neg (by omega)]
      simp only [skerryref16_before.j1]
      rw [if_neg (by simp), List.drop_of_length_le (show x.length ≤ i by omega)]
      congr 1
      by_cases c : x.length < y.length
      · rw [decide_eq_true (by omega), List.drop_eq_getElem_cons (show i < y.length by omega), nl_cons]
        exact (decide_eq_true (List.nil_lt_cons _ _)).symm
      · rw [decide_eq_false (by omega), List.drop_of_length_le (show y.length ≤ i by omega)]
        exact (decide_eq_false (List.lt_irrefl _)).symm
termination_by d => d
theorem before_is (x y : List ByteArray) (hs : x.length ≤ 1048576) (k : Nat) (hk : 2 * x.length + 5 ≤ k) : skerryref16_before.f k x y = some (decide (nl x < nl y)) := by
  unfold skerryref16_before.f
  have h := before_l0 x y hs x.length 0 k (by omega) (by omega) hk
  simpa using h
end Go.Proofs.YtdihhdmndjjknaaDoor.Walk
